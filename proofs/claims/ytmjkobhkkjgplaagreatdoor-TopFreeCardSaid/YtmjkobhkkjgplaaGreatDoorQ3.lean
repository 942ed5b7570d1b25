/- Part 3 of the texts. -/
import Derived.Test.YtmjkobhkkjgplaaGreatDoorQ2
namespace Go.Proofs.YtmjkobhkkjgplaaGreatDoor
open Go.RowKit
set_option linter.unusedSimpArgs false
set_option linter.unusedVariables false
def vcap (v:Value):Nat:=match v with
 | .slice _ _ c=>c
 |_=>0
def vsub (v:Value)(sz lo hi:Nat):Value:=match v with
 | .slice A n c=> .slice (if c=lo then A else A.map (·.add (lo*sz))) (hi-lo) (c-lo)
 |v=>v
def vsub3 (v:Value)(sz lo hi mx:Nat):Value:=match v with
 | .slice A n c=> .slice (if mx=lo then A else A.map (·.add (lo*sz))) (hi-lo) (mx-lo)
 |v=>v
theorem setCells_chg {X:Nat→Prop}{g:Nat}(hg:X g):∀(vs:List Value) (o:Nat) (w:World),Chg X w (w.setCells g o vs)
 | [],_,_=>Chg.refl _ _
 |v::vs,o,w=>((Chg.setCell (X:=X) w ⟨g,o,none⟩ hg v)).trans (setCells_chg hg vs (o+1) _) fun b hb=> .inl hb
theorem setCells_row {g:Nat}{E:TypeId} :∀(vs:List Value) (o:Nat) (w:World) (cur:Array Value),w.heap[g]? =some (.cells cur E (0,0))→∃cur',(w.setCells g o vs).heap[g]? =some (.cells cur' E (0,0))∧cur'.size=cur.size∧∀k,k<o→cur'[k]? =cur[k]?
 | [],_,_,cur,h=>⟨cur,h,rfl,fun _ _=>rfl⟩
 |v::vs,o,w,cur,h=>by
  have h2:Blk (w.setCell ⟨g,o,none⟩ v) g E (cur.setIfInBounds o v):=Blk.set_ (w:=w) h o v
  obtain ⟨cur',h3,h4,h5⟩:=setCells_row vs (o+1) _ _ h2
  refine ⟨cur',h3,h4.trans (by simp),fun k hk=>(h5 k (by omega)).trans ?_⟩
  rw [Array.getElem?_setIfInBounds_ne (by omega)]
section
variable {P:Program}{o:Oper}{N:Nat}{K:Nat→Prop}{W w:World}{a:Act}{F:List (Nat×Value)}{L:List Asn}{α:Type}[Enc α]
theorem r_sl3 {T e:TypeId}{g:Bool}{n by_:Nat}{z:List Value}{x y1 y2 y3:Operand}{s:Ls α}{lo hi mx:Nat}(hT:slI P T=some e)(he:tyI P e=some (g,n,by_,z))(ho:o.op= .slice T x (some y1) (some y2) (some y3))(hx:ev F x=some s.v)
  (hy1:ev F y1=some (.int .i64 (lo:Int))) (hy2:ev F y2=some (.int .i64 (hi:Int))) (hy3:ev F y3=some (.int .i64 (mx:Int))) (hat:∀w,Sh K W w L→s.At w) (hb:lo≤hi∧hi≤mx∧mx≤s.l.length):Rn P o N K W F L (vsub3 s.v n lo hi mx):=fun a w h=>by
 obtain ⟨A,cap,hv,hA⟩:=hat w h.sh
 have hle:=hA.le
 simp only at hle
 obtain ⟨i,d,zv,hi9,hd,_,rfl,_⟩:=tyI_parts he
 have hu:=slI_parts hT
 have hel:P.elem T=e:=by simp [Program.elem,hu]
 have hu' :P.underlying T=some (.slice (P.elem T)):=by rw [hel];exact hu
 have e1:=run_sliceAt_slice (P:=P) w T (.slice A s.l.length cap) (some (.int .i64 (lo:Int))) (some (.int .i64 (hi:Int))) (some (.int .i64 (mx:Int))) hu'
 have e2:=run_slice_lhm (P:=P) w T A s.l.length cap hu' .i64 .i64 .i64 (lo:Int) (hi:Int) (mx:Int) (by omega) (by omega) (by omega) (by omega)
 rw [hel,run_sizeOf hi9,Result.andThen_ok] at e2
 rw [e2] at e1
 unfold execOp
 simp only [ho,h.fr.ev hx,h.fr.ev hy1,h.fr.ev hy2,h.fr.ev hy3,Option.map_some,Option.map_none,hv,Sem.run_bind,e1,Result.andThen_ok,Sem.run_pure,sliced,vsub3]
 simp
theorem r_slTail {T e:TypeId}{g:Bool}{n by_:Nat}{z:List Value}{x y1 y2:Operand}{s:Ls α}{lo hi:Nat}(hT:slI P T=some e)(he:tyI P e=some (g,n,by_,z))(ho:o.op= .slice T x (some y1) (some y2) none)(hx:ev F x=some s.v)
  (hy1:ev F y1=some (.int .i64 (lo:Int))) (hy2:ev F y2=some (.int .i64 (hi:Int))) (hat:∀w,Sh K W w L→s.At w) (hb:lo≤hi∧hi≤vcap s.v):Rn P o N K W F L (vsub s.v n lo hi):=fun a w h=>by
 obtain ⟨A,cap,hv,hA⟩:=hat w h.sh
 have hle:=hA.le
 simp only at hle
 obtain ⟨i,d,zv,hi9,hd,_,rfl,_⟩:=tyI_parts he
 have hu:=slI_parts hT
 have hel:P.elem T=e:=by simp [Program.elem,hu]
 have hu' :P.underlying T=some (.slice (P.elem T)):=by rw [hel];exact hu
 rw [hv] at hb⊢
 simp only [vcap] at hb
 have e1:=run_sliceAt_slice (P:=P) w T (.slice A s.l.length cap) (some (.int .i64 (lo:Int))) (some (.int .i64 (hi:Int))) none hu'
 have e2:=run_slice_lh (P:=P) w T A s.l.length cap hu' .i64 .i64 (lo:Int) (hi:Int) (by omega) (by omega) (by omega)
 rw [hel,run_sizeOf hi9,Result.andThen_ok] at e2
 rw [e2] at e1
 unfold execOp
 simp only [ho,h.fr.ev hx,h.fr.ev hy1,h.fr.ev hy2,Option.map_some,Option.map_none,hv,Sem.run_bind,e1,Result.andThen_ok,Sem.run_pure,sliced,vsub]
 simp
theorem own_vcap {E:TypeId}{s:Ls α}(h:(Asn.own E s).ok w):s.l.length≤vcap s.v:=by
 rcases h.1.2 with ⟨h1,h2⟩|⟨g,cap,cur,hv,_,_,hn,_⟩
 ·omega
 ·rw [hv];exact hn
theorem x_clearT {T e:TypeId}{gg:Bool}{sz by_ r hi:Nat}{z:List Value}{x:Operand}{s:Ls α}{E:TypeId}(h:St N K W a w F L)(hT:slI P T=some e)(he:tyI P e=some (gg,sz,by_,z))(ho:o.op= .call ⟨.builtin .clear, #[x], #[T]⟩)
  (hx:ev F x=some (vsub s.v sz s.l.length hi)) (hr:L[r]? =some (.own E s)) (hsz:Enc.sz α=sz) (hz1:z.all (·.oneCell')=true) (hzl:z.length=sz) (hh:s.l.length<hi∧hi≤vcap s.v) (hd:o.dst=none):Ex P o a w (fun a' w' =>St N K W a' w' F L):=by
 subst hsz
 obtain ⟨hown,hlen,hinn⟩:=h.sh.ok _ (List.mem_of_getElem? hr)
 rcases hown.2 with ⟨h1,_⟩|⟨g,cap,cur,hsv,hb0,hg,hn,hm,hcs,htk⟩
 ·rw [h1] at hh;simp [vcap] at hh;omega
 obtain ⟨i,d,zv,hi',hd',_,hs,hby,hzz,hzc⟩:=tyI_parts he
 have hcap:hi≤cap:=by have:=hh.2;rw [hsv] at this;exact this
 have hx' :vsub s.v (Enc.sz α) s.l.length hi= .slice (some ⟨g,s.l.length*Enc.sz α,none⟩) (hi-s.l.length) (cap-s.l.length):=by
  rw [hsv];simp only [vsub];rw [if_neg (by omega)];simp [Addr.add_lit]
 obtain ⟨zs,hzs⟩:∃zs,(Builtin.zeroCells zv.cells (hi-s.l.length)).toList=zs:=⟨_,rfl⟩
 have hcsz:zv.cells.size=Enc.sz α:=by rw [←hzl,←hzc];simp
 have hzsl:zs.length=(hi-s.l.length)*Enc.sz α:=by rw [←hzs];simp [Builtin.zeroCells,hcsz]
 have hz1' :∀v∈zs,v.oneCell' =true:=by
  intro v hv
  rw [←hzs] at hv
  simp only [Builtin.zeroCells,Array.toList_map,List.mem_map,Array.mem_toList_iff,Array.mem_range] at hv
  obtain ⟨q,hq,rfl⟩:=hv
  have hpos:0<zv.cells.size:=by
   rcases Nat.eq_zero_or_pos zv.cells.size with h0|h0
   ·rw [h0] at hq;omega
   ·exact h0
  have hmod:=Nat.mod_lt q hpos
  rw [getElem!_pos zv.cells _ hmod]
  exact (List.all_eq_true.1 hz1) _ (by rw [←hzc];exact Array.getElem_mem_toList _)
 have hin:∀j,j<zs.length→s.l.length*Enc.sz α+j<cur.size:=by
  intro j hj
  rw [hcs]
  have h1:s.l.length*Enc.sz α+j<s.l.length*Enc.sz α+(hi-s.l.length)*Enc.sz α:=by omega
  rw [←Nat.add_mul] at h1
  exact Nat.lt_of_lt_of_le h1 (Nat.mul_le_mul_right _ (by omega))
 have hst:=run_storeCells_cells (P:=P) g (s.l.length*Enc.sz α) zs 0 w (fun j hj=>by
   simp only [Nat.add_zero]
   rw [Blk.cell (E:=E) hg,Array.getElem?_eq_getElem (hin j hj)];rfl) (fun j hj=>Blk.frozen (E:=E) hg _) hz1'
 simp only [Nat.add_zero] at hst
 have hrun:∀ty,(Builtin.clear_ #[T] ty #[.slice (some ⟨g,s.l.length*Enc.sz α,none⟩) (hi-s.l.length) (cap-s.l.length)]).run P w= .ok (.tuple #[]) (w.setCells g (s.l.length*Enc.sz α) zs):=by
  intro ty
  obtain ⟨m,hm9⟩:∃m,hi-s.l.length=m+1:=⟨hi-s.l.length-1,by omega⟩
  rw [hm9] at hzs⊢
  simp [Builtin.clear_,run_underlying (slI_parts hT),run_zero hi' hzz,hzs,hst]
 refine Ex.of_run (v:= .tuple #[]) (w' :=w.setCells g (s.l.length*Enc.sz α) zs) ?_ ?_
 ·unfold execOp
  simp only [ho,resolve,invoke,builtin,Sem.run_bind,Sem.run_pure,Result.andThen_ok,List.map_toArray,List.map_cons,List.map_nil,h.fr.ev hx,hx',hrun]
 ·rw [hd]
  obtain ⟨cur',hg',hcs',hk'⟩:=setCells_row zs (s.l.length*Enc.sz α) w cur hg
  have h2:=h.sh.put (A' := .own E s) hr (setCells_chg (X:=(Asn.own E s).fp) (by show s.v.ownBlock=some g;rw [hsv];rfl) zs (s.l.length*Enc.sz α) w) ⟨⟨hown.1, .inr ⟨g,cap,cur',hsv,hb0,hg',hn,hm,hcs'.trans hcs, ?_⟩⟩,hlen, ?_⟩ (fun b hb=> .inl hb) (fun b hb=> .inr (.inl hb)) (h.sh.self _ (List.mem_of_getElem? hr))
  ·have:L.set r (.own E s)=L:=by
    obtain ⟨hlt,e9⟩:=List.getElem?_eq_some_iff.1 hr
    rw [←e9];exact List.set_getElem_self hlt
   rw [this] at h2
   exact ⟨h.fr,h2⟩
  ·rw [←htk]
   apply List.ext_getElem?
   intro k
   simp only [List.getElem?_take,Array.getElem?_toList]
   split
   ·exact hk' k (by assumption)
   ·rfl
  ·intro q hq
   refine Enc.keep _ w _ (hinn q hq) fun b hb=> ?_
   have hbg:b≠g:=by
    rintro rfl
    exact (h.sh.self _ (List.mem_of_getElem? hr)) b (by show s.v.ownBlock=some b;rw [hsv];rfl) ⟨q,hq,hb⟩
   have hlt:b<w.heap.size:=Enc.lt _ w (hinn q hq) b hb
   exact (setCells_chg (X:=fun b=>b=g) rfl zs (s.l.length*Enc.sz α) w).same b hlt hbg
theorem x_del2 {d:Nat}{T e:TypeId}{gg:Bool}{sz by_ r j k:Nat}{z:List Value}{x y:Operand}{s:Ls α}{E:TypeId}[Flat α](h:St N K W a w F L)(hT:slI P T=some e)(he:tyI P e=some (gg,sz,by_,z))(ho:o.op= .call ⟨.builtin .append, #[x,y], #[T,T]⟩)
  (hx:ev F x=some (vtake s.v j)) (hy:ev F y=some (vdrop s.v sz k)) (hr:L[r]? =some (.own E s)) (hE:E=e) (hsz:Enc.sz α=sz) (h1:One α) (hjk:j≤k∧k≤s.l.length∧0<s.l.length) (hd:o.dst=some d) (hdN:Nat.blt d N=true):
  Ex P o a w (fun a' w' =>∃v:Value,vcap v=vcap s.v∧St N K W a' w' ((d,v)::F) (L.set r (.own E ⟨v,s.l.take j++s.l.drop k⟩))):=by
 subst hsz
 subst hE
 obtain ⟨i,ed,zv,hi,hed,_,hs,hby,hzz,hzc⟩:=tyI_parts he
 obtain ⟨hown,hlen,hinn⟩:=h.sh.ok _ (List.mem_of_getElem? hr)
 obtain ⟨hjk,hk,hpos⟩:=hjk
 have hown0:=hown
 rcases hown.2 with ⟨_,h0⟩|⟨g,cap,cur,hsv,hb0,hg,hn,hm,hcs,htk⟩
 ·omega
 have hcur:cur.size=cap*Enc.sz α:=hcs
 have hownT:w.ownsRow 0 E (Enc.sz α) (.slice (some ⟨g,0,none⟩) j cap) j (encL (s.l.take j)):=by
  refine ⟨by rw [length_encL,List.length_take,Nat.min_eq_left (by omega)], .inr ⟨g,cap,cur,rfl,hb0,hg,by omega,hm,hcs, ?_⟩⟩
  rw [encL_take,←htk,List.take_take]
  congr 1
  exact (Nat.min_eq_left (Nat.mul_le_mul_right _ (by omega))).symm
 have hcell:∀q u,(encL s.l)[q]? =some u→w.cell? ⟨g,q,none⟩=some u:=by
  intro q u hq
  rw [hsv] at hown0
  have hlt:q<s.l.length*Enc.sz α:=by
   have:=(List.getElem?_eq_some_iff.1 hq).1
   rwa [length_encL] at this
  rw [hown0.cellAt q hlt,hq]
 have hone:∀u∈encL (s.l.drop k),u.oneCell' =true:=by
  intro u hu
  obtain ⟨q,hq⟩:=List.getElem?_of_mem hu
  have hlt:q<(s.l.drop k).length*Enc.sz α:=by
   have:=(List.getElem?_eq_some_iff.1 hq).1
   rwa [length_encL] at this
  have hszp:0<Enc.sz α:=by
   rcases Nat.eq_zero_or_pos (Enc.sz α) with h|h
   ·rw [h] at hlt;omega
   ·exact h
  have h2:=encL_at (s.l.drop k) (q/Enc.sz α) (q%Enc.sz α) ((Nat.div_lt_iff_lt_mul hszp).2 hlt) (Nat.mod_lt _ hszp)
  rw [show q/Enc.sz α*Enc.sz α+q%Enc.sz α=q by rw [Nat.mul_comm];exact Nat.div_add_mod _ _,hq] at h2
  cases h2
  exact h1.one _ w (Flat.inner _ _) _ (Nat.mod_lt _ hszp)
 have happ:∀(A2:Addr) (c2:Nat),(∀q u,(encL (s.l.drop k))[q]? =some u→w.cell? (A2.add q)=some u)→∃w',(Builtin.append_ #[T,T] o.type #[.slice (some ⟨g,0,none⟩) j cap, .slice (some A2) (s.l.length-k) c2]).run P w= .ok (.slice (some ⟨g,0,none⟩) (j+(s.l.length-k)) cap) w' ∧
   w'.ownsRow 0 E (Enc.sz α) (.slice (some ⟨g,0,none⟩) (j+(s.l.length-k)) cap) (j+(s.l.length-k)) (encL (s.l.take j)++encL (s.l.drop k))∧w.grownBy w' (some g):=fun A2 c2 hc2=>
  run_append_fits (P:=P) w 0 T o.type E i (Enc.sz α) (slI_parts hT) hi hs g j cap _ hownT A2 (s.l.length-k) c2 (encL (s.l.drop k)) (by rw [length_encL,List.length_drop]) hc2 hone (by omega)
 have hfin:∃w' y',vdrop s.v (Enc.sz α) k=y' ∧(Builtin.append_ #[T,T] o.type #[.slice (some ⟨g,0,none⟩) j cap,y']).run P w= .ok (.slice (some ⟨g,0,none⟩) (j+(s.l.length-k)) cap) w' ∧
   w'.ownsRow 0 E (Enc.sz α) (.slice (some ⟨g,0,none⟩) (j+(s.l.length-k)) cap) (j+(s.l.length-k)) (encL (s.l.take j)++encL (s.l.drop k))∧w.grownBy w' (some g):=by
  rw [hsv]
  by_cases hck:cap=k
  ·have hkk:s.l.drop k= []:=List.drop_eq_nil_of_le (by omega)
   obtain ⟨w',h3⟩:=happ ⟨g,0,none⟩ (cap-k) (by rw [hkk];intro q u hq;simp [encL] at hq)
   exact ⟨w',_,by simp only [vdrop,if_pos hck],h3⟩
  ·obtain ⟨w',h3⟩:=happ ((⟨g,0,none⟩:Addr).add (k*Enc.sz α)) (cap-k) (by
    intro q u hq
    rw [encL_drop,List.getElem?_drop] at hq
    have:=hcell _ _ hq
    simpa [Addr.add_lit] using this)
   exact ⟨w',_,by simp only [vdrop,if_neg hck,Option.map_some],h3⟩
 obtain ⟨w',y',hy',hrun,ho',hg'⟩:=hfin
 have hx' :vtake s.v j= .slice (some ⟨g,0,none⟩) j cap:=by rw [hsv];rfl
 refine Ex.of_run (v:= .slice (some ⟨g,0,none⟩) (j+(s.l.length-k)) cap) (w' :=w') ?_ ⟨.slice (some ⟨g,0,none⟩) (j+(s.l.length-k)) cap,by rw [hsv];rfl, ?_⟩
 ·unfold execOp
  simp only [ho,resolve,invoke,builtin,Sem.run_bind,Sem.run_pure,Result.andThen_ok,List.map_toArray,List.map_cons,List.map_nil,h.fr.ev hx,h.fr.ev hy,hx',hy',hrun]
 ·rw [hd]
  have hob:s.v.ownBlock=some g:=by rw [hsv];rfl
  have hfp:∀b,(Asn.own E (⟨.slice (some ⟨g,0,none⟩) (j+(s.l.length-k)) cap,s.l.take j++s.l.drop k⟩:Ls α)).fp b→(Asn.own E s).fp b∨w.heap.size≤b:=by
   intro b hb
   have:g=b:=by simpa [Asn.own,Value.ownBlock] using hb
   subst this
   exact .inl hob
  refine ⟨h.fr.put d (by simpa [Nat.blt_eq] using hdN) _,h.sh.put hr (Chg.grown hg' (fun b hb=>by cases hb;exact hob)) ⟨?_, ?_,fun q hq=>Flat.inner _ _⟩ hfp (fun b hb=> ?_) (fun b hb hb' => ?_)⟩
  ·show World.ownsRow _ 0 E _ _ (s.l.take j++s.l.drop k).length (encL (s.l.take j++s.l.drop k))
   rw [encL_append,List.length_append,List.length_take,List.length_drop,Nat.min_eq_left (by omega)];exact ho'
  ·show (s.l.take j++s.l.drop k).length≤_
   rw [List.length_append,List.length_take,List.length_drop,Nat.min_eq_left (by omega)];omega
  ·obtain ⟨q,_,hb⟩:=hb;exact (Flat.on _ _ hb).elim
  ·obtain ⟨q,_,hb⟩:=hb';exact (Flat.on _ _ hb).elim
end
set_option maxRecDepth 100000
set_option maxHeartbeats 20000000
theorem qset_pc {l tl:List ThQ}{n:Nat}{p q:Int}{r:Value}(h:n<l.length)(e:tl=l.set n ⟨p,r⟩):tl.set n { nth tl n with pc:=q } =l.set n ⟨q,r⟩:=by
 subst e
 rw [nth_set,if_pos ⟨rfl,h⟩,List.set_set]
theorem qset_0 {l:List ThQ}{n:Nat}{q:Int}{r:Value}(hr:(nth l n).rv=r):l.set n { nth l n with pc:=q } =l.set n ⟨q,r⟩:=by
 subst hr;rfl
theorem qset_n {l:List ThQ}{n:Nat}{r:Value}(hr:(nth l n).rv=r)(hn:n<l.length):l=l.set n ⟨(nth l n).pc,r⟩:=by
 subst hr
 refine ext_nth _ _ (by simp) fun i hi=> ?_
 rw [nth_set]
 split
 ·rename_i hh;rw [←hh.1]
 ·rfl
theorem list_set_nth {α:Type}[Inhabited α](l:List α)(n:Nat):l.set n (nth l n)=l:=by
 rcases Nat.lt_or_ge n l.length with h|h
 ·rw [nth_lt l n h];exact List.set_getElem_self h
 ·exact List.set_eq_of_length_le h
theorem swap_eq {M:MemS}{wd what pc:Int}{n:Nat}{regs prints:List Int}{fell:Bool}{words words' owner owner' :Ls Int}{q q' :M.σ}(h:SwapP M wd what words owner q words' owner' q'):
  M.qs q' =(M.qs q).set n (nth (M.qs q) n)∧(⟨pc,regs,nth (M.qs q) n,words'.l,owner'.l,prints,fell⟩:TS)=⟨pc,regs,nth (M.qs q) n,words.l.set wd.toNat what,owner.l,prints,fell⟩:=by
 obtain ⟨h1,h2,h3⟩:=h
 rw [h1,h2,h3,list_set_nth]
 exact ⟨rfl,rfl⟩
section
variable {m:Int}{n:Nat}{i:Ins}{x:TS}
theorem pexec_18c (h:i.op=18)(h1:¬nth x.owner i.a.toNat≠n)(h2:x.holds i.a=false):execT m n i x=x.store m ⟨true,i.a,0⟩:=by
 have h1' :nth x.owner i.a.toNat=n:=Decidable.not_not.1 h1
 simp [execT,h,h1',h2]
theorem pexec_18f (h:i.op=18)(h1:nth x.owner i.a.toNat≠n∨x.holds i.a=true):execT m n i x= { x with fell:=true } :=by
 by_cases h2:nth x.owner i.a.toNat≠n
 ·exact execT_18a h h2
 ·have h3:=h1.resolve_left h2
  have h1' :nth x.owner i.a.toNat=n:=Decidable.not_not.1 h2
  simp [execT,h,h1',h3]
theorem pexec_no (h:¬i.op=8∧¬i.op=9∧¬i.op=10∧¬i.op=11∧¬i.op=13∧¬i.op=17∧¬i.op=18)(h2:¬i.op=1∧¬i.op=2∧¬i.op=3∧¬i.op=4∧¬i.op=5∧¬i.op=6∧¬i.op=7∧¬i.op=14∧¬i.op=15∧¬i.op=16):execT m n i x=x:=
 execT_no (by omega)
theorem hab_of {owner:List Int}{nw:Nat}(h:ableL owner nw i=true):((i.op=9∨i.op=11∨i.op=18)→nw<3)∧(i.op=13→nw=0)∧True:=by
 unfold ableL at h
 refine ⟨fun e=> ?_,fun e=> ?_,trivial⟩
 ·rw [if_pos e] at h;exact of_decide_eq_true h
 ·rw [if_neg (by omega),if_pos (by omega)] at h;exact of_decide_eq_true h
theorem pdoT_k {c:List Ins}{k:Nat}(hk:0<k):doT m n c k x= { x.done (nth x.wait (k-1)) with wait:=x.wait.eraseIdx (k-1) } :=by unfold doT;rw [if_pos hk]
theorem able_of {c:List Ins}{k:Nat}(h:mvOK m c x k=true)(hk:k=0):x.pc<(c.length:Int)∧ableL x.owner x.wait.length (nextIns c x.pc)=true:=by
 unfold mvOK at h
 rw [if_pos hk] at h
 unfold ableV at h
 rw [Bool.and_eq_true] at h
 exact ⟨of_decide_eq_true h.1,h.2⟩
end
def MPost (K:Nat→Prop)(W:World)(ST TH INT PL PT:Nat)(M:MemS)(g gp n:Nat)(pc:List Value)(thr:Ls ThQ)(q:M.σ)(y:TS)(code:Ls (Ls Ins))(w' :World):Prop:=
 ∃(regs' words' owner' prints' :Ls Int) (q' :M.σ) (wt:List Wt) (pc' :Int) (fell' :Bool),M.qs q' =(M.qs q).set n wt∧(⟨pc',regs'.l,wt,words'.l,owner'.l,prints'.l,fell'⟩:TS)=y∧
  Sh K W w' [.blk g ST [.iface M.T (.pointer (some M.u)), .pointer (some ⟨gp,0,none⟩),thr.v,prints'.v, .bool fell'], .rblk gp PT pc, .own TH (⟨thr.v,thr.l.set n ⟨pc',regs'.v⟩⟩:Ls ThQ), .own INT regs', .own INT prints', .blk M.g0 PL [words'.v,owner'.v], .own INT words', .own INT owner',M.X q', .at_ code]
theorem pis_c (K:Nat→Prop)(M:MemS)(g gc:Nat)(n:Int)(words owner:Ls Int)(q:M.σ)(pp tv pv:Value)(fell:Bool)(W:World)(hM:MemI Tryz.prog 182 3 M)(hS:Sh K W W [.blk gc 85 [.pointer (some ⟨g,0,none⟩)], .blk g 173 [.iface M.T (.pointer (some M.u)),pp,tv,pv, .bool fell], .blk M.g0 182 [words.v,owner.v], .own 3 words, .own 3 owner,M.X q]):
    Rets Tryz.prog 163 [.int .i64 n, .pointer (some ⟨gc,0,none⟩)] W (fun v w' =>v= .bool (decide (0≤n∧n<(words.l.length:Int)))∧Sh K W w' [.blk gc 85 [.pointer (some ⟨g,0,none⟩)], .blk g 173 [.iface M.T (.pointer (some M.u)),pp,tv,pv, .bool (fell|| !decide (0≤n∧n<(words.l.length:Int)))], .blk M.g0 182 [words.v,owner.v], .own 3 words, .own 3 owner,M.X q]):=by
 refine gen Tryz.func163 Tryz.ntmps163 hS rfl fun a10 h10=>gG h10<|sG (oM 1 rfl<|.nl)<|sK fun _ k12=>gRn (oM 1 rfl<|ogeI _ _ rfl<|oM 1 rfl<|.nl)<|?_;clear h10
 rcases dsp (0≤n) with ⟨hb13,hp13⟩|⟨hb13,hp13⟩
 ·skip
  refine gRn (oG hb13 (r_move rfl rfl) rfl<|oG hb13 (r_ldb (i:=0) ti_85 rfl rfl rfl rfl) rfl<|oG hb13 (r_nil rfl rfl) rfl<|oG hb13 (r_fieldB (r:=0) fl_173_0 rfl rfl rfl) rfl<|oG hb13 (r_ldb (i:=1) ti_97 rfl rfl rfl rfl) rfl<|.nl)<|fun a14 w14 h14=>wl_ex (x_inv2 h14 rfl rfl rfl rfl rfl (hM.base _ words owner q ⟨h14.sh.blk 2 rfl,h14.sh.own 3 rfl,h14.sh.own 4 rfl,h14.sh.ok _ (List.mem_of_getElem? (i:=5) rfl)⟩)) (wanted_yes h14.fr rfl rfl rfl rfl hb13) ?_
  rintro a15 w15 ⟨_,⟨rfl,hs15⟩,hf15⟩
  have h15:St 32 K W a15 w15 _ _:=⟨hf15,h14.sh.call0 hs15⟩
  clear hf15 hs15
  clear h14
  refine gG h15<|gNl (aO 3 rfl) fun hl16=>gRn (oG hb13 (r_nil rfl rfl) rfl<|oG hb13 (r_fieldB (r:=0) fl_182_0 rfl rfl rfl) rfl<|oG hb13 (r_ldb (i:=2) ti_23 rfl rfl rfl rfl) rfl<|oG hb13 (r_len (s:=words) (n:=words.l.length) sl_23 rfl rfl (fun w h=>(h.own 3 rfl)) rfl) rfl<|oG hb13 (r_lssI (p:=n) (q:=((words.l.length:Nat):Int)) rfl rfl rfl) rfl<|opT hb13 rfl<|oM 1 rfl<|.nl)<|nK k12<|gK fun _ k17=>fun a18 w18 h18=>x_tail 11 [] (by kernel_rfl) (by kernel_rfl) h18 fun _ z19=>qQ h18.fr<|qRn (olB 0 ti_85 rfl rfl<|olB 0 ti_85 rfl rfl<|onfl 1 fl_173_4 ti_4 rfl rfl<|oM 1 rfl<|.nl)<|?_;clear h15
  rcases Bool.eq_false_or_eq_true fell with hb20|hb20
  ·skip
   refine qRn (oKs 2 hb20 rfl rfl<|opT hb20 rfl<|onf fl_173_4 rfl<|.nl)<|qN z19<|?_;clear h18
   refine gst (v:= .bool true) 1 ti_4 rfl rfl rfl<|nK k17<|gF [4] rfl<|sG (oM 2 rfl<|.nl)<|gR<|fun a24 w24 h24=>x_ret1 (fn:=Tryz.f163) (t:=3) rfl h24 rfl ?_
   have e9:decide (n<((words.l.length:Nat):Int))=decide (0≤n∧n<(words.l.length:Int)):=by first|exact (decide_eq_true (by omega)).symm|exact (decide_eq_false (by omega)).symm|exact decide_eq_decide.2 ⟨fun h9=>by omega,fun h9=>by omega⟩
   have e7:(true)=(fell|| !decide (0≤n∧n<(words.l.length:Int))):=by rw [←e9];first|(rw [show fell=true by assumption];rfl)|(rw [show fell=false by assumption];rfl)|(rw [show fell=false by assumption];simp;omega)
   have e8:=h24.sh
   rw [e7] at e8
   exact ⟨by rw [e9],e8⟩
  refine qRn (oG hb20 (r_move rfl rfl) rfl<|oG hb20 (r_not rfl rfl) rfl<|opF hb20 rfl<|onf fl_173_4 rfl<|.nl)<|qN z19<|?_;clear h18
  refine gst 1 ti_4 rfl rfl rfl<|nK k17<|gF [4] rfl<|sG (oM 2 rfl<|.nl)<|gR<|fun a29 w29 h29=>x_ret1 (fn:=Tryz.f163) (t:=3) rfl h29 rfl ?_
  have e9:decide (n<((words.l.length:Nat):Int))=decide (0≤n∧n<(words.l.length:Int)):=by first|exact (decide_eq_true (by omega)).symm|exact (decide_eq_false (by omega)).symm|exact decide_eq_decide.2 ⟨fun h9=>by omega,fun h9=>by omega⟩
  have e7:(!(decide (n<((words.l.length:Nat):Int))))=(fell|| !decide (0≤n∧n<(words.l.length:Int))):=by rw [←e9];first|(rw [show fell=true by assumption];rfl)|(rw [show fell=false by assumption];rfl)|(rw [show fell=false by assumption];simp;omega)
  have e8:=h29.sh
  rw [e7] at e8
  exact ⟨by rw [e9],e8⟩
 refine gRn (oKs 11 hb13 rfl rfl<|opF hb13 rfl<|oM 1 rfl<|.nl)<|nK k12<|gK fun _ k30=>fun a31 w31 h31=>x_tail 11 [] (by kernel_rfl) (by kernel_rfl) h31 fun _ z32=>qQ h31.fr<|qRn (olB 0 ti_85 rfl rfl<|olB 0 ti_85 rfl rfl<|onfl 1 fl_173_4 ti_4 rfl rfl<|oM 1 rfl<|.nl)<|?_
 rcases Bool.eq_false_or_eq_true fell with hb33|hb33
 ·skip
  refine qRn (oKs 2 hb33 rfl rfl<|opT hb33 rfl<|onf fl_173_4 rfl<|.nl)<|qN z32<|?_;clear h31
  refine gst (v:= .bool true) 1 ti_4 rfl rfl rfl<|nK k30<|gF [4] rfl<|sG (oM 2 rfl<|.nl)<|gR<|fun a37 w37 h37=>x_ret1 (fn:=Tryz.f163) (t:=3) rfl h37 rfl ?_
  have e9:false=decide (0≤n∧n<(words.l.length:Int)):=by first|exact (decide_eq_true (by omega)).symm|exact (decide_eq_false (by omega)).symm|exact decide_eq_decide.2 ⟨fun h9=>by omega,fun h9=>by omega⟩
  have e7:(true)=(fell|| !decide (0≤n∧n<(words.l.length:Int))):=by rw [←e9];first|(rw [show fell=true by assumption];rfl)|(rw [show fell=false by assumption];rfl)|(rw [show fell=false by assumption];simp;omega)
  have e8:=h37.sh
  rw [e7] at e8
  exact ⟨by rw [e9],e8⟩
 refine qRn (oG hb33 (r_move rfl rfl) rfl<|oG hb33 (r_not rfl rfl) rfl<|opF hb33 rfl<|onf fl_173_4 rfl<|.nl)<|qN z32<|?_;clear h31
 refine gst (v:= .bool true) 1 ti_4 rfl rfl rfl<|nK k30<|gF [4] rfl<|sG (oM 2 rfl<|.nl)<|gR<|fun a42 w42 h42=>x_ret1 (fn:=Tryz.f163) (t:=3) rfl h42 rfl ?_
 have e9:false=decide (0≤n∧n<(words.l.length:Int)):=by first|exact (decide_eq_true (by omega)).symm|exact (decide_eq_false (by omega)).symm|exact decide_eq_decide.2 ⟨fun h9=>by omega,fun h9=>by omega⟩
 have e7:(true)=(fell|| !decide (0≤n∧n<(words.l.length:Int))):=by rw [←e9];first|(rw [show fell=true by assumption];rfl)|(rw [show fell=false by assumption];rfl)|(rw [show fell=false by assumption];simp;omega)
 have e8:=h42.sh
 rw [e7] at e8
 exact ⟨by rw [e9],e8⟩
theorem pmem_c (K:Nat→Prop)(M:MemS)(g gp:Nat)(code:Ls (Ls Ins))(thr:Ls ThQ)(regs prints words owner:Ls Int)(q:M.σ)(pw:Value)(locks nregs:Int)(fell:Bool)(n:Nat)(ins:Ins)(W:World)(hM:MemI Tryz.prog 182 3 M)(hS:Sh K W W [.blk g 173 [.iface M.T (.pointer (some M.u)), .pointer (some ⟨gp,0,none⟩),thr.v,prints.v, .bool fell], .rblk gp 25 [code.v,pw, .int .i64 locks, .int .i64 nregs], .own 189 thr, .own 3 regs, .own 3 prints, .blk M.g0 182 [words.v,owner.v], .own 3 words, .own 3 owner,M.X q, .at_ code])(ht:n<thr.l.length)(htn:n≤1000)(hrv:(nth thr.l n).rv=regs.v)(hqn:n<(M.qs q).length)(hwl:(nth (M.qs q) n).length≤3)(hwh0:∀x∈nth (M.qs q) n,x.lock=true→x.what=0)(hge:∀v∈owner.l,-1≤v)(hR:InsR regs.l.length words.l.length owner.l.length ins)(hno:¬ins.op=1∧¬ins.op=2∧¬ins.op=3∧¬ins.op=4∧¬ins.op=5∧¬ins.op=6∧¬ins.op=7∧¬ins.op=14∧¬ins.op=15∧¬ins.op=16)(hab:((ins.op=9∨ins.op=11∨ins.op=18)→(nth (M.qs q) n).length<3)∧(ins.op=13→(nth (M.qs q) n).length=0)∧True):
    Rets Tryz.prog 146 [.pointer (some ⟨g,0,none⟩), .int .i64 ((n:Nat):Int), .agg #[.int .i64 ins.op, .int .i64 ins.a, .int .i64 ins.b, .int .i64 ins.c]] W (fun v w' =>v= .tuple #[]∧MPost K W 173 189 3 182 25 M g gp n [code.v,pw, .int .i64 locks, .int .i64 nregs] thr q (execT M.m n ins (⟨(nth thr.l n).pc,regs.l,nth (M.qs q) n,words.l,owner.l,prints.l,fell⟩:TS)) code w'):=by
 refine gen Tryz.func146 Tryz.ntmps146 hS rfl fun a10 h10=>gG h10<|sK fun _ k11=>gbx rfl rfl fun b12=>gbx rfl rfl fun b13=>nK k11<|sK fun _ k14=>gNl (aO 4 rfl) fun hl15=>gRn (olB 1 ti_85 rfl rfl<|onfl 2 fl_173_2 ti_171 rfl rfl<|oM 1 rfl<|oxN sl_171 ti_189 (aO 4 rfl) _ om9 rfl<|ofE fl_189_1 rfl<|oV (Rn.same (r_lde (s:=thr) (i:=n) (v:=((nth thr.l n).rv)) ti_23 rfl rfl rfl (fun w h=>(h.own 4 rfl)) (show n<thr.l.length from om9) (Nat.le_of_ble_eq_true rfl) rfl) hrv) rfl<|oM 1 rfl<|.nl)<|nK k14<|sG (oV (r_makeFunc rfl rfl rfl) rfl<|oM 1 rfl<|.nl)<|sG (ofB fl_32_0 rfl<|olB 0 ti_3 rfl rfl<|.nl)<|gB<|sG (oeqI _ _ rfl<|oM 1 rfl<|.nl)<|?_;clear h10
 refine gcd rfl (fun hb19 hp19=> ?_) fun hb19 hp19=> ?_
 ·skip
  have q9:=hR.o8 (by omega)
  intro a20 w20 h20
  refine x_tail 12 [] (by kernel_rfl) (by kernel_rfl) h20 fun _ z21=>qQ h20.fr<|qRn (oM 1 rfl<|ofB fl_32_1 rfl<|olB 0 ti_3 rfl rfl<|olB 1 ti_85 rfl rfl<|onfl 2 fl_173_0 ti_97 rfl rfl<|oM 1 rfl<|ofB fl_32_2 rfl<|olB 0 ti_3 rfl rfl<|.nl)<|fun _ hq=>wq_inv hq rfl rfl rfl (wanted_none rfl _) rfl rfl (fun w h=>(hM.load _ words owner q n ins.b ⟨h.blk 7 rfl,h.own 8 rfl,h.own 9 rfl,h.ok _ (List.mem_of_getElem? (i:=10) rfl)⟩ hqn hwl (by omega)))<|?_
  have hl22:regs.l.length≤140737488355328:=(h20.sh.own 5 rfl).len
  refine qRn (oxI sl_23 ti_3 (aO 5 rfl) om9 rfl<|.nl)<|qN z21<|gte 5 (findsL (nth (M.qs q) n) words.l ins.b:Int) ti_3 om9 rfl rfl<|nN<|fun a24 w24 h24=> ?_;clear h20
  try simp only [Exit.then,Exit.inBlock,if_true]
  refine x_end0 (fn:=Tryz.f146) rfl h24 ?_
  have hz:=(h24.sh.sel (L' := [_,_,_,_,_,_,_,_,_,_]) [2,3,4,5,6,7,8,9,10,11] rfl)
  refine ⟨rfl,⟨regs.v,regs.l.set ins.a.toNat (findsL (nth (M.qs q) n) words.l ins.b)⟩,⟨words.v,words.l⟩,⟨owner.v,owner.l⟩,⟨prints.v,prints.l⟩,q,(nth (M.qs q) n),(nth thr.l n).pc,fell,(list_set_nth _ _).symm, ?_, ?_⟩
  · (refine Eq.trans ?_ (execT_8 (by assumption)).symm;rfl)
  · rw [←qset_n hrv ht];exact hz
 refine sG (oeqI _ _ rfl<|oM 1 rfl<|.nl)<|gcd rfl (fun hb26 hp26=> ?_) fun hb26 hp26=> ?_
 ·skip
  have q9:=hR.o9 (by omega)
  have hw0:=hab.1 (by omega)
  refine gNl (aO 5 rfl) fun hl27=>rT 14 [] (olB 1 ti_85 rfl rfl<|onfl 2 fl_173_0 ti_97 rfl rfl<|oM 1 rfl<|ofB fl_32_1 rfl<|olB 0 ti_3 rfl rfl<|oM 1 rfl<|ofB fl_32_2 rfl<|olB 0 ti_3 rfl rfl<|oxI sl_23 ti_3 (aO 5 rfl) om9 rfl<|olI ti_3 (aO 5 rfl) om9 rfl<|oV (r_nilckI rfl rfl) rfl<|oM 1 rfl<|.nl)<|gO [7,8,9,10,0,1,2,3,4,5,6,11] rfl<|fun a33 w33 h33=> ?_
  have hp32:=h33.sh.passL (Lp:= [_,_,_,_])
  refine wl_ex (x_inv2 h33 rfl rfl rfl rfl rfl (hM.store _ _ words owner q n ins.a (nth regs.l ins.b.toNat) hp32 hqn (by omega) (by omega))) (wanted_none rfl _) ?_
  rintro a34 w34 ⟨_,⟨rfl,words34,owner34,q34,hst34,hs34⟩,hf34⟩
  change Sh _ _ _ [.blk M.g0 182 [words34.v,owner34.v], .own 3 words34, .own 3 owner34,M.X q34] at hs34
  have h34:St 193 K W a34 w34 _ [_,_,_,_,_,_,_,_,_,_,_,_]:=⟨hf34,h33.sh.backL (Lp:= [_,_,_,_]) hs34 (by intro A hA b hb;simp only [List.mem_cons,List.not_mem_nil,or_false] at hA;rcases hA with rfl|rfl|rfl|rfl<;>first|exact (hb:False).elim|exact Flat.noRd hb|exact .inl ⟨_,List.mem_cons_self .., .inr hb⟩|exact rdX hM hb|exact .inl ⟨_,by simp, .inr hb⟩)⟩
  clear hf34 hs34
  clear h33
  refine gG h34<|nN<|fun a35 w35 h35=> ?_;clear h34
  try simp only [Exit.then,Exit.inBlock,if_true]
  refine x_end0 (fn:=Tryz.f146) rfl h35 ?_
  have hz:=(h35.sh.sel (L' := [_,_,_,_,_,_,_,_,_,_]) [6,7,8,9,10,0,1,2,3,11] rfl)
  obtain ⟨wt,hwt1,hwt2⟩:=hst34
  refine ⟨rfl,⟨regs.v,regs.l⟩,⟨words34.v,words34.l⟩,⟨owner34.v,owner34.l⟩,⟨prints.v,prints.l⟩,q34,wt,(nth thr.l n).pc,fell,hwt1, ?_, ?_⟩
  · exact Eq.trans (hwt2 _ _ _ _) (execT_9 (by assumption)).symm
  · rw [←qset_n hrv ht];exact hz
 refine sG (oeqI _ _ rfl<|oM 1 rfl<|.nl)<|gcd rfl (fun hb37 hp37=> ?_) fun hb37 hp37=> ?_
 ·skip
  have q9:=hR.o10 (by omega)
  refine sK fun _ k38=>gNl (aO 5 rfl) fun hl39=>gRn (oM 2 rfl<|ofB fl_32_2 rfl<|olB 0 ti_3 rfl rfl<|oxI sl_23 ti_3 (aO 5 rfl) om9 rfl<|olI ti_3 (aO 5 rfl) om9 rfl<|.nl)<|gO [1,2,7,8,9,10,0,3,4,5,6,11] rfl<|fun a45 w45 h45=> ?_
  have hp44:=h45.sh.passL (Lp:= [_,_,_,_,_,_])
  refine wl_ex (x_call h45 bd_163 rfl rfl rfl rfl rfl (pis_c _ M g b12 (nth regs.l ins.b.toNat) words owner q _ _ _ _ _ hM hp44)) (wanted_none rfl _) ?_
  rintro a46 w46 ⟨_,⟨rfl,hs46⟩,hf46⟩
  have h46:St 193 K W a46 w46 _ [_,_,_,_,_,_,_,_,_,_,_,_]:=⟨hf46,h45.sh.backL (Lp:= [_,_,_,_,_,_]) hs46 (by intro A hA b hb;simp only [List.mem_cons,List.not_mem_nil,or_false] at hA;rcases hA with rfl|rfl|rfl|rfl|rfl|rfl<;>first|exact (hb:False).elim|exact Flat.noRd hb|exact .inl ⟨_,List.mem_cons_self .., .inr hb⟩|exact rdX hM hb|exact .inl ⟨_,by simp, .inr hb⟩)⟩
  clear hf46 hs46
  clear h45
  refine gG h46<|nK k38<|gF [1,3,5,6,59] rfl<|?_;clear h46
  refine gcd rfl (fun hb47 hp47=> ?_) fun hb47 hp47=> ?_
  ·skip
   intro a48 w48 h48
   refine x_tail 17 [] (by kernel_rfl) (by kernel_rfl) h48 fun _ z49=>qQ h48.fr<|qRn (oM 1 rfl<|ofB fl_32_1 rfl<|olB 6 ti_3 rfl rfl<|olB 0 ti_85 rfl rfl<|onfl 1 fl_173_0 ti_97 rfl rfl<|oM 2 rfl<|ofB fl_32_2 rfl<|olB 6 ti_3 rfl rfl<|oxI sl_23 ti_3 (aO 9 rfl) om9 rfl<|olI ti_3 (aO 9 rfl) om9 rfl<|oV (r_nilckI rfl rfl) rfl<|oM 1 rfl<|.nl)<|fun _ hq=>wq_inv hq rfl rfl rfl (wanted_none rfl _) rfl rfl (fun w h=>(hM.load _ words owner q n (nth regs.l ins.b.toNat) ⟨h.blk 2 rfl,h.own 3 rfl,h.own 4 rfl,h.ok _ (List.mem_of_getElem? (i:=5) rfl)⟩ hqn hwl (by omega)))<|qRn (oxI sl_23 ti_3 (aO 9 rfl) om9 rfl<|.nl)<|qN z49<|gte 9 (findsL (nth (M.qs q) n) words.l (nth regs.l ins.b.toNat):Int) ti_3 om9 rfl rfl<|nN<|fun a51 w51 h51=> ?_;clear h48
   try simp only [Exit.then,Exit.inBlock,if_true]
   refine x_end0 (fn:=Tryz.f146) rfl h51 ?_
   have hf9:(fell|| !decide (0≤nth regs.l ins.b.toNat∧nth regs.l ins.b.toNat<(words.l.length:Int)))=fell:=or_f hb47
   have hz:=(h51.sh.sel (L' := [_,_,_,_,_,_,_,_,_,_]) [1,7,8,9,10,2,3,4,5,11] rfl)
   rw [hf9] at hz
   refine ⟨rfl,⟨regs.v,regs.l.set ins.a.toNat (findsL (nth (M.qs q) n) words.l (nth regs.l ins.b.toNat))⟩,⟨words.v,words.l⟩,⟨owner.v,owner.l⟩,⟨prints.v,prints.l⟩,q,(nth (M.qs q) n),(nth thr.l n).pc,fell,(list_set_nth _ _).symm, ?_, ?_⟩
   · first|(refine Eq.trans ?_ (execT_10t (by assumption) (by assumption)).symm;rfl)|(refine Eq.trans ?_ (execT_10f (by assumption) (by assumption)).symm;rfl)
   · rw [←qset_n hrv ht];exact hz
  refine gS<|fun a52 w52 h52=> ?_
  try simp only [Exit.then,Exit.inBlock,if_true]
  refine x_end0 (fn:=Tryz.f146) rfl h52 ?_
  have hf9:(fell|| !decide (0≤nth regs.l ins.b.toNat∧nth regs.l ins.b.toNat<(words.l.length:Int)))=true:=or_t hb47
  have hz:=(h52.sh.sel (L' := [_,_,_,_,_,_,_,_,_,_]) [1,7,8,9,10,2,3,4,5,11] rfl)
  rw [hf9] at hz
  refine ⟨rfl,⟨regs.v,regs.l⟩,⟨words.v,words.l⟩,⟨owner.v,owner.l⟩,⟨prints.v,prints.l⟩,q,(nth (M.qs q) n),(nth thr.l n).pc,true,(list_set_nth _ _).symm, ?_, ?_⟩
  · first|(refine Eq.trans ?_ (execT_10t (by assumption) (by assumption)).symm;rfl)|(refine Eq.trans ?_ (execT_10f (by assumption) (by assumption)).symm;rfl)
  · rw [←qset_n hrv ht];exact hz
 refine sG (oeqI _ _ rfl<|oM 1 rfl<|.nl)<|gcd rfl (fun hb54 hp54=> ?_) fun hb54 hp54=> ?_
 ·skip
  have q9:=hR.o10 (by omega)
  have hw0:=hab.1 (by omega)
  refine sK fun _ k55=>gNl (aO 5 rfl) fun hl56=>gRn (oM 2 rfl<|ofB fl_32_1 rfl<|olB 0 ti_3 rfl rfl<|oxI sl_23 ti_3 (aO 5 rfl) om9 rfl<|olI ti_3 (aO 5 rfl) om9 rfl<|.nl)<|gO [1,2,7,8,9,10,0,3,4,5,6,11] rfl<|fun a62 w62 h62=> ?_
  have hp61:=h62.sh.passL (Lp:= [_,_,_,_,_,_])
  refine wl_ex (x_call h62 bd_163 rfl rfl rfl rfl rfl (pis_c _ M g b12 (nth regs.l ins.a.toNat) words owner q _ _ _ _ _ hM hp61)) (wanted_none rfl _) ?_
  rintro a63 w63 ⟨_,⟨rfl,hs63⟩,hf63⟩
  have h63:St 193 K W a63 w63 _ [_,_,_,_,_,_,_,_,_,_,_,_]:=⟨hf63,h62.sh.backL (Lp:= [_,_,_,_,_,_]) hs63 (by intro A hA b hb;simp only [List.mem_cons,List.not_mem_nil,or_false] at hA;rcases hA with rfl|rfl|rfl|rfl|rfl|rfl<;>first|exact (hb:False).elim|exact Flat.noRd hb|exact .inl ⟨_,List.mem_cons_self .., .inr hb⟩|exact rdX hM hb|exact .inl ⟨_,by simp, .inr hb⟩)⟩
  clear hf63 hs63
  clear h62
  refine gG h63<|nK k55<|gF [1,3,5,6,85] rfl<|?_;clear h63
  refine gcd rfl (fun hb64 hp64=> ?_) fun hb64 hp64=> ?_
  ·skip
   refine rT 17 [] (olB 0 ti_85 rfl rfl<|onfl 1 fl_173_0 ti_97 rfl rfl<|oM 2 rfl<|ofB fl_32_1 rfl<|olB 6 ti_3 rfl rfl<|oxI sl_23 ti_3 (aO 9 rfl) om9 rfl<|olI ti_3 (aO 9 rfl) om9 rfl<|oM 1 rfl<|ofB fl_32_2 rfl<|olB 6 ti_3 rfl rfl<|oxI sl_23 ti_3 (aO 9 rfl) om9 rfl<|olI ti_3 (aO 9 rfl) om9 rfl<|oV (r_nilckI rfl rfl) rfl<|oM 1 rfl<|.nl)<|gO [2,3,4,5,0,1,6,7,8,9,10,11] rfl<|fun a70 w70 h70=> ?_
   have hp69:=h70.sh.passL (Lp:= [_,_,_,_])
   refine wl_ex (x_inv2 h70 rfl rfl rfl rfl rfl (hM.store _ _ words owner q n (nth regs.l ins.a.toNat) (nth regs.l ins.b.toNat) hp69 hqn (by omega) (by omega))) (wanted_none rfl _) ?_
   rintro a71 w71 ⟨_,⟨rfl,words71,owner71,q71,hst71,hs71⟩,hf71⟩
   change Sh _ _ _ [.blk M.g0 182 [words71.v,owner71.v], .own 3 words71, .own 3 owner71,M.X q71] at hs71
   have h71:St 193 K W a71 w71 _ [_,_,_,_,_,_,_,_,_,_,_,_]:=⟨hf71,h70.sh.backL (Lp:= [_,_,_,_]) hs71 (by intro A hA b hb;simp only [List.mem_cons,List.not_mem_nil,or_false] at hA;rcases hA with rfl|rfl|rfl|rfl<;>first|exact (hb:False).elim|exact Flat.noRd hb|exact .inl ⟨_,List.mem_cons_self .., .inr hb⟩|exact rdX hM hb|exact .inl ⟨_,by simp, .inr hb⟩)⟩
   clear hf71 hs71
   clear h70
   refine gG h71<|nN<|fun a72 w72 h72=> ?_;clear h71
   try simp only [Exit.then,Exit.inBlock,if_true]
   refine x_end0 (fn:=Tryz.f146) rfl h72 ?_
   have hf9:(fell|| !decide (0≤nth regs.l ins.a.toNat∧nth regs.l ins.a.toNat<(words.l.length:Int)))=fell:=or_f hb64
   have hz:=(h72.sh.sel (L' := [_,_,_,_,_,_,_,_,_,_]) [5,7,8,9,10,0,1,2,3,11] rfl)
   rw [hf9] at hz
   obtain ⟨wt,hwt1,hwt2⟩:=hst71
   refine ⟨rfl,⟨regs.v,regs.l⟩,⟨words71.v,words71.l⟩,⟨owner71.v,owner71.l⟩,⟨prints.v,prints.l⟩,q71,wt,(nth thr.l n).pc,fell,hwt1, ?_, ?_⟩
   · exact Eq.trans (hwt2 _ _ _ _) (execT_11t (by assumption) (by assumption)).symm
   · rw [←qset_n hrv ht];exact hz
  refine gS<|fun a73 w73 h73=> ?_
  try simp only [Exit.then,Exit.inBlock,if_true]
  refine x_end0 (fn:=Tryz.f146) rfl h73 ?_
  have hf9:(fell|| !decide (0≤nth regs.l ins.a.toNat∧nth regs.l ins.a.toNat<(words.l.length:Int)))=true:=or_t hb64
  have hz:=(h73.sh.sel (L' := [_,_,_,_,_,_,_,_,_,_]) [1,7,8,9,10,2,3,4,5,11] rfl)
  rw [hf9] at hz
  refine ⟨rfl,⟨regs.v,regs.l⟩,⟨words.v,words.l⟩,⟨owner.v,owner.l⟩,⟨prints.v,prints.l⟩,q,(nth (M.qs q) n),(nth thr.l n).pc,true,(list_set_nth _ _).symm, ?_, ?_⟩
  · (refine Eq.trans ?_ (execT_11f (by assumption) (by assumption)).symm;rfl)
  · rw [←qset_n hrv ht];exact hz
 refine sG (oeqI _ _ rfl<|oM 1 rfl<|.nl)<|gcd rfl (fun hb75 hp75=> ?_) fun hb75 hp75=> ?_
 ·skip
  have q9:=hR.o13 (by omega)
  have hw0:=hab.2.1 (by assumption)
  have hfl:findsL (nth (M.qs q) n) words.l ins.a=nth words.l ins.a.toNat:=findsL_none (fun j hj=>absurd hj (by omega))
  refine gK fun _ k76=>fun a77 w77 h77=>x_quiet (by kernel_rfl) (by kernel_rfl) h77 fun _ z78=>qQ h77.fr<|qRn (olB 1 ti_85 rfl rfl<|onfl 2 fl_173_0 ti_97 rfl rfl<|oM 1 rfl<|ofB fl_32_1 rfl<|olB 0 ti_3 rfl rfl<|.nl)<|fun _ hq=>wq_inv hq rfl rfl rfl (wanted_none rfl _) rfl rfl (fun w h=>(hM.load _ words owner q n ins.a ⟨h.blk 7 rfl,h.own 8 rfl,h.own 9 rfl,h.ok _ (List.mem_of_getElem? (i:=10) rfl)⟩ hqn hwl (by omega)))<|qRn (oM 1 rfl<|ofB fl_32_2 rfl<|olB 0 ti_3 rfl rfl<|.nl)<|?_
  have hl79:regs.l.length≤140737488355328:=(h77.sh.own 5 rfl).len
  refine qRn (oxI sl_23 ti_3 (aO 5 rfl) om9 rfl<|olI ti_3 (aO 5 rfl) om9 rfl<|oeqI _ _ rfl<|oM 1 rfl<|.nl)<|qN z78<|hK k76<|gF [1,3,5,6,8] rfl<|gK fun _ k80=>sG (oM 1 rfl<|.nl)<|?_;clear h77
  refine gcd rfl (fun hb82 hp82=> ?_) fun hb82 hp82=> ?_
  ·skip
   refine rT 14 [] (olB 1 ti_85 rfl rfl<|onfl 2 fl_173_0 ti_97 rfl rfl<|oM 1 rfl<|ofB fl_32_1 rfl<|olB 0 ti_3 rfl rfl<|oM 1 rfl<|ofB fl_32_3 rfl<|olB 0 ti_3 rfl rfl<|oxI sl_23 ti_3 (aO 5 rfl) om9 rfl<|olI ti_3 (aO 5 rfl) om9 rfl<|oV (r_nilckI rfl rfl) rfl<|oM 1 rfl<|.nl)<|gO [7,8,9,10,0,1,2,3,4,5,6,11] rfl<|fun a88 w88 h88=> ?_
   have hp87:=h88.sh.passL (Lp:= [_,_,_,_])
   refine wl_ex (x_inv2 h88 rfl rfl rfl rfl rfl (hM.swap _ _ words owner q n ins.a (nth regs.l ins.c.toNat) hp87 (by omega))) (wanted_none rfl _) ?_
   rintro a89 w89 ⟨_,⟨rfl,words89,owner89,q89,hst89,hs89⟩,hf89⟩
   change Sh _ _ _ [.blk M.g0 182 [words89.v,owner89.v], .own 3 words89, .own 3 owner89,M.X q89] at hs89
   have h89:St 193 K W a89 w89 _ [_,_,_,_,_,_,_,_,_,_,_,_]:=⟨hf89,h88.sh.backL (Lp:= [_,_,_,_]) hs89 (by intro A hA b hb;simp only [List.mem_cons,List.not_mem_nil,or_false] at hA;rcases hA with rfl|rfl|rfl|rfl<;>first|exact (hb:False).elim|exact Flat.noRd hb|exact .inl ⟨_,List.mem_cons_self .., .inr hb⟩|exact rdX hM hb|exact .inl ⟨_,by simp, .inr hb⟩)⟩
   clear hf89 hs89
   clear h88
   refine gG h89<|nK k80<|fun a90 w90 h90=>x_tail 6 [] (by kernel_rfl) (by kernel_rfl) h90 fun _ z91=>qQ h90.fr<|qRn (oM 1 rfl<|ofB fl_32_2 rfl<|olB 4 ti_3 rfl rfl<|oM 1 rfl<|.nl)<|qP bd_145 rfl (fun w h=>(pbit_t hb82 _))<|qRn (oxI sl_23 ti_3 (aO 9 rfl) om9 rfl<|.nl)<|qN z91<|gte 9 (1:Int) ti_3 om9 rfl rfl<|nN<|fun a93 w93 h93=> ?_;clear h89 h90
   try simp only [Exit.then,Exit.inBlock,if_true]
   refine x_end0 (fn:=Tryz.f146) rfl h93 ?_
   have hz:=(h93.sh.sel (L' := [_,_,_,_,_,_,_,_,_,_]) [6,7,8,9,10,0,1,2,3,11] rfl)
   obtain ⟨hw1,hw2⟩:=swap_eq (n:=n) (pc:=(nth thr.l n).pc) (regs:=regs.l.set ins.b.toNat 1) (prints:=prints.l) (fell:=fell) hst89
   refine ⟨rfl,⟨regs.v,regs.l.set ins.b.toNat 1⟩,⟨words89.v,words89.l⟩,⟨owner89.v,owner89.l⟩,⟨prints.v,prints.l⟩,q89,(nth (M.qs q) n),(nth thr.l n).pc,fell,hw1, ?_, ?_⟩
   · (refine Eq.trans hw2 (execT_13t (x:=(⟨(nth thr.l n).pc,regs.l,nth (M.qs q) n,words.l,owner.l,prints.l,fell⟩:TS)) (by assumption) (hfl.symm.trans (by assumption))).symm)
   · rw [←qset_n hrv ht];exact hz
  refine gS<|hK k80<|fun a94 w94 h94=>x_tail 6 [] (by kernel_rfl) (by kernel_rfl) h94 fun _ z95=>qQ h94.fr<|qRn (oM 1 rfl<|ofB fl_32_2 rfl<|olB 0 ti_3 rfl rfl<|oM 1 rfl<|.nl)<|qP bd_145 rfl (fun w h=>(pbit_f hb82 _))<|qRn (oxI sl_23 ti_3 (aO 5 rfl) om9 rfl<|.nl)<|qN z95<|gte 5 (0:Int) ti_3 om9 rfl rfl<|nN<|fun a97 w97 h97=> ?_;clear h94
  try simp only [Exit.then,Exit.inBlock,if_true]
  refine x_end0 (fn:=Tryz.f146) rfl h97 ?_
  have hz:=(h97.sh.sel (L' := [_,_,_,_,_,_,_,_,_,_]) [2,3,4,5,6,7,8,9,10,11] rfl)
  refine ⟨rfl,⟨regs.v,regs.l.set ins.b.toNat 0⟩,⟨words.v,words.l⟩,⟨owner.v,owner.l⟩,⟨prints.v,prints.l⟩,q,(nth (M.qs q) n),(nth thr.l n).pc,fell,(list_set_nth _ _).symm, ?_, ?_⟩
  · (refine Eq.trans ?_ (execT_13f (by assumption) (fun h9=>absurd (hfl.trans h9) (by assumption))).symm;rfl)
  · rw [←qset_n hrv ht];exact hz
 refine sG (oeqI _ _ rfl<|oM 1 rfl<|.nl)<|gF [1,3,5,19,142] rfl<|gcd rfl (fun hb99 hp99=> ?_) fun hb99 hp99=> ?_
 ·skip
  have q9:=hR.o17 (by omega)
  intro a100 w100 h100
  refine x_tail 12 [] (by kernel_rfl) (by kernel_rfl) h100 fun _ z101=>qQ h100.fr<|qRn (olB 1 ti_85 rfl rfl<|onfl 2 fl_173_0 ti_97 rfl rfl<|.nl)<|fun _ hq=>wq_inv hq rfl rfl rfl (wanted_none rfl _) rfl rfl (fun w h=>(hM.base _ words owner q ⟨h.blk 7 rfl,h.own 8 rfl,h.own 9 rfl,h.ok _ (List.mem_of_getElem? (i:=10) rfl)⟩))<|qRn (onfl 7 fl_182_1 ti_23 rfl rfl<|ofB fl_32_1 rfl<|olB 0 ti_3 rfl rfl<|oM 1 rfl<|.nl)<|?_
  have hl102:owner.l.length≤140737488355328:=(h100.sh.own 9 rfl).len
  refine qRn (oxI sl_23 ti_3 (aO 9 rfl) om9 rfl<|.nl)<|qN z101<|gte 9 (((n:Nat):Int):Int) ti_3 om9 rfl rfl<|nN<|fun a104 w104 h104=> ?_;clear h100
  try simp only [Exit.then,Exit.inBlock,if_true]
  refine x_end0 (fn:=Tryz.f146) rfl h104 ?_
  have hz:=(h104.sh.sel (L' := [_,_,_,_,_,_,_,_,_,_]) [2,3,4,5,6,7,8,9,10,11] rfl)
  refine ⟨rfl,⟨regs.v,regs.l⟩,⟨words.v,words.l⟩,⟨owner.v,owner.l.set ins.a.toNat ((n:Nat):Int)⟩,⟨prints.v,prints.l⟩,q,(nth (M.qs q) n),(nth thr.l n).pc,fell,(list_set_nth _ _).symm, ?_, ?_⟩
  · (refine Eq.trans ?_ (execT_17 (by assumption)).symm;rfl)
  · rw [←qset_n hrv ht];exact hz
 refine sG (oeqI _ _ rfl<|oM 1 rfl<|.nl)<|gcd rfl (fun hb106 hp106=> ?_) fun hb106 hp106=> ?_
 ·skip
  have q9:=hR.o17 (by omega)
  have hw0:=hab.1 (by omega)
  refine gK fun _ k107=>gK fun _ k108=>fun a109 w109 h109=>x_quiet (by kernel_rfl) (by kernel_rfl) h109 fun _ z110=>qQ h109.fr<|qRn (olB 1 ti_85 rfl rfl<|onfl 2 fl_173_0 ti_97 rfl rfl<|.nl)<|fun _ hq=>wq_inv hq rfl rfl rfl (wanted_none rfl _) rfl rfl (fun w h=>(hM.base _ words owner q ⟨h.blk 7 rfl,h.own 8 rfl,h.own 9 rfl,h.ok _ (List.mem_of_getElem? (i:=10) rfl)⟩))<|qRn (onfl 7 fl_182_1 ti_23 rfl rfl<|ofB fl_32_1 rfl<|olB 0 ti_3 rfl rfl<|.nl)<|?_
  have hl111:owner.l.length≤140737488355328:=(h109.sh.own 9 rfl).len
  refine qRn (oxI sl_23 ti_3 (aO 9 rfl) om9 rfl<|olI ti_3 (aO 9 rfl) om9 rfl<|oM 1 rfl<|oneI _ _ rfl<|oM 1 rfl<|.nl)<|?_
  rcases dsp (nth owner.l ins.a.toNat≠((n:Nat):Int)) with ⟨hb112,hp112⟩|⟨hb112,hp112⟩
  ·skip
   refine qRn (oKs 8 hb112 rfl rfl<|opT hb112 rfl<|.nl)<|qN z110<|?_;clear h109
   refine hK k108<|gF [1,3,5,181] rfl<|gcT rfl rfl<|sK fun _ k114=>gRn (olB 1 ti_85 rfl rfl<|onf fl_173_4 rfl<|.nl)<|gst (v:= .bool true) 2 ti_4 rfl rfl rfl<|nK k114<|gR<|uT<|uB<|fun a116 w116 h116=>x_ret0 (fn:=Tryz.f146) rfl h116 ?_
   have hz:=(h116.sh.sel (L' := [_,_,_,_,_,_,_,_,_,_]) [2,3,4,5,6,7,8,9,10,11] rfl)
   refine ⟨rfl,⟨regs.v,regs.l⟩,⟨words.v,words.l⟩,⟨owner.v,owner.l⟩,⟨prints.v,prints.l⟩,q,(nth (M.qs q) n),(nth thr.l n).pc,true,(list_set_nth _ _).symm, ?_, ?_⟩
   · (refine Eq.trans ?_ (pexec_18f (by assumption) (by first|exact .inl (by omega)|exact .inr (by assumption))).symm;rfl)
   · rw [←qset_n hrv ht];exact hz
  refine qRn (oG hb112 (r_ldb (i:=1) ti_85 rfl rfl rfl rfl) rfl<|oG hb112 (r_nil rfl rfl) rfl<|oG hb112 (r_fieldB (r:=0) fl_173_0 rfl rfl rfl) rfl<|oG hb112 (r_ldb (i:=2) ti_97 rfl rfl rfl rfl) rfl<|oG hb112 (r_move rfl rfl) rfl<|oG hb112 (r_fieldB (r:=1) fl_32_1 rfl rfl rfl) rfl<|oG hb112 (r_ldb (i:=0) ti_3 rfl rfl rfl rfl) rfl<|.nl)<|fun _ hq=>wq_inv hq rfl rfl rfl (wanted_yes hq rfl rfl rfl rfl hb112) rfl rfl (fun w h=>(hM.freeing _ words owner q n ins.a ⟨h.blk 7 rfl,h.own 8 rfl,h.own 9 rfl,h.ok _ (List.mem_of_getElem? (i:=10) rfl)⟩ hqn hwl hwh0))<|qRn (opF hb112 rfl<|.nl)<|qN z110<|?_;clear h109
  refine hK k108<|gF [1,3,5,181] rfl<|gCb rfl (fun hb125=> ?_) fun hb125=> ?_
  ·skip
   refine sK fun _ k126=>gRn (olB 1 ti_85 rfl rfl<|onf fl_173_4 rfl<|.nl)<|gst (v:= .bool true) 2 ti_4 rfl rfl rfl<|nK k126<|gR<|uT<|uB<|fun a128 w128 h128=>x_ret0 (fn:=Tryz.f146) rfl h128 ?_
   have hz:=(h128.sh.sel (L' := [_,_,_,_,_,_,_,_,_,_]) [2,3,4,5,6,7,8,9,10,11] rfl)
   refine ⟨rfl,⟨regs.v,regs.l⟩,⟨words.v,words.l⟩,⟨owner.v,owner.l⟩,⟨prints.v,prints.l⟩,q,(nth (M.qs q) n),(nth thr.l n).pc,true,(list_set_nth _ _).symm, ?_, ?_⟩
   · (refine Eq.trans ?_ (pexec_18f (by assumption) (by first|exact .inl (by omega)|exact .inr (by assumption))).symm;rfl)
   · rw [←qset_n hrv ht];exact hz
  refine gS<|hK k107<|rT 7 [] (olB 1 ti_85 rfl rfl<|onfl 2 fl_173_0 ti_97 rfl rfl<|oM 1 rfl<|ofB fl_32_1 rfl<|olB 0 ti_3 rfl rfl<|.nl)<|gO [7,8,9,10,0,1,2,3,4,5,6,11] rfl<|fun a134 w134 h134=> ?_
  have hp133:=h134.sh.passL (Lp:= [_,_,_,_])
  refine wl_ex (x_inv2 h134 rfl rfl rfl rfl rfl (hM.free _ _ words owner q n ins.a hp133 hqn (by omega) (by omega))) (wanted_none rfl _) ?_
  rintro a135 w135 ⟨_,⟨rfl,words135,owner135,q135,hst135,hs135⟩,hf135⟩
  change Sh _ _ _ [.blk M.g0 182 [words135.v,owner135.v], .own 3 words135, .own 3 owner135,M.X q135] at hs135
  have h135:St 193 K W a135 w135 _ [_,_,_,_,_,_,_,_,_,_,_,_]:=⟨hf135,h134.sh.backL (Lp:= [_,_,_,_]) hs135 (by intro A hA b hb;simp only [List.mem_cons,List.not_mem_nil,or_false] at hA;rcases hA with rfl|rfl|rfl|rfl<;>first|exact (hb:False).elim|exact Flat.noRd hb|exact .inl ⟨_,List.mem_cons_self .., .inr hb⟩|exact rdX hM hb|exact .inl ⟨_,by simp, .inr hb⟩)⟩
  clear hf135 hs135
  clear h134
  refine gG h135<|nN<|fun a136 w136 h136=> ?_;clear h135
  try simp only [Exit.then,Exit.inBlock,if_true]
  refine x_end0 (fn:=Tryz.f146) rfl h136 ?_
  have hz:=(h136.sh.sel (L' := [_,_,_,_,_,_,_,_,_,_]) [6,7,8,9,10,0,1,2,3,11] rfl)
  obtain ⟨wt,hwt1,hwt2⟩:=hst135
  refine ⟨rfl,⟨regs.v,regs.l⟩,⟨words135.v,words135.l⟩,⟨owner135.v,owner135.l⟩,⟨prints.v,prints.l⟩,q135,wt,(nth thr.l n).pc,fell,hwt1, ?_, ?_⟩
  · exact Eq.trans (hwt2 _ _ _ _) (pexec_18c (by assumption) (by omega) (by assumption)).symm
  · rw [←qset_n hrv ht];exact hz
 refine gS<|fun a137 w137 h137=> ?_
 try simp only [Exit.then,Exit.inBlock,if_true]
 refine x_end0 (fn:=Tryz.f146) rfl h137 ?_
 have hz:=(h137.sh.sel (L' := [_,_,_,_,_,_,_,_,_,_]) [2,3,4,5,6,7,8,9,10,11] rfl)
 refine ⟨rfl,⟨regs.v,regs.l⟩,⟨words.v,words.l⟩,⟨owner.v,owner.l⟩,⟨prints.v,prints.l⟩,q,(nth (M.qs q) n),(nth thr.l n).pc,fell,(list_set_nth _ _).symm, ?_, ?_⟩
 · (refine Eq.trans ?_ (pexec_no (by omega) (by omega)).symm;rfl)
 · rw [←qset_n hrv ht];exact hz
theorem pdo_c (K:Nat→Prop)(M:MemS)(g gp:Nat)(code:Ls (Ls Ins))(thr:Ls ThQ)(regs prints words owner:Ls Int)(q:M.σ)(pw:Value)(locks nregs:Int)(fell:Bool)(n:Nat)(k:Nat)(W:World)(hM:MemI Tryz.prog 182 3 M)(hS:Sh K W W [.blk g 173 [.iface M.T (.pointer (some M.u)), .pointer (some ⟨gp,0,none⟩),thr.v,prints.v, .bool fell], .rblk gp 25 [code.v,pw, .int .i64 locks, .int .i64 nregs], .own 189 thr, .own 3 regs, .own 3 prints, .blk M.g0 182 [words.v,owner.v], .own 3 words, .own 3 owner,M.X q, .at_ code])(ht:n<thr.l.length)(htn:n≤1000)(hrv:(nth thr.l n).rv=regs.v)(hqn:n<(M.qs q).length)(hwl:(nth (M.qs q) n).length≤3)(hwh0:∀x∈nth (M.qs q) n,x.lock=true→x.what=0)(hge:∀v∈owner.l,-1≤v)(htc:n<code.l.length)(hpcr:0≤(nth thr.l n).pc∧(nth thr.l n).pc≤(nth code.l n).l.length)(hpcl:(nth code.l n).l.length≤1000000)(hmk:mvOK M.m (nth code.l n).l (⟨(nth thr.l n).pc,regs.l,nth (M.qs q) n,words.l,owner.l,prints.l,fell⟩:TS) k=true)(hpl:prints.l.length≤100000000)(hwt:∀j,j<(nth (M.qs q) n).length→WtOk (nth (nth (M.qs q) n) j) words owner)(hio:k=0→InsR regs.l.length words.l.length owner.l.length (nextIns (nth code.l n).l (nth thr.l n).pc)):
    Rets Tryz.prog 123 [.pointer (some ⟨g,0,none⟩), .agg #[.int .i64 ((n:Nat):Int), .int .i64 (((k:Nat):Int)-1)]] W (fun v w' =>v= .tuple #[]∧MPost K W 173 189 3 182 25 M g gp n [code.v,pw, .int .i64 locks, .int .i64 nregs] thr q (doT M.m n (nth code.l n).l k (⟨(nth thr.l n).pc,regs.l,nth (M.qs q) n,words.l,owner.l,prints.l,fell⟩:TS)) code w'):=by
 refine gen Tryz.func123 Tryz.ntmps123 hS rfl fun a10 h10=>gG h10<|sK fun _ k11=>gbx rfl rfl fun b12=>nK k11<|gK fun _ k13=>gNl (aO 3 rfl) fun hl14=>rQ (oM 1 rfl<|onfl 1 fl_173_2 ti_171 rfl rfl<|ofB fl_179_0 rfl<|olB 0 ti_3 rfl rfl<|oxN sl_171 ti_189 (aO 3 rfl) _ om9 rfl<|oM 1 rfl<|.nl)<|hK k13<|gK fun _ k15=>sG (ofB fl_179_1 rfl<|olB 0 ti_3 rfl rfl<|ogeI _ _ rfl<|.nl)<|?_;clear h10
 refine gcd rfl (fun hb17 hp17=> ?_) fun hb17 hp17=> ?_
 ·skip
  have hkw:k-1<(nth (M.qs q) n).length:=by rcases mvOK_k hmk with ⟨h9,_⟩|⟨h9,h8,_⟩;omega;(change k≤(nth (M.qs q) n).length at h8;omega)
  refine gK fun _ k18=>rT 8 [] (oM 1 rfl<|onfl 1 fl_173_0 ti_97 rfl rfl<|ofB fl_179_0 rfl<|olB 0 ti_3 rfl rfl<|ofB fl_179_1 rfl<|olB 0 ti_3 rfl rfl<|.nl)<|fun a20 w20 h20=> ?_
  have h19:=h20.same (d:=25) (v' := .int .i64 ((k-1:Nat):Int)) rfl (by rw [show ((k:Nat):Int)-1=((k-1:Nat):Int) from by omega])
  clear h20
  have h24:=h19.sel (L' := [_,_,_,_,_,_,_,_,_,_,_]) [6,7,8,9,0,1,2,3,4,5,10] rfl
  have hp25:=h24.sh.passL (Lp:= [_,_,_,_])
  refine wl_ex (x_inv2 h24 rfl rfl rfl rfl rfl (hM.flush _ _ words owner q n (k-1) hp25 hqn hwl hkw hwt)) (wanted_none rfl _) ?_
  rintro a26 w26 ⟨_,⟨rfl,words26,owner26,q26,hst26,hs26⟩,hf26⟩
  change Sh _ _ _ [.blk M.g0 182 [words26.v,owner26.v], .own 3 words26, .own 3 owner26,M.X q26] at hs26
  have h26:St 196 K W a26 w26 _ [_,_,_,_,_,_,_,_,_,_,_]:=⟨hf26,h24.sh.backL (Lp:= [_,_,_,_]) hs26 (by intro A hA b hb;simp only [List.mem_cons,List.not_mem_nil,or_false] at hA;rcases hA with rfl|rfl|rfl|rfl<;>first|exact (hb:False).elim|exact Flat.noRd hb|exact .inl ⟨_,List.mem_cons_self .., .inr hb⟩|exact rdX hM hb|exact .inl ⟨_,by simp, .inr hb⟩)⟩
  clear hf26 hs26
  clear h24
  refine gG h26<|nK k18<|gF [] rfl<|gR<|uT<|fun a27 w27 h27=>x_ret0 (fn:=Tryz.f123) rfl h27 ?_;clear h26
  have hz:=(h27.sh.sel (L' := [_,_,_,_,_,_,_,_,_,_]) [5,6,7,8,9,0,1,2,3,10] rfl)
  obtain ⟨wt,hwt1,hwt2⟩:=hst26
  refine ⟨rfl,⟨regs.v,regs.l⟩,⟨words26.v,words26.l⟩,⟨owner26.v,owner26.l⟩,⟨prints.v,prints.l⟩,q26,wt,(nth thr.l n).pc,fell,hwt1, ?_, ?_⟩
  · exact (hwt2 _ _ _ _).trans (pdoT_k (by omega)).symm
  · rw [←qset_n hrv ht];exact hz
 refine gS<|hK k15<|sK fun _ k28=>gRn (oM 1 rfl<|ofB fl_179_0 rfl<|olB 0 ti_3 rfl rfl<|.nl)<|fun a30 w30 h30=>wl_ex (x_call h30 bd_128 rfl rfl rfl rfl rfl (pnext_c M g gp code thr words owner q _ _ _ _ _ n _ hM (h30.sh.blk 1 rfl) (h30.sh.rblk 2 rfl) (h30.sh.at 10 rfl) (h30.sh.own 3 rfl) ⟨h30.sh.blk 6 rfl,h30.sh.own 7 rfl,h30.sh.own 8 rfl,h30.sh.ok _ (List.mem_of_getElem? (i:=9) rfl)⟩ (by omega) (by omega) (by omega))) (wanted_none rfl _) ?_
 rintro a31 w31 ⟨_,⟨hv31,hs31⟩,hf31⟩
 obtain ⟨ins,hins⟩:∃i,i=nextIns (nth code.l n).l (nth thr.l n).pc:=⟨_,rfl⟩
 rw [←hins] at hv31
 subst hv31
 have h31:St 196 K W a31 w31 _ _:=⟨hf31,h30.sh.call0 hs31⟩
 clear hf31 hs31
 clear h30
 refine gG h31<|gRn (oM 1 rfl<|oxt rfl<|oxt rfl<|.nl)<|gal ti_32 rfl fun b32=>gsw 0 ti_32 rfl rfl rfl<|gRn (oM 1 rfl<|.nl)<|nK k28<|?_;clear h31
 have hR:=hio (by omega)
 rw [←hins] at hR
 have hab9:=able_of hmk (by omega)
 change (nth thr.l n).pc<_∧ableL owner.l (nth (M.qs q) n).length (nextIns (nth code.l n).l (nth thr.l n).pc)=true at hab9
 rw [←hins] at hab9
 have hab:=hab_of hab9.2
 refine sK fun _ k34=>gRn (oM 1 rfl<|onl rfl<|ofE fl_189_0 rfl<|olI ti_3 (aO 4 rfl) om9 rfl<|oadI _ _ om9 rfl<|onl rfl<|ofE fl_189_0 rfl<|.nl)<|gte 4 ({ nth thr.l n with pc:=((nth thr.l n).pc)+1 } :ThQ) ti_3 om9 rfl rfl<|nK k34<|gF [0,3,4,5] rfl<|?_
 obtain ⟨tl,htl⟩:∃tl,tl=thr.l.set n ({ nth thr.l n with pc:=((nth thr.l n).pc)+1 }):=⟨_,rfl⟩
 intro a36 w36 h36
 have h369:=h36.relist (i:=4) (l' :=tl) rfl htl.symm
 clear h36
 rw [qset_0 hrv] at htl
 have htll:tl.length=thr.l.length:=by rw [htl,List.length_set]
 have hrv2:(nth tl n).rv=regs.v:=by rw [htl,nth_set,if_pos ⟨rfl,ht⟩]
 have hpc2:(nth tl n).pc=(nth thr.l n).pc+1:=by rw [htl,nth_set,if_pos ⟨rfl,ht⟩]
 refine gG h369<|sG (oM 1 rfl<|onl rfl<|ofE fl_189_1 rfl<|oV (Rn.same (r_lde (s:=(⟨thr.v,tl⟩:Ls ThQ)) (i:=n) (v:=((nth tl n).rv)) ti_23 rfl rfl rfl (fun w h=>(h.own 4 rfl)) (show n<tl.length from om9) (Nat.le_of_ble_eq_true rfl) rfl) hrv2) rfl<|oM 1 rfl<|.nl)<|sG (ofB fl_32_0 rfl<|olB 0 ti_3 rfl rfl<|.nl)<|gB<|sG (oeqI _ _ rfl<|oM 1 rfl<|.nl)<|?_;clear h369
 refine gcd rfl (fun hb40 hp40=> ?_) fun hb40 hp40=> ?_
 ·skip
  have q9:=hR.o1 (by omega)
  refine gL<|gNl (aO 5 rfl) fun hl41=>gRn (oM 1 rfl<|ofB fl_32_1 rfl<|olB 0 ti_3 rfl rfl<|ofB fl_32_2 rfl<|olB 0 ti_3 rfl rfl<|oxI sl_23 ti_3 (aO 5 rfl) om9 rfl<|.nl)<|gte 5 (ins.b:Int) ti_3 om9 rfl rfl<|nN<|fun a43 w43 h43=> ?_
  try simp only [Exit.then,Exit.inBlock,if_true]
  refine x_end0 (fn:=Tryz.f123) rfl h43 ?_
  have hz:=(h43.sh.sel (L' := [_,_,_,_,_,_,_,_,_,_]) [2,3,4,5,6,7,8,9,10,11] rfl)
  refine ⟨rfl,⟨regs.v,regs.l.set ins.a.toNat ins.b⟩,⟨words.v,words.l⟩,⟨owner.v,owner.l⟩,⟨prints.v,prints.l⟩,q,nth (M.qs q) n,(nth thr.l n).pc+1,fell,(list_set_nth _ _).symm, ?_, ?_⟩
  · refine Eq.trans ?_ (doT_0 (by omega)).symm;show _=execT M.m n (nextIns (nth code.l n).l (nth thr.l n).pc) _;rw [←hins];(refine Eq.trans ?_ (execT_1 (by assumption)).symm;rfl)
  · rw [htl] at hz;exact hz
 refine sG (oeqI _ _ rfl<|oM 1 rfl<|.nl)<|gcd rfl (fun hb45 hp45=> ?_) fun hb45 hp45=> ?_
 ·skip
  have q9:=hR.o2 (by omega)
  refine gNl (aO 5 rfl) fun hl46=>rT 9 [] (oM 1 rfl<|ofB fl_32_1 rfl<|olB 0 ti_3 rfl rfl<|oM 1 rfl<|ofB fl_32_2 rfl<|olB 0 ti_3 rfl rfl<|oxI sl_23 ti_3 (aO 5 rfl) om9 rfl<|olI ti_3 (aO 5 rfl) om9 rfl<|oxI sl_23 ti_3 (aO 5 rfl) om9 rfl<|.nl)<|gte 5 (nth regs.l ins.b.toNat:Int) ti_3 om9 rfl rfl<|nN<|fun a48 w48 h48=> ?_
  try simp only [Exit.then,Exit.inBlock,if_true]
  refine x_end0 (fn:=Tryz.f123) rfl h48 ?_
  have hz:=(h48.sh.sel (L' := [_,_,_,_,_,_,_,_,_,_]) [2,3,4,5,6,7,8,9,10,11] rfl)
  refine ⟨rfl,⟨regs.v,regs.l.set ins.a.toNat (nth regs.l ins.b.toNat)⟩,⟨words.v,words.l⟩,⟨owner.v,owner.l⟩,⟨prints.v,prints.l⟩,q,nth (M.qs q) n,(nth thr.l n).pc+1,fell,(list_set_nth _ _).symm, ?_, ?_⟩
  · refine Eq.trans ?_ (doT_0 (by omega)).symm;show _=execT M.m n (nextIns (nth code.l n).l (nth thr.l n).pc) _;rw [←hins];(refine Eq.trans ?_ (execT_2 (by assumption)).symm;rfl)
  · rw [htl] at hz;exact hz
 refine sG (oeqI _ _ rfl<|oM 1 rfl<|.nl)<|gcd rfl (fun hb50 hp50=> ?_) fun hb50 hp50=> ?_
 ·skip
  have q9:=hR.o3 (by omega)
  refine gNl (aO 5 rfl) fun hl51=>rT 15 [] (oM 1 rfl<|ofB fl_32_1 rfl<|olB 0 ti_3 rfl rfl<|oM 1 rfl<|ofB fl_32_2 rfl<|olB 0 ti_3 rfl rfl<|oxI sl_23 ti_3 (aO 5 rfl) om9 rfl<|olI ti_3 (aO 5 rfl) om9 rfl<|oM 1 rfl<|ofB fl_32_3 rfl<|olB 0 ti_3 rfl rfl<|oxI sl_23 ti_3 (aO 5 rfl) om9 rfl<|olI ti_3 (aO 5 rfl) om9 rfl<|oV (r_addW (p:=nth regs.l ins.b.toNat) (q:=nth regs.l ins.c.toNat) rfl rfl rfl) rfl<|oxI sl_23 ti_3 (aO 5 rfl) om9 rfl<|.nl)<|gte 5 (wrap64 ((nth regs.l ins.b.toNat)+(nth regs.l ins.c.toNat)):Int) ti_3 om9 rfl rfl<|nN<|fun a53 w53 h53=> ?_
  try simp only [Exit.then,Exit.inBlock,if_true]
  refine x_end0 (fn:=Tryz.f123) rfl h53 ?_
  have hz:=(h53.sh.sel (L' := [_,_,_,_,_,_,_,_,_,_]) [2,3,4,5,6,7,8,9,10,11] rfl)
  refine ⟨rfl,⟨regs.v,regs.l.set ins.a.toNat (wrap64 ((nth regs.l ins.b.toNat)+(nth regs.l ins.c.toNat)))⟩,⟨words.v,words.l⟩,⟨owner.v,owner.l⟩,⟨prints.v,prints.l⟩,q,nth (M.qs q) n,(nth thr.l n).pc+1,fell,(list_set_nth _ _).symm, ?_, ?_⟩
  · refine Eq.trans ?_ (doT_0 (by omega)).symm;show _=execT M.m n (nextIns (nth code.l n).l (nth thr.l n).pc) _;rw [←hins];(refine Eq.trans ?_ (execT_3 (by assumption)).symm;rfl)
  · rw [htl] at hz;exact hz
 refine sG (oeqI _ _ rfl<|oM 1 rfl<|.nl)<|gcd rfl (fun hb55 hp55=> ?_) fun hb55 hp55=> ?_
 ·skip
  have q9:=hR.o3 (by omega)
  refine gNl (aO 5 rfl) fun hl56=>rT 15 [] (oM 1 rfl<|ofB fl_32_1 rfl<|olB 0 ti_3 rfl rfl<|oM 1 rfl<|ofB fl_32_2 rfl<|olB 0 ti_3 rfl rfl<|oxI sl_23 ti_3 (aO 5 rfl) om9 rfl<|olI ti_3 (aO 5 rfl) om9 rfl<|oM 1 rfl<|ofB fl_32_3 rfl<|olB 0 ti_3 rfl rfl<|oxI sl_23 ti_3 (aO 5 rfl) om9 rfl<|olI ti_3 (aO 5 rfl) om9 rfl<|oV (r_subW (p:=nth regs.l ins.b.toNat) (q:=nth regs.l ins.c.toNat) rfl rfl rfl) rfl<|oxI sl_23 ti_3 (aO 5 rfl) om9 rfl<|.nl)<|gte 5 (wrap64 ((nth regs.l ins.b.toNat)-(nth regs.l ins.c.toNat)):Int) ti_3 om9 rfl rfl<|nN<|fun a58 w58 h58=> ?_
  try simp only [Exit.then,Exit.inBlock,if_true]
  refine x_end0 (fn:=Tryz.f123) rfl h58 ?_
  have hz:=(h58.sh.sel (L' := [_,_,_,_,_,_,_,_,_,_]) [2,3,4,5,6,7,8,9,10,11] rfl)
  refine ⟨rfl,⟨regs.v,regs.l.set ins.a.toNat (wrap64 ((nth regs.l ins.b.toNat)-(nth regs.l ins.c.toNat)))⟩,⟨words.v,words.l⟩,⟨owner.v,owner.l⟩,⟨prints.v,prints.l⟩,q,nth (M.qs q) n,(nth thr.l n).pc+1,fell,(list_set_nth _ _).symm, ?_, ?_⟩
  · refine Eq.trans ?_ (doT_0 (by omega)).symm;show _=execT M.m n (nextIns (nth code.l n).l (nth thr.l n).pc) _;rw [←hins];(refine Eq.trans ?_ (execT_4 (by assumption)).symm;rfl)
  · rw [htl] at hz;exact hz
 refine sG (oeqI _ _ rfl<|oM 1 rfl<|.nl)<|gcd rfl (fun hb60 hp60=> ?_) fun hb60 hp60=> ?_
 ·skip
  have q9:=hR.o3 (by omega)
  refine gNl (aO 5 rfl) fun hl61=>rT 15 [] (oM 1 rfl<|ofB fl_32_1 rfl<|olB 0 ti_3 rfl rfl<|oM 1 rfl<|ofB fl_32_2 rfl<|olB 0 ti_3 rfl rfl<|oxI sl_23 ti_3 (aO 5 rfl) om9 rfl<|olI ti_3 (aO 5 rfl) om9 rfl<|oM 1 rfl<|ofB fl_32_3 rfl<|olB 0 ti_3 rfl rfl<|oxI sl_23 ti_3 (aO 5 rfl) om9 rfl<|olI ti_3 (aO 5 rfl) om9 rfl<|oV (r_mulW (p:=nth regs.l ins.b.toNat) (q:=nth regs.l ins.c.toNat) rfl rfl rfl) rfl<|oxI sl_23 ti_3 (aO 5 rfl) om9 rfl<|.nl)<|gte 5 (wrap64 ((nth regs.l ins.b.toNat)*(nth regs.l ins.c.toNat)):Int) ti_3 om9 rfl rfl<|nN<|fun a63 w63 h63=> ?_
  try simp only [Exit.then,Exit.inBlock,if_true]
  refine x_end0 (fn:=Tryz.f123) rfl h63 ?_
  have hz:=(h63.sh.sel (L' := [_,_,_,_,_,_,_,_,_,_]) [2,3,4,5,6,7,8,9,10,11] rfl)
  refine ⟨rfl,⟨regs.v,regs.l.set ins.a.toNat (wrap64 ((nth regs.l ins.b.toNat)*(nth regs.l ins.c.toNat)))⟩,⟨words.v,words.l⟩,⟨owner.v,owner.l⟩,⟨prints.v,prints.l⟩,q,nth (M.qs q) n,(nth thr.l n).pc+1,fell,(list_set_nth _ _).symm, ?_, ?_⟩
  · refine Eq.trans ?_ (doT_0 (by omega)).symm;show _=execT M.m n (nextIns (nth code.l n).l (nth thr.l n).pc) _;rw [←hins];(refine Eq.trans ?_ (execT_5 (by assumption)).symm;rfl)
  · rw [htl] at hz;exact hz
 refine sG (oeqI _ _ rfl<|oM 1 rfl<|.nl)<|gcd rfl (fun hb65 hp65=> ?_) fun hb65 hp65=> ?_
 ·skip
  have q9:=hR.o3 (by omega)
  intro a67 w67 h67
  refine x_tail 16 [] (by kernel_rfl) (by kernel_rfl) h67 fun _ z68=>qQ h67.fr<|qRn (oM 1 rfl<|ofB fl_32_1 rfl<|olB 0 ti_3 rfl rfl<|oM 1 rfl<|ofB fl_32_2 rfl<|olB 0 ti_3 rfl rfl<|.nl)<|?_
  have hl69:regs.l.length≤140737488355328:=(h67.sh.own 5 rfl).len
  refine qRn (oxI sl_23 ti_3 (aO 5 rfl) om9 rfl<|olI ti_3 (aO 5 rfl) om9 rfl<|oM 1 rfl<|ofB fl_32_3 rfl<|olB 0 ti_3 rfl rfl<|oxI sl_23 ti_3 (aO 5 rfl) om9 rfl<|olI ti_3 (aO 5 rfl) om9 rfl<|oltI _ _ rfl<|.nl)<|qP bd_145 rfl (fun w h=>(pbit_c (decide (nth regs.l ins.b.toNat<nth regs.l ins.c.toNat)) _))<|qRn (oxI sl_23 ti_3 (aO 5 rfl) om9 rfl<|.nl)<|qN z68<|gte 5 (bit (decide (nth regs.l ins.b.toNat<nth regs.l ins.c.toNat)):Int) ti_3 om9 rfl rfl<|nN<|fun a71 w71 h71=> ?_;clear h67
  try simp only [Exit.then,Exit.inBlock,if_true]
  refine x_end0 (fn:=Tryz.f123) rfl h71 ?_
  have hz:=(h71.sh.sel (L' := [_,_,_,_,_,_,_,_,_,_]) [2,3,4,5,6,7,8,9,10,11] rfl)
  refine ⟨rfl,⟨regs.v,regs.l.set ins.a.toNat (bit (decide (nth regs.l ins.b.toNat<nth regs.l ins.c.toNat)))⟩,⟨words.v,words.l⟩,⟨owner.v,owner.l⟩,⟨prints.v,prints.l⟩,q,nth (M.qs q) n,(nth thr.l n).pc+1,fell,(list_set_nth _ _).symm, ?_, ?_⟩
  · refine Eq.trans ?_ (doT_0 (by omega)).symm;show _=execT M.m n (nextIns (nth code.l n).l (nth thr.l n).pc) _;rw [←hins];(refine Eq.trans ?_ (execT_6 (by assumption)).symm;rfl)
  · rw [htl] at hz;exact hz
 refine sG (oeqI _ _ rfl<|oM 1 rfl<|.nl)<|gcd rfl (fun hb73 hp73=> ?_) fun hb73 hp73=> ?_
 ·skip
  have q9:=hR.o3 (by omega)
  intro a75 w75 h75
  refine x_tail 16 [] (by kernel_rfl) (by kernel_rfl) h75 fun _ z76=>qQ h75.fr<|qRn (oM 1 rfl<|ofB fl_32_1 rfl<|olB 0 ti_3 rfl rfl<|oM 1 rfl<|ofB fl_32_2 rfl<|olB 0 ti_3 rfl rfl<|.nl)<|?_
  have hl77:regs.l.length≤140737488355328:=(h75.sh.own 5 rfl).len
  refine qRn (oxI sl_23 ti_3 (aO 5 rfl) om9 rfl<|olI ti_3 (aO 5 rfl) om9 rfl<|oM 1 rfl<|ofB fl_32_3 rfl<|olB 0 ti_3 rfl rfl<|oxI sl_23 ti_3 (aO 5 rfl) om9 rfl<|olI ti_3 (aO 5 rfl) om9 rfl<|oeqI _ _ rfl<|.nl)<|qP bd_145 rfl (fun w h=>(pbit_c (decide (nth regs.l ins.b.toNat=nth regs.l ins.c.toNat)) _))<|qRn (oxI sl_23 ti_3 (aO 5 rfl) om9 rfl<|.nl)<|qN z76<|gte 5 (bit (decide (nth regs.l ins.b.toNat=nth regs.l ins.c.toNat)):Int) ti_3 om9 rfl rfl<|nN<|fun a79 w79 h79=> ?_;clear h75
  try simp only [Exit.then,Exit.inBlock,if_true]
  refine x_end0 (fn:=Tryz.f123) rfl h79 ?_
  have hz:=(h79.sh.sel (L' := [_,_,_,_,_,_,_,_,_,_]) [2,3,4,5,6,7,8,9,10,11] rfl)
  refine ⟨rfl,⟨regs.v,regs.l.set ins.a.toNat (bit (decide (nth regs.l ins.b.toNat=nth regs.l ins.c.toNat)))⟩,⟨words.v,words.l⟩,⟨owner.v,owner.l⟩,⟨prints.v,prints.l⟩,q,nth (M.qs q) n,(nth thr.l n).pc+1,fell,(list_set_nth _ _).symm, ?_, ?_⟩
  · refine Eq.trans ?_ (doT_0 (by omega)).symm;show _=execT M.m n (nextIns (nth code.l n).l (nth thr.l n).pc) _;rw [←hins];(refine Eq.trans ?_ (execT_7 (by assumption)).symm;rfl)
  · rw [htl] at hz;exact hz
 refine sG (oeqI _ _ rfl<|oM 1 rfl<|.nl)<|gcd rfl (fun hb81 hp81=> ?_) fun hb81 hp81=> ?_
 ·skip
  refine gL<|gRn (oM 1 rfl<|ofB fl_32_1 rfl<|olB 0 ti_3 rfl rfl<|onl rfl<|ofE fl_189_0 rfl<|.nl)<|gte 4 ({ nth tl n with pc:=ins.a } :ThQ) ti_3 om9 rfl rfl<|nN<|fun a83 w83 h83=> ?_
  try simp only [Exit.then,Exit.inBlock,if_true]
  refine x_end0 (fn:=Tryz.f123) rfl h83 ?_
  have hz:=(h83.sh.sel (L' := [_,_,_,_,_,_,_,_,_,_]) [2,3,4,5,6,7,8,9,10,11] rfl)
  refine ⟨rfl,⟨regs.v,regs.l⟩,⟨words.v,words.l⟩,⟨owner.v,owner.l⟩,⟨prints.v,prints.l⟩,q,nth (M.qs q) n,ins.a,fell,(list_set_nth _ _).symm, ?_, ?_⟩
  · refine Eq.trans ?_ (doT_0 (by omega)).symm;show _=execT M.m n (nextIns (nth code.l n).l (nth thr.l n).pc) _;rw [←hins];(refine Eq.trans ?_ (execT_14 (by assumption)).symm;rfl)
  · rw [qset_pc ht htl] at hz;exact hz
 refine sG (oeqI _ _ rfl<|oM 1 rfl<|.nl)<|gcd rfl (fun hb85 hp85=> ?_) fun hb85 hp85=> ?_
 ·skip
  have q9:=hR.o15 (by omega)
  refine sK fun _ k86=>gNl (aO 5 rfl) fun hl87=>gRn (oM 1 rfl<|ofB fl_32_1 rfl<|olB 0 ti_3 rfl rfl<|oxI sl_23 ti_3 (aO 5 rfl) om9 rfl<|olI ti_3 (aO 5 rfl) om9 rfl<|oeqI _ _ rfl<|.nl)<|nK k86<|gF [4,5,172] rfl<|gcd rfl (fun hb88 hp88=> ?_) fun hb88 hp88=> ?_
  ·skip
   refine gL<|gRn (oM 1 rfl<|ofB fl_32_2 rfl<|olB 0 ti_3 rfl rfl<|onl rfl<|ofE fl_189_0 rfl<|.nl)<|gte 4 ({ nth tl n with pc:=ins.b } :ThQ) ti_3 om9 rfl rfl<|nN<|fun a90 w90 h90=> ?_
   try simp only [Exit.then,Exit.inBlock,if_true]
   refine x_end0 (fn:=Tryz.f123) rfl h90 ?_
   have hz:=(h90.sh.sel (L' := [_,_,_,_,_,_,_,_,_,_]) [2,3,4,5,6,7,8,9,10,11] rfl)
   refine ⟨rfl,⟨regs.v,regs.l⟩,⟨words.v,words.l⟩,⟨owner.v,owner.l⟩,⟨prints.v,prints.l⟩,q,nth (M.qs q) n,ins.b,fell,(list_set_nth _ _).symm, ?_, ?_⟩
   · refine Eq.trans ?_ (doT_0 (by omega)).symm;show _=execT M.m n (nextIns (nth code.l n).l (nth thr.l n).pc) _;rw [←hins];first|(refine Eq.trans ?_ (execT_15t (by assumption) (by assumption)).symm;rfl)|(refine Eq.trans ?_ (execT_15f (by assumption) (by assumption)).symm;rfl)
   · rw [qset_pc ht htl] at hz;exact hz
  refine gS<|fun a91 w91 h91=> ?_
  try simp only [Exit.then,Exit.inBlock,if_true]
  refine x_end0 (fn:=Tryz.f123) rfl h91 ?_
  have hz:=(h91.sh.sel (L' := [_,_,_,_,_,_,_,_,_,_]) [2,3,4,5,6,7,8,9,10,11] rfl)
  refine ⟨rfl,⟨regs.v,regs.l⟩,⟨words.v,words.l⟩,⟨owner.v,owner.l⟩,⟨prints.v,prints.l⟩,q,nth (M.qs q) n,(nth thr.l n).pc+1,fell,(list_set_nth _ _).symm, ?_, ?_⟩
  · refine Eq.trans ?_ (doT_0 (by omega)).symm;show _=execT M.m n (nextIns (nth code.l n).l (nth thr.l n).pc) _;rw [←hins];first|(refine Eq.trans ?_ (execT_15t (by assumption) (by assumption)).symm;rfl)|(refine Eq.trans ?_ (execT_15f (by assumption) (by assumption)).symm;rfl)
  · rw [htl] at hz;exact hz
 refine sG (oeqI _ _ rfl<|oM 1 rfl<|.nl)<|gF [0,3,5,7,178] rfl<|gcd rfl (fun hb93 hp93=> ?_) fun hb93 hp93=> ?_
 ·skip
  have q9:=hR.o15 (by omega)
  refine gNl (aO 5 rfl) fun hl94=>rC [12,13,16] rfl<|pR [0,1,2,3,4,5,6,7,8,9,10,11] rfl (oM 2 rfl<|onfl 2 fl_173_3 ti_23 rfl rfl<|ofB fl_179_0 rfl<|olB 1 ti_3 rfl rfl<|oM 1 rfl<|ofB fl_32_1 rfl<|olB 0 ti_3 rfl rfl<|oxI sl_23 ti_3 (aO 5 rfl) om9 rfl<|olI ti_3 (aO 5 rfl) om9 rfl<|.nl) rfl<|pX (fun _ _ h_=>x_lit (n:=2) (cs:= [.int .i64 ((n:Nat):Int), .int .i64 (nth regs.l ins.a.toNat)]) ([((n:Nat):Int),nth regs.l ins.a.toNat]:List Int) h_ sl_23 ti_3 rfl rfl rfl (by decide) rfl (by kernel_rfl) rfl (fun q hq w h=>Flat.inner _ _) (fun q hq b hb=>(Flat.on _ _ hb).elim) rfl rfl) rfl fun v95=>pR [0,1,2,3,4] rfl (oM 2 rfl<|onfl 3 fl_173_3 ti_23 rfl rfl<|.nl) rfl<|pX (fun _ _ h_=>x_app (r:=7) (rm:=0) (s:=prints) (m:=(⟨v95, [((n:Nat):Int),nth regs.l ins.a.toNat]⟩:Ls Int)) h_ sl_23 ti_3 rfl rfl rfl rfl rfl rfl rfl (fun w h=>(h.own 0 rfl)) (fun b hb=>own_on (h_.sh.ok _ (List.mem_of_getElem? (i:=0) rfl)) hb) (fun q hq b hb=>⟨q,hq,hb⟩) rfl rfl rfl inferInstance (show (prints.l.length+([((n:Nat):Int),nth regs.l ins.a.toNat]).length)*8≤140737488355328∧prints.l.length+([((n:Nat):Int),nth regs.l ins.a.toNat]).length≤140737488355328 from om9) rfl rfl) rfl fun v96=>pR [0,14,15] rfl (oM 1 rfl<|onf fl_173_3 rfl<|.nl) rfl<|pS (fun _ _ h_=>x_stb (i:=3) (vs:= [v96]) (cs' := [.iface M.T (.pointer (some M.u)), .pointer (some ⟨gp,0,none⟩),thr.v,v96, .bool fell]) h_ ti_23 rfl rfl rfl rfl rfl (cells_oneL ((h_.sh.own 7 rfl)).one) rfl (allOne_cons ((h_.sh.own 7 rfl)).one allOne_nil) (Nat.le_of_ble_eq_true rfl) rfl) rfl<|pE [] rfl (.nl) rfl<|fun a98 w98 h98=> ?_
  try simp only [Exit.then,Exit.inBlock,if_true]
  refine x_end0 (fn:=Tryz.f123) rfl h98 ?_
  have hz:=(h98.sh.sel (L' := [_,_,_,_,_,_,_,_,_,_]) [3,4,5,6,7,8,9,10,11,12] rfl)
  refine ⟨rfl,⟨regs.v,regs.l⟩,⟨words.v,words.l⟩,⟨owner.v,owner.l⟩,⟨v96,prints.l++([((n:Nat):Int),nth regs.l ins.a.toNat])⟩,q,nth (M.qs q) n,(nth thr.l n).pc+1,fell,(list_set_nth _ _).symm, ?_, ?_⟩
  · refine Eq.trans ?_ (doT_0 (by omega)).symm;show _=execT M.m n (nextIns (nth code.l n).l (nth thr.l n).pc) _;rw [←hins];(refine Eq.trans ?_ (execT_16 (by assumption)).symm;rfl)
  · rw [htl] at hz;exact hz
 refine gL<|gRn (oM 1 rfl<|ofB fl_179_0 rfl<|olB 1 ti_3 rfl rfl<|olw 0 ti_32 rfl rfl<|.nl)<|gO [2,3,4,5,6,7,8,9,10,11,0,1] rfl<|fun a104 w104 h104=> ?_
 have hp103:=h104.sh.passL (Lp:= [_,_,_,_,_,_,_,_,_,_])
 refine wl_ex (x_call h104 bd_146 rfl rfl rfl rfl rfl (pmem_c _ M g gp code (⟨thr.v,tl⟩:Ls ThQ) regs prints words owner q _ _ _ fell n ins _ hM hp103 (by show n<tl.length;omega) htn hrv2 hqn hwl hwh0 hge hR (by omega) hab)) (wanted_none rfl _) ?_
 rintro a105 w105 ⟨_,⟨rfl,regs105,words105,owner105,prints105,q105,wt105,pc105,fell105,hmq105,hmy105,hs105⟩,hf105⟩
 change Sh _ _ _ [.blk g 173 [.iface M.T (.pointer (some M.u)), .pointer (some ⟨gp,0,none⟩),thr.v,prints105.v, .bool fell105], .rblk gp 25 [code.v,pw, .int .i64 locks, .int .i64 nregs], .own 189 (⟨thr.v,tl.set n ⟨pc105,regs105.v⟩⟩:Ls ThQ), .own 3 regs105, .own 3 prints105, .blk M.g0 182 [words105.v,owner105.v], .own 3 words105, .own 3 owner105,M.X q105, .at_ code] at hs105
 have h105:St 196 K W a105 w105 _ [_,_,_,_,_,_,_,_,_,_,_,_]:=⟨hf105,h104.sh.backL (Lp:= [_,_,_,_,_,_,_,_,_,_]) hs105 (by intro A hA b hb;simp only [List.mem_cons,List.not_mem_nil,or_false] at hA;rcases hA with rfl|rfl|rfl|rfl|rfl|rfl|rfl|rfl|rfl|rfl<;>first|exact (hb:False).elim|exact Flat.noRd hb|exact .inl ⟨_,List.mem_cons_self .., .inr hb⟩|exact rdX hM hb|exact .inl ⟨_,List.mem_of_getElem? (i:=1) rfl, .inr hb⟩|exact .inl ⟨_,List.mem_of_getElem? (i:=9) rfl, .inr hb⟩|exact .inl ⟨_,by simp, .inr hb⟩)⟩
 clear hf105 hs105
 clear h104
 refine gG h105<|nN<|fun a106 w106 h106=> ?_;clear h105
 try simp only [Exit.then,Exit.inBlock,if_true]
 refine x_end0 (fn:=Tryz.f123) rfl h106 ?_
 have hz:=(h106.sh.sel (L' := [_,_,_,_,_,_,_,_,_,_]) [0,1,2,3,4,5,6,7,8,9] rfl)
 refine ⟨rfl,regs105,words105,owner105,prints105,q105,wt105,pc105,fell105,hmq105, ?_, ?_⟩
 · refine Eq.trans hmy105 ?_;refine Eq.trans ?_ (doT_0 (by omega)).symm;show _=execT M.m n (nextIns (nth code.l n).l (nth thr.l n).pc) _;rw [←hins];show execT M.m n ins ⟨(nth tl n).pc,_,_,_,_,_,_⟩=_;rw [hpc2]
 · rw [htl,List.set_set] at hz;exact hz
theorem ok_lenP {code:Ls (Ls Ins)}{words:Ls Int}{Lk R:Nat}(h:OkPg (pgN code words Lk R)):1≤code.l.length∧code.l.length≤4∧words.l.length≤64∧Lk≤4∧R≤200:=by
 have h1:=h.code
 have h2:=h.words
 have h3:=h.locks
 have h4:=h.regs
 simp only [pgN,pgOf,List.length_map] at h1 h2 h3 h4
 omega
theorem ok_clen {code:Ls (Ls Ins)}{words:Ls Int}{Lk R:Nat}(h:OkPg (pgN code words Lk R)):∀t,t<code.l.length→(nth code.l t).l.length≤400:=fun t ht=>by
 have h9:=h.len t (by rw [pgN_len];exact ht)
 rwa [pgN_code ht] at h9
theorem St.toR {N:Nat}{K:Nat→Prop}{W w:World}{a:Act}{F:List (Nat×Value)}{L:List Asn}(i:Nat){g:Nat}{E:TypeId}{cs:List Value}(h:St N K W a w F L)(hi:L[i]? =some (.blk g E cs)):St N K W a w F (L.set i (.rblk g E cs)):=
 ⟨h.fr,h.sh.put hi (Chg.refl _ _) (h.sh.blk i hi) (fun b hb=>hb.elim) (fun b hb=> .inl hb) (fun b hb=>hb.elim)⟩
def pstA (M:MemS)(g gp:Nat)(pc:List Value)(vt:Value)(rows:List ThR)(prints words owner:Ls Int)(q:M.σ)(fell:Bool)(code:Ls (Ls Ins)):List Asn:=
 [.blk g 173 [.iface M.T (.pointer (some M.u)), .pointer (some ⟨gp,0,none⟩),vt,prints.v, .bool fell], .rblk gp 25 pc, .own 189 (⟨vt,rows.map ThR.toQ⟩:Ls ThQ), .big (regA 3 rows), .own 3 prints, .blk M.g0 182 [words.v,owner.v], .own 3 words, .own 3 owner,M.X q, .at_ code]
theorem pdo_full (K:Nat→Prop)(M:MemS)(g gp:Nat)(code:Ls (Ls Ins))(vt:Value)(rows:List ThR)(prints words owner:Ls Int)(q:M.σ)(pw:Value)(locks nregs:Int)(fell:Bool)(t k:Nat)(W:World)(hM:MemI Tryz.prog 182 3 M)
  (hS:Sh K W W (pstA M g gp [code.v,pw, .int .i64 locks, .int .i64 nregs] vt rows prints words owner q fell code)) (hn:t<rows.length) (h1000:t≤1000) (hqn:t<(M.qs q).length) (hwl:(nth (M.qs q) t).length≤3) (hwh0:∀x∈nth (M.qs q) t,x.lock=true→x.what=0) (hge:∀v∈owner.l,-1≤v) (htc:t<code.l.length)
  (hpcr:0≤(nth rows t).pc∧(nth rows t).pc≤(nth code.l t).l.length) (hpcl:(nth code.l t).l.length≤1000000) (hmk:mvOK M.m (nth code.l t).l ⟨(nth rows t).pc,(nth rows t).regs.l,nth (M.qs q) t,words.l,owner.l,prints.l,fell⟩ k=true) (hpl:prints.l.length≤100000000)
  (hwt:∀j,j<(nth (M.qs q) t).length→WtOk (nth (nth (M.qs q) t) j) words owner) (hio:k=0→InsR (nth rows t).regs.l.length words.l.length owner.l.length (nextIns (nth code.l t).l (nth rows t).pc)):
  Rets Tryz.prog 123 [.pointer (some ⟨g,0,none⟩), .agg #[.int .i64 ((t:Nat):Int), .int .i64 (((k:Nat):Int)-1)]] W (fun v w' =>v= .tuple #[]∧∃(rows' :List ThR) (words' owner' prints' :Ls Int) (q' :M.σ) (fell' :Bool) (x:ThR) (y:TS),
   y=doT M.m t (nth code.l t).l k ⟨(nth rows t).pc,(nth rows t).regs.l,nth (M.qs q) t,words.l,owner.l,prints.l,fell⟩∧rows' =rows.set t x∧x.pc=y.pc∧x.regs.l=y.regs∧M.qs q' =(M.qs q).set t y.wait∧words'.l=y.words∧owner'.l=y.owner∧prints'.l=y.prints∧fell' =y.fell∧
   Sh K W w' (pstA M g gp [code.v,pw, .int .i64 locks, .int .i64 nregs] vt rows' prints' words' owner' q' fell' code)):=by
 have h1:Sh K W W (.big (regA 3 rows):: [.blk g 173 [.iface M.T (.pointer (some M.u)), .pointer (some ⟨gp,0,none⟩),vt,prints.v, .bool fell], .rblk gp 25 [code.v,pw, .int .i64 locks, .int .i64 nregs], .own 189 (⟨vt,rows.map ThR.toQ⟩:Ls ThQ), .own 3 prints, .blk M.g0 182 [words.v,owner.v], .own 3 words, .own 3 owner,M.X q, .at_ code]):=
  hS.sel [3,0,1,2,4,5,6,7,8,9] rfl
 have h2:=h1.openR t hn
 have h3:Sh K W W ([.blk g 173 [.iface M.T (.pointer (some M.u)), .pointer (some ⟨gp,0,none⟩),vt,prints.v, .bool fell], .rblk gp 25 [code.v,pw, .int .i64 locks, .int .i64 nregs], .own 189 (⟨vt,rows.map ThR.toQ⟩:Ls ThQ), .own 3 (nth rows t).regs, .own 3 prints, .blk M.g0 182 [words.v,owner.v], .own 3 words, .own 3 owner,M.X q, .at_ code]++ [.big (regA 3 (rows.eraseIdx t))]):=
  h2.sel (L' := [.blk g 173 [.iface M.T (.pointer (some M.u)), .pointer (some ⟨gp,0,none⟩),vt,prints.v, .bool fell], .rblk gp 25 [code.v,pw, .int .i64 locks, .int .i64 nregs], .own 189 (⟨vt,rows.map ThR.toQ⟩:Ls ThQ), .own 3 (nth rows t).regs, .own 3 prints, .blk M.g0 182 [words.v,owner.v], .own 3 words, .own 3 owner,M.X q, .at_ code, .big (regA 3 (rows.eraseIdx t))]) [2,3,4,0,5,6,7,8,9,10,1] rfl
 have hnt:nth (rows.map ThR.toQ) t=(nth rows t).toQ:=toQ_at hn
 refine Rets.mono (pdo_c _ M g gp code (⟨vt,rows.map ThR.toQ⟩:Ls ThQ) (nth rows t).regs prints words owner q pw locks nregs fell t k W hM h3.passL (by simpa using hn) h1000 (by rw [hnt];rfl) hqn hwl hwh0 hge htc (by rw [hnt];exact hpcr) hpcl (by rw [hnt];exact hmk) hpl hwt (by rw [hnt];exact hio)) ?_
 rintro v w' ⟨rfl,regs',words',owner',prints',q',wt,pc',fell',hq,hy,hs⟩
 have h4:=h3.backL hs (by intro A hA b hb;simp only [List.mem_cons,List.not_mem_nil,or_false] at hA;rcases hA with rfl|rfl|rfl|rfl|rfl|rfl|rfl|rfl|rfl|rfl<;>first|exact (hb:False).elim|exact Flat.noRd hb|exact rdX hM hb|exact .inl ⟨_,List.mem_of_getElem? (i:=1) rfl, .inr hb⟩|exact .inl ⟨_,List.mem_of_getElem? (i:=9) rfl, .inr hb⟩)
 have h5:=h4.sel (L' := .own 3 regs' :: .big (regA 3 (rows.eraseIdx t)):: [.blk g 173 [.iface M.T (.pointer (some M.u)), .pointer (some ⟨gp,0,none⟩),vt,prints'.v, .bool fell'], .rblk gp 25 [code.v,pw, .int .i64 locks, .int .i64 nregs], .own 189 (⟨vt,(rows.map ThR.toQ).set t ⟨pc',regs'.v⟩⟩:Ls ThQ), .own 3 prints', .blk M.g0 182 [words'.v,owner'.v], .own 3 words', .own 3 owner',M.X q', .at_ code]) [3,10,0,1,2,4,5,6,7,8,9] rfl
 have h6:=Sh.closeR (x:=⟨pc',regs'⟩) t hn h5
 rw [show (rows.map ThR.toQ).set t ⟨pc',regs'.v⟩=(rows.set t ⟨pc',regs'⟩).map ThR.toQ by rw [List.map_set];rfl] at h6
 have h7:=h6.sel (L' :=pstA M g gp [code.v,pw, .int .i64 locks, .int .i64 nregs] vt (rows.set t ⟨pc',regs'⟩) prints' words' owner' q' fell' code) [1,2,3,0,4,5,6,7,8,9] rfl
 rw [hnt] at hy
 exact ⟨rfl,rows.set t ⟨pc',regs'⟩,words',owner',prints',q',fell',⟨pc',regs'⟩,(⟨pc',regs'.l,wt,words'.l,owner'.l,prints'.l,fell'⟩:TS),hy,rfl,rfl,rfl,hq,rfl,rfl,rfl,rfl,h7⟩
theorem pbegin_c (M:MemS)(gp:Nat)(code:Ls (Ls Ins))(pw:Value)(Lk R:Nat)(W:World)(hP:Blk W gp 25 #[code.v,pw, .int .i64 ((Lk:Nat):Int), .int .i64 ((R:Nat):Int)])(hcode:code.At W)(hcl:code.l.length≤4)(hR:R≤200):
    Rets Tryz.prog 100 [.pointer (some ⟨gp,0,none⟩), .iface M.T (.pointer (some M.u))] W (fun v w' =>∃(g:Nat) (rows:List ThR) (vt:Value),v= .pointer (some ⟨g,0,none⟩)∧rows.map ThR.th=List.replicate code.l.length ⟨0,List.replicate R 0, []⟩∧Sh0 W w' [.blk g 173 [.iface M.T (.pointer (some M.u)), .pointer (some ⟨gp,0,none⟩),vt, .slice none 0 0, .bool false], .own 189 (⟨vt,rows.map ThR.toQ⟩:Ls ThQ), .big (regA 3 rows), .own 3 (⟨.slice none 0 0, []⟩:Ls Int)]):=by
 refine gen Tryz.func100 Tryz.ntmps100 (Sh0.ext (by intro A hA;simp only [List.mem_cons,List.not_mem_nil,or_false] at hA;rcases hA with rfl|rfl;exact hP;exact hcode) (by intro A hA b hb;simp only [List.mem_cons,List.not_mem_nil,or_false] at hA;rcases hA with rfl|rfl<;>exact hb):Sh (fun _=>False) W W [.rblk gp 25 [code.v,pw, .int .i64 ((Lk:Nat):Int), .int .i64 ((R:Nat):Int)], .at_ code]) rfl fun a10 h10=>gG h10<|sG (oM 1 rfl<|.nl)<|sK fun _ k12=>gRn (oM 2 rfl<|oV (r_build (cs:= [.iface M.T (.pointer (some M.u)), .pointer (some ⟨gp,0,none⟩),(.slice none 0 0),(.slice none 0 0), .bool false]) rfl rfl (by kernel_rfl)) rfl<|.nl)<|gbx rfl rfl fun b13=>gRn (oM 1 rfl<|.nl)<|nK k12<|gK fun _ k14=>sK fun _ k15=>gNl (aA 2 rfl) fun hl16=>gRn (oM 1 rfl<|onf fl_25_0 rfl<|olR 1 ti_22 rfl rfl<|oln sl_22 (aA 2 rfl) rfl<|oM 1 rfl<|.nl)<|nK k15<|gB<|fun a19 w19 h19=> ?_;clear h10
 have h18:=h19.nil (α:=ThQ) 189
 clear h19
 have h20:=h18.bigR0 3
 clear h18
 refine x_loop (fun m a w=>∃(i:Nat) (rows:List ThR) (vt:Value),(i≤code.l.length)∧(rows.length=i)∧(rows.map ThR.th=List.replicate i ⟨0,List.replicate R 0, []⟩)∧St 34 (fun _=>False) W a w [(0, .pointer (some ⟨gp,0,none⟩)),(5, .pointer (some ⟨b13,0,none⟩)),(14, .int .i64 ((code.l.length:Nat):Int)),(15, .int .i64 ((i:Nat):Int))] [.blk b13 173 [.iface M.T (.pointer (some M.u)), .pointer (some ⟨gp,0,none⟩),vt,(.slice none 0 0), .bool false], .rblk gp 25 [code.v,pw, .int .i64 ((Lk:Nat):Int), .int .i64 ((R:Nat):Int)], .at_ code, .own 189 (⟨vt,rows.map ThR.toQ⟩:Ls ThQ), .big (regA 3 rows)]∧m=code.l.length-i) ⟨_,0, [],_,(by omega),(rfl),(rfl),h20.nrm ⟨rfl,rfl,rfl,rfl,trivial⟩ [2,3,4,1,0] rfl,rfl⟩ ?_
 clear h20
 rintro m17 a17 w17 ⟨i,rows,vt,hi,hrl,hrw,h17,hm17⟩
 refine gG h17<|sG (oltN _ _ rfl<|.nl)<|gK fun _ k22=>gcd rfl (fun hb23 hp23=> ?_) fun hb23 hp23=> ?_;clear h17
 ·skip
  refine gS<|hK k22<|gK fun _ k24=>gB<|rC [9,11,12,15] rfl<|pR [0,1,2,3,4,5,6,7,8] rfl (oM 2 rfl<|onfl 0 fl_173_2 ti_171 rfl rfl<|oM 1 rfl<|onf fl_25_3 rfl<|olR 1 ti_3 rfl rfl<|.nl) rfl<|pX (fun _ _ h_=>x_make (n:=R) (0:Int) h_ sl_23 ti_3 rfl rfl rfl rfl rfl (show 8*R≤140737488355328∧R≤140737488355328 from om9) (fun w=>Flat.inner _ _) (fun b=>Flat.on _ _) rfl rfl) rfl fun v25=>pR [0,1,2,3,4,10] rfl (oM 2 rfl<|onfl 1 fl_173_2 ti_171 rfl rfl<|oV (r_buildS (cs:= [.int .i64 0,v25]) rfl rfl (fun w h=>by obtain ⟨A26,n26,c26,(e26:v25=_)⟩:=((h.own 0 rfl)).form;rw [e26];kernel_rfl)) rfl<|.nl) rfl<|pX (fun _ _ h_=>x_lit (n:=1) (cs:= [.int .i64 0,v25]) ([(⟨0,v25⟩:ThQ)]:List ThQ) h_ sl_171 ti_189 rfl rfl rfl (by decide) rfl (by kernel_rfl) rfl (fun q hq w h=>Flat.inner _ _) (fun q hq b hb=>(Flat.on _ _ hb).elim) rfl rfl) rfl fun v27=>pR [0,1,2,3,4] rfl (oM 2 rfl<|onfl 2 fl_173_2 ti_171 rfl rfl<|.nl) rfl<|pX (fun _ _ h_=>x_app1 (r:=5) (rm:=0) (s:=(⟨vt,rows.map ThR.toQ⟩:Ls ThQ)) (m:=(⟨v27, [(⟨0,v25⟩:ThQ)]⟩:Ls ThQ)) h_ sl_171 ti_189 rfl rfl rfl rfl rfl rfl rfl (fun w h=>(h.own 0 rfl)) (fun b hb=>own_on (h_.sh.ok _ (List.mem_of_getElem? (i:=0) rfl)) hb) (fun q hq b hb=>⟨q,hq,hb⟩) rfl rfl rfl (fun w h q hq j hj=>by obtain rfl:q=0:=(by simpa using hq);rcases j with _|_|j;exact rfl;exact ((h.own 1 rfl)).one;exact absurd hj (by show¬(j+2<2);omega)) (show ((rows.map ThR.toQ).length+([(⟨0,v25⟩:ThQ)]).length)*32≤140737488355328∧(rows.map ThR.toQ).length+([(⟨0,v25⟩:ThQ)]).length≤140737488355328 from om9) rfl rfl) rfl fun v28=>pR [0,13,14] rfl (oM 1 rfl<|onf fl_173_2 rfl<|.nl) rfl<|pS (fun _ _ h_=>x_stb (i:=2) (vs:= [v28]) (cs' := [.iface M.T (.pointer (some M.u)), .pointer (some ⟨gp,0,none⟩),v28,(.slice none 0 0), .bool false]) h_ ti_171 rfl rfl rfl rfl rfl (cells_oneL ((h_.sh.own 5 rfl)).one) rfl (allOne_cons ((h_.sh.own 5 rfl)).one allOne_nil) (Nat.le_of_ble_eq_true rfl) rfl) rfl<|pE [] rfl (.nl) rfl<|hK k24<|gL<|gRn (oadN _ 1 om9 rfl<|oM 1 rfl<|.nl)<|nN<|gO [1,6,0,2,3,4,5] rfl<|fun a32 w32 h32=> ?_
  have h31:=h32.foldR (x:=(⟨0,(⟨v25,List.replicate R 0⟩:Ls Int)⟩:ThR))
  clear h32
  have h33:=h31.relist (i:=5) (l' :=(rows++ [(⟨0,(⟨v25,List.replicate R 0⟩:Ls Int)⟩:ThR)]).map ThR.toQ) rfl (by simp [ThR.toQ])
  clear h31
  refine x_again ⟨_, ?_,(i+1),(rows++ [(⟨0,(⟨v25,List.replicate R 0⟩:Ls Int)⟩:ThR)]),v28, ?_, ?_, ?_,h33.nrm ⟨rfl,rfl,rfl,rfl,trivial⟩ [2,3,4,5,0] rfl,rfl⟩
  · rw [hm17];first|omega|(simp only [lens9];omega)
  · omega
  · simp [hrl]
  · rw [List.map_append,hrw,List.replicate_succ'];rfl
 refine gX<|hK k14<|sG (oM 2 rfl<|.nl)<|gR<|fun a35 w35 h35=>x_ret1 (fn:=Tryz.f100) (t:=4) rfl h35 rfl ?_
 have h36:=h35.nil (α:=Int) 3
 clear h35
 refine ⟨b13,rows,vt,rfl, ?_,(h36.sh.sel [1,4,5,0] rfl)⟩
 rw [hrw,show i=code.l.length by omega]
def Asn.emp :Asn:=⟨fun _=>False,fun _=>False,fun _=>True,fun _ _ _ _=>trivial,fun _ _ _ h=>by rcases h with h|h<;>exact h.elim⟩
theorem Sh.emp {K:Nat→Prop}{W w:World}{L:List Asn}(h:Sh K W w L):Sh K W w (Asn.emp::L):=h.push (Chg.refl _ _) trivial (fun b hb=>hb.elim) (fun b hb=>hb.elim) (fun b hb=>hb.elim)
def memP (g:Nat):MemS:=⟨Nat,fun n=>List.replicate n [],fun _=>Asn.emp,123,⟨g,0,none⟩,g,0⟩
theorem memP_nth {n t:Nat}(h:t<(List.replicate n ([]:List Wt)).length):nth (List.replicate n ([]:List Wt)) t= []:=nth_replicate _ _ _ (by simpa using h)
theorem memP_st {g n t:Nat}{x:Wt}{words owner words' owner' :Ls Int}(h:t<(List.replicate n ([]:List Wt)).length)(e1:words'.l=if x.lock=true then words.l else words.l.set x.wh.toNat x.what)(e2:owner'.l=if x.lock=true then owner.l.set x.wh.toNat (-1) else owner.l):StoreP (memP g) t x words owner n words' owner' n:=by
 refine ⟨[], ?_,fun pc regs prints fell=> ?_⟩
 ·show List.replicate n ([]:List Wt)=(List.replicate n []).set t []
  have:=list_set_nth (List.replicate n ([]:List Wt)) t
  rw [memP_nth h] at this
  exact this.symm
 ·show _=TS.store 0 ⟨pc,regs,nth (List.replicate n ([]:List Wt)) t,words.l,owner.l,prints,fell⟩ x
  rw [memP_nth h]
  unfold TS.store
  rw [if_neg (by decide),e1,e2]
  rfl
theorem memP_ok (g:Nat):MemI Tryz.prog 182 3 (memP g) where
 load w words owner q t wd h ht hl hwd:=⟨202,⟨g,0,none⟩,by kernel_rfl,bd_202,by
  rw [show nth ((memP g).qs q) t= [] from memP_nth ht]
  exact plLoad_c g words owner _ wd 0 w h.blk h.wa h.oa hwd⟩
 waits w words owner q t h ht hl:=⟨207,⟨g,0,none⟩,by kernel_rfl,bd_207,by
  rw [show nth ((memP g).qs q) t= [] from memP_nth ht]
  exact plWaits_c g words owner _ 0 0 w h.blk h.wa h.oa⟩
 freeing w words owner q t a h ht hl _:=⟨201,⟨g,0,none⟩,by kernel_rfl,bd_201,by
  rw [show nth ((memP g).qs q) t= [] from memP_nth ht]
  exact plFreeing_c g words owner _ a 0 w h.blk h.wa h.oa⟩
 ready w words owner q t h ht hl:=⟨203,⟨g,0,none⟩,by kernel_rfl,bd_203,by
  rw [show nth ((memP g).qs q) t= [] from memP_nth ht]
  exact Rets.mono (plReady_c g words owner _ 0 0 w h.blk h.wa h.oa) fun v w' hv=>⟨⟨.slice none 0 0, []⟩,hv.1,rfl,hv.2.nil 3⟩⟩
 base w words owner q h:=⟨197,⟨g,0,none⟩,by kernel_rfl,bd_197,plBase_c g words owner 0 0 0 w h.blk h.wa h.oa⟩
 store K W words owner q t wd what hS ht hl hwd:=⟨204,⟨g,0,none⟩,by kernel_rfl,bd_204,by
  have h:Sh K W W ([.blk g 182 [words.v,owner.v], .own 3 words, .own 3 owner]++ [Asn.emp]):=hS
  refine Rets.mono (plStore_c _ g words owner _ wd what W h.passL hwd) ?_
  rintro v w' ⟨rfl,hs⟩
  exact ⟨rfl,⟨words.v,words.l.set wd.toNat what⟩,owner,q,memP_st ht rfl rfl,h.backL hs (by intro A hA b hb;simp only [List.mem_cons,List.not_mem_nil,or_false] at hA;rcases hA with rfl|rfl|rfl<;>first|exact (hb:False).elim|exact Flat.noRd hb)⟩⟩
 free K W words owner q t a hS ht hl ha:=⟨200,⟨g,0,none⟩,by kernel_rfl,bd_200,by
  have h:Sh K W W ([.blk g 182 [words.v,owner.v], .own 3 words, .own 3 owner]++ [Asn.emp]):=hS
  refine Rets.mono (plFree_c _ g words owner _ a 0 W h.passL ha) ?_
  rintro v w' ⟨rfl,hs⟩
  exact ⟨rfl,words,⟨owner.v,owner.l.set a.toNat (-1)⟩,q,memP_st ht rfl rfl,h.backL hs (by intro A hA b hb;simp only [List.mem_cons,List.not_mem_nil,or_false] at hA;rcases hA with rfl|rfl|rfl<;>first|exact (hb:False).elim|exact Flat.noRd hb)⟩⟩
 swap K W words owner q t wd what hS hwd:=⟨205,⟨g,0,none⟩,by kernel_rfl,bd_205,by
  have h:Sh K W W ([.blk g 182 [words.v,owner.v], .own 3 words, .own 3 owner]++ [Asn.emp]):=hS
  refine Rets.mono (plSwap_c _ g words owner _ wd what W h.passL hwd) ?_
  rintro v w' ⟨rfl,hs⟩
  exact ⟨rfl,⟨words.v,words.l.set wd.toNat what⟩,owner,q,⟨rfl,rfl,rfl⟩,h.backL hs (by intro A hA b hb;simp only [List.mem_cons,List.not_mem_nil,or_false] at hA;rcases hA with rfl|rfl|rfl<;>first|exact (hb:False).elim|exact Flat.noRd hb)⟩⟩
 flush K W words owner q t k hS ht hl hk:=by
  exfalso
  rw [show nth ((memP g).qs q) t= [] from memP_nth ht] at hk
  exact absurd hk (by simp)
 xrd q b h:=h
theorem pnewP_c (words:Ls Int)(Lk n:Nat)(cv:Value)(nregs:Int)(W:World)(hwords:words.At W)(hwn:words.l.length≤64)(hlk:Lk≤4):
  Rets Tryz.prog 81 [.agg #[cv,words.v, .int .i64 ((Lk:Nat):Int), .int .i64 nregs]] W (fun v w' =>∃(g:Nat) (words' owner' :Ls Int),v= .pointer (some ⟨g,0,none⟩)∧words'.l=words.l∧owner'.l=List.replicate Lk (-1)∧Sh0 W w' [.blk g 182 [words'.v,owner'.v], .own 3 words', .own 3 owner',(memP g).X n]):=by
 refine Rets.mono (pnew_c words Lk cv nregs W hwords hwn hlk) ?_
 rintro v w' ⟨g,words',owner',e,h1,h2,hs⟩
 exact ⟨g,words',owner',e,h1,h2,hs.emp.sel (L' := [.blk g 182 [words'.v,owner'.v], .own 3 words', .own 3 owner',Asn.emp]) [1,2,3,0] rfl⟩
theorem eq_wtv (x y:Wt)(w:World):(binOp .eql 266 (.agg #[.bool x.lock, .int .i64 x.wh, .int .i64 x.what]) (.agg #[.bool y.lock, .int .i64 y.wh, .int .i64 y.what])).run Tryz.prog w= .ok (.bool (decide (x=y))) w:=by
 obtain ⟨a,b,c⟩:=x
 obtain ⟨a',b',c'⟩:=y
 simp [binOp,Op.equal,Op.maxDepth,go_sem]
 by_cases h1:a=a' <;>by_cases h2:b=b' <;>by_cases h3:c=c' <;>simp [h1,h2,h3]
theorem eq_wtvG (p q:Operand)(x y:Wt)(w:World):(eqGuard .eql 266 p q (.agg #[.bool x.lock, .int .i64 x.wh, .int .i64 x.what]) (.agg #[.bool y.lock, .int .i64 y.wh, .int .i64 y.what])).run Tryz.prog w= .ok () w:=by
 simp [eqGuard]
 try kernel_rfl
theorem Sh.holeAt {K:Nat→Prop}{W w:World}{L:List Asn}{α:Type}[Enc α]{R:Ls α→Asn}{E:TypeId}{v:Value}{M:List (Ls α)}{q:Nat}(h:Sh K W w L)(i:Nat)(hi:L[i]? =some (.big (holeX R E v M q))):(⟨v,rvs M⟩:Ls RV).At w:=
 own_at (E:=E) ((h.ok _ (List.mem_of_getElem? hi)).1 _ (List.mem_cons_self ..))
theorem hold_yes {l:List Wt}{ad:Int}{n:Nat}(hn:n<l.length)(e:nth l n=⟨true,ad,0⟩):(l.any fun x=>x.lock&&decide (x.wh=ad))=true:=
 List.any_eq_true.2 ⟨_,nth_mem _ _ hn,by rw [e];simp⟩
theorem hold_no {l:List Wt}{ad:Int}(hlk:∀x∈l,x.lock=true→x.what=0)(h:∀i,i<l.length→nth l i≠⟨true,ad,0⟩):(l.any fun x=>x.lock&&decide (x.wh=ad))=false:=by
 rw [List.any_eq_false]
 intro x hx hc
 obtain ⟨i,hi,rfl⟩:=List.mem_iff_getElem.1 hx
 simp only [Bool.and_eq_true,decide_eq_true_eq] at hc
 have h3:=hlk _ hx hc.1
 refine h i hi ?_
 rw [nth_lt _ _ hi]
 generalize l[i]=y at hc h3
 obtain ⟨a,b,c⟩:=y
 simp only at hc h3
 rw [hc.1,hc.2,h3]
theorem snoc_ne {l:List Wt}{y:Wt}{n:Nat}(h:∀i,i<n→nth l i≠y)(h2:¬nth l n=y):∀i,i<n+1→nth l i≠y:=fun i hi=>by
 rcases Nat.lt_or_eq_of_le (Nat.le_of_lt_succ hi) with h3|h3
 ·exact h i h3
 ·subst h3;exact h2
theorem eraseIdx_td {α:Type}(l:List α)(k:Nat):l.eraseIdx k=l.take k++l.drop (k+1):=List.eraseIdx_eq_take_drop_succ l k
theorem cloneW_c (x:Ls Wt)(W:World)(hx:x.At W)(hl:x.l.length≤100000):
    Rets Tryz.prog 219 [x.v] W (fun v w' =>∃s:Ls Wt,v=s.v∧Sh0 W w' [.own 266 (⟨s.v,x.l⟩:Ls Wt)]):=by
 refine gen Tryz.func219 Tryz.ntmps219 (Sh0.ext1 hx:Sh (fun _=>False) W W [.at_ x]) rfl fun a10 h10=>gG h10<|sG (oM 1 rfl<|.nl)<|gK fun _ k12=>sG (oM 1 rfl<|oV (r_eqnil (s:=x) sl_267 rfl rfl rfl (fun w h=>(h.at 0 rfl))) rfl<|.nl)<|?_;clear h10
 refine gCb rfl (fun hb14=> ?_) fun hb14=> ?_
 ·skip
  refine sG (oM 1 rfl<|.nl)<|gR<|uT<|fun a16 w16 h16=>x_ret1 (fn:=Tryz.f219) (t:=2) rfl h16 rfl<|⟨⟨.slice none 0 0, []⟩,rfl, ?_⟩
  rw [nilB_nil hx (by assumption)]
  exact (h16.sh.nil (α:=Wt) 266).sel (L' := [_]) [0] rfl
 refine gS<|hK k12<|sK fun _ k17=>gE1 (fun _ _ h_=>x_lit0 (α:=Wt) h_ sl_267 ti_266 rfl rfl rfl) rfl fun v18=>gRn (oM 1 rfl<|.nl)<|gE1 (fun _ _ h_=>x_app (r:=0) (rm:=1) (s:=(⟨v18, []⟩:Ls Wt)) (m:=x) h_ sl_267 ti_266 rfl rfl rfl rfl rfl rfl rfl (fun w h=>(h.at 1 rfl)) (fun b hb=> .inr hb) (fun q hq b hb=> .inr ⟨q,hq,hb⟩) rfl rfl rfl inferInstance (show (([]).length+x.l.length)*24≤140737488355328∧([]).length+x.l.length≤140737488355328 from om9) rfl rfl) rfl fun v19=>gRn (oM 1 rfl<|.nl)<|nK k17<|gR<|fun a20 w20 h20=>x_ret1 (fn:=Tryz.f219) (t:=2) rfl h20 rfl<|⟨⟨v19, []⟩,rfl, ?_⟩
 exact (h20.sh.sel [0] rfl)
theorem deleteW_c (K:Nat→Prop)(x:Ls Wt)(i j:Nat)(W:World)(hS:Sh K W W [.own 266 x])(hij:i<j∧j≤x.l.length):
    Rets Tryz.prog 218 [x.v, .int .i64 ((i:Nat):Int), .int .i64 ((j:Nat):Int)] W (fun v w' =>∃u:Ls Wt,v=u.v∧Sh K W w' [.own 266 (⟨u.v,x.l.take i++x.l.drop j⟩:Ls Wt)]):=by
 have hcx:=own_vcap (hS.ok _ (List.mem_cons_self ..))
 have hll:(x.l.take i++x.l.drop j).length=x.l.length-(j-i):=by rw [List.length_append,List.length_take,List.length_drop];omega
 refine gen Tryz.func218 Tryz.ntmps218 hS rfl fun a10 h10=>gG h10<|sG (oM 1 rfl<|.nl)<|sK fun _ k12=>gNl (aO 0 rfl) fun hl13=>gRn (oM 4 rfl<|oln sl_267 (aO 0 rfl) rfl<|oV (r_sl3 (s:=x) (lo:=i) (hi:=j) (mx:=x.l.length) sl_267 ti_266 rfl rfl rfl rfl rfl (fun w h=>(h.own 0 rfl)) (show i≤j∧j≤x.l.length∧x.l.length≤x.l.length from om9)) rfl<|.nl)<|nK k12<|gK fun _ k14=>sG (oM 2 rfl<|oeqN _ _ rfl<|.nl)<|?_;clear h10
 refine gcd rfl (fun hb16 hp16=> ?_) fun hb16 hp16=> ?_
 ·skip
  exfalso
  omega
 refine gS<|hK k14<|sG (oM 1 rfl<|oln sl_267 (aO 0 rfl) rfl<|oM 1 rfl<|.nl)<|gK fun _ k18=>rT 6 [] (oM 2 rfl<|oV (r_slH (s:=x) (j:=i) sl_267 ti_266 rfl rfl rfl (fun w h=>(h.own 0 rfl)) (show i≤x.l.length from om9) (show 0<x.l.length from om9)) rfl<|oM 2 rfl<|oV (r_slL (s:=x) (k:=j) sl_267 ti_266 rfl rfl rfl (fun w h=>(h.own 0 rfl)) (show j≤x.l.length from om9)) rfl<|.nl)<|fun a20 w20 h20=>wl_ex (x_del2 (r:=0) (j:=i) (k:=j) (s:=x) h20 sl_267 ti_266 rfl rfl rfl rfl rfl rfl inferInstance (show i≤j∧j≤x.l.length∧0<x.l.length from (by omega)) rfl rfl) (wanted_none rfl _) ?_
 rintro a21 w21 ⟨v21,hc21,h21⟩;clear h20
 refine gG h21<|gRn (oM 1 rfl<|.nl)<|nK k18<|sK fun _ k22=>gRn (oM 2 rfl<|oln (n:=(x.l.take i++x.l.drop j).length) sl_267 (aO 0 rfl) rfl<|oM 1 rfl<|oV (r_slTail (s:=(⟨v21,x.l.take i++x.l.drop j⟩:Ls Wt)) (lo:=(x.l.take i++x.l.drop j).length) (hi:=x.l.length) sl_267 ti_266 rfl rfl rfl rfl (fun w h=>(h.own 0 rfl)) (show (x.l.take i++x.l.drop j).length≤x.l.length∧x.l.length≤vcap v21 from om9)) rfl<|.nl)<|gE (fun _ _ h_=>x_clearT (r:=0) (hi:=x.l.length) (s:=(⟨v21,x.l.take i++x.l.drop j⟩:Ls Wt)) h_ sl_267 ti_266 rfl rfl rfl rfl rfl rfl (show (x.l.take i++x.l.drop j).length<x.l.length∧x.l.length≤vcap v21 from om9) rfl) rfl<|nK k22<|gF [0] rfl<|sG (oM 2 rfl<|.nl)<|gR<|fun a25 w25 h25=>x_ret1 (fn:=Tryz.f218) (t:=6) rfl h25 rfl ?_;clear h21
 exact ⟨⟨v21, []⟩,rfl,h25.sh⟩
theorem tbWaits_c (g1 g0:Nat)(wait:Ls (Ls Wt))(t:Nat)(ad:Int)(W:World)(hB:Blk W g1 185 #[.pointer (some ⟨g0,0,none⟩),wait.v])(hw:wait.At W)(ht:t<wait.l.length):
    Rets Tryz.prog 216 [.pointer (some ⟨g1,0,none⟩), .int .i64 ((t:Nat):Int)] W (fun v w' =>v= .int .i64 (((nth wait.l t).l.length:Nat):Int)∧Sh0 W w' []):=by
 refine gen Tryz.func216 Tryz.ntmps216 (Sh0.ext (by intro A hA;simp only [List.mem_cons,List.not_mem_nil,or_false] at hA;rcases hA with rfl|rfl;exact hB;exact hw) (by intro A hA b hb;simp only [List.mem_cons,List.not_mem_nil,or_false] at hA;rcases hA with rfl|rfl<;>exact hb):Sh (fun _=>False) W W [.rblk g1 185 [.pointer (some ⟨g0,0,none⟩),wait.v], .at_ wait]) rfl fun a10 h10=>gG h10<|sG (oM 1 rfl<|.nl)<|sK fun _ k12=>gNl (aA 1 rfl) fun hl13=>gNl (fun w h=>((h.at 1 rfl).nth t (show t<wait.l.length from (by omega)))) fun (hl14:((nth wait.l t).l).length≤140737488355328)=>gRn (oM 1 rfl<|onf fl_185_1 rfl<|olR 0 ti_183 rfl rfl<|oM 1 rfl<|oxN sl_183 ti_267 (aA 1 rfl) _ om9 rfl<|olE ((nth wait.l t).v) ti_267 (aA 1 rfl) om9 rfl<|oln (n:=((nth wait.l t).l).length) sl_267 (fun w h=>((h.at 1 rfl).nth t (show t<wait.l.length from (by omega)))) rfl<|oM 1 rfl<|.nl)<|nK k12<|gR<|fun a15 w15 h15=>x_ret1 (fn:=Tryz.f216) (t:=4) rfl h15 rfl ?_;clear h10
 exact ⟨rfl,(h15.sh.sel [] rfl)⟩
theorem tbReady_c (g1 g0:Nat)(wait:Ls (Ls Wt))(t:Nat)(ad:Int)(W:World)(hB:Blk W g1 185 #[.pointer (some ⟨g0,0,none⟩),wait.v])(hw:wait.At W)(ht:t<wait.l.length):
    Rets Tryz.prog 213 [.pointer (some ⟨g1,0,none⟩), .int .i64 ((t:Nat):Int)] W (fun v w' =>∃s:Ls Int,v=s.v∧s.l=(if (nth wait.l t).l.length=0 then [] else [0])∧Sh0 W w' [.own 3 s]):=by
 refine gen Tryz.func213 Tryz.ntmps213 (Sh0.ext (by intro A hA;simp only [List.mem_cons,List.not_mem_nil,or_false] at hA;rcases hA with rfl|rfl;exact hB;exact hw) (by intro A hA b hb;simp only [List.mem_cons,List.not_mem_nil,or_false] at hA;rcases hA with rfl|rfl<;>exact hb):Sh (fun _=>False) W W [.rblk g1 185 [.pointer (some ⟨g0,0,none⟩),wait.v], .at_ wait]) rfl fun a10 h10=>gG h10<|sG (oM 1 rfl<|.nl)<|gK fun _ k12=>sK fun _ k13=>gNl (aA 1 rfl) fun hl14=>gNl (fun w h=>((h.at 1 rfl).nth t (show t<wait.l.length from (by omega)))) fun (hl15:((nth wait.l t).l).length≤140737488355328)=>gRn (oM 1 rfl<|onf fl_185_1 rfl<|olR 0 ti_183 rfl rfl<|oM 1 rfl<|oxN sl_183 ti_267 (aA 1 rfl) _ om9 rfl<|olE ((nth wait.l t).v) ti_267 (aA 1 rfl) om9 rfl<|oln (n:=((nth wait.l t).l).length) sl_267 (fun w h=>((h.at 1 rfl).nth t (show t<wait.l.length from (by omega)))) rfl<|oeqN _ 0 rfl<|.nl)<|nK k13<|?_;clear h10
 refine gcd rfl (fun hb16 hp16=> ?_) fun hb16 hp16=> ?_
 ·skip
  refine sG (oM 1 rfl<|.nl)<|gR<|uT<|fun a18 w18 h18=>x_ret1 (fn:=Tryz.f213) (t:=4) rfl h18 rfl ?_
  exact ⟨⟨.slice none 0 0, []⟩,rfl,by rw [if_pos (by assumption)],(h18.sh.nil (α:=Int) 3).sel (L' := [_]) [0] rfl⟩
 refine gS<|hK k12<|sK fun _ k19=>gE1 (fun _ _ h_=>x_lit (n:=1) (cs:= [.int .i64 0]) ([0]:List Int) h_ sl_23 ti_3 rfl rfl rfl (by decide) rfl (by kernel_rfl) rfl (fun q hq w h=>Flat.inner _ _) (fun q hq b hb=>(Flat.on _ _ hb).elim) rfl rfl) rfl fun v20=>gRn (oM 1 rfl<|.nl)<|nK k19<|gR<|fun a21 w21 h21=>x_ret1 (fn:=Tryz.f213) (t:=4) rfl h21 rfl ?_
 exact ⟨⟨v20, [0]⟩,rfl,by rw [if_neg (by assumption)],(h21.sh.sel [0] rfl)⟩
theorem tbFreeing_c (g1 g0:Nat)(wait:Ls (Ls Wt))(t:Nat)(ad:Int)(W:World)(hB:Blk W g1 185 #[.pointer (some ⟨g0,0,none⟩),wait.v])(hw:wait.At W)(ht:t<wait.l.length)(hlk:∀x∈(nth wait.l t).l,x.lock=true→x.what=0):
    Rets Tryz.prog 211 [.pointer (some ⟨g1,0,none⟩), .int .i64 ((t:Nat):Int), .int .i64 ad] W (fun v w' =>v= .bool ((nth wait.l t).l.any fun x=>x.lock&&decide (x.wh=ad))∧Sh0 W w' []):=by
 refine gen Tryz.func211 Tryz.ntmps211 (Sh0.ext (by intro A hA;simp only [List.mem_cons,List.not_mem_nil,or_false] at hA;rcases hA with rfl|rfl;exact hB;exact hw) (by intro A hA b hb;simp only [List.mem_cons,List.not_mem_nil,or_false] at hA;rcases hA with rfl|rfl<;>exact hb):Sh (fun _=>False) W W [.rblk g1 185 [.pointer (some ⟨g0,0,none⟩),wait.v], .at_ wait]) rfl fun a10 h10=>gG h10<|sG (oM 1 rfl<|.nl)<|gK fun _ k12=>sK fun _ k13=>gNl (aA 1 rfl) fun hl14=>gNl (fun w h=>((h.at 1 rfl).nth t (show t<wait.l.length from (by omega)))) fun (hl15:((nth wait.l t).l).length≤140737488355328)=>gRn (oM 1 rfl<|onf fl_185_1 rfl<|olR 0 ti_183 rfl rfl<|oM 1 rfl<|oxN sl_183 ti_267 (aA 1 rfl) _ om9 rfl<|olE ((nth wait.l t).v) ti_267 (aA 1 rfl) om9 rfl<|oln (n:=((nth wait.l t).l).length) sl_267 (fun w h=>((h.at 1 rfl).nth t (show t<wait.l.length from (by omega)))) rfl<|oM 1 rfl<|.nl)<|nK k13<|gB<|fun a17 w17 h17=>x_loop (fun m a w=>∃(n:Nat),(n≤(nth wait.l t).l.length)∧(∀i,i<n→nth (nth wait.l t).l i≠⟨true,ad,0⟩)∧St 26 (fun _=>False) W a w [(2, .int .i64 ad),(15,(nth wait.l t).v),(16, .int .i64 ((((nth wait.l t).l).length:Nat):Int)),(17, .int .i64 ((n:Nat):Int))] [.rblk g1 185 [.pointer (some ⟨g0,0,none⟩),wait.v], .at_ wait]∧m=(nth wait.l t).l.length-n) ⟨_,0,(by omega),(fun i hi=>absurd hi (by omega)),h17.nf ⟨rfl,rfl,rfl,rfl,trivial⟩,rfl⟩ ?_;clear h10
 clear h17
 rintro m16 a16 w16 ⟨n,hn,hno,h16,hm16⟩
 refine gG h16<|sG (oltN _ _ rfl<|.nl)<|gK fun _ k19=>gcd rfl (fun hb20 hp20=> ?_) fun hb20 hp20=> ?_;clear h16
 ·skip
  refine gS<|hK k19<|gK fun _ k21=>gB<|sK fun _ k22=>gRn (oxN sl_267 ti_266 (fun w h=>((h.at 1 rfl).nth t (show t<wait.l.length from (by omega)))) _ om9 rfl<|olw2 [.bool ((nth ((nth wait.l t).l) n).lock), .int .i64 ((nth ((nth wait.l t).l) n).wh), .int .i64 ((nth ((nth wait.l t).l) n).what)] ti_266 (fun w h=>((h.at 1 rfl).nth t (show t<wait.l.length from (by omega)))) om9 rfl<|.nl)<|gal ti_266 rfl fun b23=>gsw 0 ti_266 rfl rfl rfl<|nK k22<|sG (olw 0 ti_266 rfl rfl<|oM 1 rfl<|oV (r_build (cs:= [.bool true, .int .i64 ad, .int .i64 0]) rfl rfl (by kernel_rfl)) rfl<|oV (r_eqS rfl rfl rfl (fun w=>eq_wtvG _ _ (⟨(nth ((nth wait.l t).l) n).lock,(nth ((nth wait.l t).l) n).wh,(nth ((nth wait.l t).l) n).what⟩:Wt) (⟨true,ad,0⟩:Wt) w) (fun w=>eq_wtv (⟨(nth ((nth wait.l t).l) n).lock,(nth ((nth wait.l t).l) n).wh,(nth ((nth wait.l t).l) n).what⟩:Wt) (⟨true,ad,0⟩:Wt) w)) rfl<|.nl)<|gcd rfl (fun hb26 hp26=> ?_) fun hb26 hp26=> ?_
  ·skip
   refine sG (oM 1 rfl<|.nl)<|gR<|uB<|uT<|uT<|uB<|uT<|fun a28 w28 h28=>x_ret1 (fn:=Tryz.f211) (t:=6) rfl h28 rfl ?_
   exact ⟨by rw [hold_yes (show n<(nth wait.l t).l.length by omega) (by assumption)],(h28.sh.sel [] rfl)⟩
  refine gS<|hK k21<|gL<|gRn (oadN _ 1 om9 rfl<|oM 1 rfl<|.nl)<|nN<|fun a29 w29 h29=>x_again ⟨_, ?_,n+1, ?_, ?_,h29.nrm ⟨rfl,rfl,rfl,rfl,trivial⟩ [1,2] rfl,rfl⟩
  · rw [hm16];first|omega|(simp only [lens9];omega)
  · omega
  · exact snoc_ne hno (by assumption)
 refine gX<|hK k12<|sG (oM 1 rfl<|.nl)<|gR<|fun a31 w31 h31=>x_ret1 (fn:=Tryz.f211) (t:=6) rfl h31 rfl ?_
 exact ⟨by rw [hold_no hlk fun i hi=>hno i (by omega)],(h31.sh.sel [] rfl)⟩
theorem tbStore_c (K:Nat→Prop)(g1 g0:Nat)(v9:Value)(M:List (Ls Wt))(t:Nat)(ad wd:Int)(W:World)(hS:Sh K W W [.blk g1 185 [.pointer (some ⟨g0,0,none⟩),v9], .big (matX (.own 266) 267 v9 M)])(ht:t<M.length)(hl:(nth M t).l.length≤100):
    Rets Tryz.prog 214 [.pointer (some ⟨g1,0,none⟩), .int .i64 ((t:Nat):Int), .int .i64 ad, .int .i64 wd] W (fun v w' =>v= .tuple #[]∧∃u:Ls Wt,u.l=(nth M t).l++ [⟨false,ad,wd⟩]∧Sh K W w' [.blk g1 185 [.pointer (some ⟨g0,0,none⟩),v9], .big (matX (.own 266) 267 v9 (M.set t u))]):=by
 refine gen Tryz.func214 Tryz.ntmps214 hS rfl fun a10 h10=>gG h10<|rC [15,16,18] rfl<|pR [0,1,2,3,4,5,6,7,8,9,10,11,12,13,14] rfl (oM 1 rfl<|onfl 0 fl_185_1 ti_183 rfl rfl<|oM 2 rfl<|onfl 0 fl_185_1 ti_183 rfl rfl<|oM 1 rfl<|oxN sl_183 ti_267 (fun w h=>(h.matAt 1 rfl)) _ (by rw [rvs_len];exact (show t<M.length from (by omega))) rfl<|oV (Rn.same (r_lde (s:=(⟨v9,rvs M⟩:Ls RV)) (i:=t) (v:=(nth (rvs M) t).v) ti_267 rfl rfl rfl (fun w h=>h.matAt 1 rfl) (by rw [rvs_len];exact (show t<M.length from om9)) (Nat.le_of_ble_eq_true rfl) rfl) (nth_rvs M t)) rfl<|oM 2 rfl<|oV (r_build (cs:= [.bool false, .int .i64 ad, .int .i64 wd]) rfl rfl (by kernel_rfl)) rfl<|.nl) rfl<|pX (fun _ _ h_=>x_lit (n:=1) (cs:= [.bool false, .int .i64 ad, .int .i64 wd]) ([(⟨false,ad,wd⟩:Wt)]:List Wt) h_ sl_267 ti_266 rfl rfl rfl (by decide) rfl (by kernel_rfl) rfl (fun q hq w h=>Flat.inner _ _) (fun q hq b hb=>(Flat.on _ _ hb).elim) rfl rfl) rfl fun v11=>pR [0,1,2,3,4,5,6,7,8,9,10,11] rfl (oM 1 rfl<|onfl 1 fl_185_1 ti_183 rfl rfl<|oM 2 rfl<|onfl 1 fl_185_1 ti_183 rfl rfl<|oM 1 rfl<|oxN sl_183 ti_267 (fun w h=>(h.matAt 2 rfl)) _ (by rw [rvs_len];exact (show t<M.length from (by omega))) rfl<|oV (Rn.same (r_lde (s:=(⟨v9,rvs M⟩:Ls RV)) (i:=t) (v:=(nth (rvs M) t).v) ti_267 rfl rfl rfl (fun w h=>h.matAt 2 rfl) (by rw [rvs_len];exact (show t<M.length from om9)) (Nat.le_of_ble_eq_true rfl) rfl) (nth_rvs M t)) rfl<|.nl) rfl<|pX (fun _ _ h_=>x_appMat (i:=t) (r:=2) (rm:=0) (m:=(⟨v11, [(⟨false,ad,wd⟩:Wt)]⟩:Ls Wt)) h_ sl_267 ti_266 rfl rfl rfl rfl (show t<M.length from om9) rfl rfl rfl (fun w h=>(h.own 0 rfl)) (fun b hb=>own_on (h_.sh.ok _ (List.mem_of_getElem? (i:=0) rfl)) hb) rfl rfl rfl inferInstance (show (((nth M t).l).length+([(⟨false,ad,wd⟩:Wt)]).length)*24≤140737488355328∧((nth M t).l).length+([(⟨false,ad,wd⟩:Wt)]).length≤140737488355328 from om9) rfl rfl) rfl fun v12=>pR [0,1,2,3,4,17] rfl (oM 1 rfl<|onfl 2 fl_185_1 ti_183 rfl rfl<|oM 1 rfl<|oxN sl_183 ti_267 (fun w h=>(h.holeAt 3 rfl)) _ (by rw [rvs_len];exact (show t<M.length from (by omega))) rfl<|.nl) rfl<|pS (fun _ _ h_=>x_stHole (i:=t) (r:=2) (s:=(⟨v12,(nth M t).l++([(⟨false,ad,wd⟩:Wt)])⟩:Ls Wt)) h_ ti_267 rfl rfl rfl rfl rfl (show t<M.length from om9) (h_.sh.own 0 rfl)) rfl<|pE [] rfl (.nl) rfl<|fun a14 w14 h14=> ?_;clear h10
 try simp only [Exit.then,Exit.inBlock,if_true]
 refine x_end0 (fn:=Tryz.f214) rfl h14 ?_
 exact ⟨rfl,(⟨v12,(nth M t).l++([(⟨false,ad,wd⟩:Wt)])⟩:Ls Wt),rfl,(h14.sh.sel [1,2] rfl)⟩
theorem tbFree_c (K:Nat→Prop)(g1 g0:Nat)(v9:Value)(M:List (Ls Wt))(t:Nat)(ad wd:Int)(W:World)(hS:Sh K W W [.blk g1 185 [.pointer (some ⟨g0,0,none⟩),v9], .big (matX (.own 266) 267 v9 M)])(ht:t<M.length)(hl:(nth M t).l.length≤100):
    Rets Tryz.prog 210 [.pointer (some ⟨g1,0,none⟩), .int .i64 ((t:Nat):Int), .int .i64 ad] W (fun v w' =>v= .tuple #[]∧∃u:Ls Wt,u.l=(nth M t).l++ [⟨true,ad,0⟩]∧Sh K W w' [.blk g1 185 [.pointer (some ⟨g0,0,none⟩),v9], .big (matX (.own 266) 267 v9 (M.set t u))]):=by
 refine gen Tryz.func210 Tryz.ntmps210 hS rfl fun a10 h10=>gG h10<|rC [14,15,17] rfl<|pR [0,1,2,3,4,5,6,7,8,9,10,11,12,13] rfl (oM 1 rfl<|onfl 0 fl_185_1 ti_183 rfl rfl<|oM 2 rfl<|onfl 0 fl_185_1 ti_183 rfl rfl<|oM 1 rfl<|oxN sl_183 ti_267 (fun w h=>(h.matAt 1 rfl)) _ (by rw [rvs_len];exact (show t<M.length from (by omega))) rfl<|oV (Rn.same (r_lde (s:=(⟨v9,rvs M⟩:Ls RV)) (i:=t) (v:=(nth (rvs M) t).v) ti_267 rfl rfl rfl (fun w h=>h.matAt 1 rfl) (by rw [rvs_len];exact (show t<M.length from om9)) (Nat.le_of_ble_eq_true rfl) rfl) (nth_rvs M t)) rfl<|oM 1 rfl<|oV (r_build (cs:= [.bool true, .int .i64 ad, .int .i64 0]) rfl rfl (by kernel_rfl)) rfl<|.nl) rfl<|pX (fun _ _ h_=>x_lit (n:=1) (cs:= [.bool true, .int .i64 ad, .int .i64 0]) ([(⟨true,ad,0⟩:Wt)]:List Wt) h_ sl_267 ti_266 rfl rfl rfl (by decide) rfl (by kernel_rfl) rfl (fun q hq w h=>Flat.inner _ _) (fun q hq b hb=>(Flat.on _ _ hb).elim) rfl rfl) rfl fun v11=>pR [0,1,2,3,4,5,6,7,8,9,10,11] rfl (oM 1 rfl<|onfl 1 fl_185_1 ti_183 rfl rfl<|oM 2 rfl<|onfl 1 fl_185_1 ti_183 rfl rfl<|oM 1 rfl<|oxN sl_183 ti_267 (fun w h=>(h.matAt 2 rfl)) _ (by rw [rvs_len];exact (show t<M.length from (by omega))) rfl<|oV (Rn.same (r_lde (s:=(⟨v9,rvs M⟩:Ls RV)) (i:=t) (v:=(nth (rvs M) t).v) ti_267 rfl rfl rfl (fun w h=>h.matAt 2 rfl) (by rw [rvs_len];exact (show t<M.length from om9)) (Nat.le_of_ble_eq_true rfl) rfl) (nth_rvs M t)) rfl<|.nl) rfl<|pX (fun _ _ h_=>x_appMat (i:=t) (r:=2) (rm:=0) (m:=(⟨v11, [(⟨true,ad,0⟩:Wt)]⟩:Ls Wt)) h_ sl_267 ti_266 rfl rfl rfl rfl (show t<M.length from om9) rfl rfl rfl (fun w h=>(h.own 0 rfl)) (fun b hb=>own_on (h_.sh.ok _ (List.mem_of_getElem? (i:=0) rfl)) hb) rfl rfl rfl inferInstance (show (((nth M t).l).length+([(⟨true,ad,0⟩:Wt)]).length)*24≤140737488355328∧((nth M t).l).length+([(⟨true,ad,0⟩:Wt)]).length≤140737488355328 from om9) rfl rfl) rfl fun v12=>pR [0,1,2,3,4,16] rfl (oM 1 rfl<|onfl 2 fl_185_1 ti_183 rfl rfl<|oM 1 rfl<|oxN sl_183 ti_267 (fun w h=>(h.holeAt 3 rfl)) _ (by rw [rvs_len];exact (show t<M.length from (by omega))) rfl<|.nl) rfl<|pS (fun _ _ h_=>x_stHole (i:=t) (r:=2) (s:=(⟨v12,(nth M t).l++([(⟨true,ad,0⟩:Wt)])⟩:Ls Wt)) h_ ti_267 rfl rfl rfl rfl rfl (show t<M.length from om9) (h_.sh.own 0 rfl)) rfl<|pE [] rfl (.nl) rfl<|fun a14 w14 h14=> ?_;clear h10
 try simp only [Exit.then,Exit.inBlock,if_true]
 refine x_end0 (fn:=Tryz.f210) rfl h14 ?_
 exact ⟨rfl,(⟨v12,(nth M t).l++([(⟨true,ad,0⟩:Wt)])⟩:Ls Wt),rfl,(h14.sh.sel [1,2] rfl)⟩
theorem tbFlush_c (K:Nat→Prop)(g1 g0:Nat)(v9:Value)(M:List (Ls Wt))(words owner:Ls Int)(t k:Nat)(W:World)(hS:Sh K W W [.blk g1 185 [.pointer (some ⟨g0,0,none⟩),v9], .big (matX (.own 266) 267 v9 M), .blk g0 182 [words.v,owner.v], .own 3 words, .own 3 owner])(ht:t<M.length)(hl:(nth M t).l.length≤100)(hk:k<(nth M t).l.length)(hx:WtOk (nth (nth M t).l k) words owner):
    Rets Tryz.prog 209 [.pointer (some ⟨g1,0,none⟩), .int .i64 ((t:Nat):Int), .int .i64 ((k:Nat):Int)] W (fun v w' =>v= .tuple #[]∧∃u:Ls Wt,u.l=(nth M t).l.eraseIdx k∧Sh K W w' [.blk g1 185 [.pointer (some ⟨g0,0,none⟩),v9], .big (matX (.own 266) 267 v9 (M.set t u)), .blk g0 182 [words.v,owner.v], .own 3 (⟨words.v,if (nth (nth M t).l k).lock=true then words.l else words.l.set (nth (nth M t).l k).wh.toNat (nth (nth M t).l k).what⟩:Ls Int), .own 3 (⟨owner.v,if (nth (nth M t).l k).lock=true then owner.l.set (nth (nth M t).l k).wh.toNat (-1) else owner.l⟩:Ls Int)]):=by
 refine gen Tryz.func209 Tryz.ntmps209 hS rfl fun a10 h10=>gG h10<|sK fun _ k11=>gNl (fun w h=>(h.matRow 1 rfl t (show t<M.length from (by omega)))) fun (hl12:((nth M t).l).length≤140737488355328)=>gRn (oM 1 rfl<|onfl 0 fl_185_1 ti_183 rfl rfl<|oM 1 rfl<|oxN sl_183 ti_267 (fun w h=>(h.matAt 1 rfl)) _ (by rw [rvs_len];exact (show t<M.length from (by omega))) rfl<|oV (Rn.same (r_lde (s:=(⟨v9,rvs M⟩:Ls RV)) (i:=t) (v:=(nth (rvs M) t).v) ti_267 rfl rfl rfl (fun w h=>h.matAt 1 rfl) (by rw [rvs_len];exact (show t<M.length from om9)) (Nat.le_of_ble_eq_true rfl) rfl) (nth_rvs M t)) rfl<|oM 1 rfl<|oxN sl_267 ti_266 (fun w h=>(h.matRow 1 rfl t (show t<M.length from (by omega)))) _ om9 rfl<|olw2 [.bool ((nth ((nth M t).l) k).lock), .int .i64 ((nth ((nth M t).l) k).wh), .int .i64 ((nth ((nth M t).l) k).what)] ti_266 (fun w h=>(h.matRow 1 rfl t (show t<M.length from (by omega)))) om9 rfl<|.nl)<|gal ti_266 rfl fun b13=>gsw 0 ti_266 rfl rfl rfl<|nK k11<|gK fun _ k15=>gF [0,1,2,6,7,8,9,10,11,12,13,14,15,16] rfl<|fun a19 w19 h19=>x_any ((fun Φ Ψ S a w=>(S 12=false∧S 16=false∧S 18=false∧FrI 55 S Φ Ψ a∧Sh K W w [.blk b13 266 [.bool ((nth ((nth M t).l) k).lock), .int .i64 ((nth ((nth M t).l) k).wh), .int .i64 ((nth ((nth M t).l) k).what)], .blk g1 185 [.pointer (some ⟨g0,0,none⟩),v9], .big (matX (.own 266) 267 v9 M), .blk g0 182 [words.v,owner.v], .own 3 words, .own 3 owner])∨(S 12=true∧S 16=false∧S 18=false∧∃(s7012:Ls Wt),FrI 55 S Φ (Ψ++ [(12,29,s7012.v)]) a∧Sh K W w [.own 266 (⟨s7012.v,(nth M t).l⟩:Ls Wt), .blk b13 266 [.bool ((nth ((nth M t).l) k).lock), .int .i64 ((nth ((nth M t).l) k).wh), .int .i64 ((nth ((nth M t).l) k).what)], .blk g1 185 [.pointer (some ⟨g0,0,none⟩),v9], .big (matX (.own 266) 267 v9 M), .blk g0 182 [words.v,owner.v], .own 3 words, .own 3 owner])∨(S 12=true∧S 16=true∧S 18=false∧∃(s7012:Ls Wt) (u7016:Ls Wt),FrI 55 S Φ (Ψ++ [(12,29,s7012.v),(16,33,u7016.v),(17,34, .pointer (some (padr v9 1 t 0)))]) a∧Sh K W w [.own 266 (⟨u7016.v,((nth M t).l).take k++((nth M t).l).drop (k+1)⟩:Ls Wt), .blk b13 266 [.bool ((nth ((nth M t).l) k).lock), .int .i64 ((nth ((nth M t).l) k).wh), .int .i64 ((nth ((nth M t).l) k).what)], .blk g1 185 [.pointer (some ⟨g0,0,none⟩),v9], .big (matX (.own 266) 267 v9 M), .blk g0 182 [words.v,owner.v], .own 3 words, .own 3 owner])∨(S 12=true∧S 16=true∧S 18=true∧∃(s7012:Ls Wt) (u7016:Ls Wt),FrI 55 S Φ (Ψ++ [(12,29,s7012.v),(16,33,u7016.v),(17,34, .pointer (some (padr v9 1 t 0)))]) a∧Sh K W w [.big (matX (.own 266) 267 v9 (M.set t (⟨u7016.v,((nth M t).l).take k++((nth M t).l).drop (k+1)⟩:Ls Wt))), .blk b13 266 [.bool ((nth ((nth M t).l) k).lock), .int .i64 ((nth ((nth M t).l) k).wh), .int .i64 ((nth ((nth M t).l) k).what)], .blk g1 185 [.pointer (some ⟨g0,0,none⟩),v9], .blk g0 182 [words.v,owner.v], .own 3 words, .own 3 owner])) [(0, .pointer (some ⟨g1,0,none⟩)),(1, .int .i64 ((t:Nat):Int)),(2, .int .i64 ((k:Nat):Int)),(6, .pointer (some ⟨b13,0,none⟩)),(7, .pointer (some ⟨g1,0,none⟩)),(8, .pointer (some ⟨g1,0,none⟩)),(9, .pointer (some ⟨g1,1,none⟩)),(10,v9),(11, .int .i64 ((t:Nat):Int)),(12, .pointer (some (padr v9 1 t 0))),(13,(nth M t).v),(14, .int .i64 ((k:Nat):Int)),(15, .pointer (some (padr ((nth M t).v) 3 k 0))),(16, .agg #[.bool ((nth ((nth M t).l) k).lock), .int .i64 ((nth ((nth M t).l) k).wh), .int .i64 ((nth ((nth M t).l) k).what)])] [(0,17, .pointer (some ⟨g1,0,none⟩)),(1,18, .pointer (some ⟨g1,0,none⟩)),(2,19, .pointer (some ⟨g1,1,none⟩)),(3,20,v9),(4,21, .int .i64 ((t:Nat):Int)),(5,22, .pointer (some ⟨g1,0,none⟩)),(6,23, .pointer (some ⟨g1,0,none⟩)),(7,24, .pointer (some ⟨g1,1,none⟩)),(8,25,v9),(9,26, .int .i64 ((t:Nat):Int)),(10,27, .pointer (some (padr v9 1 t 0))),(11,28,(nth M t).v),(13,30, .int .i64 ((k:Nat):Int)),(14,31, .int .i64 ((k:Nat):Int)),(15,32, .int .i64 ((k+1:Nat):Int))]) (by kernel_rfl) (by kernel_rfl) (Or.inl (⟨rfl,rfl,rfl,FrI.start h19.fr,h19.sh.drew⟩)) ?_ ?_;clear h10
 ·intro S i o ho hSi hcl hdep a w hI
  clear h19
  rcases i with _|_|_|_|_|_|_|_|_|_|_|_|_|_|_|_|_|_|_|i
  ·obtain rfl:_=o:=Option.some.inj ho
   rcases hI with ⟨ν12,ν16,ν18,φ,ς⟩|⟨ν12,ν16,ν18,s7012,φ,ς⟩|⟨ν12,ν16,ν18,s7012,u7016,φ,ς⟩|⟨_,_,ν18,_⟩
   ·exact sq φ φ.fr0 ς (r_move rfl rfl) 0 rfl rfl rfl rfl rfl rfl fun a hg=>Or.inl (⟨un rfl ν12,un rfl ν16,un rfl ν18,hg,ς⟩)
   ·exact sq φ φ.fr0 ς (r_move rfl rfl) 0 rfl rfl rfl rfl rfl rfl fun a hg=>Or.inr (Or.inl (⟨un rfl ν12,un rfl ν16,un rfl ν18,s7012,hg,ς⟩))
   ·exact sq φ φ.fr0 ς (r_move rfl rfl) 0 rfl rfl rfl rfl rfl rfl fun a hg=>Or.inr (Or.inr (Or.inl (⟨un rfl ν12,un rfl ν16,un rfl ν18,s7012,u7016,hg,ς⟩)))
   ·exact no_way (cA hcl 18 0 rfl ν18) hSi
  ·obtain rfl:_=o:=Option.some.inj ho
   have hd0:S 0=true:=depAt hdep 0 rfl rfl
   rcases hI with ⟨ν12,ν16,ν18,φ,ς⟩|⟨ν12,ν16,ν18,s7012,φ,ς⟩|⟨ν12,ν16,ν18,s7012,u7016,φ,ς⟩|⟨_,_,ν18,_⟩
   ·exact sq φ (Fr.cons φ.fr0 (φ.at_ 0 0 17 _ rfl hd0)) ς (r_nil rfl rfl) 1 rfl rfl rfl rfl rfl rfl fun a hg=>Or.inl (⟨un rfl ν12,un rfl ν16,un rfl ν18,hg,ς⟩)
   ·exact sq φ (Fr.cons φ.fr0 (φ.at_ 0 0 17 _ rfl hd0)) ς (r_nil rfl rfl) 1 rfl rfl rfl rfl rfl rfl fun a hg=>Or.inr (Or.inl (⟨un rfl ν12,un rfl ν16,un rfl ν18,s7012,hg,ς⟩))
   ·exact sq φ (Fr.cons φ.fr0 (φ.at_ 0 0 17 _ rfl hd0)) ς (r_nil rfl rfl) 1 rfl rfl rfl rfl rfl rfl fun a hg=>Or.inr (Or.inr (Or.inl (⟨un rfl ν12,un rfl ν16,un rfl ν18,s7012,u7016,hg,ς⟩)))
   ·exact no_way (cA hcl 18 1 rfl ν18) hSi
  ·obtain rfl:_=o:=Option.some.inj ho
   have hd1:S 1=true:=depAt hdep 0 rfl rfl
   rcases hI with ⟨ν12,ν16,ν18,φ,ς⟩|⟨ν12,ν16,ν18,s7012,φ,ς⟩|⟨ν12,ν16,ν18,s7012,u7016,φ,ς⟩|⟨_,_,ν18,_⟩
   ·exact sq φ (Fr.cons φ.fr0 (φ.at_ 1 1 18 _ rfl hd1)) ς (r_fieldB (r:=1) fl_185_1 rfl rfl rfl) 2 rfl rfl rfl rfl rfl rfl fun a hg=>Or.inl (⟨un rfl ν12,un rfl ν16,un rfl ν18,hg,ς⟩)
   ·exact sq φ (Fr.cons φ.fr0 (φ.at_ 1 1 18 _ rfl hd1)) ς (r_fieldB (r:=1) fl_185_1 rfl rfl rfl) 2 rfl rfl rfl rfl rfl rfl fun a hg=>Or.inr (Or.inl (⟨un rfl ν12,un rfl ν16,un rfl ν18,s7012,hg,ς⟩))
   ·exact sq φ (Fr.cons φ.fr0 (φ.at_ 1 1 18 _ rfl hd1)) ς (r_fieldB (r:=1) fl_185_1 rfl rfl rfl) 2 rfl rfl rfl rfl rfl rfl fun a hg=>Or.inr (Or.inr (Or.inl (⟨un rfl ν12,un rfl ν16,un rfl ν18,s7012,u7016,hg,ς⟩)))
   ·exact no_way (cA hcl 18 2 rfl ν18) hSi
  ·obtain rfl:_=o:=Option.some.inj ho
   have hd2:S 2=true:=depAt hdep 0 rfl rfl
   rcases hI with ⟨ν12,ν16,ν18,φ,ς⟩|⟨ν12,ν16,ν18,s7012,φ,ς⟩|⟨ν12,ν16,ν18,s7012,u7016,φ,ς⟩|⟨_,_,ν18,_⟩
   ·exact sq φ (Fr.cons φ.fr0 (φ.at_ 2 2 19 _ rfl hd2)) ς (r_ldb (i:=1) ti_183 rfl rfl rfl rfl) 3 rfl rfl rfl rfl rfl rfl fun a hg=>Or.inl (⟨un rfl ν12,un rfl ν16,un rfl ν18,hg,ς⟩)
   ·exact sq φ (Fr.cons φ.fr0 (φ.at_ 2 2 19 _ rfl hd2)) ς (r_ldb (i:=2) ti_183 rfl rfl rfl rfl) 3 rfl rfl rfl rfl rfl rfl fun a hg=>Or.inr (Or.inl (⟨un rfl ν12,un rfl ν16,un rfl ν18,s7012,hg,ς⟩))
   ·exact sq φ (Fr.cons φ.fr0 (φ.at_ 2 2 19 _ rfl hd2)) ς (r_ldb (i:=2) ti_183 rfl rfl rfl rfl) 3 rfl rfl rfl rfl rfl rfl fun a hg=>Or.inr (Or.inr (Or.inl (⟨un rfl ν12,un rfl ν16,un rfl ν18,s7012,u7016,hg,ς⟩)))
   ·exact no_way (cA hcl 18 3 rfl ν18) hSi
  ·obtain rfl:_=o:=Option.some.inj ho
   rcases hI with ⟨ν12,ν16,ν18,φ,ς⟩|⟨ν12,ν16,ν18,s7012,φ,ς⟩|⟨ν12,ν16,ν18,s7012,u7016,φ,ς⟩|⟨_,_,ν18,_⟩
   ·exact sq φ φ.fr0 ς (r_move rfl rfl) 4 rfl rfl rfl rfl rfl rfl fun a hg=>Or.inl (⟨un rfl ν12,un rfl ν16,un rfl ν18,hg,ς⟩)
   ·exact sq φ φ.fr0 ς (r_move rfl rfl) 4 rfl rfl rfl rfl rfl rfl fun a hg=>Or.inr (Or.inl (⟨un rfl ν12,un rfl ν16,un rfl ν18,s7012,hg,ς⟩))
   ·exact sq φ φ.fr0 ς (r_move rfl rfl) 4 rfl rfl rfl rfl rfl rfl fun a hg=>Or.inr (Or.inr (Or.inl (⟨un rfl ν12,un rfl ν16,un rfl ν18,s7012,u7016,hg,ς⟩)))
   ·exact no_way (cA hcl 18 4 rfl ν18) hSi
  ·obtain rfl:_=o:=Option.some.inj ho
   rcases hI with ⟨ν12,ν16,ν18,φ,ς⟩|⟨ν12,_⟩|⟨ν12,_⟩|⟨ν12,_⟩
   ·exact sq φ φ.fr0 ς (r_move rfl rfl) 5 rfl rfl rfl rfl rfl rfl fun a hg=>Or.inl (⟨un rfl ν12,un rfl ν16,un rfl ν18,hg,ς⟩)
   ·exact no_way (cA hcl 12 5 rfl ν12) hSi
   ·exact no_way (cA hcl 12 5 rfl ν12) hSi
   ·exact no_way (cA hcl 12 5 rfl ν12) hSi
  ·obtain rfl:_=o:=Option.some.inj ho
   have hd5:S 5=true:=depAt hdep 0 rfl rfl
   rcases hI with ⟨ν12,ν16,ν18,φ,ς⟩|⟨ν12,_⟩|⟨ν12,_⟩|⟨ν12,_⟩
   ·exact sq φ (Fr.cons φ.fr0 (φ.at_ 5 5 22 _ rfl hd5)) ς (r_nil rfl rfl) 6 rfl rfl rfl rfl rfl rfl fun a hg=>Or.inl (⟨un rfl ν12,un rfl ν16,un rfl ν18,hg,ς⟩)
   ·exact no_way (cA hcl 12 6 rfl ν12) hSi
   ·exact no_way (cA hcl 12 6 rfl ν12) hSi
   ·exact no_way (cA hcl 12 6 rfl ν12) hSi
  ·obtain rfl:_=o:=Option.some.inj ho
   have hd6:S 6=true:=depAt hdep 0 rfl rfl
   rcases hI with ⟨ν12,ν16,ν18,φ,ς⟩|⟨ν12,_⟩|⟨ν12,_⟩|⟨ν12,_⟩
   ·exact sq φ (Fr.cons φ.fr0 (φ.at_ 6 6 23 _ rfl hd6)) ς (r_fieldB (r:=1) fl_185_1 rfl rfl rfl) 7 rfl rfl rfl rfl rfl rfl fun a hg=>Or.inl (⟨un rfl ν12,un rfl ν16,un rfl ν18,hg,ς⟩)
   ·exact no_way (cA hcl 12 7 rfl ν12) hSi
   ·exact no_way (cA hcl 12 7 rfl ν12) hSi
   ·exact no_way (cA hcl 12 7 rfl ν12) hSi
  ·obtain rfl:_=o:=Option.some.inj ho
   have hd7:S 7=true:=depAt hdep 0 rfl rfl
   rcases hI with ⟨ν12,ν16,ν18,φ,ς⟩|⟨ν12,_⟩|⟨ν12,_⟩|⟨ν12,_⟩
   ·exact sq φ (Fr.cons φ.fr0 (φ.at_ 7 7 24 _ rfl hd7)) ς (r_ldb (i:=1) ti_183 rfl rfl rfl rfl) 8 rfl rfl rfl rfl rfl rfl fun a hg=>Or.inl (⟨un rfl ν12,un rfl ν16,un rfl ν18,hg,ς⟩)
   ·exact no_way (cA hcl 12 8 rfl ν12) hSi
   ·exact no_way (cA hcl 12 8 rfl ν12) hSi
   ·exact no_way (cA hcl 12 8 rfl ν12) hSi
  ·obtain rfl:_=o:=Option.some.inj ho
   rcases hI with ⟨ν12,ν16,ν18,φ,ς⟩|⟨ν12,_⟩|⟨ν12,_⟩|⟨ν12,_⟩
   ·exact sq φ φ.fr0 ς (r_move rfl rfl) 9 rfl rfl rfl rfl rfl rfl fun a hg=>Or.inl (⟨un rfl ν12,un rfl ν16,un rfl ν18,hg,ς⟩)
   ·exact no_way (cA hcl 12 9 rfl ν12) hSi
   ·exact no_way (cA hcl 12 9 rfl ν12) hSi
   ·exact no_way (cA hcl 12 9 rfl ν12) hSi
  ·obtain rfl:_=o:=Option.some.inj ho
   have hd8:S 8=true:=depAt hdep 0 rfl rfl
   have hd9:S 9=true:=depAt hdep 1 rfl rfl
   rcases hI with ⟨ν12,ν16,ν18,φ,ς⟩|⟨ν12,_⟩|⟨ν12,_⟩|⟨ν12,_⟩
   ·exact sq φ (Fr.cons (Fr.cons φ.fr0 (φ.at_ 8 8 25 _ rfl hd8)) (φ.at_ 9 9 26 _ rfl hd9)) ς (r_ixN (s:=(⟨v9,rvs M⟩:Ls RV)) (q:=t) sl_183 ti_267 rfl rfl rfl (fun w h=>(h.matAt 2 rfl)) (by rw [rvs_len];exact (show t<M.length from (by omega)))) 10 rfl rfl rfl rfl rfl rfl fun a hg=>Or.inl (⟨un rfl ν12,un rfl ν16,un rfl ν18,hg,ς⟩)
   ·exact no_way (cA hcl 12 10 rfl ν12) hSi
   ·exact no_way (cA hcl 12 10 rfl ν12) hSi
   ·exact no_way (cA hcl 12 10 rfl ν12) hSi
  ·obtain rfl:_=o:=Option.some.inj ho
   have hd10:S 10=true:=depAt hdep 0 rfl rfl
   rcases hI with ⟨ν12,ν16,ν18,φ,ς⟩|⟨ν12,_⟩|⟨ν12,_⟩|⟨ν12,_⟩
   ·exact sq φ (Fr.cons φ.fr0 (φ.at_ 10 10 27 _ rfl hd10)) ς (Rn.same (r_lde (s:=(⟨v9,rvs M⟩:Ls RV)) (i:=t) (v:=(nth (rvs M) t).v) ti_267 rfl rfl rfl (fun w h=>h.matAt 2 rfl) (by rw [rvs_len];exact (show t<M.length from (by omega))) (Nat.le_of_ble_eq_true rfl) rfl) (nth_rvs M t)) 11 rfl rfl rfl rfl rfl rfl fun a hg=>Or.inl (⟨un rfl ν12,un rfl ν16,un rfl ν18,hg,ς⟩)
   ·exact no_way (cA hcl 12 11 rfl ν12) hSi
   ·exact no_way (cA hcl 12 11 rfl ν12) hSi
   ·exact no_way (cA hcl 12 11 rfl ν12) hSi
  ·obtain rfl:_=o:=Option.some.inj ho
   have hd11:S 11=true:=depAt hdep 0 rfl rfl
   rcases hI with ⟨ν12,ν16,ν18,φ,ς⟩|⟨ν12,_⟩|⟨ν12,_⟩|⟨ν12,_⟩
   ·have hs:=St.mk (Fr.cons φ.fr0 (φ.at_ 11 11 28 _ rfl hd11)) ς
    refine step_ex (x_call hs bd_219 rfl rfl rfl rfl rfl (cloneW_c (nth M t) _ (hs.sh.matRow 2 rfl t (show t<M.length from (by omega))) (by first|omega|(simp only [lens9];omega)))) (wanted_none rfl _) ?_
    rintro a47 w47 ⟨_,⟨s47,rfl,hs47⟩,hf47⟩ ⟨v0,ht47⟩
    have h47:St _ K W a47 w47 _ _:=⟨hf47,hs.sh.callI hs47⟩
    clear hf47 hs47
    exact Or.inr (Or.inl (⟨upd_self _ _,un rfl ν16,un rfl ν18,s47,φ.stepW hcl hSi [0,1,2,3,4,5,6,7,8,9,10,11,12,13,14] (by kernel_rfl) (by kernel_rfl) ht47 h47.fr.defers (h47.fr.at_ 29 _ rfl) 15 rfl rfl rfl rfl,(h47.sh.sel [0,1,2,3,4,5,6] rfl)⟩))
   ·exact no_way ν12 hSi
   ·exact no_way ν12 hSi
   ·exact no_way ν12 hSi
  ·obtain rfl:_=o:=Option.some.inj ho
   rcases hI with ⟨ν12,ν16,ν18,φ,ς⟩|⟨ν12,ν16,ν18,s7012,φ,ς⟩|⟨_,ν16,_⟩|⟨_,ν16,_⟩
   ·exact sq φ φ.fr0 ς (r_move rfl rfl) 12 rfl rfl rfl rfl rfl rfl fun a hg=>Or.inl (⟨un rfl ν12,un rfl ν16,un rfl ν18,hg,ς⟩)
   ·exact sq φ φ.fr0 ς (r_move rfl rfl) 12 rfl rfl rfl rfl rfl rfl fun a hg=>Or.inr (Or.inl (⟨un rfl ν12,un rfl ν16,un rfl ν18,s7012,hg,ς⟩))
   ·exact no_way (cA hcl 16 13 rfl ν16) hSi
   ·exact no_way (cA hcl 16 13 rfl ν16) hSi
  ·obtain rfl:_=o:=Option.some.inj ho
   rcases hI with ⟨ν12,ν16,ν18,φ,ς⟩|⟨ν12,ν16,ν18,s7012,φ,ς⟩|⟨_,ν16,_⟩|⟨_,ν16,_⟩
   ·exact sq φ φ.fr0 ς (r_move rfl rfl) 13 rfl rfl rfl rfl rfl rfl fun a hg=>Or.inl (⟨un rfl ν12,un rfl ν16,un rfl ν18,hg,ς⟩)
   ·exact sq φ φ.fr0 ς (r_move rfl rfl) 13 rfl rfl rfl rfl rfl rfl fun a hg=>Or.inr (Or.inl (⟨un rfl ν12,un rfl ν16,un rfl ν18,s7012,hg,ς⟩))
   ·exact no_way (cA hcl 16 14 rfl ν16) hSi
   ·exact no_way (cA hcl 16 14 rfl ν16) hSi
  ·obtain rfl:_=o:=Option.some.inj ho
   have hd14:S 14=true:=depAt hdep 0 rfl rfl
   rcases hI with ⟨ν12,ν16,ν18,φ,ς⟩|⟨ν12,ν16,ν18,s7012,φ,ς⟩|⟨_,ν16,_⟩|⟨_,ν16,_⟩
   ·exact sq φ (Fr.cons φ.fr0 (φ.at_ 13 14 31 _ rfl hd14)) ς (r_addN (p:=k) (q:=1) rfl rfl rfl (show k+1<9223372036854775808 from (by omega))) 14 rfl rfl rfl rfl rfl rfl fun a hg=>Or.inl (⟨un rfl ν12,un rfl ν16,un rfl ν18,hg,ς⟩)
   ·exact sq φ (Fr.cons φ.fr0 (φ.at_ 13 14 31 _ rfl hd14)) ς (r_addN (p:=k) (q:=1) rfl rfl rfl (show k+1<9223372036854775808 from (by omega))) 14 rfl rfl rfl rfl rfl rfl fun a hg=>Or.inr (Or.inl (⟨un rfl ν12,un rfl ν16,un rfl ν18,s7012,hg,ς⟩))
   ·exact no_way (cA hcl 16 15 rfl ν16) hSi
   ·exact no_way (cA hcl 16 15 rfl ν16) hSi
  ·obtain rfl:_=o:=Option.some.inj ho
   have hd12:S 12=true:=depAt hdep 0 rfl rfl
   have hd13:S 13=true:=depAt hdep 1 rfl rfl
   have hd15:S 15=true:=depAt hdep 2 rfl rfl
   rcases hI with ⟨ν12,_⟩|⟨ν12,ν16,ν18,s7012,φ,ς⟩|⟨_,ν16,_⟩|⟨_,ν16,_⟩
   ·exact no_way hd12 ν12
   ·have hs:=St.mk (Fr.cons (Fr.cons (Fr.cons φ.fr0 (φ.at_ 15 12 29 _ rfl hd12)) (φ.at_ 12 13 30 _ rfl hd13)) (φ.at_ 14 15 32 _ rfl hd15)) ς
    have hp54:=hs.sh.passL (Lp:= [_])
    refine step_ex (x_call hs bd_218 rfl rfl rfl rfl rfl (deleteW_c _ (⟨s7012.v,(nth M t).l⟩:Ls Wt) k (k+1) _ hp54 (by first|omega|(simp only [lens9];omega)))) (wanted_none rfl _) ?_
    rintro a55 w55 ⟨_,⟨u55,rfl,hs55⟩,hf55⟩ ⟨v0,ht55⟩
    have h55:St _ K W a55 w55 _ [_,_,_,_,_,_,_]:=⟨hf55,hs.sh.backI (Lp:= [_]) hs55⟩
    clear hf55 hs55
    exact Or.inr (Or.inr (Or.inl (⟨un rfl ν12,upd_self _ _,un rfl ν18,s7012,u55,φ.stepW hcl hSi [0,1,2,3,4,5,6,7,8,9,10,11,12,13,14,15] (by kernel_rfl) (by kernel_rfl) ht55 h55.fr.defers (h55.fr.at_ 33 _ rfl) 16 rfl rfl rfl rfl,(h55.sh.sel [0,1,2,3,4,5,6] rfl)⟩)))
   ·exact no_way ν16 hSi
   ·exact no_way ν16 hSi
  ·obtain rfl:_=o:=Option.some.inj ho
   have hd3:S 3=true:=depAt hdep 0 rfl rfl
   have hd4:S 4=true:=depAt hdep 1 rfl rfl
   have hd12:S 12=true:=depAt hdep 14 rfl rfl
   have hd16:S 16=true:=depAt hdep 18 rfl rfl
   rcases hI with ⟨ν12,_⟩|⟨_,ν16,_⟩|⟨ν12,ν16,ν18,s7012,u7016,φ,ς⟩|⟨_,_,ν18,_⟩
   ·exact no_way hd12 ν12
   ·exact no_way hd16 ν16
   ·exact sq φ (Fr.cons (Fr.cons φ.fr0 (φ.at_ 3 3 20 _ rfl hd3)) (φ.at_ 4 4 21 _ rfl hd4)) ς (r_ixN (s:=(⟨v9,rvs M⟩:Ls RV)) (q:=t) sl_183 ti_267 rfl rfl rfl (fun w h=>(h.matAt 3 rfl)) (by rw [rvs_len];exact (show t<M.length from (by omega)))) 17 rfl rfl rfl rfl rfl rfl fun a hg=>Or.inr (Or.inr (Or.inl (⟨un rfl ν12,un rfl ν16,un rfl ν18,s7012,u7016,hg,ς⟩)))
   ·exact no_way (cA hcl 18 17 rfl ν18) hSi
  ·obtain rfl:_=o:=Option.some.inj ho
   have hd17:S 17=true:=depAt hdep 0 rfl rfl
   have hd16:S 16=true:=depAt hdep 1 rfl rfl
   have hd12:S 12=true:=depAt hdep 15 rfl rfl
   rcases hI with ⟨ν12,_⟩|⟨_,ν16,_⟩|⟨ν12,ν16,ν18,s7012,u7016,φ,ς⟩|⟨_,_,ν18,_⟩
   ·exact no_way hd12 ν12
   ·exact no_way hd16 ν16
   ·have hs:=St.mk (Fr.cons (Fr.cons φ.fr0 (φ.at_ 16 16 33 _ rfl hd16)) (φ.at_ 17 17 34 _ rfl hd17)) ς
    have ha57:=(hs.sh.own 0 rfl)
    have h58:=hs.sel (L' := [_,_,_,_,_,_,_]) [3,0,1,2,4,5,6] rfl
    refine step_ex (x_stMat (i:=t) (s:=(⟨u7016.v,((nth M t).l).take k++((nth M t).l).drop (k+1)⟩:Ls Wt)) h58 ti_267 rfl rfl rfl rfl (show t<M.length from (by omega)) ha57) (wanted_none rfl _) ?_
    rintro a59 w59 h59 ⟨v0,ht59⟩
    exact Or.inr (Or.inr (Or.inr (⟨un rfl ν12,un rfl ν16,upd_self _ _,s7012,u7016,φ.noneW hcl hSi [0,1,2,3,4,5,6,7,8,9,10,11,12,13,14,15,16,17] (by kernel_rfl) (by kernel_rfl) ht59 h59.fr.defers rfl,(h59.sh.sel [0,1,2,3,4,5] rfl)⟩)))
   ·exact no_way ν18 hSi
  · simp at ho
 intro S hall a w hI
 clear h19
 rcases hI with ⟨ν12,ν16,ν18,φ,ς⟩|⟨ν12,ν16,ν18,s7012,φ,ς⟩|⟨ν12,ν16,ν18,s7012,u7016,φ,ς⟩|⟨ν12,ν16,ν18,s7012,u7016,φ,ς⟩
 · exact no_way (hall 12 (by decide)) ν12
 · exact no_way (hall 16 (by decide)) ν16
 · exact no_way (hall 18 (by decide)) ν18
 have h60:St 55 K W a w _ _:=⟨φ.fr0,ς⟩
 clear hall φ ς ν12 ν16 ν18
 refine gG h60<|hK k15<|sG (ofB fl_266_0 rfl<|olB 1 ti_4 rfl rfl<|.nl)<|?_;clear h60
 refine gCb rfl (fun hb62=> ?_) fun hb62=> ?_
 ·skip
  unfold WtOk at hx
  rw [if_pos (by assumption)] at hx
  refine rT 7 [] (oM 1 rfl<|onfl 2 fl_185_0 ti_123 rfl rfl<|oM 1 rfl<|ofB fl_266_1 rfl<|olB 1 ti_3 rfl rfl<|.nl)<|gO [3,4,5,0,1,2] rfl<|gM 3 rfl (fun _ _ h_=>xCl h_ bd_200 rfl (plFree_c _ g0 words owner ((t:Nat):Int) ((nth ((nth M t).l) k).wh) 0 _ (pKl 3 h_ rfl) hx)) rfl<|?_
  rintro _ _ w65 ⟨rfl,hs65⟩
  refine gBk hs65 rfl<|gU<|nN<|fun a66 w66 h66=> ?_;clear hs65
  try simp only [Exit.then,Exit.inBlock,if_true]
  refine x_end0 (fn:=Tryz.f209) rfl h66 ?_
  first|rw [if_pos (by assumption),if_pos (by assumption)]|rw [if_neg (by rw [show (nth (nth M t).l k).lock=false by assumption];decide),if_neg (by rw [show (nth (nth M t).l k).lock=false by assumption];decide)]
  exact ⟨rfl,(⟨u7016.v,((nth M t).l).take k++((nth M t).l).drop (k+1)⟩:Ls Wt),(eraseIdx_td _ _).symm,(h66.sh.sel [5,3,0,1,2] rfl)⟩
 unfold WtOk at hx
 rw [if_neg (by rw [show (nth (nth M t).l k).lock=false by assumption];decide)] at hx
 refine rT 9 [] (oM 1 rfl<|onfl 2 fl_185_0 ti_123 rfl rfl<|oM 1 rfl<|ofB fl_266_1 rfl<|olB 1 ti_3 rfl rfl<|ofB fl_266_2 rfl<|olB 1 ti_3 rfl rfl<|.nl)<|gO [3,4,5,0,1,2] rfl<|gM 3 rfl (fun _ _ h_=>xCl h_ bd_204 rfl (plStore_c _ g0 words owner ((t:Nat):Int) ((nth ((nth M t).l) k).wh) ((nth ((nth M t).l) k).what) _ (pKl 3 h_ rfl) hx)) rfl<|?_
 rintro _ _ w69 ⟨rfl,hs69⟩
 refine gBk hs69 rfl<|gU<|nN<|fun a70 w70 h70=> ?_;clear hs69
 try simp only [Exit.then,Exit.inBlock,if_true]
 refine x_end0 (fn:=Tryz.f209) rfl h70 ?_
 first|rw [if_pos (by assumption),if_pos (by assumption)]|rw [if_neg (by rw [show (nth (nth M t).l k).lock=false by assumption];decide),if_neg (by rw [show (nth (nth M t).l k).lock=false by assumption];decide)]
 exact ⟨rfl,(⟨u7016.v,((nth M t).l).take k++((nth M t).l).drop (k+1)⟩:Ls Wt),(eraseIdx_td _ _).symm,(h70.sh.sel [5,3,0,1,2] rfl)⟩
theorem matX_rd {E E2:TypeId}{v:Value}{M:List (Ls Wt)}{b:Nat}(h:(Asn.big (matX (.own E) E2 v M)).rd b):False:=by
 obtain ⟨A,hA,hb⟩:=h
 rcases List.mem_cons.1 hA with rfl|hA
 ·exact Flat.noRd hb
 ·obtain ⟨s,_,rfl⟩:=List.mem_map.1 hA
  exact Flat.noRd hb
def memT (g1 g0:Nat):MemS:=⟨Ls (Ls Wt),fun q=>q.l.map (·.l),fun q=> .big [.blk g1 185 [.pointer (some ⟨g0,0,none⟩),q.v], .big (matX (.own 266) 267 q.v q.l)],125,⟨g1,0,none⟩,g0,1⟩
theorem memT_rd {g1 g0:Nat}{q:Ls (Ls Wt)}{b:Nat}(h:((memT g1 g0).X q).rd b):False:=by
 obtain ⟨A,hA,hb⟩:=h
 simp only [List.mem_cons,List.not_mem_nil,or_false] at hA
 rcases hA with rfl|rfl
 ·exact hb
 ·exact matX_rd hb
theorem memT_nth {q:Ls (Ls Wt)}{t:Nat}(h:t<(q.l.map (·.l)).length):nth (q.l.map (·.l)) t=(nth q.l t).l:=nth_map' (fun x:Ls Wt=>x.l) q.l t (by simpa using h)
theorem memT_at {g1 g0:Nat}{q:Ls (Ls Wt)}{w:World}(h:((memT g1 g0).X q).ok w):Blk w g1 185 #[.pointer (some ⟨g0,0,none⟩),q.v]∧q.At w:=by
 obtain ⟨h1,h2,h3⟩:=h
 refine ⟨h1 _ (List.mem_cons_self ..), ?_⟩
 have hb:=h1 _ (List.mem_cons_of_mem _ (List.mem_cons_self ..))
 have hs:Sh (fun _=>True) w w [.big (matX (.own 266) 267 q.v q.l)]:=⟨Chg.refl _ _,by simpa using hb,fun _ _ _ _=> .inl trivial,by
  intro A hA b _ hr
  obtain rfl:=List.mem_singleton.1 hA
  exact matX_rd hr,List.pairwise_singleton _ _⟩
 exact (hs.matDeep own_mat).deep 0 rfl
theorem memT_open {g1 g0:Nat}{K:Nat→Prop}{W w:World}{words owner:Ls Int}{q:Ls (Ls Wt)}(h:Sh K W w (memA 182 3 (memT g1 g0) words owner q)):Sh K W w ([.blk g1 185 [.pointer (some ⟨g0,0,none⟩),q.v], .big (matX (.own 266) 267 q.v q.l)]++ [.blk g0 182 [words.v,owner.v], .own 3 words, .own 3 owner]):=
 (h.sel (L' := [(memT g1 g0).X q, .blk g0 182 [words.v,owner.v], .own 3 words, .own 3 owner]) [3,0,1,2] rfl).open_
theorem memT_close {g1 g0:Nat}{K:Nat→Prop}{W w:World}{words owner:Ls Int}{q:Ls (Ls Wt)}(h:Sh K W w ([.blk g1 185 [.pointer (some ⟨g0,0,none⟩),q.v], .big (matX (.own 266) 267 q.v q.l)]++ [.blk g0 182 [words.v,owner.v], .own 3 words, .own 3 owner])):Sh K W w (memA 182 3 (memT g1 g0) words owner q):=
 (Sh.close h).sel [1,2,3,0] rfl
theorem memT_st {g1 g0 t:Nat}{x:Wt}{words owner:Ls Int}{q:Ls (Ls Wt)}{u:Ls Wt}(h:t<(q.l.map (·.l)).length)(e:u.l=(nth q.l t).l++ [x]):StoreP (memT g1 g0) t x words owner q words owner (⟨q.v,q.l.set t u⟩:Ls (Ls Wt)):=by
 refine ⟨u.l, ?_,fun pc regs prints fell=> ?_⟩
 ·show (q.l.set t u).map (·.l)=(q.l.map (·.l)).set t u.l
  rw [List.map_set]
 ·show _=TS.store 1 ⟨pc,regs,nth (q.l.map (·.l)) t,words.l,owner.l,prints,fell⟩ x
  rw [memT_nth h,e]
  unfold TS.store
  rw [if_pos (by decide)]
def embI (P:Program)(T:TypeId)(name:String):Option (FuncId×TypeId):=
 match P.info? T with
 |none=>none
 |some i=>match i.methods.find? (·.name==name) with
  |none=>none
  |some m=>match m.path.toList,m.func with
   | [st],some (f,true)=>match P.underlying st.struct with
    |some (.struct fs)=>match fs[st.index]? with
     |none=>none
     |some fd=>match P.info? fd.type,P.underlying fd.type with
      |some fi,some (.pointer _)=>if st.deref=true∧fd.offset=0∧fi.size≠0 then some (f,fd.type) else none
      |_,_=>none
    |_=>none
   |_,_=>none
theorem meth_emb {P:Program}{n g1:Nat}{T xt:TypeId}{name:String}{f:FuncId}{r:Value}{w:World}(hn:Nat.blt 0 n=true)(hI:embI P T name=some (f,xt))(hl:(loadVar xt ⟨g1,0,none⟩).run P w= .ok r w):(method n T (.pointer (some ⟨g1,0,none⟩)) name).run P w= .ok (f,r) w:=by
 obtain ⟨n,rfl⟩:∃n',n=n' +1:=⟨n-1,by rw [Nat.blt_eq] at hn;omega⟩
 unfold embI at hI
 split at hI
 ·cases hI
 rename_i i hi
 split at hI
 ·cases hI
 rename_i m hm
 split at hI
 ·rename_i st f' hp hf
  split at hI
  ·rename_i fs hfs
   split at hI
   ·cases hI
   rename_i fd hfd
   split at hI
   ·rename_i fi e hfi hfu
    split at hI
    ·rename_i hc
     cases hI
     obtain ⟨h1,h2,h3⟩:=hc
     unfold method
     simp [typeInfo,hi,hm,hp,hf,follow,run_underlying hfs,hfd,h1,Place.get,asAddr,fieldPlace,sizeOf,hfi,h3,h2,receiverAt,run_underlying hfu,hl,Addr.add]
    ·cases hI
   ·cases hI
  ·cases hI
 ·cases hI
theorem methT_ld {g1 g0:Nat}{w:World}{v:Value}(h:Blk w g1 185 #[.pointer (some ⟨g0,0,none⟩),v]):(loadVar 123 ⟨g1,0,none⟩).run Tryz.prog w= .ok (.pointer (some ⟨g0,0,none⟩)) w:=by
 have hc:=h.cells2.1
 unfold Blk at h
 simp [loadVar,World.cell?,h]
theorem mayK_tso (l:List Wt):((List.range l.length).filter (mayK 1 l)).map (fun k=>((k:Nat):Int))=if l.length=0 then [] else [0]:=by
 have e:mayK 1 l=fun k=>decide (k=0):=by
  funext k
  unfold mayK
  simp
 rw [e]
 cases h:l.length with
 |zero=>rfl
 |succ n=>
  rw [if_neg (by omega),List.range_succ_eq_map,List.filter_cons,if_pos (by rfl),List.filter_eq_nil_iff.2]
  ·rfl
  ·intro x hx
   obtain ⟨y,_,rfl⟩:=List.mem_map.1 hx
   simp
theorem memT_ok (g1 g0:Nat):MemI Tryz.prog 182 3 (memT g1 g0) where
 load w words owner q t wd h ht hl hwd:=⟨212,⟨g1,0,none⟩,by kernel_rfl,bd_212,by
  have e:nth ((memT g1 g0).qs q) t=(nth q.l t).l:=memT_nth ht
  rw [e] at hl⊢
  have ht' :t<q.l.length:=by simpa [memT] using ht
  obtain ⟨hB,hq⟩:=memT_at h.x
  obtain ⟨A,cap,hv,hA⟩:=hq
  have hr:=hA.inner t ht'
  obtain ⟨A2,cap2,hv2,hA2⟩:=hr
  have hB' :=hB
  rw [hv] at hB'
  have hc:=callsIn_wide.1 (bufLoad_in g1 g0 t ⟨A,cap,q.l⟩ ⟨A2,cap2,(nth q.l t).l⟩ words owner wd w hB' h.blk h.wa h.oa hA ht' hv2 hA2 hl hwd)
  exact Calls.mono hc fun e w' he=>⟨_,he.1,rfl,⟨Chg.below he.2,fun A hA=>(by cases hA),fun A hA=>(by cases hA),fun A hA=>(by cases hA),List.Pairwise.nil⟩⟩⟩
 waits w words owner q t h ht hl:=⟨216,⟨g1,0,none⟩,by kernel_rfl,bd_216,by
  have e:nth ((memT g1 g0).qs q) t=(nth q.l t).l:=memT_nth ht
  rw [e]
  obtain ⟨hB,hq⟩:=memT_at h.x
  exact tbWaits_c g1 g0 q t 0 w hB hq (by simpa [memT] using ht)⟩
 freeing w words owner q t a h ht hl hlk:=⟨211,⟨g1,0,none⟩,by kernel_rfl,bd_211,by
  have e:nth ((memT g1 g0).qs q) t=(nth q.l t).l:=memT_nth ht
  rw [e] at hlk⊢
  obtain ⟨hB,hq⟩:=memT_at h.x
  exact tbFreeing_c g1 g0 q t a w hB hq (by simpa [memT] using ht) hlk⟩
 ready w words owner q t h ht hl:=⟨213,⟨g1,0,none⟩,by kernel_rfl,bd_213,by
  have e:nth ((memT g1 g0).qs q) t=(nth q.l t).l:=memT_nth ht
  rw [e]
  obtain ⟨hB,hq⟩:=memT_at h.x
  refine Rets.mono (tbReady_c g1 g0 q t 0 w hB hq (by simpa [memT] using ht)) ?_
  rintro v w' ⟨s,rfl,hs,h9⟩
  exact ⟨s,rfl,hs.trans (mayK_tso _).symm,h9⟩⟩
 base w words owner q h:=⟨197,⟨g0,0,none⟩,meth_emb (xt:=123) (by kernel_rfl) (by kernel_rfl) (methT_ld (memT_at h.x).1),bd_197,plBase_c g0 words owner 0 0 0 w h.blk h.wa h.oa⟩
 store K W words owner q t wd what hS ht hl hwd:=⟨214,⟨g1,0,none⟩,by kernel_rfl,bd_214,by
  have h:=memT_open hS
  have e:nth ((memT g1 g0).qs q) t=(nth q.l t).l:=memT_nth ht
  rw [e] at hl
  refine Rets.mono (tbStore_c _ g1 g0 q.v q.l t wd what W h.passL (by simpa [memT] using ht) (by omega)) ?_
  rintro v w' ⟨rfl,u,hu,hs⟩
  exact ⟨rfl,words,owner,⟨q.v,q.l.set t u⟩,memT_st ht hu,memT_close (q:=⟨q.v,q.l.set t u⟩) (h.backL hs (by intro A hA b hb;simp only [List.mem_cons,List.not_mem_nil,or_false] at hA;rcases hA with rfl|rfl<;>first|exact (hb:False).elim|exact Flat.noRd hb|exact (matX_rd hb).elim))⟩⟩
 free K W words owner q t a hS ht hl ha:=⟨210,⟨g1,0,none⟩,by kernel_rfl,bd_210,by
  have h:=memT_open hS
  have e:nth ((memT g1 g0).qs q) t=(nth q.l t).l:=memT_nth ht
  rw [e] at hl
  refine Rets.mono (tbFree_c _ g1 g0 q.v q.l t a 0 W h.passL (by simpa [memT] using ht) (by omega)) ?_
  rintro v w' ⟨rfl,u,hu,hs⟩
  exact ⟨rfl,words,owner,⟨q.v,q.l.set t u⟩,memT_st ht hu,memT_close (q:=⟨q.v,q.l.set t u⟩) (h.backL hs (by intro A hA b hb;simp only [List.mem_cons,List.not_mem_nil,or_false] at hA;rcases hA with rfl|rfl<;>first|exact (hb:False).elim|exact Flat.noRd hb|exact (matX_rd hb).elim))⟩⟩
 swap K W words owner q t wd what hS hwd:=⟨205,⟨g0,0,none⟩,meth_emb (xt:=123) (by kernel_rfl) (by kernel_rfl) (methT_ld (memT_at (hS.ok _ (List.mem_cons_of_mem _ (List.mem_cons_of_mem _ (List.mem_cons_of_mem _ (List.mem_cons_self ..)))))).1),bd_205,by
  have h:Sh K W W ([.blk g0 182 [words.v,owner.v], .own 3 words, .own 3 owner]++ [(memT g1 g0).X q]):=hS
  refine Rets.mono (plSwap_c _ g0 words owner _ wd what W h.passL hwd) ?_
  rintro v w' ⟨rfl,hs⟩
  exact ⟨rfl,⟨words.v,words.l.set wd.toNat what⟩,owner,q,⟨rfl,rfl,rfl⟩,h.backL hs (by intro A hA b hb;simp only [List.mem_cons,List.not_mem_nil,or_false] at hA;rcases hA with rfl|rfl|rfl<;>first|exact (hb:False).elim|exact Flat.noRd hb)⟩⟩
 flush K W words owner q t k hS ht hl hk hw:=⟨209,⟨g1,0,none⟩,by kernel_rfl,bd_209,by
  have h:=memT_open hS
  have e:nth ((memT g1 g0).qs q) t=(nth q.l t).l:=memT_nth ht
  rw [e] at hl hk hw
  refine Rets.mono (tbFlush_c K g1 g0 q.v q.l words owner t k W h (by simpa [memT] using ht) (by omega) hk (hw k hk)) ?_
  rintro v w' ⟨rfl,u,hu,hs⟩
  refine ⟨rfl,_,_,⟨q.v,q.l.set t u⟩,⟨u.l, ?_,fun pc regs prints fell=> ?_⟩,memT_close (words:=⟨words.v,if (nth (nth q.l t).l k).lock=true then words.l else words.l.set (nth (nth q.l t).l k).wh.toNat (nth (nth q.l t).l k).what⟩) (owner:=⟨owner.v,if (nth (nth q.l t).l k).lock=true then owner.l.set (nth (nth q.l t).l k).wh.toNat (-1) else owner.l⟩) (q:=⟨q.v,q.l.set t u⟩) hs⟩
  ·show (q.l.set t u).map (·.l)=(q.l.map (·.l)).set t u.l
   rw [List.map_set]
  ·rw [e,hu]
   rfl⟩
 xrd q b h:=memT_rd h
theorem tnew_c (code:Ls (Ls Ins))(words0:Ls Int)(Lk:Nat)(nregs:Int)(W:World)(hcode:code.At W)(hwords:words0.At W)(hcl:code.l.length≤100)(hwn:words0.l.length≤64)(hlk:Lk≤4):
    Rets Tryz.prog 82 [.agg #[code.v,words0.v, .int .i64 ((Lk:Nat):Int), .int .i64 nregs]] W (fun v w' =>∃(gt g:Nat) (words' owner' :Ls Int) (q:Ls (Ls Wt)),v= .pointer (some ⟨gt,0,none⟩)∧words'.l=words0.l∧owner'.l=List.replicate Lk (-1)∧(memT gt g).qs q=List.replicate code.l.length []∧Sh0 W w' (memA 182 3 (memT gt g) words' owner' q)):=by
 refine gen Tryz.func82 Tryz.ntmps82 (Sh0.ext2 hcode hwords:Sh (fun _=>False) W W [.at_ code, .at_ words0]) rfl fun a10 h10=>gG h10<|sK fun _ k11=>gbx rfl rfl fun b12=>gRn (oM 1 rfl<|.nl)<|nK k11<|gK fun _ k13=>gF [0,1] rfl<|fun a14 w14 h14=>x_any ((fun Φ Ψ S a w=>(S 1=false∧S 5=false∧S 7=false∧FrI 11 S Φ Ψ a∧Sh (fun _=>False) W w [.blk b12 25 [code.v,words0.v, .int .i64 ((Lk:Nat):Int), .int .i64 nregs], .at_ code, .at_ words0])∨(S 1=true∧S 5=false∧S 7=false∧∃(g7001:Nat) (mw7001:Ls Int) (mo7001:Ls Int),(mw7001.l=words0.l)∧(mo7001.l=List.replicate Lk (-1))∧FrI 11 S Φ (Ψ++ [(1,4, .pointer (some ⟨g7001,0,none⟩))]) a∧Sh (fun _=>False) W w [.blk g7001 182 [mw7001.v,mo7001.v], .own 3 mw7001, .own 3 mo7001, .blk b12 25 [code.v,words0.v, .int .i64 ((Lk:Nat):Int), .int .i64 nregs], .at_ code, .at_ words0])∨(S 1=false∧S 5=true∧S 7=false∧∃(v7005:Value),FrI 11 S Φ (Ψ++ [(5,8,v7005)]) a∧Sh (fun _=>False) W w [.big (matX (.own 266) 267 v7005 (List.replicate code.l.length (⟨.slice none 0 0, []⟩:Ls Wt))), .blk b12 25 [code.v,words0.v, .int .i64 ((Lk:Nat):Int), .int .i64 nregs], .at_ code, .at_ words0])∨(S 1=true∧S 5=true∧S 7=false∧∃(g7001:Nat) (mw7001:Ls Int) (mo7001:Ls Int) (v7005:Value),(mw7001.l=words0.l)∧(mo7001.l=List.replicate Lk (-1))∧FrI 11 S Φ (Ψ++ [(1,4, .pointer (some ⟨g7001,0,none⟩)),(5,8,v7005),(6,9, .agg #[.pointer (some ⟨g7001,0,none⟩),v7005])]) a∧Sh (fun _=>False) W w [.big (matX (.own 266) 267 v7005 (List.replicate code.l.length (⟨.slice none 0 0, []⟩:Ls Wt))), .blk g7001 182 [mw7001.v,mo7001.v], .own 3 mw7001, .own 3 mo7001, .blk b12 25 [code.v,words0.v, .int .i64 ((Lk:Nat):Int), .int .i64 nregs], .at_ code, .at_ words0])∨(S 1=true∧S 5=true∧S 7=true∧∃(g7001:Nat) (mw7001:Ls Int) (mo7001:Ls Int) (v7005:Value) (b7007:Nat),(mw7001.l=words0.l)∧(mo7001.l=List.replicate Lk (-1))∧FrI 11 S Φ (Ψ++ [(1,4, .pointer (some ⟨g7001,0,none⟩)),(5,8,v7005),(6,9, .agg #[.pointer (some ⟨g7001,0,none⟩),v7005]),(7,10, .pointer (some ⟨b7007,0,none⟩)),(8,2, .pointer (some ⟨b7007,0,none⟩))]) a∧Sh (fun _=>False) W w [.blk b7007 185 [.pointer (some ⟨g7001,0,none⟩),v7005], .big (matX (.own 266) 267 v7005 (List.replicate code.l.length (⟨.slice none 0 0, []⟩:Ls Wt))), .blk g7001 182 [mw7001.v,mo7001.v], .own 3 mw7001, .own 3 mo7001, .blk b12 25 [code.v,words0.v, .int .i64 ((Lk:Nat):Int), .int .i64 nregs], .at_ code, .at_ words0])) [(0, .agg #[code.v,words0.v, .int .i64 ((Lk:Nat):Int), .int .i64 nregs]),(1, .pointer (some ⟨b12,0,none⟩))] [(0,3, .agg #[code.v,words0.v, .int .i64 ((Lk:Nat):Int), .int .i64 nregs]),(2,5, .pointer (some ⟨b12,0,none⟩)),(3,6,code.v),(4,7, .int .i64 ((code.l.length:Nat):Int))]) (by kernel_rfl) (by kernel_rfl) (Or.inl (⟨rfl,rfl,rfl,FrI.start h14.fr,h14.sh.drew⟩)) ?_ ?_;clear h10
 ·intro S i o ho hSi hcl hdep a w hI
  clear h14
  rcases i with _|_|_|_|_|_|_|_|_|i
  ·obtain rfl:_=o:=Option.some.inj ho
   rcases hI with ⟨ν1,ν5,ν7,φ,ς⟩|⟨ν1,_⟩|⟨ν1,ν5,ν7,v7005,φ,ς⟩|⟨ν1,_⟩|⟨ν1,_⟩
   ·exact sq φ φ.fr0 ς (r_ldbw (i:=0) (vs:= [code.v,words0.v, .int .i64 ((Lk:Nat):Int), .int .i64 nregs]) ti_25 rfl rfl rfl rfl rfl) 0 rfl rfl rfl rfl rfl rfl fun a hg=>Or.inl (⟨un rfl ν1,un rfl ν5,un rfl ν7,hg,ς⟩)
   ·exact no_way (cA hcl 1 0 rfl ν1) hSi
   ·exact sq φ φ.fr0 ς (r_ldbw (i:=1) (vs:= [code.v,words0.v, .int .i64 ((Lk:Nat):Int), .int .i64 nregs]) ti_25 rfl rfl rfl rfl rfl) 0 rfl rfl rfl rfl rfl rfl fun a hg=>Or.inr (Or.inr (Or.inl (⟨un rfl ν1,un rfl ν5,un rfl ν7,v7005,hg,ς⟩)))
   ·exact no_way (cA hcl 1 0 rfl ν1) hSi
   ·exact no_way (cA hcl 1 0 rfl ν1) hSi
  ·obtain rfl:_=o:=Option.some.inj ho
   have hd0:S 0=true:=depAt hdep 0 rfl rfl
   rcases hI with ⟨ν1,ν5,ν7,φ,ς⟩|⟨ν1,_⟩|⟨ν1,ν5,ν7,v7005,φ,ς⟩|⟨ν1,_⟩|⟨ν1,_⟩
   ·have hs:=St.mk (Fr.cons φ.fr0 (φ.at_ 0 0 3 _ rfl hd0)) ς
    refine step_ex (x_call hs bd_81 rfl rfl rfl rfl rfl (pnew_c words0 Lk code.v nregs _ (hs.sh.at 2 rfl) (by omega) (by omega))) (wanted_none rfl _) ?_
    rintro a25 w25 ⟨_,⟨g25,mw25,mo25,rfl,hmw25,hmo25,hs25⟩,hf25⟩ ⟨v0,ht25⟩
    have h25:=(⟨hf25,hs.sh.call hs25 (by intro A hA b hb;simp only [memA,List.mem_cons,List.not_mem_nil,or_false] at hA;first|(subst hA;exact Flat.noRd hb)|(rcases hA with rfl|rfl|rfl|rfl<;>first|exact (hb:False).elim|exact Flat.noRd hb|exact (memT_rd hb).elim))⟩:St 11 (fun _=>False) W a25 w25 _ _)
    clear hf25 hs25
    exact Or.inr (Or.inl (⟨upd_self _ _,un rfl ν5,un rfl ν7,g25,mw25,mo25,hmw25,hmo25,φ.stepW hcl hSi [0,1,2,3] (by kernel_rfl) (by kernel_rfl) ht25 h25.fr.defers (h25.fr.at_ 4 _ rfl) 4 rfl rfl rfl rfl,(h25.sh.sel [0,1,2,3,4,5] rfl)⟩))
   ·exact no_way ν1 hSi
   ·have hs:=St.mk (Fr.cons φ.fr0 (φ.at_ 0 0 3 _ rfl hd0)) ς
    refine step_ex (x_call hs bd_81 rfl rfl rfl rfl rfl (pnew_c words0 Lk code.v nregs _ (hs.sh.at 3 rfl) (by omega) (by omega))) (wanted_none rfl _) ?_
    rintro a26 w26 ⟨_,⟨g26,mw26,mo26,rfl,hmw26,hmo26,hs26⟩,hf26⟩ ⟨v0,ht26⟩
    have h26:=(⟨hf26,hs.sh.call hs26 (by intro A hA b hb;simp only [memA,List.mem_cons,List.not_mem_nil,or_false] at hA;first|(subst hA;exact Flat.noRd hb)|(rcases hA with rfl|rfl|rfl|rfl<;>first|exact (hb:False).elim|exact Flat.noRd hb|exact (memT_rd hb).elim))⟩:St 11 (fun _=>False) W a26 w26 _ _)
    clear hf26 hs26
    exact Or.inr (Or.inr (Or.inr (Or.inl (⟨upd_self _ _,un rfl ν5,un rfl ν7,g26,mw26,mo26,v7005,hmw26,hmo26,φ.stepW hcl hSi [0,1,2,3,5] (by kernel_rfl) (by kernel_rfl) ht26 h26.fr.defers (h26.fr.at_ 4 _ rfl) 4 rfl rfl rfl rfl,(h26.sh.sel [3,0,1,2,4,5,6] rfl)⟩))))
   ·exact no_way ν1 hSi
   ·exact no_way ν1 hSi
  ·obtain rfl:_=o:=Option.some.inj ho
   rcases hI with ⟨ν1,ν5,ν7,φ,ς⟩|⟨ν1,ν5,ν7,g7001,mw7001,mo7001,hmw7001,hmo7001,φ,ς⟩|⟨_,ν5,_⟩|⟨_,ν5,_⟩|⟨_,ν5,_⟩
   ·exact sq φ φ.fr0 ς (r_fieldB (r:=0) fl_25_0 rfl rfl rfl) 1 rfl rfl rfl rfl rfl rfl fun a hg=>Or.inl (⟨un rfl ν1,un rfl ν5,un rfl ν7,hg,ς⟩)
   ·exact sq φ φ.fr0 ς (r_fieldB (r:=0) fl_25_0 rfl rfl rfl) 1 rfl rfl rfl rfl rfl rfl fun a hg=>Or.inr (Or.inl (⟨un rfl ν1,un rfl ν5,un rfl ν7,g7001,mw7001,mo7001,hmw7001,hmo7001,hg,ς⟩))
   ·exact no_way (cA hcl 5 2 rfl ν5) hSi
   ·exact no_way (cA hcl 5 2 rfl ν5) hSi
   ·exact no_way (cA hcl 5 2 rfl ν5) hSi
  ·obtain rfl:_=o:=Option.some.inj ho
   have hd2:S 2=true:=depAt hdep 0 rfl rfl
   rcases hI with ⟨ν1,ν5,ν7,φ,ς⟩|⟨ν1,ν5,ν7,g7001,mw7001,mo7001,hmw7001,hmo7001,φ,ς⟩|⟨_,ν5,_⟩|⟨_,ν5,_⟩|⟨_,ν5,_⟩
   ·exact sq φ (Fr.cons φ.fr0 (φ.at_ 1 2 5 _ rfl hd2)) ς (r_ldb (i:=0) ti_22 rfl rfl rfl rfl) 2 rfl rfl rfl rfl rfl rfl fun a hg=>Or.inl (⟨un rfl ν1,un rfl ν5,un rfl ν7,hg,ς⟩)
   ·exact sq φ (Fr.cons φ.fr0 (φ.at_ 1 2 5 _ rfl hd2)) ς (r_ldb (i:=3) ti_22 rfl rfl rfl rfl) 2 rfl rfl rfl rfl rfl rfl fun a hg=>Or.inr (Or.inl (⟨un rfl ν1,un rfl ν5,un rfl ν7,g7001,mw7001,mo7001,hmw7001,hmo7001,hg,ς⟩))
   ·exact no_way (cA hcl 5 3 rfl ν5) hSi
   ·exact no_way (cA hcl 5 3 rfl ν5) hSi
   ·exact no_way (cA hcl 5 3 rfl ν5) hSi
  ·obtain rfl:_=o:=Option.some.inj ho
   have hd3:S 3=true:=depAt hdep 0 rfl rfl
   rcases hI with ⟨ν1,ν5,ν7,φ,ς⟩|⟨ν1,ν5,ν7,g7001,mw7001,mo7001,hmw7001,hmo7001,φ,ς⟩|⟨_,ν5,_⟩|⟨_,ν5,_⟩|⟨_,ν5,_⟩
   ·have hs:=St.mk (Fr.cons φ.fr0 (φ.at_ 2 3 6 _ rfl hd3)) ς
    have hl31:code.l.length≤140737488355328:=(hs.sh.at 1 rfl).len
    exact sq φ (Fr.cons φ.fr0 (φ.at_ 2 3 6 _ rfl hd3)) ς (r_len (s:=code) (n:=code.l.length) sl_22 rfl rfl (fun w h=>(h.at 1 rfl)) rfl) 3 rfl rfl rfl rfl rfl rfl fun a hg=>Or.inl (⟨un rfl ν1,un rfl ν5,un rfl ν7,hg,ς⟩)
   ·have hs:=St.mk (Fr.cons φ.fr0 (φ.at_ 2 3 6 _ rfl hd3)) ς
    have hl33:code.l.length≤140737488355328:=(hs.sh.at 4 rfl).len
    exact sq φ (Fr.cons φ.fr0 (φ.at_ 2 3 6 _ rfl hd3)) ς (r_len (s:=code) (n:=code.l.length) sl_22 rfl rfl (fun w h=>(h.at 4 rfl)) rfl) 3 rfl rfl rfl rfl rfl rfl fun a hg=>Or.inr (Or.inl (⟨un rfl ν1,un rfl ν5,un rfl ν7,g7001,mw7001,mo7001,hmw7001,hmo7001,hg,ς⟩))
   ·exact no_way (cA hcl 5 4 rfl ν5) hSi
   ·exact no_way (cA hcl 5 4 rfl ν5) hSi
   ·exact no_way (cA hcl 5 4 rfl ν5) hSi
  ·obtain rfl:_=o:=Option.some.inj ho
   have hd4:S 4=true:=depAt hdep 0 rfl rfl
   rcases hI with ⟨ν1,ν5,ν7,φ,ς⟩|⟨ν1,ν5,ν7,g7001,mw7001,mo7001,hmw7001,hmo7001,φ,ς⟩|⟨_,ν5,_⟩|⟨_,ν5,_⟩|⟨_,ν5,_⟩
   ·have hs:=St.mk (Fr.cons φ.fr0 (φ.at_ 3 4 7 _ rfl hd4)) ς
    refine step_ex (x_makeMat (n:=code.l.length) hs sl_183 ti_267 rfl rfl rfl (show 24*code.l.length≤140737488355328∧code.l.length≤140737488355328 from (by omega)) rfl rfl 266 Wt) (wanted_none rfl _) ?_
    rintro a35 w35 ⟨v35,h35⟩ ⟨v0,ht35⟩
    exact Or.inr (Or.inr (Or.inl (⟨un rfl ν1,upd_self _ _,un rfl ν7,v35,φ.stepW hcl hSi [0,1,2,3] (by kernel_rfl) (by kernel_rfl) ht35 h35.fr.defers (h35.fr.at_ 8 _ rfl) 4 rfl rfl rfl rfl,(h35.sh.sel [0,1,2,3] rfl)⟩)))
   ·have hs:=St.mk (Fr.cons φ.fr0 (φ.at_ 3 4 7 _ rfl hd4)) ς
    refine step_ex (x_makeMat (n:=code.l.length) hs sl_183 ti_267 rfl rfl rfl (show 24*code.l.length≤140737488355328∧code.l.length≤140737488355328 from (by omega)) rfl rfl 266 Wt) (wanted_none rfl _) ?_
    rintro a36 w36 ⟨v36,h36⟩ ⟨v0,ht36⟩
    exact Or.inr (Or.inr (Or.inr (Or.inl (⟨un rfl ν1,upd_self _ _,un rfl ν7,g7001,mw7001,mo7001,v36,hmw7001,hmo7001,φ.stepW hcl hSi [0,1,2,3,4] (by kernel_rfl) (by kernel_rfl) ht36 h36.fr.defers (h36.fr.at_ 8 _ rfl) 5 rfl rfl rfl rfl,(h36.sh.sel [0,1,2,3,4,5,6] rfl)⟩))))
   ·exact no_way ν5 hSi
   ·exact no_way ν5 hSi
   ·exact no_way ν5 hSi
  ·obtain rfl:_=o:=Option.some.inj ho
   have hd1:S 1=true:=depAt hdep 0 rfl rfl
   have hd5:S 5=true:=depAt hdep 1 rfl rfl
   rcases hI with ⟨ν1,_⟩|⟨_,ν5,_⟩|⟨ν1,_⟩|⟨ν1,ν5,ν7,g7001,mw7001,mo7001,v7005,hmw7001,hmo7001,φ,ς⟩|⟨_,_,ν7,_⟩
   ·exact no_way hd1 ν1
   ·exact no_way hd5 ν5
   ·exact no_way hd1 ν1
   ·exact sq φ (Fr.cons (Fr.cons φ.fr0 (φ.at_ 4 1 4 _ rfl hd1)) (φ.at_ 5 5 8 _ rfl hd5)) ς (r_buildS (cs:= [.pointer (some ⟨g7001,0,none⟩),v7005]) rfl rfl (fun w h=>by obtain ⟨A37,n37,c37,(e37:v7005=_)⟩:=((h.matAt 0 rfl)).form;rw [e37];kernel_rfl)) 6 rfl rfl rfl rfl rfl rfl fun a hg=>Or.inr (Or.inr (Or.inr (Or.inl (⟨un rfl ν1,un rfl ν5,un rfl ν7,g7001,mw7001,mo7001,v7005,hmw7001,hmo7001,hg,ς⟩))))
   ·exact no_way (cA hcl 7 6 rfl ν7) hSi
  ·obtain rfl:_=o:=Option.some.inj ho
   have hd6:S 6=true:=depAt hdep 0 rfl rfl
   rcases hI with ⟨ν1,_⟩|⟨_,ν5,_⟩|⟨ν1,_⟩|⟨ν1,ν5,ν7,g7001,mw7001,mo7001,v7005,hmw7001,hmo7001,φ,ς⟩|⟨_,_,ν7,_⟩
   ·exact no_way (cA hcl 6 1 rfl hd6) ν1
   ·exact no_way (cA hcl 6 5 rfl hd6) ν5
   ·exact no_way (cA hcl 6 1 rfl hd6) ν1
   ·have hs:=St.mk (Fr.cons φ.fr0 (φ.at_ 6 6 9 _ rfl hd6)) ς
    refine step_ex (x_box (cs:= [.pointer (some ⟨g7001,0,none⟩),v7005]) hs rfl rfl rfl rfl rfl) (wanted_none rfl _) ?_
    rintro a39 w39 ⟨b39,h39⟩ ⟨v0,ht39⟩
    exact Or.inr (Or.inr (Or.inr (Or.inr (⟨un rfl ν1,un rfl ν5,upd_self _ _,g7001,mw7001,mo7001,v7005,b39,hmw7001,hmo7001,φ.stepW hcl hSi [0,1,2,3,4,5,6] (by kernel_rfl) (by kernel_rfl) ht39 h39.fr.defers (h39.fr.at_ 10 _ rfl) 7 rfl rfl rfl rfl,(h39.sh.sel [0,1,2,3,4,5,6,7] rfl)⟩))))
   ·exact no_way ν7 hSi
  ·obtain rfl:_=o:=Option.some.inj ho
   have hd7:S 7=true:=depAt hdep 0 rfl rfl
   have hd1:S 1=true:=depAt hdep 1 rfl rfl
   have hd5:S 5=true:=depAt hdep 7 rfl rfl
   rcases hI with ⟨ν1,_⟩|⟨_,ν5,_⟩|⟨ν1,_⟩|⟨_,_,ν7,_⟩|⟨ν1,ν5,ν7,g7001,mw7001,mo7001,v7005,b7007,hmw7001,hmo7001,φ,ς⟩
   ·exact no_way hd1 ν1
   ·exact no_way hd5 ν5
   ·exact no_way hd1 ν1
   ·exact no_way hd7 ν7
   ·exact sq φ (Fr.cons φ.fr0 (φ.at_ 7 7 10 _ rfl hd7)) ς (r_assign rfl rfl) 8 rfl rfl rfl rfl rfl rfl fun a hg=>Or.inr (Or.inr (Or.inr (Or.inr (⟨un rfl ν1,un rfl ν5,un rfl ν7,g7001,mw7001,mo7001,v7005,b7007,hmw7001,hmo7001,hg,ς⟩))))
  · simp at ho
 intro S hall a w hI
 clear h14
 rcases hI with ⟨ν1,ν5,ν7,φ,ς⟩|⟨ν1,ν5,ν7,g7001,mw7001,mo7001,hmw7001,hmo7001,φ,ς⟩|⟨ν1,ν5,ν7,v7005,φ,ς⟩|⟨ν1,ν5,ν7,g7001,mw7001,mo7001,v7005,hmw7001,hmo7001,φ,ς⟩|⟨ν1,ν5,ν7,g7001,mw7001,mo7001,v7005,b7007,hmw7001,hmo7001,φ,ς⟩
 · exact no_way (hall 1 (by decide)) ν1
 · exact no_way (hall 5 (by decide)) ν5
 · exact no_way (hall 1 (by decide)) ν1
 · exact no_way (hall 7 (by decide)) ν7
 have h41:St 11 (fun _=>False) W a w _ _:=⟨(Fr.cons φ.fr0 (φ.at_ 8 8 2 _ rfl (hall 8 (by decide)))),ς⟩
 clear hall φ ς ν1 ν5 ν7
 refine gG h41<|hK k13<|gR<|fun a42 w42 h42=>x_ret1 (fn:=Tryz.f82) (t:=2) rfl h42 rfl ?_;clear h41
 exact ⟨b7007,g7001,mw7001,mo7001,⟨v7005,List.replicate code.l.length (⟨.slice none 0 0, []⟩:Ls Wt)⟩,rfl,hmw7001,hmo7001,by simp [memT],memT_close (q:=⟨v7005,List.replicate code.l.length (⟨.slice none 0 0, []⟩:Ls Wt)⟩) (h42.sh.sel [0,1,2,3,4] rfl)⟩
def vs (l:List Int):List (Int×Value):=l.map fun k=>(k, .bool true)
def Asn.setO (g:Nat)(l:List Int):Asn where
 fp b:=g=b
 rd _:=False
 ok w:=MapI w g (vs l)
 keep w w' h hb:=h.of_block (hb g (.inl rfl))
 lt w h b hb:=by
  rcases hb with rfl|hb
  ·exact h.lt
  ·exact hb.elim
structure MapTS (P:Program)(T kT eT:TypeId):Prop where
 map:P.underlying T=some (.map kT eT)
 int:P.underlying kT=some (.int .i64)
 zero:∀w,(zeroValue eT).run P w= .ok (.bool false) w
section
variable {P:Program}{o:Oper}{N:Nat}{K:Nat→Prop}{W w:World}{a:Act}{F:List (Nat×Value)}{L:List Asn}{T kT eT:TypeId}{l:List Int}{k:Int}{g:Nat}
end
theorem rvs_app {α:Type}(M:List (Ls α))(s:Ls α):rvs (M++ [s])=rvs M++ [⟨s.v⟩]:=by simp [rvs]
section
variable {P:Program}{o:Oper}{N:Nat}{K:Nat→Prop}{W w:World}{a:Act}{F:List (Nat×Value)}{L:List Asn}{α:Type}[Enc α]{E IE:TypeId}{v:Value}{M:List (Ls α)}
theorem x_appRow {d:Nat}{T e:TypeId}{gg:Bool}{by_:Nat}{z:List Value}{x y:Operand}{s:Ls α}{mv:Value}(h:St N K W a w F (.big (matX (.own IE) E v M):: .own IE s:: .own e (⟨mv, [⟨s.v⟩]⟩:Ls RV)::L))(hT:slI P T=some e)(he:tyI P e=some (gg,1,by_,z))(ho:o.op= .call ⟨.builtin .append, #[x,y], #[T,T]⟩)
  (hx:ev F x=some v) (hy:ev F y=some mv) (hE:E=e) (hz:z.length=1) (hn:(M.length+1)*by_≤140737488355328∧M.length+1≤140737488355328) (hd:o.dst=some d) (hdN:Nat.blt d N=true):
  Ex P o a w (fun a' w' =>∃u:Value,St N K W a' w' ((d,u)::F) (.big (matX (.own IE) E u (M++ [s]))::L)):=by
 have h1:Sh K W w (.own E (⟨v,rvs M⟩:Ls RV):: .own e (⟨mv, [⟨s.v⟩]⟩:Ls RV)::(M.map (Asn.own IE)++(.own IE s::L))):=h.sh.open_.perm (by
  unfold matX
  refine List.Perm.cons _ ?_
  refine (List.Perm.append_left _ (List.Perm.swap _ _ _)).trans ?_
  exact List.perm_middle)
 refine (x_app1 (r:=0) (rm:=1) (s:=(⟨v,rvs M⟩:Ls RV)) (m:=(⟨mv, [⟨s.v⟩]⟩:Ls RV)) ⟨h.fr,h1⟩ hT he ho hx hy rfl hE rfl rfl (fun w h=>h.own 1 rfl) (fun b hb=>own_on (h1.ok _ (List.mem_of_getElem? (i:=1) rfl)) hb) (fun q hq b hb=>hb.elim) rfl rfl hz (fun w h q hq j hj=>by
   obtain rfl:q=0:=by simpa using hq
   exact (own_at (h.ok (.own IE s) (by simp))).one)
  (by rw [rvs_len];exact hn) hd hdN).mono fun a' w' ⟨u,h2⟩=>⟨u,h2.fr, ?_⟩
 have h3:Sh K W w' (.own E (⟨u,rvs M++ [⟨s.v⟩]⟩:Ls RV):: .own e (⟨mv, [⟨s.v⟩]⟩:Ls RV)::(M.map (Asn.own IE)++(.own IE s::L))):=h2.sh
 refine Sh.close ((h3.perm (List.Perm.swap _ _ _)).tail.perm ?_)
 unfold matX
 rw [rvs_app,List.map_append]
 refine List.Perm.cons _ ?_
 simp
theorem Sh.nilMat (h:Sh K W w L):Sh K W w (.big (matX (.own IE) E (.slice none 0 0) ([]:List (Ls α)))::L):=
 Sh.matMk (n:=0) (α:=α) (IE:=IE) (h.nil (α:=RV) E)
end
theorem put_take {l:List Int}{k:Nat}(h:k<l.length){b:List UInt8}{c d:List UInt8}(hb:b=c++by8 ((l.take k).flatMap fun n=>num36 n++ [32]))(hd:d=b++by8 (num36 (nth l k))):d++ [32]=c++by8 ((l.take (k+1)).flatMap fun n=>num36 n++ [32]):=by
 rw [hd,hb,take_succ_nth _ _ h,List.flatMap_append,by8_app]
 simp only [List.flatMap_cons,List.flatMap_nil,List.append_nil,by8_app,List.append_assoc]
 rfl
theorem put_all {l:List Int}{k:Nat}(h:k=l.length){b c:List UInt8}(hb:b=c++by8 ((l.take k).flatMap fun n=>num36 n++ [32])):b++ [59]=c++by8 (putB l):=by
 rw [hb,h,List.take_length,putB,by8_app,List.append_assoc];rfl
theorem tel_take {l:List Wt}{k:Nat}{b c d:List UInt8}{row:List Int}(h:k<l.length)(hb:b=c++by8 (((l.take k).map wtN).flatMap putB))(hd:d=b++by8 (putB row))(e:row=wtN (nth l k)):d=c++by8 (((l.take (k+1)).map wtN).flatMap putB):=by
 rw [hd,hb,e,take_succ_nth _ _ h,List.map_append,List.flatMap_append,by8_app]
 simp only [List.map_cons,List.map_nil,List.flatMap_cons,List.flatMap_nil,List.append_nil,List.append_assoc]
theorem tel_row {q:List (Ls Wt)}{t k:Nat}{b c d f:List UInt8}(h:t<q.length)(hk:k=(nth q t).l.length)(hb:b=c++by8 ((tqB ((q.take t).map (·.l))).flatMap putB))(hd:d=b++by8 ((((nth q t).l.take k).map wtN).flatMap putB))(hf:f=d++by8 (putB [])):f=c++by8 ((tqB ((q.take (t+1)).map (·.l))).flatMap putB):=by
 rw [hf,hd,hb,hk,List.take_length,take_succ_nth _ _ h,List.map_append]
 unfold tqB
 simp only [List.flatMap_append,by8_app,List.map_cons,List.map_nil,List.flatMap_cons,List.flatMap_nil,List.append_nil,List.append_assoc]
theorem R64L.row {x:Wt}{k:Int}(h:R64 x.wh∧R64 x.what)(hk:R64 k):R64L [k,x.wh,x.what]:=fun n hn=>by
 simp only [List.mem_cons,List.not_mem_nil,or_false] at hn
 rcases hn with rfl|rfl|rfl
 ·exact hk
 ·exact h.1
 ·exact h.2
theorem R64L.nil :R64L []:=fun n hn=>by cases hn
theorem by8_len (l:List Nat):(by8 l).length=l.length:=List.length_map _
theorem put1_c (K:Nat→Prop)(gb:Nat)(bs:Ls UInt8)(l:Ls Int)(W:World)(hS:Sh K W W [.blk gb 204 [bs.v], .own 5 bs, .at_ l])(hR:R64L l.l)(hn:bs.l.length+66*l.l.length≤9000000000000):
    Rets Tryz.prog 141 [l.v, .pointer (some ⟨gb,0,none⟩)] W (fun v w' =>v= .tuple #[]∧∃bs' :Ls UInt8,bs'.l=bs.l++by8 (putB l.l)∧Sh K W w' [.blk gb 204 [bs'.v], .own 5 bs', .at_ l]):=by
 refine gen Tryz.func141 Tryz.ntmps141 hS rfl fun a10 h10=>gG h10<|gK fun _ k11=>sK fun _ k12=>gNl (aA 2 rfl) fun hl13=>gRn (oM 1 rfl<|oln sl_23 (aA 2 rfl) rfl<|oM 1 rfl<|.nl)<|nK k12<|gB<|fun a15 w15 h15=>x_loop (fun m a w=>∃(k:Nat) (bl:List UInt8) (vb:Value),(k≤l.l.length)∧(bl=bs.l++by8 ((l.l.take k).flatMap fun n=>num36 n++ [32]))∧(bl.length≤bs.l.length+66*k)∧St 20 K W a w [(1, .pointer (some ⟨gb,0,none⟩)),(5,l.v),(6, .int .i64 ((l.l.length:Nat):Int)),(7, .int .i64 ((k:Nat):Int))] [.blk gb 204 [vb], .own 5 (⟨vb,bl⟩:Ls UInt8), .at_ l]∧m=l.l.length-k) ⟨_,0,bs.l,bs.v,(by omega),(by simp [by8]),(by omega),h15.nf ⟨rfl,rfl,rfl,rfl,trivial⟩,rfl⟩ ?_;clear h10
 clear h15
 rintro m14 a14 w14 ⟨k,bl,vb,hk,hbl,hbn,h14,hm14⟩
 refine gG h14<|sG (oltN _ _ rfl<|.nl)<|gK fun _ k17=>gcd rfl (fun hb18 hp18=> ?_) fun hb18 hp18=> ?_;clear h14
 ·skip
  refine gS<|hK k17<|gK fun _ k19=>gB<|sG (oxN sl_23 ti_3 (aA 2 rfl) _ om9 rfl<|olI ti_3 (aA 2 rfl) om9 rfl<|oM 1 rfl<|.nl)<|?_
  have hrk:=hR _ (nth_mem l.l k (by omega))
  have hnk:=num36_len _ hrk
  refine gL<|gRn (olB 0 ti_204 rfl rfl<|oM 1 rfl<|.nl)<|gO [1,0,2] rfl<|gM 1 rfl (fun _ _ h_=>xCl h_ bd_142 rfl (sappI_c _ (⟨vb,bl⟩:Ls UInt8) (nth l.l k) _ (pKl 1 h_ rfl) hrk (by show bl.length≤_;omega))) rfl<|?_
  rintro _ _ w23 ⟨bs23,rfl,hbl23,hs23⟩
  refine gBk hs23 rfl<|gU<|?_;clear hs23
  have hbx:=hbl23;try dsimp only at hbx
  refine gE1 (fun _ _ h_=>x_lit (n:=1) (cs:= [.int .u8 32]) ([32]:List UInt8) h_ sl_204 ti_5 rfl rfl rfl (by decide) rfl (by kernel_rfl) rfl (fun q hq w h=>Flat.inner _ _) (fun q hq b hb=>(Flat.on _ _ hb).elim) rfl rfl) rfl fun v24=>gE1 (fun _ _ h_=>x_app (r:=1) (rm:=0) (s:=bs23) (m:=(⟨v24, [32]⟩:Ls UInt8)) h_ sl_204 ti_5 rfl rfl rfl rfl rfl rfl rfl (fun w h=>(h.own 0 rfl)) (fun b hb=>own_on (h_.sh.ok _ (List.mem_of_getElem? (i:=0) rfl)) hb) (fun q hq b hb=>⟨q,hq,hb⟩) rfl rfl rfl inferInstance (show (bs23.l.length+([32]).length)*1≤140737488355328∧bs23.l.length+([32]).length≤140737488355328 from (by first|omega|(simp only [List.length_cons,List.length_nil];omega)|(rw [hbx,List.length_append,by8_len];simp only [List.length_cons,List.length_nil];omega))) rfl rfl) rfl fun v25=>gsr 2 ti_204 rfl (aO 1 rfl) rfl<|nK k19<|gL<|gRn (oadN _ 1 om9 rfl<|oM 1 rfl<|.nl)<|nN<|fun a27 w27 h27=>x_again ⟨_, ?_,(k+1),bs23.l++([32]),v25, ?_, ?_, ?_,h27.nrm ⟨rfl,rfl,rfl,rfl,trivial⟩ [2,1,3] rfl,rfl⟩
  · rw [hm14];first|omega|(simp only [lens9];omega)
  · omega
  · exact put_take (by omega) hbl (by assumption)
  · (rw [List.length_append,hbx,List.length_append,by8_len];simp only [List.length_cons,List.length_nil];omega)
 refine gX<|hK k11<|gL<|gRn (olB 0 ti_204 rfl rfl<|.nl)<|gE1 (fun _ _ h_=>x_lit (n:=1) (cs:= [.int .u8 59]) ([59]:List UInt8) h_ sl_204 ti_5 rfl rfl rfl (by decide) rfl (by kernel_rfl) rfl (fun q hq w h=>Flat.inner _ _) (fun q hq b hb=>(Flat.on _ _ hb).elim) rfl rfl) rfl fun v28=>gE1 (fun _ _ h_=>x_app (r:=2) (rm:=0) (s:=(⟨vb,bl⟩:Ls UInt8)) (m:=(⟨v28, [59]⟩:Ls UInt8)) h_ sl_204 ti_5 rfl rfl rfl rfl rfl rfl rfl (fun w h=>(h.own 0 rfl)) (fun b hb=>own_on (h_.sh.ok _ (List.mem_of_getElem? (i:=0) rfl)) hb) (fun q hq b hb=>⟨q,hq,hb⟩) rfl rfl rfl inferInstance (show (bl.length+([59]).length)*1≤140737488355328∧bl.length+([59]).length≤140737488355328 from (by first|omega|(simp only [List.length_cons,List.length_nil];omega)|(rw [hbx,List.length_append,by8_len];simp only [List.length_cons,List.length_nil];omega))) rfl rfl) rfl fun v29=>gsr 1 ti_204 rfl (aO 2 rfl) rfl<|nN<|fun a31 w31 h31=> ?_
 try simp only [Exit.then,Exit.inBlock,if_true]
 refine x_end0 (fn:=Tryz.f141) rfl h31<|⟨rfl,⟨v29,bl++([59])⟩,put_all (by omega) hbl,(h31.sh.sel [1,2,3] rfl)⟩
theorem plTell_c (K:Nat→Prop)(gb:Nat)(bs:Ls UInt8)(g0:Nat)(words owner:Ls Int)(W:World)(hS:Sh K W W [.blk gb 204 [bs.v], .own 5 bs, .rblk g0 182 [words.v,owner.v], .at_ words, .at_ owner])(hwl:words.l.length≤64)(hol:owner.l.length≤4)(hRw:R64L words.l)(hRo:R64L owner.l)(hbn:bs.l.length≤5000000000000):
    Rets Tryz.prog 206 [.pointer (some ⟨g0,0,none⟩), .func (.func 141) #[] #[.pointer (some ⟨gb,0,none⟩)]] W (fun v w' =>v= .tuple #[]∧∃bs' :Ls UInt8,bs'.l=bs.l++by8 ([words.l,owner.l].flatMap putB)∧bs'.l.length≤bs.l.length+5000∧Sh K W w' [.blk gb 204 [bs'.v], .own 5 bs', .rblk g0 182 [words.v,owner.v], .at_ words, .at_ owner]):=by
 refine gen Tryz.func206 Tryz.ntmps206 hS rfl fun a10 h10=>gG h10<|sK fun _ k11=>gRn (oM 2 rfl<|onf fl_182_0 rfl<|olR 2 ti_23 rfl rfl<|.nl)<|gO [0,1,3,2,4] rfl<|fun a17 w17 h17=> ?_;clear h10
 have hp16:=h17.sh.passL (Lp:= [_,_,_])
 refine wl_ex (x_call h17 bd_141 rfl rfl rfl rfl rfl (put1_c _ gb bs words _ hp16 (by assumption) (by show bs.l.length+66*words.l.length≤9000000000000;first|omega|(simp only [List.length_cons,List.length_nil];omega)))) (wanted_none rfl _) ?_
 rintro a18 w18 ⟨_,⟨rfl,bs18,hbl18,hs18⟩,hf18⟩
 have hbn18:=congrArg List.length hbl18;rw [List.length_append,by8_len] at hbn18;have hbm18:=putB_len (l:=words.l) (by assumption)
 try dsimp only at hbn18 hbm18
 try simp only [List.length_cons,List.length_nil] at hbm18
 change Sh _ _ _ [.blk gb 204 [bs18.v], .own 5 bs18, .at_ words] at hs18
 have h18:St _ K W a18 w18 _ [_,_,_,_,_]:=⟨hf18,h17.sh.backI (Lp:= [_,_,_]) hs18⟩
 clear hf18 hs18
 clear h17
 refine gG h18<|nK k11<|gL<|gRn (oM 2 rfl<|onf fl_182_1 rfl<|olR 3 ti_23 rfl rfl<|.nl)<|gO [0,1,4,2,3] rfl<|fun a24 w24 h24=> ?_;clear h18
 have hp23:=h24.sh.passL (Lp:= [_,_,_])
 refine wl_ex (x_call h24 bd_141 rfl rfl rfl rfl rfl (put1_c _ gb bs18 owner _ hp23 (by assumption) (by show bs18.l.length+66*owner.l.length≤9000000000000;first|omega|(simp only [List.length_cons,List.length_nil];omega)))) (wanted_none rfl _) ?_
 rintro a25 w25 ⟨_,⟨rfl,bs25,hbl25,hs25⟩,hf25⟩
 have hbn25:=congrArg List.length hbl25;rw [List.length_append,by8_len] at hbn25;have hbm25:=putB_len (l:=owner.l) (by assumption)
 try dsimp only at hbn25 hbm25
 try simp only [List.length_cons,List.length_nil] at hbm25
 change Sh _ _ _ [.blk gb 204 [bs25.v], .own 5 bs25, .at_ owner] at hs25
 have h25:St _ K W a25 w25 _ [_,_,_,_,_]:=⟨hf25,h24.sh.backI (Lp:= [_,_,_]) hs25⟩
 clear hf25 hs25
 clear h24
 refine gG h25<|nN<|fun a26 w26 h26=> ?_;clear h25
 try simp only [Exit.then,Exit.inBlock,if_true]
 refine x_end0 (fn:=Tryz.f206) rfl h26<|⟨rfl,⟨bs25.v,bs25.l⟩, ?_, ?_,(h26.sh.sel [0,1,4,3,2] rfl)⟩
 ·show bs25.l=_
  rw [hbl25,hbl18];simp only [List.flatMap_cons,List.flatMap_nil,by8_app,List.append_nil,List.append_assoc]
 ·show bs25.l.length≤_
  omega
theorem tbTell_c (K:Nat→Prop)(gb:Nat)(bs:Ls UInt8)(g1 g0:Nat)(words owner:Ls Int)(wait:Ls (Ls Wt))(W:World)(hS:Sh K W W [.blk gb 204 [bs.v], .own 5 bs, .rblk g0 182 [words.v,owner.v], .at_ words, .at_ owner, .rblk g1 185 [.pointer (some ⟨g0,0,none⟩),wait.v], .at_ wait])(hwl:words.l.length≤64)(hol:owner.l.length≤4)(hRw:R64L words.l)(hRo:R64L owner.l)(hbn:bs.l.length≤4000000000000)(hwc:wait.l.length≤4)(hql:∀t,t<wait.l.length→(nth wait.l t).l.length≤3)(hRq:∀t,t<wait.l.length→R64W (nth wait.l t).l):
    Rets Tryz.prog 215 [.pointer (some ⟨g1,0,none⟩), .func (.func 141) #[] #[.pointer (some ⟨gb,0,none⟩)]] W (fun v w' =>v= .tuple #[]∧∃bs' :Ls UInt8,bs'.l=bs.l++by8 (([words.l,owner.l]++tqB (wait.l.map (·.l))).flatMap putB)∧bs'.l.length≤bs.l.length+9000∧Sh K W w' [.blk gb 204 [bs'.v], .own 5 bs', .rblk g0 182 [words.v,owner.v], .at_ words, .at_ owner, .rblk g1 185 [.pointer (some ⟨g0,0,none⟩),wait.v], .at_ wait]):=by
 refine gen Tryz.func215 Tryz.ntmps215 hS rfl fun a10 h10=>gG h10<|sK fun _ k11=>gRn (oM 1 rfl<|onf fl_185_0 rfl<|olR 5 ti_123 rfl rfl<|oM 1 rfl<|.nl)<|gM 5 rfl (fun _ _ h_=>xCl h_ bd_206 rfl (plTell_c _ gb bs g0 words owner _ (pKl 5 h_ rfl) hwl hol hRw hRo (by omega))) rfl<|?_;clear h10
 rintro _ _ w13 ⟨rfl,bs13,hbl13,hbn13,hs13⟩
 refine gBk hs13 rfl<|gU<|nK k11<|sK fun _ k14=>gNl (aA 6 rfl) fun hl15=>gRn (oM 1 rfl<|onf fl_185_1 rfl<|olR 5 ti_183 rfl rfl<|oln sl_183 (aA 6 rfl) rfl<|oM 1 rfl<|.nl)<|nK k14<|gB<|fun a17 w17 h17=> ?_;clear hs13
 refine x_loop (fun m a w=>∃(t:Nat) (bl:List UInt8) (vb:Value),(t≤wait.l.length)∧(bl=bs13.l++by8 ((tqB ((wait.l.take t).map (·.l))).flatMap putB))∧(bl.length≤bs13.l.length+700*t)∧St 44 K W a w [(1, .func (.func 141) #[] #[.pointer (some ⟨gb,0,none⟩)]),(18,wait.v),(19, .int .i64 ((wait.l.length:Nat):Int)),(20, .int .i64 ((t:Nat):Int))] [.blk gb 204 [vb], .own 5 (⟨vb,bl⟩:Ls UInt8), .rblk g0 182 [words.v,owner.v], .at_ words, .at_ owner, .rblk g1 185 [.pointer (some ⟨g0,0,none⟩),wait.v], .at_ wait]∧m=wait.l.length-t) ⟨_,0,bs13.l,bs13.v,(by omega),(by simp [tqB,by8]),(by omega),h17.nf ⟨rfl,rfl,rfl,rfl,trivial⟩,rfl⟩ ?_
 clear h17
 rintro m16 a16 w16 ⟨t,bl,vb,ht,hbo,hbq,h16,hm16⟩
 refine gG h16<|sG (oltN _ _ rfl<|.nl)<|gK fun _ k19=>gcd rfl (fun hb20 hp20=> ?_) fun hb20 hp20=> ?_;clear h16
 ·skip
  refine gS<|hK k19<|gK fun _ k21=>gB<|sG (oxN sl_183 ti_267 (aA 6 rfl) _ om9 rfl<|olE ((nth wait.l t).v) ti_267 (aA 6 rfl) om9 rfl<|oM 1 rfl<|.nl)<|gK fun _ k23=>sK fun _ k24=>gNl (fun w h=>((h.at 6 rfl).nth t (show t<wait.l.length from (by omega)))) fun (hl25:((nth wait.l t).l).length≤140737488355328)=>gRn (oM 1 rfl<|oln (n:=((nth wait.l t).l).length) sl_267 (fun w h=>((h.at 6 rfl).nth t (show t<wait.l.length from (by omega)))) rfl<|oM 1 rfl<|.nl)<|nK k24<|gB<|?_
  have hq3:=hql t (by omega)
  intro a27 w27 h27
  refine x_loop (fun m a w=>∃(k:Nat) (bl2:List UInt8) (vb2:Value),(k≤(nth wait.l t).l.length)∧(bl2=bl++by8 ((((nth wait.l t).l.take k).map wtN).flatMap putB))∧(bl2.length≤bl.length+200*k)∧St 44 K W a w [(1, .func (.func 141) #[] #[.pointer (some ⟨gb,0,none⟩)]),(18,wait.v),(19, .int .i64 ((wait.l.length:Nat):Int)),(20, .int .i64 ((t:Nat):Int)),(24,(nth wait.l t).v),(25, .int .i64 ((((nth wait.l t).l).length:Nat):Int)),(26, .int .i64 ((k:Nat):Int))] [.blk gb 204 [vb2], .own 5 (⟨vb2,bl2⟩:Ls UInt8), .rblk g0 182 [words.v,owner.v], .at_ words, .at_ owner, .rblk g1 185 [.pointer (some ⟨g0,0,none⟩),wait.v], .at_ wait]∧m=(nth wait.l t).l.length-k) ⟨_,0,bl,vb,(by omega),(by simp [by8]),(by omega),h27.nf ⟨rfl,rfl,rfl,rfl,rfl,rfl,rfl,trivial⟩,rfl⟩ ?_
  clear h27
  rintro m26 a26 w26 ⟨k,bl2,vb2,hk,hbi,hbj,h26,hm26⟩
  refine gG h26<|sG (oltN _ _ rfl<|.nl)<|gK fun _ k29=>gcd rfl (fun hb30 hp30=> ?_) fun hb30 hp30=> ?_;clear h26
  ·skip
   refine gS<|hK k29<|gK fun _ k31=>gB<|sK fun _ k32=>gRn (oxN sl_267 ti_266 (fun w h=>((h.at 6 rfl).nth t (show t<wait.l.length from (by omega)))) _ om9 rfl<|olw2 [.bool ((nth ((nth wait.l t).l) k).lock), .int .i64 ((nth ((nth wait.l t).l) k).wh), .int .i64 ((nth ((nth wait.l t).l) k).what)] ti_266 (fun w h=>((h.at 6 rfl).nth t (show t<wait.l.length from (by omega)))) om9 rfl<|.nl)<|gal ti_266 rfl fun b33=>gsw 0 ti_266 rfl rfl rfl<|nK k32<|sG (oM 1 rfl<|.nl)<|?_
   have hxr:=hRq t (by omega) _ (nth_mem (nth wait.l t).l k (by omega))
   refine gK fun _ k36=>sG (ofB fl_266_0 rfl<|olB 0 ti_4 rfl rfl<|.nl)<|gCb rfl (fun hb38=> ?_) fun hb38=> ?_
   ·skip
    refine gL<|gRn (oM 1 rfl<|.nl)<|nK k36<|gL<|gRn (oM 2 rfl<|ofB fl_266_1 rfl<|olB 0 ti_3 rfl rfl<|ofB fl_266_2 rfl<|olB 0 ti_3 rfl rfl<|.nl)<|gE1 (fun _ _ h_=>x_lit (n:=3) (cs:= [.int .i64 1, .int .i64 ((nth ((nth wait.l t).l) k).wh), .int .i64 ((nth ((nth wait.l t).l) k).what)]) ([1,(nth ((nth wait.l t).l) k).wh,(nth ((nth wait.l t).l) k).what]:List Int) h_ sl_23 ti_3 rfl rfl rfl (by decide) rfl (by kernel_rfl) rfl (fun q hq w h=>Flat.inner _ _) (fun q hq b hb=>(Flat.on _ _ hb).elim) rfl rfl) rfl fun v39=>fun a41 w41 h41=> ?_
    have h40:St _ _ _ _ _ _ _:=⟨h41.fr,h41.sh.share 0 rfl⟩
    clear h41
    have h42:=h40.sel (L' := [_,_,_,_,_,_,_,_,_]) [2,3,0,1,4,5,6,7,8] rfl
    have hp43:=h42.sh.passL (Lp:= [_,_,_])
    refine wl_ex (x_call h42 bd_141 rfl rfl rfl rfl rfl (put1_c _ gb (⟨vb2,bl2⟩:Ls UInt8) (⟨v39, [1,(nth ((nth wait.l t).l) k).wh,(nth ((nth wait.l t).l) k).what]⟩:Ls Int) _ hp43 (R64L.row hxr (by unfold R64;omega)) (by show bl2.length+66*([1,(nth ((nth wait.l t).l) k).wh,(nth ((nth wait.l t).l) k).what]).length≤9000000000000;first|omega|(simp only [List.length_cons,List.length_nil];omega)))) (wanted_none rfl _) ?_
    rintro a44 w44 ⟨_,⟨rfl,bs44,hbl44,hs44⟩,hf44⟩
    have hbn44:=congrArg List.length hbl44;rw [List.length_append,by8_len] at hbn44;have hbm44:=putB_len (l:= [1,(nth ((nth wait.l t).l) k).wh,(nth ((nth wait.l t).l) k).what]) (R64L.row hxr (by unfold R64;omega))
    try dsimp only at hbn44 hbm44
    try simp only [List.length_cons,List.length_nil] at hbm44
    change Sh _ _ _ [.blk gb 204 [bs44.v], .own 5 bs44, .at_ (⟨v39, [1,(nth ((nth wait.l t).l) k).wh,(nth ((nth wait.l t).l) k).what]⟩:Ls Int)] at hs44
    have h44:St _ K W a44 w44 _ [_,_,_,_,_,_,_,_,_]:=⟨hf44,h42.sh.backI (Lp:= [_,_,_]) hs44⟩
    clear hf44 hs44
    clear h42
    refine gG h44<|nK k31<|gL<|gRn (oadN _ 1 om9 rfl<|oM 1 rfl<|.nl)<|nN<|fun a45 w45 h45=>x_again ⟨_, ?_,(k+1),bs44.l,bs44.v, ?_, ?_, ?_,h45.nrm ⟨rfl,rfl,rfl,rfl,rfl,rfl,rfl,trivial⟩ [0,1,4,5,6,7,8] rfl,rfl⟩;clear h44
    · rw [hm26];first|omega|(simp only [lens9];omega)
    · omega
    · exact tel_take (by omega) hbi (by assumption) (by unfold wtN;first|rw [if_pos (by assumption)]|rw [if_neg (by simp [*])])
    · first|omega|(simp only [List.length_cons,List.length_nil] at*;omega)
   refine gS<|hK k36<|gL<|gRn (oM 2 rfl<|ofB fl_266_1 rfl<|olB 0 ti_3 rfl rfl<|ofB fl_266_2 rfl<|olB 0 ti_3 rfl rfl<|.nl)<|gE1 (fun _ _ h_=>x_lit (n:=3) (cs:= [.int .i64 0, .int .i64 ((nth ((nth wait.l t).l) k).wh), .int .i64 ((nth ((nth wait.l t).l) k).what)]) ([0,(nth ((nth wait.l t).l) k).wh,(nth ((nth wait.l t).l) k).what]:List Int) h_ sl_23 ti_3 rfl rfl rfl (by decide) rfl (by kernel_rfl) rfl (fun q hq w h=>Flat.inner _ _) (fun q hq b hb=>(Flat.on _ _ hb).elim) rfl rfl) rfl fun v46=>fun a48 w48 h48=> ?_
   have h47:St _ _ _ _ _ _ _:=⟨h48.fr,h48.sh.share 0 rfl⟩
   clear h48
   have h49:=h47.sel (L' := [_,_,_,_,_,_,_,_,_]) [2,3,0,1,4,5,6,7,8] rfl
   have hp50:=h49.sh.passL (Lp:= [_,_,_])
   refine wl_ex (x_call h49 bd_141 rfl rfl rfl rfl rfl (put1_c _ gb (⟨vb2,bl2⟩:Ls UInt8) (⟨v46, [0,(nth ((nth wait.l t).l) k).wh,(nth ((nth wait.l t).l) k).what]⟩:Ls Int) _ hp50 (R64L.row hxr (by unfold R64;omega)) (by show bl2.length+66*([0,(nth ((nth wait.l t).l) k).wh,(nth ((nth wait.l t).l) k).what]).length≤9000000000000;first|omega|(simp only [List.length_cons,List.length_nil];omega)))) (wanted_none rfl _) ?_
   rintro a51 w51 ⟨_,⟨rfl,bs51,hbl51,hs51⟩,hf51⟩
   have hbn51:=congrArg List.length hbl51;rw [List.length_append,by8_len] at hbn51;have hbm51:=putB_len (l:= [0,(nth ((nth wait.l t).l) k).wh,(nth ((nth wait.l t).l) k).what]) (R64L.row hxr (by unfold R64;omega))
   try dsimp only at hbn51 hbm51
   try simp only [List.length_cons,List.length_nil] at hbm51
   change Sh _ _ _ [.blk gb 204 [bs51.v], .own 5 bs51, .at_ (⟨v46, [0,(nth ((nth wait.l t).l) k).wh,(nth ((nth wait.l t).l) k).what]⟩:Ls Int)] at hs51
   have h51:St _ K W a51 w51 _ [_,_,_,_,_,_,_,_,_]:=⟨hf51,h49.sh.backI (Lp:= [_,_,_]) hs51⟩
   clear hf51 hs51
   clear h49
   refine gG h51<|nK k31<|gL<|gRn (oadN _ 1 om9 rfl<|oM 1 rfl<|.nl)<|nN<|fun a52 w52 h52=>x_again ⟨_, ?_,(k+1),bs51.l,bs51.v, ?_, ?_, ?_,h52.nrm ⟨rfl,rfl,rfl,rfl,rfl,rfl,rfl,trivial⟩ [0,1,4,5,6,7,8] rfl,rfl⟩;clear h51
   · rw [hm26];first|omega|(simp only [lens9];omega)
   · omega
   · exact tel_take (by omega) hbi (by assumption) (by unfold wtN;first|rw [if_pos (by assumption)]|rw [if_neg (by simp [*])])
   · first|omega|(simp only [List.length_cons,List.length_nil] at*;omega)
  refine gX<|hK k23<|gL<|gRn (oM 1 rfl<|.nl)<|fun a55 w55 h55=> ?_
  have h54:=h55.nil (α:=Int) 3
  clear h55
  have h56:St _ _ _ _ _ _ _:=⟨h54.fr,h54.sh.share 0 rfl⟩
  clear h54
  have h57:=h56.sel (L' := [_,_,_,_,_,_,_,_]) [1,2,0,3,4,5,6,7] rfl
  have hp58:=h57.sh.passL (Lp:= [_,_,_])
  refine wl_ex (x_call h57 bd_141 rfl rfl rfl rfl rfl (put1_c _ gb (⟨vb2,bl2⟩:Ls UInt8) (⟨.slice none 0 0, []⟩:Ls Int) _ hp58 R64L.nil (by show bl2.length+66*([]).length≤9000000000000;first|omega|(simp only [List.length_cons,List.length_nil];omega)))) (wanted_none rfl _) ?_
  rintro a59 w59 ⟨_,⟨rfl,bs59,hbl59,hs59⟩,hf59⟩
  have hbn59:=congrArg List.length hbl59;rw [List.length_append,by8_len] at hbn59;have hbm59:=putB_len (l:= []) R64L.nil
  try dsimp only at hbn59 hbm59
  try simp only [List.length_cons,List.length_nil] at hbm59
  change Sh _ _ _ [.blk gb 204 [bs59.v], .own 5 bs59, .at_ (⟨.slice none 0 0, []⟩:Ls Int)] at hs59
  have h59:St _ K W a59 w59 _ [_,_,_,_,_,_,_,_]:=⟨hf59,h57.sh.backI (Lp:= [_,_,_]) hs59⟩
  clear hf59 hs59
  clear h57
  refine gG h59<|nK k21<|gL<|gRn (oadN _ 1 om9 rfl<|oM 1 rfl<|.nl)<|nN<|fun a60 w60 h60=>x_again ⟨_, ?_,(t+1),bs59.l,bs59.v, ?_, ?_, ?_,h60.nrm ⟨rfl,rfl,rfl,rfl,trivial⟩ [0,1,3,4,5,6,7] rfl,rfl⟩;clear h59
  · rw [hm16];first|omega|(simp only [lens9];omega)
  · omega
  · exact tel_row (by omega) (by omega) hbo hbi (by assumption)
  · first|omega|(simp only [List.length_nil] at*;omega)
 refine gX<|fun a61 w61 h61=> ?_
 try simp only [Exit.then,Exit.inBlock,if_true]
 refine x_end0 (fn:=Tryz.f215) rfl h61<|⟨rfl,⟨vb,bl⟩, ?_, ?_,h61.sh⟩
 ·show bl=_
  rw [hbo,show t=wait.l.length by omega,List.take_length,hbl13,List.flatMap_append,by8_app,List.append_assoc]
 ·show bl.length≤_
  omega
theorem plCopy_c (g0:Nat)(words owner:Ls Int)(W:World)(hB:Blk W g0 182 #[words.v,owner.v])(hw:words.At W)(ho:owner.At W)(hwl:words.l.length≤64)(hol:owner.l.length≤4):
    Rets Tryz.prog 198 [.pointer (some ⟨g0,0,none⟩)] W (fun v w' =>∃(g:Nat) (words' owner' :Ls Int),v= .iface 123 (.pointer (some ⟨g,0,none⟩))∧words'.l=words.l∧owner'.l=owner.l∧Sh0 W w' [.blk g 182 [words'.v,owner'.v], .own 3 words', .own 3 owner']):=by
 refine gen Tryz.func198 Tryz.ntmps198 (Sh0.ext (by intro A hA;simp only [List.mem_cons,List.not_mem_nil,or_false] at hA;rcases hA with rfl|rfl|rfl;exact hB;exact hw;exact ho) (by intro A hA b hb;simp only [List.mem_cons,List.not_mem_nil,or_false] at hA;rcases hA with rfl|rfl|rfl<;>exact hb):Sh (fun _=>False) W W [.rblk g0 182 [words.v,owner.v], .at_ words, .at_ owner]) rfl fun a10 h10=>gG h10<|sG (oM 1 rfl<|.nl)<|gK fun _ k12=>gF [0] rfl<|rC [4,9,11] rfl<|pR [0,1,2,3,5,6,7,8] rfl (oM 1 rfl<|onf fl_182_0 rfl<|olR 0 ti_23 rfl rfl<|oM 1 rfl<|onf fl_182_1 rfl<|olR 0 ti_23 rfl rfl<|.nl) rfl<|pC (fun _ _ h_=>xCl h_ bd_44 rfl (cloneI_c words _ (h_.sh.at 1 rfl) (by first|omega|(simp only [lens9];omega)))) rfl<|?_;clear h10
 rintro _ _ w13 ⟨s13,rfl,hs13⟩
 refine pWk hs13 rfl<|pR [5,6,7,8] rfl (oM 1 rfl<|onf fl_182_1 rfl<|olR 1 ti_23 rfl rfl<|.nl) rfl<|pC (fun _ _ h_=>xCl h_ bd_44 rfl (cloneI_c owner _ (h_.sh.at 3 rfl) (by first|omega|(simp only [lens9];omega)))) rfl<|?_;clear hs13
 rintro _ _ w14 ⟨s14,rfl,hs14⟩
 refine pWk hs14 rfl<|pR [10] rfl (oV (r_buildS (cs:= [s13.v,s14.v]) rfl rfl (fun w h=>by obtain ⟨A16,n16,c16,(e16:s14.v=_)⟩:=((h.own 0 rfl)).form;rw [e16];obtain ⟨A15,n15,c15,(e15:s13.v=_)⟩:=((h.own 1 rfl)).form;rw [e15];kernel_rfl)) rfl<|.nl) rfl<|pX (fun _ _ h_=>x_box (cs:= [s13.v,s14.v]) h_ rfl rfl rfl rfl rfl) rfl fun b17=>pE [12,13] rfl (oV (Rn.same (r_mkIfP (T:=123) Tryz.underlying123 rfl rfl) rfl) rfl<|oM 1 rfl<|.nl) rfl<|hK k12<|gR<|fun a18 w18 h18=> ?_;clear hs14
 refine x_ret1 (fn:=Tryz.f198) (t:=2) rfl h18 rfl ?_
 exact ⟨b17,⟨s13.v,words.l⟩,⟨s14.v,owner.l⟩,rfl,rfl,rfl,(h18.sh.sel [0,2,1] rfl)⟩
theorem tbTwin_c (g1 g0:Nat)(words owner:Ls Int)(wait:Ls (Ls Wt))(W:World)(hB:Blk W g1 185 #[.pointer (some ⟨g0,0,none⟩),wait.v])(hq:wait.At W)(hM:Blk W g0 182 #[words.v,owner.v])(hw:words.At W)(ho:owner.At W)(hwl:words.l.length≤64)(hol:owner.l.length≤4)(hwc:wait.l.length≤4)(hql:∀t,t<wait.l.length→(nth wait.l t).l.length≤3):
    Rets Tryz.prog 217 [.pointer (some ⟨g1,0,none⟩)] W (fun v w' =>∃(gt g:Nat) (words' owner' :Ls Int) (q:Ls (Ls Wt)),v= .pointer (some ⟨gt,0,none⟩)∧words'.l=words.l∧owner'.l=owner.l∧(memT gt g).qs q=wait.l.map (·.l)∧Sh0 W w' (memA 182 3 (memT gt g) words' owner' q)):=by
 refine gen Tryz.func217 Tryz.ntmps217 (Sh0.ext (by intro A hA;simp only [List.mem_cons,List.not_mem_nil,or_false] at hA;rcases hA with rfl|rfl|rfl|rfl|rfl;exact hB;exact hq;exact hM;exact hw;exact ho) (by intro A hA b hb;simp only [List.mem_cons,List.not_mem_nil,or_false] at hA;rcases hA with rfl|rfl|rfl|rfl|rfl<;>exact hb):Sh (fun _=>False) W W [.rblk g1 185 [.pointer (some ⟨g0,0,none⟩),wait.v], .at_ wait, .rblk g0 182 [words.v,owner.v], .at_ words, .at_ owner]) rfl fun a10 h10=>gG h10<|sG (oM 1 rfl<|.nl)<|sK fun _ k12=>gRn (oM 1 rfl<|onf fl_185_0 rfl<|olR 0 ti_123 rfl rfl<|onf fl_182_0 rfl<|olR 2 ti_23 rfl rfl<|oV (r_buildS (cs:= [(.slice none 0 0),words.v, .int .i64 0, .int .i64 0]) rfl rfl (fun w h=>by obtain ⟨A13,n13,c13,(e13:words.v=_)⟩:=((h.at 3 rfl)).form;rw [e13];kernel_rfl)) rfl<|.nl)<|gC (fun _ _ h_=>xCl h_ bd_81 rfl (pnew_c words 0 (.slice none 0 0) 0 _ (h_.sh.at 3 rfl) (by omega) (by omega))) rfl<|?_;clear h10
 rintro _ _ w14 ⟨g14,mw14,mo14,rfl,hmw14,hmo14,hs14⟩
 refine gWk hs14 rfl<|fun a14 h14=> ?_;clear hs14
 refine gG h14<|gRn (oV (r_build (cs:= [.pointer (some ⟨g14,0,none⟩),(.slice none 0 0)]) rfl rfl (by kernel_rfl)) rfl<|.nl)<|gbx rfl rfl fun b15=>gRn (oM 1 rfl<|.nl)<|nK k12<|gK fun _ k16=>rC [11,14] rfl<|pR [0,1,2,3,4,5,6,7,8,9,10] rfl (oM 1 rfl<|onfl 0 fl_185_0 ti_123 rfl rfl<|oM 1 rfl<|onf fl_185_0 rfl<|olR 4 ti_123 rfl rfl<|onf fl_182_1 rfl<|olR 6 ti_23 rfl rfl<|.nl) rfl<|pC (fun _ _ h_=>xCl h_ bd_44 rfl (cloneI_c owner _ (h_.sh.at 8 rfl) (by first|omega|(simp only [lens9];omega)))) rfl<|?_;clear h14
 rintro _ _ w17 ⟨s17,rfl,hs17⟩
 refine pWk hs17 rfl<|pR [0,1,2,3,12,13] rfl (oM 1 rfl<|onfl 1 fl_185_0 ti_123 rfl rfl<|onf fl_182_1 rfl<|.nl) rfl<|pS (fun _ _ h_=>x_stb (i:=2) (vs:= [s17.v]) (cs' := [mw14.v,s17.v]) h_ ti_23 rfl rfl rfl rfl rfl (cells_oneL ((h_.sh.own 0 rfl)).one) rfl (allOne_cons ((h_.sh.own 0 rfl)).one allOne_nil) (Nat.le_of_ble_eq_true rfl) rfl) rfl<|pE [] rfl (.nl) rfl<|hK k16<|gF [0,3] rfl<|gK fun _ k19=>sK fun _ k20=>gNl (aA 6 rfl) fun hl21=>gRn (oM 1 rfl<|onf fl_185_1 rfl<|olR 5 ti_183 rfl rfl<|oln sl_183 (aA 6 rfl) rfl<|oM 1 rfl<|.nl)<|nK k20<|gB<|fun a24 w24 h24=> ?_;clear hs17
 have h23:St _ _ _ _ _ _ _:=⟨h24.fr,Sh.nilMat (α:=Wt) (IE:=266) (E:=267) h24.sh⟩
 clear h24
 refine x_loop (fun m a w=>∃(t:Nat) (M:List (Ls Wt)) (vm:Value),(t≤wait.l.length)∧(M.map (·.l)=(wait.l.take t).map (·.l))∧(M.length=t)∧St 53 (fun _=>False) W a w [(3, .pointer (some ⟨b15,0,none⟩)),(34,wait.v),(35, .int .i64 ((wait.l.length:Nat):Int)),(36, .int .i64 ((t:Nat):Int))] [.own 3 (⟨s17.v,owner.l⟩:Ls Int), .blk b15 185 [.pointer (some ⟨g14,0,none⟩),vm], .blk g14 182 [mw14.v,s17.v], .own 3 mw14, .own 3 mo14, .rblk g1 185 [.pointer (some ⟨g0,0,none⟩),wait.v], .at_ wait, .rblk g0 182 [words.v,owner.v], .at_ words, .at_ owner, .big (matX (.own 266) 267 vm M)]∧m=wait.l.length-t) ⟨_,0, [],(.slice none 0 0),(by omega),(rfl),(rfl),h23.nrm ⟨rfl,rfl,rfl,rfl,trivial⟩ [1,2,3,4,5,6,7,8,9,10,0] rfl,rfl⟩ ?_
 clear h23
 rintro m22 a22 w22 ⟨t,M,vm,ht,hM9,hMn,h22,hm22⟩
 refine gG h22<|sG (oltN _ _ rfl<|.nl)<|gK fun _ k26=>gcd rfl (fun hb27 hp27=> ?_) fun hb27 hp27=> ?_;clear h22
 ·skip
  refine gS<|hK k26<|gK fun _ k28=>gB<|sG (oxN sl_183 ti_267 (aA 6 rfl) _ om9 rfl<|olE ((nth wait.l t).v) ti_267 (aA 6 rfl) om9 rfl<|oM 1 rfl<|.nl)<|rC [6,7,8,11] rfl<|pR [0,1,2,3,4,5] rfl (oM 2 rfl<|onfl 1 fl_185_1 ti_183 rfl rfl<|oM 1 rfl<|.nl) rfl<|pC (fun _ _ h_=>xCl h_ bd_219 rfl (cloneW_c (nth wait.l t) _ ((h_.sh.at 6 rfl).nth t (show t<wait.l.length from (by omega))) (by have:=hql t (by omega);omega))) rfl<|?_
  rintro _ _ w30 ⟨s30,rfl,hs30⟩
  refine pWk hs30 rfl<|pR [0,1,2,3,4] rfl (oM 2 rfl<|onfl 2 fl_185_1 ti_183 rfl rfl<|.nl) rfl<|pX (fun _ _ h_=>x_lit (n:=1) (cs:= [s30.v]) ([⟨s30.v⟩]:List RV) h_ sl_183 ti_267 rfl rfl rfl (by decide) rfl (by obtain ⟨A31,n31,c31,(e31:s30.v=_)⟩:=((h_.sh.own 0 rfl)).form;rw [e31];kernel_rfl) rfl (fun _ _ _ _=>trivial) (fun q hq b hb=>(Flat.on _ _ hb).elim) rfl rfl) rfl fun v32=>pR [0,1,2,3,4] rfl (oM 2 rfl<|onfl 3 fl_185_1 ti_183 rfl rfl<|.nl) rfl<|pO [12,1,0,2,3,4,5,6,7,8,9,10,11] rfl<|pX (fun _ _ h_=>x_appRow h_ sl_183 ti_267 rfl rfl rfl rfl rfl (show (M.length+1)*24≤140737488355328∧M.length+1≤140737488355328 from om9) rfl rfl) rfl fun v34=>pR [0,9,10] rfl (oM 1 rfl<|onf fl_185_1 rfl<|.nl) rfl<|pS (fun _ _ h_=>x_stb (i:=2) (vs:= [v34]) (cs' := [.pointer (some ⟨g14,0,none⟩),v34]) h_ ti_183 rfl rfl rfl rfl rfl (cells_oneL ((h_.sh.matAt 0 rfl)).one) rfl (allOne_cons ((h_.sh.matAt 0 rfl)).one allOne_nil) (Nat.le_of_ble_eq_true rfl) rfl) rfl<|pE [] rfl (.nl) rfl<|hK k28<|gL<|gRn (oadN _ 1 om9 rfl<|oM 1 rfl<|.nl)<|nN<|fun a36 w36 h36=> ?_;clear hs30
  refine x_again ⟨_, ?_,(t+1),M++ [(⟨s30.v,(nth wait.l t).l⟩:Ls Wt)],v34, ?_, ?_, ?_,h36.nrm ⟨rfl,rfl,rfl,rfl,trivial⟩ [1,2,3,4,5,6,7,8,9,10,0] rfl,rfl⟩
  · rw [hm22];first|omega|(simp only [lens9];omega)
  · omega
  · rw [take_succ_nth _ _ (by omega),List.map_append,List.map_append,hM9];rfl
  · (rw [List.length_append];simp only [List.length_cons,List.length_nil];omega)
 refine gX<|hK k19<|sG (oM 2 rfl<|.nl)<|gR<|fun a38 w38 h38=>x_ret1 (fn:=Tryz.f217) (t:=2) rfl h38 rfl ?_
 exact ⟨b15,g14,⟨mw14.v,mw14.l⟩,⟨s17.v,owner.l⟩,⟨vm,M⟩,rfl,hmw14,rfl,(by show M.map (·.l)=wait.l.map (·.l);rw [hM9,show t=wait.l.length by omega,List.take_length]),memT_close (q:=⟨vm,M⟩) (h38.sh.sel [1,10,2,3,0] rfl)⟩
theorem tbCopy_c (g1 g0:Nat)(words owner:Ls Int)(wait:Ls (Ls Wt))(W:World)(hB:Blk W g1 185 #[.pointer (some ⟨g0,0,none⟩),wait.v])(hq:wait.At W)(hM:Blk W g0 182 #[words.v,owner.v])(hw:words.At W)(ho:owner.At W)(hwl:words.l.length≤64)(hol:owner.l.length≤4)(hwc:wait.l.length≤4)(hql:∀t,t<wait.l.length→(nth wait.l t).l.length≤3):
    Rets Tryz.prog 208 [.pointer (some ⟨g1,0,none⟩)] W (fun v w' =>∃(gt g:Nat) (words' owner' :Ls Int) (q:Ls (Ls Wt)),v= .iface 125 (.pointer (some ⟨gt,0,none⟩))∧words'.l=words.l∧owner'.l=owner.l∧(memT gt g).qs q=wait.l.map (·.l)∧Sh0 W w' (memA 182 3 (memT gt g) words' owner' q)):=by
 refine gen Tryz.func208 Tryz.ntmps208 (Sh0.ext (by intro A hA;simp only [List.mem_cons,List.not_mem_nil,or_false] at hA;rcases hA with rfl|rfl|rfl|rfl|rfl;exact hB;exact hq;exact hM;exact hw;exact ho) (by intro A hA b hb;simp only [List.mem_cons,List.not_mem_nil,or_false] at hA;rcases hA with rfl|rfl|rfl|rfl|rfl<;>exact hb):Sh (fun _=>False) W W [.rblk g1 185 [.pointer (some ⟨g0,0,none⟩),wait.v], .at_ wait, .rblk g0 182 [words.v,owner.v], .at_ words, .at_ owner]) rfl fun a10 h10=>gG h10<|sG (oM 1 rfl<|.nl)<|sK fun _ k12=>gRn (oM 1 rfl<|.nl)<|fun a14 w14 h14=>wl_ex (x_call h14 bd_217 rfl rfl rfl rfl rfl (tbTwin_c g1 g0 words owner wait _ (h14.sh.rblk 0 rfl) (h14.sh.at 1 rfl) (h14.sh.rblk 2 rfl) (h14.sh.at 3 rfl) (h14.sh.at 4 rfl) hwl hol hwc hql)) (wanted_none rfl _) ?_;clear h10
 rintro a15 w15 ⟨_,⟨gt15,g15,mw15,mo15,q15,rfl,hmw15,hmo15,hq15,hs15⟩,hf15⟩
 have h15:=(⟨hf15,h14.sh.call hs15 (by intro A hA b hb;simp only [memA,List.mem_cons,List.not_mem_nil,or_false] at hA;first|(subst hA;exact Flat.noRd hb)|(rcases hA with rfl|rfl|rfl|rfl<;>first|exact (hb:False).elim|exact Flat.noRd hb|exact (memT_rd hb).elim))⟩:St 6 (fun _=>False) W a15 w15 _ _)
 clear hf15 hs15
 clear h14
 refine gG h15<|gRn (oV (Rn.same (r_mkIfP (T:=125) Tryz.underlying125 rfl rfl) rfl) rfl<|oM 1 rfl<|.nl)<|nK k12<|gR<|fun a16 w16 h16=>x_ret1 (fn:=Tryz.f208) (t:=2) rfl h16 rfl ?_;clear h15
 exact ⟨gt15,g15,mw15,mo15,q15,rfl,hmw15,hmo15,hq15,(h16.sh.sel [0,1,2,3] rfl)⟩
theorem matX_on {IE E:TypeId}{v:Value}{M:List (Ls Wt)}{w:World}{b:Nat}(h:(Asn.big (matX (.own IE) E v M)).ok w)(hb:(⟨v,M⟩:Ls (Ls Wt)).on b):(Asn.big (matX (.own IE) E v M)).fp b:=by
 rcases hb with ⟨h0,hb⟩|⟨i,hi,hb⟩
 ·refine ⟨_,List.mem_cons_self .., ?_⟩
  have h1:(⟨v,rvs M⟩:Ls RV).on b:= .inl ⟨by show 0<(rvs M).length;rw [rvs_len];exact h0,hb⟩
  exact (own_on (h.1 _ (List.mem_cons_self ..)) h1).elim id fun h9=>Flat.noRd h9
 ·have hm:Asn.own IE (nth M i)∈matX (.own IE) E v M:=List.mem_cons_of_mem _ (List.mem_map.2 ⟨_,nth_mem _ _ hi,rfl⟩)
  exact ⟨_,hm,(own_mat (nth M i) w (h.1 _ hm)).2 b hb⟩
theorem memT_on {g1 g0:Nat}{q:Ls (Ls Wt)}{w:World}{b:Nat}(h:((memT g1 g0).X q).ok w)(hb:q.on b):((memT g1 g0).X q).fp b:=
 ⟨_,List.mem_cons_of_mem _ (List.mem_cons_self ..),matX_on (h.1 _ (List.mem_cons_of_mem _ (List.mem_cons_self ..))) hb⟩
def FP :MemF:=⟨Nat,memP,123,0,fun _=> [],fun q=>∀l∈q,l= [],0,(0:Nat)⟩
def FT :MemF:=⟨Nat×Nat,fun i=>memT i.1 i.2,125,1,tqB,fun _=>True,(0,0),(default:Ls (Ls Wt))⟩
theorem FP_ok :MemFI Tryz.prog 182 3 204 5 141 FP where
 ok i:=memP_ok i
 hT _:=rfl
 hm _:=rfl
 tq:=tq0_ok
 qQ i q l hl:=(List.mem_replicate.1 (show l∈List.replicate q [] from hl)).2
 copy w i words owner q h hwl hol _ _:=⟨198,⟨i,0,none⟩,by kernel_rfl,bd_198,by
  refine Rets.mono (plCopy_c i words owner w h.blk h.wa h.oa hwl hol) ?_
  rintro v w' ⟨g',words',owner',rfl,h1,h2,hs⟩
  exact ⟨g',words',owner',q,rfl,h1,h2,rfl,hs.emp.sel (L' := [.blk g' 182 [words'.v,owner'.v], .own 3 words', .own 3 owner',Asn.emp]) [1,2,3,0] rfl⟩⟩
 tell K W i words owner q gb bs hS hwl hol hqc hq3 hRw hRo hRq hbn:=⟨206,⟨i,0,none⟩,by kernel_rfl,bd_206,by
  have h2:Sh K W W ([.blk gb 204 [bs.v], .own 5 bs, .rblk i 182 [words.v,owner.v], .at_ words, .at_ owner]++ [.ro [Asn.emp]]):=hS
  refine Rets.mono (plTell_c _ gb bs i words owner W h2.passL hwl hol hRw hRo (by omega)) ?_
  rintro v w' ⟨rfl,bs',e,hn,hs⟩
  exact ⟨rfl,bs',e,by omega,h2.backL hs (by
   intro C hC b hb
   simp only [List.mem_cons,List.not_mem_nil,or_false] at hC
   rcases hC with rfl|rfl|rfl|rfl|rfl
   ·exact (hb:False).elim
   ·exact Flat.noRd hb
   all_goals exact .inl ⟨_,by simp, .inr hb⟩)⟩⟩
theorem FT_ok :MemFI Tryz.prog 182 3 204 5 141 FT where
 ok i:=memT_ok i.1 i.2
 hT _:=rfl
 hm _:=rfl
 tq:=tqB_ok
 qQ _ _:=trivial
 copy w i words owner q h hwl hol hqc hq3:=⟨208,⟨i.1,0,none⟩,by kernel_rfl,bd_208,by
  obtain ⟨hB,hq⟩:=memT_at h.x
  have hql' :q.l.length≤4:=by have h9:(q.l.map (·.l)).length≤4:=hqc;rwa [List.length_map] at h9
  refine Rets.mono (tbCopy_c i.1 i.2 words owner q w hB hq h.blk h.wa h.oa hwl hol hql' (fun t ht=>hq3 _ (List.mem_map.2 ⟨_,nth_mem _ _ ht,rfl⟩))) ?_
  rintro v w' ⟨gt,g,words',owner',q',rfl,h1,h2,h3,hs⟩
  exact ⟨(gt,g),words',owner',q',rfl,h1,h2,h3,hs⟩⟩
 tell K W i words owner q gb bs hS hwl hol hqc hq3 hRw hRo hRq hbn:=⟨215,⟨i.1,0,none⟩,by kernel_rfl,bd_215,by
  have hx:((memT i.1 i.2).X q).ok W:=hS.ok (.ro [(memT i.1 i.2).X q]) (List.mem_of_getElem? (i:=5) rfl) _ (List.mem_singleton.2 rfl)
  have hxt:((memT i.1 i.2).X q).ok W:=hx
  obtain ⟨hB,hq⟩:=memT_at hxt
  have h1:=(hS.addRd (A:= .at_ q) hq (fun b hb=>hb) (fun b hb=>⟨.ro [(memT i.1 i.2).X q],List.mem_of_getElem? (i:=5) rfl,_,List.mem_singleton.2 rfl, .inl ((memT_on hxt hb))⟩)).addRd (A:= .rblk i.1 185 [.pointer (some ⟨i.2,0,none⟩),q.v]) hB (fun b hb=>hb) (fun b hb=>⟨.ro [(memT i.1 i.2).X q],List.mem_of_getElem? (i:=6) rfl,_,List.mem_singleton.2 rfl, .inl (⟨_,List.mem_cons_self ..,hb⟩)⟩)
  have h2:Sh K W W ([.blk gb 204 [bs.v], .own 5 bs, .rblk i.2 182 [words.v,owner.v], .at_ words, .at_ owner, .rblk i.1 185 [.pointer (some ⟨i.2,0,none⟩),q.v], .at_ q]++ [.ro [(memT i.1 i.2).X q]]):=h1.sel [2,3,4,5,6,0,1,7] rfl
  have hl:∀t,t<q.l.length→(nth q.l t).l∈(memT i.1 i.2).qs q:=fun t ht=>List.mem_map.2 ⟨_,nth_mem _ _ ht,rfl⟩
  have hql' :q.l.length≤4:=by have h9:(q.l.map (·.l)).length≤4:=hqc;rwa [List.length_map] at h9
  refine Rets.mono (tbTell_c _ gb bs i.1 i.2 words owner q W h2.passL hwl hol hRw hRo (by omega) hql' (fun t ht=>hq3 _ (hl t ht)) (fun t ht=>hRq _ (hl t ht))) ?_
  rintro v w' ⟨rfl,bs',e,hn,hs⟩
  refine ⟨rfl,bs',e,by omega,(h2.backL hs (by
   intro C hC b hb
   simp only [List.mem_cons,List.not_mem_nil,or_false] at hC
   rcases hC with rfl|rfl|rfl|rfl|rfl|rfl|rfl
   ·exact (hb:False).elim
   ·exact Flat.noRd hb
   all_goals exact .inl ⟨_,by simp, .inr hb⟩)).sel [0,1,2,3,4,7] rfl⟩⟩
structure KeyOK {F:MemF}(x:PSD F):Prop where
 rl:x.rows.length≤4
 pc:∀t,t<x.rows.length→R64 (nth x.rows t).pc
 regs:∀t,t<x.rows.length→R64L (nth x.rows t).regs.l
 rn:∀t,t<x.rows.length→(nth x.rows t).regs.l.length≤200
 pr:R64L x.prints.l
 pn:x.prints.l.length≤100000
 wl:x.words.l.length≤64
 ol:x.owner.l.length≤4
 ql:x.qs.length≤4
 q3:∀l∈x.qs,l.length≤3
 Rw:R64L x.words.l
 Ro:R64L x.owner.l
 Rq:∀l∈x.qs,R64W l
theorem R64L.one {n:Int}(h:R64 n):R64L [n]:=fun x hx=>by
 obtain rfl:x=n:=by simpa using hx
 exact h
theorem key_step {l:List Th}{t:Nat}{b c d:List UInt8}(h:t<l.length)(hb:b=by8 (((l.take t).flatMap fun y=> [[y.pc],y.regs]).flatMap putB)){p:Int}{r:List Int}(hc:c=b++by8 (putB [p]))(hd:d=c++by8 (putB r))(hp:p=(nth l t).pc)(hr:r=(nth l t).regs):d=by8 (((l.take (t+1)).flatMap fun y=> [[y.pc],y.regs]).flatMap putB):=by
 rw [hd,hc,hb,take_succ_nth _ _ h,hp,hr]
 simp only [List.flatMap_append,by8_app,List.flatMap_cons,List.flatMap_nil,List.append_nil,List.append_assoc]
theorem key_end {F:MemF}{x:PSD F}{t:Nat}{b c d:List UInt8}(ht:t=x.rows.length)(hb:b=by8 (((x.st.ths.take t).flatMap fun y=> [[y.pc],y.regs]).flatMap putB))(hw:x.st.ths.map Th.wait=x.qs)(hc:c=b++by8 ((F.tells x.i x.words x.owner x.q).flatMap putB))(hd:d=c++by8 (putB x.prints.l)):d=by8 (keyB F.tq x.st):=by
 rw [hd,hc,hb,ht,←PSD.st_len,List.take_length]
 unfold keyB keyLL MemF.tells
 rw [hw]
 simp only [List.flatMap_append,by8_app,List.flatMap_cons,List.flatMap_nil,List.append_nil,List.append_assoc,List.nil_append,List.cons_append]
 rfl
theorem key_pos {F:MemF}{s:MSt}{l:List UInt8}(h:l=by8 (keyB F.tq s)):0<l.length:=by
 rw [h,by8_len]
 unfold keyB keyLL
 simp only [List.flatMap_append,List.flatMap_cons,List.flatMap_nil,List.length_append]
 have:0<(putB s.words).length:=by unfold putB;simp
 omega
theorem psd_th {F:MemF}{x:PSD F}{t:Nat}(h:t<x.rows.length):(nth x.st.ths t).pc=(nth x.rows t).pc∧(nth x.st.ths t).regs=(nth x.rows t).regs.l:=by
 unfold PSD.st
 rw [mstR_th h]
 exact ⟨rfl,rfl⟩
theorem psd_wait {F:MemF}{x:PSD F}(h:x.qs.length=x.rows.length):x.st.ths.map Th.wait=x.qs:=by
 unfold PSD.st mstR
 rw [List.map_map]
 refine ext_nth _ _ (by simp [h]) fun i hi=> ?_
 have hi' :i<x.rows.length:=by simpa using hi
 rw [nth_map' _ _ _ (by simpa using hi'),nth_range hi']
 rfl
theorem clone_nth {rows M:List ThR}{t:Nat}(hM:M.length=t)(ht:t<rows.length):nth (M.map ThR.toQ++(rows.drop t).map ThR.toQ) t=(nth rows t).toQ:=by
 have e:rows.drop t=nth rows t::rows.drop (t+1):=by rw [nth_lt _ _ ht];exact List.drop_eq_getElem_cons ht
 rw [e]
 subst hM
 simp [nth,List.getD]
theorem mid_set {α:Type}{l m:List α}{k:Nat}{a b:α}(h:k=l.length):(l++a::m).set k b=l++b::m:=by subst h;simp
theorem clone_set {rows M:List ThR}{t:Nat}(hM:M.length=t)(ht:t<rows.length)(s:Ls Int):(M.map ThR.toQ++(rows.drop t).map ThR.toQ).set t (⟨(nth (M.map ThR.toQ++(rows.drop t).map ThR.toQ) t).pc,s.v⟩:ThQ)=(M++ [(⟨(nth rows t).pc,s⟩:ThR)]).map ThR.toQ++(rows.drop (t+1)).map ThR.toQ:=by
 rw [clone_nth hM ht]
 have e:rows.drop t=nth rows t::rows.drop (t+1):=by rw [nth_lt _ _ ht];exact List.drop_eq_getElem_cons ht
 rw [e,List.map_cons,List.map_append,List.append_assoc]
 rw [show (M.map ThR.toQ++(nth rows t).toQ::(rows.drop (t+1)).map ThR.toQ).set t (⟨(nth rows t).toQ.pc,s.v⟩:ThQ)=M.map ThR.toQ++(⟨(nth rows t).toQ.pc,s.v⟩:ThQ)::(rows.drop (t+1)).map ThR.toQ from mid_set (by simp [hM])]
 rfl
theorem mstR_congr {rows rows' :List ThR}{qs:List (List Wt)}{words owner prints:List Int}(h:rows'.map (fun r=>(r.pc,r.regs.l))=rows.map (fun r=>(r.pc,r.regs.l))):mstR rows' qs words owner prints=mstR rows qs words owner prints:=by
 have hl:rows'.length=rows.length:=by simpa using congrArg List.length h
 unfold mstR
 rw [hl]
 congr 1
 refine List.map_congr_left fun t ht=> ?_
 have ht' :t<rows.length:=by simpa using ht
 have e:∀(l:List ThR),t<l.length→(l.map fun r=>(r.pc,r.regs.l))[t]? =some ((nth l t).pc,(nth l t).regs.l):=fun l h9=>by
  rw [List.getElem?_map,List.getElem?_eq_getElem h9,nth_lt _ _ h9];rfl
 have h2:(rows'.map fun r=>(r.pc,r.regs.l))[t]? =(rows.map fun r=>(r.pc,r.regs.l))[t]? :=by rw [h]
 rw [e _ (by omega),e _ ht'] at h2
 obtain ⟨e1,e2⟩:=Prod.mk.inj (Option.some.inj h2)
 rw [e1,e2]
theorem one_thq {l:List ThQ}(h:∀r∈l,r.rv.oneCell' =true){q:Nat}(hq:q<l.length){j:Nat}(hj:j<Enc.sz ThQ):(Enc.cell (nth l q) j).oneCell' =true:=by
 rcases j with _|_|j
 ·rfl
 ·exact h _ (nth_mem _ _ hq)
 ·exact absurd hj (by show¬(j+1+1<2);omega)
theorem key_c (F:MemF)(x:PSD F)(W:World)(hF:MemFI Tryz.prog 182 3 204 5 141 F)(hX:x.Rd W)(hk:KeyOK x)(hql:x.qs.length=x.rows.length):
    Rets Tryz.prog 101 [.pointer (some ⟨x.g,0,none⟩)] W (fun v w' =>v= .string (keyS F.tq x.st)∧Sh0 W w' []):=by
 have hrl:=hk.rl
 have hrl2:(x.rows.map ThR.toQ).length=x.rows.length:=List.length_map _
 have hkp:=hk.pn
 refine gen Tryz.func101 Tryz.ntmps101 (Sh0.ext (by intro A hA;simp only [List.mem_cons,List.not_mem_nil,or_false] at hA;rcases hA with rfl|rfl|rfl|rfl|rfl|rfl|rfl|rfl;exact hX.blk;exact hX.thr;exact hX.row;exact hX.prints;exact hX.mem.blk;exact hX.mem.wa;exact hX.mem.oa;exact (fun A hA=>by obtain rfl:=List.mem_singleton.1 hA;exact hX.mem.x)) (by intro A hA b hb;simp only [List.mem_cons,List.not_mem_nil,or_false] at hA;rcases hA with rfl|rfl|rfl|rfl|rfl|rfl|rfl|rfl<;>exact hb):Sh (fun _=>False) W W [.rblk x.g 173 [.iface (F.mem x.i).T (.pointer (some (F.mem x.i).u)), .pointer (some ⟨x.gp,0,none⟩),x.vt,x.prints.v, .bool false], .at_ (⟨x.vt,x.rows.map ThR.toQ⟩:Ls ThQ), .rgs x.rows, .at_ x.prints, .rblk (F.mem x.i).g0 182 [x.words.v,x.owner.v], .at_ x.words, .at_ x.owner, .ro [(F.mem x.i).X x.q]]) rfl fun a10 h10=>gG h10<|sG (oM 1 rfl<|.nl)<|sK fun _ k12=>gal ti_204 rfl fun b13=>nK k12<|sG (oV (r_makeFunc rfl rfl rfl) rfl<|oM 1 rfl<|.nl)<|gK fun _ k15=>sK fun _ k16=>gNl (aA 2 rfl) fun (hl17:(x.rows.map ThR.toQ).length≤140737488355328)=>gRn (oM 1 rfl<|onf fl_173_2 rfl<|olR 1 ti_171 rfl rfl<|oln (n:=(x.rows.map ThR.toQ).length) sl_171 (aA 2 rfl) rfl<|oM 1 rfl<|.nl)<|nK k16<|gB<|fun a20 w20 h20=> ?_;clear h10
 have h19:=h20.nil (α:=UInt8) 5
 clear h20
 refine x_loop (fun m a w=>∃(t:Nat) (bl:List UInt8) (vb:Value),(t≤x.rows.length)∧(bl=by8 (((x.st.ths.take t).flatMap fun y=> [[y.pc],y.regs]).flatMap putB))∧(bl.length≤20000*t)∧St 41 (fun _=>False) W a w [(0, .pointer (some ⟨x.g,0,none⟩)),(3, .pointer (some ⟨b13,0,none⟩)),(4, .func (.func 141) #[] #[.pointer (some ⟨b13,0,none⟩)]),(11,x.vt),(12, .int .i64 (((x.rows.map ThR.toQ).length:Nat):Int)),(13, .int .i64 ((t:Nat):Int))] [.blk b13 204 [vb], .rblk x.g 173 [.iface (F.mem x.i).T (.pointer (some (F.mem x.i).u)), .pointer (some ⟨x.gp,0,none⟩),x.vt,x.prints.v, .bool false], .at_ (⟨x.vt,x.rows.map ThR.toQ⟩:Ls ThQ), .rgs x.rows, .at_ x.prints, .rblk (F.mem x.i).g0 182 [x.words.v,x.owner.v], .at_ x.words, .at_ x.owner, .ro [(F.mem x.i).X x.q], .own 5 (⟨vb,bl⟩:Ls UInt8)]∧m=x.rows.length-t) ⟨_,0, [],(.slice none 0 0),(by omega),(rfl),(by simp),h19.nrm ⟨rfl,rfl,rfl,rfl,rfl,rfl,trivial⟩ [1,2,3,4,5,6,7,8,9,0] rfl,rfl⟩ ?_
 clear h19
 rintro m18 a18 w18 ⟨t,bl,vb,ht,hbl,hbn,h18,hm18⟩
 refine gG h18<|sG (oltN _ _ rfl<|.nl)<|gK fun _ k22=>gcd rfl (fun hb23 hp23=> ?_) fun hb23 hp23=> ?_;clear h18
 ·skip
  refine gS<|hK k22<|gK fun _ k24=>gB<|sK fun _ k25=>gRn (oxN sl_171 ti_189 (aA 2 rfl) _ (show t<(x.rows.map ThR.toQ).length from om9) rfl<|oV (Rn.same (r_ldew (s:=(⟨x.vt,x.rows.map ThR.toQ⟩:Ls ThQ)) (i:=t) (vs:= [.int .i64 ((nth (x.rows.map ThR.toQ) t).pc),((nth (x.rows.map ThR.toQ) t).rv)]) ti_189 rfl rfl rfl (fun w h=>(h.at 2 rfl)) (show t<(x.rows.map ThR.toQ).length from om9) (Nat.le_of_ble_eq_true rfl) rfl) (by rw [show ((nth (x.rows.map ThR.toQ) t).rv)=(nth x.rows t).regs.v from (by rw [toQ_at (by omega)];rfl)])) rfl<|.nl)<|gal ti_189 rfl fun b26=>gE (fun _ _ h_=>x_stb (i:=0) (vs:= [.int .i64 ((nth (x.rows.map ThR.toQ) t).pc),(nth x.rows t).regs.v]) (cs' := [.int .i64 ((nth (x.rows.map ThR.toQ) t).pc),(nth x.rows t).regs.v]) h_ ti_189 rfl rfl rfl rfl rfl rfl rfl (allOne_cons rfl (allOne_cons ((rgs_at h_.sh 4 rfl t (show t<x.rows.length from om9))).one allOne_nil)) (Nat.le_of_ble_eq_true rfl) rfl) rfl<|nK k25<|sK fun _ k28=>gRn (oM 1 rfl<|ofB fl_189_0 rfl<|olB 0 ti_3 rfl rfl<|.nl)<|gE1 (fun _ _ h_=>x_lit (n:=1) (cs:= [.int .i64 ((nth (x.rows.map ThR.toQ) t).pc)]) ([(nth (x.rows.map ThR.toQ) t).pc]:List Int) h_ sl_23 ti_3 rfl rfl rfl (by decide) rfl (by kernel_rfl) rfl (fun q hq w h=>Flat.inner _ _) (fun q hq b hb=>(Flat.on _ _ hb).elim) rfl rfl) rfl fun v29=>fun a31 w31 h31=> ?_
  have h30:St _ _ _ _ _ _ _:=⟨h31.fr,h31.sh.share 0 rfl⟩
  clear h31
  have h32:=h30.sel (L' := [_,_,_,_,_,_,_,_,_,_,_,_]) [2,11,0,1,3,4,5,6,7,8,9,10] rfl
  have hp33:=h32.sh.passL (Lp:= [_,_,_])
  refine wl_ex (x_call h32 bd_141 rfl rfl rfl rfl rfl (put1_c _ b13 (⟨vb,bl⟩:Ls UInt8) (⟨v29, [(nth (x.rows.map ThR.toQ) t).pc]⟩:Ls Int) _ hp33 (by rw [toQ_at (by omega)];exact R64L.one (hk.pc t (by omega))) (by show bl.length+66*([(nth (x.rows.map ThR.toQ) t).pc]).length≤9000000000000;first|omega|(simp only [List.length_cons,List.length_nil];omega)))) (wanted_none rfl _) ?_
  rintro a34 w34 ⟨_,⟨rfl,bs34,hbl34,hs34⟩,hf34⟩
  have hbn34:=congrArg List.length hbl34;rw [List.length_append,by8_len] at hbn34;have hbm34:=putB_len (l:= [(nth (x.rows.map ThR.toQ) t).pc]) (by rw [toQ_at (by omega)];exact R64L.one (hk.pc t (by omega)))
  try dsimp only at hbn34 hbm34
  try simp only [List.length_cons,List.length_nil] at hbm34
  change Sh _ _ _ [.blk b13 204 [bs34.v], .own 5 bs34, .at_ (⟨v29, [(nth (x.rows.map ThR.toQ) t).pc]⟩:Ls Int)] at hs34
  have h34:St _ (fun _=>False) W a34 w34 _ [_,_,_,_,_,_,_,_,_,_,_,_]:=⟨hf34,h32.sh.backI (Lp:= [_,_,_]) hs34⟩
  clear hf34 hs34
  clear h32
  refine gG h34<|nK k28<|?_;clear h34
  have hkr:=hk.rn t (by omega)
  refine gL<|gRn (oM 1 rfl<|ofB fl_189_1 rfl<|olB 3 ti_23 rfl rfl<|.nl)<|fun a36 w36 h36=> ?_
  have h35:=h36.addRd (A:= .at_ ((nth x.rows t).regs)) (rgs_at h36.sh 6 rfl t (by omega)) (fun b hb=>hb) (fun b hb=>⟨_,List.mem_of_getElem? (i:=6) rfl,_,nth_mem _ _ (by omega),hb⟩)
  clear h36
  have h37:=h35.sel (L' := [_,_,_,_,_,_,_,_,_,_,_,_,_]) [1,2,0,3,4,5,6,7,8,9,10,11,12] rfl
  have hp38:=h37.sh.passL (Lp:= [_,_,_])
  refine wl_ex (x_call h37 bd_141 rfl rfl rfl rfl rfl (put1_c _ b13 bs34 ((nth x.rows t).regs) _ hp38 (hk.regs t (by omega)) (by show bs34.l.length+66*((nth x.rows t).regs.l).length≤9000000000000;first|omega|(simp only [List.length_cons,List.length_nil];omega)))) (wanted_none rfl _) ?_
  rintro a39 w39 ⟨_,⟨rfl,bs39,hbl39,hs39⟩,hf39⟩
  have hbn39:=congrArg List.length hbl39;rw [List.length_append,by8_len] at hbn39;have hbm39:=putB_len (l:=(nth x.rows t).regs.l) (hk.regs t (by omega))
  try dsimp only at hbn39 hbm39
  try simp only [List.length_cons,List.length_nil] at hbm39
  change Sh _ _ _ [.blk b13 204 [bs39.v], .own 5 bs39, .at_ ((nth x.rows t).regs)] at hs39
  have h39:St _ (fun _=>False) W a39 w39 _ [_,_,_,_,_,_,_,_,_,_,_,_,_]:=⟨hf39,h37.sh.backI (Lp:= [_,_,_]) hs39⟩
  clear hf39 hs39
  clear h37
  refine gG h39<|nK k24<|gL<|gRn (oadN _ 1 om9 rfl<|oM 1 rfl<|.nl)<|nN<|?_;clear h39
  have hnew:=key_step (by rw [PSD.st_len];omega) hbl hbl34 hbl39 (by rw [(psd_th (by omega)).1,toQ_at (by omega)];rfl) (psd_th (by omega)).2.symm
  intro a40 w40 h40
  refine x_again ⟨_, ?_,(t+1),bs39.l,bs39.v, ?_, ?_, ?_,h40.nrm ⟨rfl,rfl,rfl,rfl,rfl,rfl,trivial⟩ [0,5,6,7,8,9,10,11,12,1] rfl,rfl⟩
  · rw [hm18];first|omega|(simp only [lens9];omega)
  · omega
  · exact hnew
  · first|omega|(simp only [List.length_cons,List.length_nil] at*;omega)
 refine gX<|hK k15<|sK fun _ k41=>gRn (oM 1 rfl<|onf fl_173_0 rfl<|olR 1 ti_97 rfl rfl<|oM 1 rfl<|.nl)<|gO [0,9,5,6,7,8,1,2,3,4] rfl<|fun a47 w47 h47=> ?_
 have hp46:=h47.sh.passL (Lp:= [_,_,_,_,_,_])
 refine wl_ex (x_inv2 h47 rfl rfl rfl rfl rfl (hF.tell _ _ x.i x.words x.owner x.q b13 (⟨vb,bl⟩:Ls UInt8) hp46 hk.wl hk.ol hk.ql hk.q3 hk.Rw hk.Ro hk.Rq (by show bl.length≤_;omega))) (wanted_none rfl _) ?_
 rintro a48 w48 ⟨_,⟨rfl,bs48,hbl48,hbn48,hs48⟩,hf48⟩
 try dsimp only at hbn48
 have h48:St _ (fun _=>False) W a48 w48 _ [_,_,_,_,_,_,_,_,_,_]:=⟨hf48,h47.sh.backI (Lp:= [_,_,_,_,_,_]) hs48⟩
 clear hf48 hs48
 clear h47
 refine gG h48<|nK k41<|sK fun _ k49=>gRn (oM 2 rfl<|onf fl_173_3 rfl<|olR 6 ti_23 rfl rfl<|.nl)<|gO [0,1,9,2,3,4,5,6,7,8] rfl<|fun a55 w55 h55=> ?_;clear h48
 have hp54:=h55.sh.passL (Lp:= [_,_,_])
 refine wl_ex (x_call h55 bd_141 rfl rfl rfl rfl rfl (put1_c _ b13 bs48 x.prints _ hp54 hk.pr (by show bs48.l.length+66*x.prints.l.length≤9000000000000;first|omega|(simp only [List.length_cons,List.length_nil];omega)))) (wanted_none rfl _) ?_
 rintro a56 w56 ⟨_,⟨rfl,bs56,hbl56,hs56⟩,hf56⟩
 have hbn56:=congrArg List.length hbl56;rw [List.length_append,by8_len] at hbn56;have hbm56:=putB_len (l:=x.prints.l) hk.pr
 try dsimp only at hbn56 hbm56
 try simp only [List.length_cons,List.length_nil] at hbm56
 change Sh _ _ _ [.blk b13 204 [bs56.v], .own 5 bs56, .at_ x.prints] at hs56
 have h56:St _ (fun _=>False) W a56 w56 _ [_,_,_,_,_,_,_,_,_,_]:=⟨hf56,h55.sh.backI (Lp:= [_,_,_]) hs56⟩
 clear hf56 hs56
 clear h55
 refine gG h56<|nK k49<|?_;clear h56
 have hke:=key_end (show t=x.rows.length by omega) hbl (psd_wait hql) hbl48 hbl56
 refine sG (olB 0 ti_204 rfl rfl<|oV (r_cvStr (s:=bs56) Tryz.underlying204 Tryz.underlying5 Tryz.underlying9 rfl rfl (fun w h=>(h.own 1 rfl)) (show 0<bs56.l.length from (key_pos hke))) rfl<|oM 1 rfl<|.nl)<|gR<|fun a58 w58 h58=>x_ret1 (fn:=Tryz.f101) (t:=2) rfl h58 rfl<|⟨?_,(h58.sh.sel [] rfl)⟩
 rw [show bs56.l=_ from hke];rfl
theorem cloneQ_c (x:Ls ThQ)(W:World)(hx:x.At W)(hl:x.l.length≤100000)(hone:∀r∈x.l,r.rv.oneCell' =true):
    Rets Tryz.prog 154 [x.v] W (fun v w' =>∃s:Ls ThQ,v=s.v∧Sh0 W w' [.own 189 (⟨s.v,x.l⟩:Ls ThQ)]):=by
 refine gen Tryz.func154 Tryz.ntmps154 (Sh0.ext1 hx:Sh (fun _=>False) W W [.at_ x]) rfl fun a10 h10=>gG h10<|sG (oM 1 rfl<|.nl)<|gK fun _ k12=>sG (oM 1 rfl<|oV (r_eqnil (s:=x) sl_171 rfl rfl rfl (fun w h=>(h.at 0 rfl))) rfl<|.nl)<|?_;clear h10
 refine gCb rfl (fun hb14=> ?_) fun hb14=> ?_
 ·skip
  refine sG (oM 1 rfl<|.nl)<|gR<|uT<|fun a16 w16 h16=>x_ret1 (fn:=Tryz.f154) (t:=2) rfl h16 rfl<|⟨⟨.slice none 0 0, []⟩,rfl, ?_⟩
  rw [nilB_nil hx (by assumption)]
  exact (h16.sh.nil (α:=ThQ) 189).sel (L' := [_]) [0] rfl
 refine gS<|hK k12<|sK fun _ k17=>gE1 (fun _ _ h_=>x_lit0 (α:=ThQ) h_ sl_171 ti_189 rfl rfl rfl) rfl fun v18=>gRn (oM 1 rfl<|.nl)<|gE1 (fun _ _ h_=>x_app1 (r:=0) (rm:=1) (s:=(⟨v18, []⟩:Ls ThQ)) (m:=x) h_ sl_171 ti_189 rfl rfl rfl rfl rfl rfl rfl (fun w h=>(h.at 1 rfl)) (fun b hb=> .inr hb) (fun q hq b hb=> .inr ⟨q,hq,hb⟩) rfl rfl rfl (fun w h q hq j hj=>one_thq hone hq hj) (show (([]).length+x.l.length)*32≤140737488355328∧([]).length+x.l.length≤140737488355328 from om9) rfl rfl) rfl fun v19=>gRn (oM 1 rfl<|.nl)<|nK k17<|gR<|fun a20 w20 h20=>x_ret1 (fn:=Tryz.f154) (t:=2) rfl h20 rfl<|⟨⟨v19, []⟩,rfl, ?_⟩
 exact (h20.sh.sel [0] rfl)
theorem sclone_c (F:MemF)(x:PSD F)(W:World)(hF:MemFI Tryz.prog 182 3 204 5 141 F)(hX:x.Rd W)(hk:KeyOK x):
    Rets Tryz.prog 143 [.pointer (some ⟨x.g,0,none⟩)] W (fun v w' =>∃y:PSD F,v= .pointer (some ⟨y.g,0,none⟩)∧y.gp=x.gp∧y.rows.length=x.rows.length∧y.st=x.st∧y.qs=x.qs∧Sh0 W w' y.A):=by
 have hrl:=hk.rl
 have hrl2:(x.rows.map ThR.toQ).length=x.rows.length:=List.length_map _
 have hkp:=hk.pn
 have hone:∀r∈x.rows.map ThR.toQ,r.rv.oneCell' =true:=fun r hr=>by
    obtain ⟨y,hy,rfl⟩:=List.mem_map.1 hr
    exact (hX.row y hy).one
 refine gen Tryz.func143 Tryz.ntmps143 (Sh0.ext (by intro A hA;simp only [List.mem_cons,List.not_mem_nil,or_false] at hA;rcases hA with rfl|rfl|rfl|rfl|rfl|rfl|rfl|rfl;exact hX.blk;exact hX.thr;exact hX.row;exact hX.prints;exact hX.mem.blk;exact hX.mem.wa;exact hX.mem.oa;exact (fun A hA=>by obtain rfl:=List.mem_singleton.1 hA;exact hX.mem.x)) (by intro A hA b hb;simp only [List.mem_cons,List.not_mem_nil,or_false] at hA;rcases hA with rfl|rfl|rfl|rfl|rfl|rfl|rfl|rfl<;>exact hb):Sh (fun _=>False) W W [.rblk x.g 173 [.iface (F.mem x.i).T (.pointer (some (F.mem x.i).u)), .pointer (some ⟨x.gp,0,none⟩),x.vt,x.prints.v, .bool false], .at_ (⟨x.vt,x.rows.map ThR.toQ⟩:Ls ThQ), .rgs x.rows, .at_ x.prints, .rblk (F.mem x.i).g0 182 [x.words.v,x.owner.v], .at_ x.words, .at_ x.owner, .ro [(F.mem x.i).X x.q]]) rfl fun a10 h10=>gG h10<|sG (oM 1 rfl<|.nl)<|sK fun _ k12=>gRn (oM 1 rfl<|onl rfl<|oV (r_ldbwR (vs:= [.iface (F.mem x.i).T (.pointer (some (F.mem x.i).u)), .pointer (some ⟨x.gp,0,none⟩),x.vt,x.prints.v, .bool false]) ti_173 rfl rfl (fun w h=>h.rblk 0 rfl) rfl rfl) rfl<|.nl)<|gal ti_173 rfl fun b13=>gE (fun _ _ h_=>x_stb (i:=0) (vs:= [.iface (F.mem x.i).T (.pointer (some (F.mem x.i).u)), .pointer (some ⟨x.gp,0,none⟩),x.vt,x.prints.v, .bool false]) (cs' := [.iface (F.mem x.i).T (.pointer (some (F.mem x.i).u)), .pointer (some ⟨x.gp,0,none⟩),x.vt,x.prints.v, .bool false]) h_ ti_173 rfl rfl rfl rfl rfl rfl rfl (allOne_cons rfl (allOne_cons rfl (allOne_cons ((h_.sh.at 2 rfl)).one (allOne_cons ((h_.sh.at 4 rfl)).one (allOne_cons rfl allOne_nil))))) (Nat.le_of_ble_eq_true rfl) rfl) rfl<|nK k12<|gK fun _ k15=>gF [0,2,3,5,6,7] rfl<|fun a17 w17 h17=>x_any ((fun Φ Ψ S a w=>(S 4=false∧S 9=false∧S 11=false∧S 13=false∧FrI 45 S Φ Ψ a∧Sh (fun _=>False) W w [.blk b13 173 [.iface (F.mem x.i).T (.pointer (some (F.mem x.i).u)), .pointer (some ⟨x.gp,0,none⟩),x.vt,x.prints.v, .bool false], .rblk x.g 173 [.iface (F.mem x.i).T (.pointer (some (F.mem x.i).u)), .pointer (some ⟨x.gp,0,none⟩),x.vt,x.prints.v, .bool false], .at_ (⟨x.vt,x.rows.map ThR.toQ⟩:Ls ThQ), .rgs x.rows, .at_ x.prints, .rblk (F.mem x.i).g0 182 [x.words.v,x.owner.v], .at_ x.words, .at_ x.owner, .ro [(F.mem x.i).X x.q]])∨(S 4=true∧S 9=false∧S 11=false∧S 13=false∧∃(i7004:F.ι) (mw7004:Ls Int) (mo7004:Ls Int) (q7004:(F.mem i7004).σ),(mw7004.l=x.words.l)∧(mo7004.l=x.owner.l)∧((F.mem i7004).qs q7004=(F.mem x.i).qs x.q)∧FrI 45 S Φ (Ψ++ [(4,12, .iface (F.mem i7004).T (.pointer (some (F.mem i7004).u)))]) a∧Sh (fun _=>False) W w [.blk (F.mem i7004).g0 182 [mw7004.v,mo7004.v], .own 3 mw7004, .own 3 mo7004,(F.mem i7004).X q7004, .blk b13 173 [.iface (F.mem x.i).T (.pointer (some (F.mem x.i).u)), .pointer (some ⟨x.gp,0,none⟩),x.vt,x.prints.v, .bool false], .rblk x.g 173 [.iface (F.mem x.i).T (.pointer (some (F.mem x.i).u)), .pointer (some ⟨x.gp,0,none⟩),x.vt,x.prints.v, .bool false], .at_ (⟨x.vt,x.rows.map ThR.toQ⟩:Ls ThQ), .rgs x.rows, .at_ x.prints, .rblk (F.mem x.i).g0 182 [x.words.v,x.owner.v], .at_ x.words, .at_ x.owner, .ro [(F.mem x.i).X x.q]])∨(S 4=true∧S 9=true∧S 11=false∧S 13=false∧∃(i7004:F.ι) (mw7004:Ls Int) (mo7004:Ls Int) (q7004:(F.mem i7004).σ) (s7009:Ls Int),(mw7004.l=x.words.l)∧(mo7004.l=x.owner.l)∧((F.mem i7004).qs q7004=(F.mem x.i).qs x.q)∧FrI 45 S Φ (Ψ++ [(4,12, .iface (F.mem i7004).T (.pointer (some (F.mem i7004).u))),(9,17,s7009.v),(10,18, .pointer (some ⟨b13,0,none⟩))]) a∧Sh (fun _=>False) W w [.own 3 (⟨s7009.v,x.prints.l⟩:Ls Int), .blk (F.mem i7004).g0 182 [mw7004.v,mo7004.v], .own 3 mw7004, .own 3 mo7004,(F.mem i7004).X q7004, .blk b13 173 [.iface (F.mem x.i).T (.pointer (some (F.mem x.i).u)), .pointer (some ⟨x.gp,0,none⟩),x.vt,x.prints.v, .bool false], .rblk x.g 173 [.iface (F.mem x.i).T (.pointer (some (F.mem x.i).u)), .pointer (some ⟨x.gp,0,none⟩),x.vt,x.prints.v, .bool false], .at_ (⟨x.vt,x.rows.map ThR.toQ⟩:Ls ThQ), .rgs x.rows, .at_ x.prints, .rblk (F.mem x.i).g0 182 [x.words.v,x.owner.v], .at_ x.words, .at_ x.owner, .ro [(F.mem x.i).X x.q]])∨(S 4=true∧S 9=true∧S 11=true∧S 13=false∧∃(i7004:F.ι) (mw7004:Ls Int) (mo7004:Ls Int) (q7004:(F.mem i7004).σ) (s7009:Ls Int),(mw7004.l=x.words.l)∧(mo7004.l=x.owner.l)∧((F.mem i7004).qs q7004=(F.mem x.i).qs x.q)∧FrI 45 S Φ (Ψ++ [(4,12, .iface (F.mem i7004).T (.pointer (some (F.mem i7004).u))),(9,17,s7009.v),(10,18, .pointer (some ⟨b13,0,none⟩)),(12,19, .pointer (some ⟨b13,3,none⟩))]) a∧Sh (fun _=>False) W w [.own 3 (⟨s7009.v,x.prints.l⟩:Ls Int), .blk (F.mem i7004).g0 182 [mw7004.v,mo7004.v], .own 3 mw7004, .own 3 mo7004,(F.mem i7004).X q7004, .blk b13 173 [.iface (F.mem i7004).T (.pointer (some (F.mem i7004).u)), .pointer (some ⟨x.gp,0,none⟩),x.vt,x.prints.v, .bool false], .rblk x.g 173 [.iface (F.mem x.i).T (.pointer (some (F.mem x.i).u)), .pointer (some ⟨x.gp,0,none⟩),x.vt,x.prints.v, .bool false], .at_ (⟨x.vt,x.rows.map ThR.toQ⟩:Ls ThQ), .rgs x.rows, .at_ x.prints, .rblk (F.mem x.i).g0 182 [x.words.v,x.owner.v], .at_ x.words, .at_ x.owner, .ro [(F.mem x.i).X x.q]])∨(S 4=true∧S 9=true∧S 11=true∧S 13=true∧∃(i7004:F.ι) (mw7004:Ls Int) (mo7004:Ls Int) (q7004:(F.mem i7004).σ) (s7009:Ls Int),(mw7004.l=x.words.l)∧(mo7004.l=x.owner.l)∧((F.mem i7004).qs q7004=(F.mem x.i).qs x.q)∧FrI 45 S Φ (Ψ++ [(4,12, .iface (F.mem i7004).T (.pointer (some (F.mem i7004).u))),(9,17,s7009.v),(10,18, .pointer (some ⟨b13,0,none⟩)),(12,19, .pointer (some ⟨b13,3,none⟩))]) a∧Sh (fun _=>False) W w [.own 3 (⟨s7009.v,x.prints.l⟩:Ls Int), .blk (F.mem i7004).g0 182 [mw7004.v,mo7004.v], .own 3 mw7004, .own 3 mo7004,(F.mem i7004).X q7004, .blk b13 173 [.iface (F.mem i7004).T (.pointer (some (F.mem i7004).u)), .pointer (some ⟨x.gp,0,none⟩),x.vt,s7009.v, .bool false], .rblk x.g 173 [.iface (F.mem x.i).T (.pointer (some (F.mem x.i).u)), .pointer (some ⟨x.gp,0,none⟩),x.vt,x.prints.v, .bool false], .at_ (⟨x.vt,x.rows.map ThR.toQ⟩:Ls ThQ), .rgs x.rows, .at_ x.prints, .rblk (F.mem x.i).g0 182 [x.words.v,x.owner.v], .at_ x.words, .at_ x.owner, .ro [(F.mem x.i).X x.q]])) [(0, .pointer (some ⟨x.g,0,none⟩)),(2, .pointer none),(3, .pointer (some ⟨b13,0,none⟩)),(5, .pointer (some ⟨x.g,0,none⟩)),(6, .pointer (some ⟨x.g,0,none⟩)),(7, .agg #[.iface (F.mem x.i).T (.pointer (some (F.mem x.i).u)), .pointer (some ⟨x.gp,0,none⟩),x.vt,x.prints.v, .bool false])] [(0,8, .pointer (some ⟨x.g,0,none⟩)),(1,9, .pointer (some ⟨x.g,0,none⟩)),(2,10, .pointer (some ⟨x.g,0,none⟩)),(3,11, .iface (F.mem x.i).T (.pointer (some (F.mem x.i).u))),(5,13, .pointer (some ⟨x.g,0,none⟩)),(6,14, .pointer (some ⟨x.g,0,none⟩)),(7,15, .pointer (some ⟨x.g,3,none⟩)),(8,16,x.prints.v)]) (by kernel_rfl) (by kernel_rfl) (Or.inl (⟨rfl,rfl,rfl,rfl,FrI.start h17.fr,h17.sh.drew⟩)) ?_ ?_;clear h10
 ·intro S i o ho hSi hcl hdep a w hI
  clear h17
  rcases i with _|_|_|_|_|_|_|_|_|_|_|_|_|_|i
  ·obtain rfl:_=o:=Option.some.inj ho
   rcases hI with ⟨ν4,ν9,ν11,ν13,φ,ς⟩|⟨ν4,_⟩|⟨ν4,_⟩|⟨ν4,_⟩|⟨ν4,_⟩
   ·exact sq φ φ.fr0 ς (r_move rfl rfl) 0 rfl rfl rfl rfl rfl rfl fun a hg=>Or.inl (⟨un rfl ν4,un rfl ν9,un rfl ν11,un rfl ν13,hg,ς⟩)
   ·exact no_way (cA hcl 4 0 rfl ν4) hSi
   ·exact no_way (cA hcl 4 0 rfl ν4) hSi
   ·exact no_way (cA hcl 4 0 rfl ν4) hSi
   ·exact no_way (cA hcl 4 0 rfl ν4) hSi
  ·obtain rfl:_=o:=Option.some.inj ho
   have hd0:S 0=true:=depAt hdep 0 rfl rfl
   rcases hI with ⟨ν4,ν9,ν11,ν13,φ,ς⟩|⟨ν4,_⟩|⟨ν4,_⟩|⟨ν4,_⟩|⟨ν4,_⟩
   ·exact sq φ (Fr.cons φ.fr0 (φ.at_ 0 0 8 _ rfl hd0)) ς (r_nil rfl rfl) 1 rfl rfl rfl rfl rfl rfl fun a hg=>Or.inl (⟨un rfl ν4,un rfl ν9,un rfl ν11,un rfl ν13,hg,ς⟩)
   ·exact no_way (cA hcl 4 1 rfl ν4) hSi
   ·exact no_way (cA hcl 4 1 rfl ν4) hSi
   ·exact no_way (cA hcl 4 1 rfl ν4) hSi
   ·exact no_way (cA hcl 4 1 rfl ν4) hSi
  ·obtain rfl:_=o:=Option.some.inj ho
   have hd1:S 1=true:=depAt hdep 0 rfl rfl
   rcases hI with ⟨ν4,ν9,ν11,ν13,φ,ς⟩|⟨ν4,_⟩|⟨ν4,_⟩|⟨ν4,_⟩|⟨ν4,_⟩
   ·exact sq φ (Fr.cons φ.fr0 (φ.at_ 1 1 9 _ rfl hd1)) ς (r_fieldB (r:=0) fl_173_0 rfl rfl rfl) 2 rfl rfl rfl rfl rfl rfl fun a hg=>Or.inl (⟨un rfl ν4,un rfl ν9,un rfl ν11,un rfl ν13,hg,ς⟩)
   ·exact no_way (cA hcl 4 2 rfl ν4) hSi
   ·exact no_way (cA hcl 4 2 rfl ν4) hSi
   ·exact no_way (cA hcl 4 2 rfl ν4) hSi
   ·exact no_way (cA hcl 4 2 rfl ν4) hSi
  ·obtain rfl:_=o:=Option.some.inj ho
   have hd2:S 2=true:=depAt hdep 0 rfl rfl
   rcases hI with ⟨ν4,ν9,ν11,ν13,φ,ς⟩|⟨ν4,_⟩|⟨ν4,_⟩|⟨ν4,_⟩|⟨ν4,_⟩
   ·exact sq φ (Fr.cons φ.fr0 (φ.at_ 2 2 10 _ rfl hd2)) ς (r_ldbR ti_97 rfl rfl (fun w h=>h.rblk 1 rfl) rfl) 3 rfl rfl rfl rfl rfl rfl fun a hg=>Or.inl (⟨un rfl ν4,un rfl ν9,un rfl ν11,un rfl ν13,hg,ς⟩)
   ·exact no_way (cA hcl 4 3 rfl ν4) hSi
   ·exact no_way (cA hcl 4 3 rfl ν4) hSi
   ·exact no_way (cA hcl 4 3 rfl ν4) hSi
   ·exact no_way (cA hcl 4 3 rfl ν4) hSi
  ·obtain rfl:_=o:=Option.some.inj ho
   have hd3:S 3=true:=depAt hdep 0 rfl rfl
   rcases hI with ⟨ν4,ν9,ν11,ν13,φ,ς⟩|⟨ν4,_⟩|⟨ν4,_⟩|⟨ν4,_⟩|⟨ν4,_⟩
   ·have hs:=St.mk (Fr.cons φ.fr0 (φ.at_ 3 3 11 _ rfl hd3)) ς
    refine step_ex (x_inv2 hs rfl rfl rfl rfl rfl (hF.copy _ x.i x.words x.owner x.q ⟨hs.sh.rblk 5 rfl,hs.sh.at 6 rfl,hs.sh.at 7 rfl,(hs.sh.ok _ (List.mem_of_getElem? (i:=8) rfl)) _ (List.mem_singleton.2 rfl)⟩ hk.wl hk.ol hk.ql hk.q3)) (wanted_none rfl _) ?_
    rintro a23 w23 ⟨_,⟨i23,mw23,mo23,q23,rfl,hmw23,hmo23,hq23,hs23⟩,hf23⟩ ⟨v0,ht23⟩
    have h23:=(⟨hf23,hs.sh.call hs23 (by intro A hA b hb;simp only [memA,List.mem_cons,List.not_mem_nil,or_false] at hA;first|(subst hA;exact Flat.noRd hb)|(rcases hA with rfl|rfl|rfl|rfl<;>first|exact (hb:False).elim|exact Flat.noRd hb|exact ((hF.ok _).xrd _ _ hb).elim))⟩:St 45 (fun _=>False) W a23 w23 _ _)
    clear hf23 hs23
    exact Or.inr (Or.inl (⟨upd_self _ _,un rfl ν9,un rfl ν11,un rfl ν13,i23,mw23,mo23,q23,hmw23,hmo23,hq23,φ.stepW hcl hSi [0,1,2,3,4,5,6,7] (by kernel_rfl) (by kernel_rfl) ht23 h23.fr.defers (h23.fr.at_ 12 _ rfl) 8 rfl rfl rfl rfl,(h23.sh.sel [0,1,2,3,4,5,6,7,8,9,10,11,12] rfl)⟩))
   ·exact no_way ν4 hSi
   ·exact no_way ν4 hSi
   ·exact no_way ν4 hSi
   ·exact no_way ν4 hSi
  ·obtain rfl:_=o:=Option.some.inj ho
   rcases hI with ⟨ν4,ν9,ν11,ν13,φ,ς⟩|⟨ν4,ν9,ν11,ν13,i7004,mw7004,mo7004,q7004,hmw7004,hmo7004,hq7004,φ,ς⟩|⟨_,ν9,_⟩|⟨_,ν9,_⟩|⟨_,ν9,_⟩
   ·exact sq φ φ.fr0 ς (r_move rfl rfl) 4 rfl rfl rfl rfl rfl rfl fun a hg=>Or.inl (⟨un rfl ν4,un rfl ν9,un rfl ν11,un rfl ν13,hg,ς⟩)
   ·exact sq φ φ.fr0 ς (r_move rfl rfl) 4 rfl rfl rfl rfl rfl rfl fun a hg=>Or.inr (Or.inl (⟨un rfl ν4,un rfl ν9,un rfl ν11,un rfl ν13,i7004,mw7004,mo7004,q7004,hmw7004,hmo7004,hq7004,hg,ς⟩))
   ·exact no_way (cA hcl 9 5 rfl ν9) hSi
   ·exact no_way (cA hcl 9 5 rfl ν9) hSi
   ·exact no_way (cA hcl 9 5 rfl ν9) hSi
  ·obtain rfl:_=o:=Option.some.inj ho
   have hd5:S 5=true:=depAt hdep 0 rfl rfl
   rcases hI with ⟨ν4,ν9,ν11,ν13,φ,ς⟩|⟨ν4,ν9,ν11,ν13,i7004,mw7004,mo7004,q7004,hmw7004,hmo7004,hq7004,φ,ς⟩|⟨_,ν9,_⟩|⟨_,ν9,_⟩|⟨_,ν9,_⟩
   ·exact sq φ (Fr.cons φ.fr0 (φ.at_ 4 5 13 _ rfl hd5)) ς (r_nil rfl rfl) 5 rfl rfl rfl rfl rfl rfl fun a hg=>Or.inl (⟨un rfl ν4,un rfl ν9,un rfl ν11,un rfl ν13,hg,ς⟩)
   ·exact sq φ (Fr.cons φ.fr0 (φ.at_ 4 5 13 _ rfl hd5)) ς (r_nil rfl rfl) 5 rfl rfl rfl rfl rfl rfl fun a hg=>Or.inr (Or.inl (⟨un rfl ν4,un rfl ν9,un rfl ν11,un rfl ν13,i7004,mw7004,mo7004,q7004,hmw7004,hmo7004,hq7004,hg,ς⟩))
   ·exact no_way (cA hcl 9 6 rfl ν9) hSi
   ·exact no_way (cA hcl 9 6 rfl ν9) hSi
   ·exact no_way (cA hcl 9 6 rfl ν9) hSi
  ·obtain rfl:_=o:=Option.some.inj ho
   have hd6:S 6=true:=depAt hdep 0 rfl rfl
   rcases hI with ⟨ν4,ν9,ν11,ν13,φ,ς⟩|⟨ν4,ν9,ν11,ν13,i7004,mw7004,mo7004,q7004,hmw7004,hmo7004,hq7004,φ,ς⟩|⟨_,ν9,_⟩|⟨_,ν9,_⟩|⟨_,ν9,_⟩
   ·exact sq φ (Fr.cons φ.fr0 (φ.at_ 5 6 14 _ rfl hd6)) ς (r_fieldB (r:=3) fl_173_3 rfl rfl rfl) 6 rfl rfl rfl rfl rfl rfl fun a hg=>Or.inl (⟨un rfl ν4,un rfl ν9,un rfl ν11,un rfl ν13,hg,ς⟩)
   ·exact sq φ (Fr.cons φ.fr0 (φ.at_ 5 6 14 _ rfl hd6)) ς (r_fieldB (r:=3) fl_173_3 rfl rfl rfl) 6 rfl rfl rfl rfl rfl rfl fun a hg=>Or.inr (Or.inl (⟨un rfl ν4,un rfl ν9,un rfl ν11,un rfl ν13,i7004,mw7004,mo7004,q7004,hmw7004,hmo7004,hq7004,hg,ς⟩))
   ·exact no_way (cA hcl 9 7 rfl ν9) hSi
   ·exact no_way (cA hcl 9 7 rfl ν9) hSi
   ·exact no_way (cA hcl 9 7 rfl ν9) hSi
  ·obtain rfl:_=o:=Option.some.inj ho
   have hd7:S 7=true:=depAt hdep 0 rfl rfl
   rcases hI with ⟨ν4,ν9,ν11,ν13,φ,ς⟩|⟨ν4,ν9,ν11,ν13,i7004,mw7004,mo7004,q7004,hmw7004,hmo7004,hq7004,φ,ς⟩|⟨_,ν9,_⟩|⟨_,ν9,_⟩|⟨_,ν9,_⟩
   ·exact sq φ (Fr.cons φ.fr0 (φ.at_ 6 7 15 _ rfl hd7)) ς (r_ldbR ti_23 rfl rfl (fun w h=>h.rblk 1 rfl) rfl) 7 rfl rfl rfl rfl rfl rfl fun a hg=>Or.inl (⟨un rfl ν4,un rfl ν9,un rfl ν11,un rfl ν13,hg,ς⟩)
   ·exact sq φ (Fr.cons φ.fr0 (φ.at_ 6 7 15 _ rfl hd7)) ς (r_ldbR ti_23 rfl rfl (fun w h=>h.rblk 5 rfl) rfl) 7 rfl rfl rfl rfl rfl rfl fun a hg=>Or.inr (Or.inl (⟨un rfl ν4,un rfl ν9,un rfl ν11,un rfl ν13,i7004,mw7004,mo7004,q7004,hmw7004,hmo7004,hq7004,hg,ς⟩))
   ·exact no_way (cA hcl 9 8 rfl ν9) hSi
   ·exact no_way (cA hcl 9 8 rfl ν9) hSi
   ·exact no_way (cA hcl 9 8 rfl ν9) hSi
  ·obtain rfl:_=o:=Option.some.inj ho
   have hd8:S 8=true:=depAt hdep 0 rfl rfl
   have hd4:S 4=true:=depAt hdep 1 rfl rfl
   rcases hI with ⟨ν4,_⟩|⟨ν4,ν9,ν11,ν13,i7004,mw7004,mo7004,q7004,hmw7004,hmo7004,hq7004,φ,ς⟩|⟨_,ν9,_⟩|⟨_,ν9,_⟩|⟨_,ν9,_⟩
   ·exact no_way hd4 ν4
   ·have hs:=St.mk (Fr.cons φ.fr0 (φ.at_ 7 8 16 _ rfl hd8)) ς
    refine step_ex (x_call hs bd_44 rfl rfl rfl rfl rfl (cloneI_c x.prints _ (hs.sh.at 8 rfl) (by first|omega|(simp only [lens9];omega)))) (wanted_none rfl _) ?_
    rintro a32 w32 ⟨_,⟨s32,rfl,hs32⟩,hf32⟩ ⟨v0,ht32⟩
    have h32:=(⟨hf32,hs.sh.call hs32 (by intro A hA b hb;simp only [memA,List.mem_cons,List.not_mem_nil,or_false] at hA;first|(subst hA;exact Flat.noRd hb)|(rcases hA with rfl|rfl|rfl|rfl<;>first|exact (hb:False).elim|exact Flat.noRd hb|exact ((hF.ok _).xrd _ _ hb).elim))⟩:St 45 (fun _=>False) W a32 w32 _ _)
    clear hf32 hs32
    exact Or.inr (Or.inr (Or.inl (⟨un rfl ν4,upd_self _ _,un rfl ν11,un rfl ν13,i7004,mw7004,mo7004,q7004,s32,hmw7004,hmo7004,hq7004,φ.stepW hcl hSi [0,1,2,3,4,5,6,7,8] (by kernel_rfl) (by kernel_rfl) ht32 h32.fr.defers (h32.fr.at_ 17 _ rfl) 9 rfl rfl rfl rfl,(h32.sh.sel [0,1,2,3,4,5,6,7,8,9,10,11,12,13] rfl)⟩)))
   ·exact no_way ν9 hSi
   ·exact no_way ν9 hSi
   ·exact no_way ν9 hSi
  ·obtain rfl:_=o:=Option.some.inj ho
   have hd4:S 4=true:=depAt hdep 4 rfl rfl
   have hd9:S 9=true:=depAt hdep 9 rfl rfl
   rcases hI with ⟨ν4,_⟩|⟨_,ν9,_⟩|⟨ν4,ν9,ν11,ν13,i7004,mw7004,mo7004,q7004,s7009,hmw7004,hmo7004,hq7004,φ,ς⟩|⟨_,_,ν11,_⟩|⟨_,_,ν11,_⟩
   ·exact no_way hd4 ν4
   ·exact no_way hd9 ν9
   ·exact sq φ φ.fr0 ς (r_fieldB (r:=0) fl_173_0 rfl rfl rfl) 10 rfl rfl rfl rfl rfl rfl fun a hg=>Or.inr (Or.inr (Or.inl (⟨un rfl ν4,un rfl ν9,un rfl ν11,un rfl ν13,i7004,mw7004,mo7004,q7004,s7009,hmw7004,hmo7004,hq7004,hg,ς⟩)))
   ·exact no_way (cA hcl 11 10 rfl ν11) hSi
   ·exact no_way (cA hcl 11 10 rfl ν11) hSi
  ·obtain rfl:_=o:=Option.some.inj ho
   have hd10:S 10=true:=depAt hdep 0 rfl rfl
   have hd4:S 4=true:=depAt hdep 1 rfl rfl
   have hd9:S 9=true:=depAt hdep 2 rfl rfl
   rcases hI with ⟨ν4,_⟩|⟨_,ν9,_⟩|⟨ν4,ν9,ν11,ν13,i7004,mw7004,mo7004,q7004,s7009,hmw7004,hmo7004,hq7004,φ,ς⟩|⟨_,_,ν11,_⟩|⟨_,_,ν11,_⟩
   ·exact no_way hd4 ν4
   ·exact no_way hd9 ν9
   ·have hs:=St.mk (Fr.cons (Fr.cons φ.fr0 (φ.at_ 8 4 12 _ rfl hd4)) (φ.at_ 10 10 18 _ rfl hd10)) ς
    refine step_ex (x_stb (i:=5) (vs:= [.iface (F.mem i7004).T (.pointer (some (F.mem i7004).u))]) (cs' := [.iface (F.mem i7004).T (.pointer (some (F.mem i7004).u)), .pointer (some ⟨x.gp,0,none⟩),x.vt,x.prints.v, .bool false]) hs ti_97 rfl rfl rfl rfl rfl rfl rfl (allOne_cons rfl allOne_nil) (Nat.le_of_ble_eq_true rfl) rfl) (wanted_none rfl _) ?_
    rintro a34 w34 h34 ⟨v0,ht34⟩
    exact Or.inr (Or.inr (Or.inr (Or.inl (⟨un rfl ν4,un rfl ν9,upd_self _ _,un rfl ν13,i7004,mw7004,mo7004,q7004,s7009,hmw7004,hmo7004,hq7004,φ.noneW hcl hSi [0,1,2,3,4,5,6,7,8,9,10] (by kernel_rfl) (by kernel_rfl) ht34 h34.fr.defers rfl,(h34.sh.sel [0,1,2,3,4,5,6,7,8,9,10,11,12,13] rfl)⟩))))
   ·exact no_way ν11 hSi
   ·exact no_way ν11 hSi
  ·obtain rfl:_=o:=Option.some.inj ho
   have hd4:S 4=true:=depAt hdep 4 rfl rfl
   have hd9:S 9=true:=depAt hdep 9 rfl rfl
   have hd11:S 11=true:=depAt hdep 11 rfl rfl
   rcases hI with ⟨ν4,_⟩|⟨_,ν9,_⟩|⟨_,_,ν11,_⟩|⟨ν4,ν9,ν11,ν13,i7004,mw7004,mo7004,q7004,s7009,hmw7004,hmo7004,hq7004,φ,ς⟩|⟨_,_,_,ν13,_⟩
   ·exact no_way hd4 ν4
   ·exact no_way hd9 ν9
   ·exact no_way hd11 ν11
   ·exact sq φ φ.fr0 ς (r_fieldB (r:=3) fl_173_3 rfl rfl rfl) 11 rfl rfl rfl rfl rfl rfl fun a hg=>Or.inr (Or.inr (Or.inr (Or.inl (⟨un rfl ν4,un rfl ν9,un rfl ν11,un rfl ν13,i7004,mw7004,mo7004,q7004,s7009,hmw7004,hmo7004,hq7004,hg,ς⟩))))
   ·exact no_way (cA hcl 13 12 rfl ν13) hSi
  ·obtain rfl:_=o:=Option.some.inj ho
   have hd12:S 12=true:=depAt hdep 0 rfl rfl
   have hd9:S 9=true:=depAt hdep 1 rfl rfl
   have hd11:S 11=true:=depAt hdep 2 rfl rfl
   have hd4:S 4=true:=depAt hdep 7 rfl rfl
   rcases hI with ⟨ν4,_⟩|⟨_,ν9,_⟩|⟨_,_,ν11,_⟩|⟨ν4,ν9,ν11,ν13,i7004,mw7004,mo7004,q7004,s7009,hmw7004,hmo7004,hq7004,φ,ς⟩|⟨_,_,_,ν13,_⟩
   ·exact no_way hd4 ν4
   ·exact no_way hd9 ν9
   ·exact no_way hd11 ν11
   ·have hs:=St.mk (Fr.cons (Fr.cons φ.fr0 (φ.at_ 9 9 17 _ rfl hd9)) (φ.at_ 11 12 19 _ rfl hd12)) ς
    refine step_ex (x_stb (i:=5) (vs:= [s7009.v]) (cs' := [.iface (F.mem i7004).T (.pointer (some (F.mem i7004).u)), .pointer (some ⟨x.gp,0,none⟩),x.vt,s7009.v, .bool false]) hs ti_23 rfl rfl rfl rfl rfl (cells_oneL ((hs.sh.own 0 rfl)).one) rfl (allOne_cons ((hs.sh.own 0 rfl)).one allOne_nil) (Nat.le_of_ble_eq_true rfl) rfl) (wanted_none rfl _) ?_
    rintro a36 w36 h36 ⟨v0,ht36⟩
    exact Or.inr (Or.inr (Or.inr (Or.inr (⟨un rfl ν4,un rfl ν9,un rfl ν11,upd_self _ _,i7004,mw7004,mo7004,q7004,s7009,hmw7004,hmo7004,hq7004,φ.noneW hcl hSi [0,1,2,3,4,5,6,7,8,9,10,11] (by kernel_rfl) (by kernel_rfl) ht36 h36.fr.defers rfl,(h36.sh.sel [0,1,2,3,4,5,6,7,8,9,10,11,12,13] rfl)⟩))))
   ·exact no_way ν13 hSi
  · simp at ho
 intro S hall a w hI
 clear h17
 rcases hI with ⟨ν4,ν9,ν11,ν13,φ,ς⟩|⟨ν4,ν9,ν11,ν13,i7004,mw7004,mo7004,q7004,hmw7004,hmo7004,hq7004,φ,ς⟩|⟨ν4,ν9,ν11,ν13,i7004,mw7004,mo7004,q7004,s7009,hmw7004,hmo7004,hq7004,φ,ς⟩|⟨ν4,ν9,ν11,ν13,i7004,mw7004,mo7004,q7004,s7009,hmw7004,hmo7004,hq7004,φ,ς⟩|⟨ν4,ν9,ν11,ν13,i7004,mw7004,mo7004,q7004,s7009,hmw7004,hmo7004,hq7004,φ,ς⟩
 · exact no_way (hall 4 (by decide)) ν4
 · exact no_way (hall 9 (by decide)) ν9
 · exact no_way (hall 11 (by decide)) ν11
 · exact no_way (hall 13 (by decide)) ν13
 have h37:St 45 (fun _=>False) W a w _ _:=⟨φ.fr0,ς⟩
 clear hall φ ς ν4 ν9 ν11 ν13
 refine gG h37<|hK k15<|sK fun _ k38=>gRn (oM 1 rfl<|onf fl_173_2 rfl<|olR 6 ti_171 rfl rfl<|.nl)<|fun a40 w40 h40=>wl_ex (x_call h40 bd_154 rfl rfl rfl rfl rfl (cloneQ_c (⟨x.vt,x.rows.map ThR.toQ⟩:Ls ThQ) _ (h40.sh.at 7 rfl) (by first|omega|(simp only [lens9];omega)) hone)) (wanted_none rfl _) ?_;clear h37
 rintro a41 w41 ⟨_,⟨s41,rfl,hs41⟩,hf41⟩
 have h41:=(⟨hf41,h40.sh.call hs41 (by intro A hA b hb;simp only [memA,List.mem_cons,List.not_mem_nil,or_false] at hA;first|(subst hA;exact Flat.noRd hb)|(rcases hA with rfl|rfl|rfl|rfl<;>first|exact (hb:False).elim|exact Flat.noRd hb|exact ((hF.ok _).xrd _ _ hb).elim))⟩:St 45 (fun _=>False) W a41 w41 _ _)
 clear hf41 hs41
 clear h40
 refine gG h41<|gRn (ofB fl_173_2 rfl<|.nl)<|gsr 6 ti_171 rfl (aO 0 rfl) rfl<|nK k38<|gK fun _ k43=>sK fun _ k44=>gNl (aO 0 rfl) fun (hl45:(x.rows.map ThR.toQ).length≤140737488355328)=>gRn (ofB fl_173_2 rfl<|olB 6 ti_171 rfl rfl<|oln (n:=(x.rows.map ThR.toQ).length) sl_171 (aO 0 rfl) rfl<|oM 1 rfl<|.nl)<|nK k44<|gB<|fun a48 w48 h48=> ?_;clear h41
 have h47:=h48.bigR0 3
 clear h48
 have h49:=h47.relist (i:=1) (l' :=([]:List ThR).map ThR.toQ++(x.rows.drop 0).map ThR.toQ) rfl (by simp)
 clear h47
 refine x_loop (fun m a w=>∃(t:Nat) (M:List ThR) (vt:Value),(t≤x.rows.length)∧(M.length=t)∧(M.map (fun r=>(r.pc,r.regs.l))=(x.rows.take t).map (fun r=>(r.pc,r.regs.l)))∧St 45 (fun _=>False) W a w [(3, .pointer (some ⟨b13,0,none⟩)),(28, .int .i64 (((x.rows.map ThR.toQ).length:Nat):Int)),(29, .int .i64 ((t:Nat):Int))] [.own 189 (⟨vt,(M.map ThR.toQ++(x.rows.drop t).map ThR.toQ)⟩:Ls ThQ), .own 3 (⟨s7009.v,x.prints.l⟩:Ls Int), .blk (F.mem i7004).g0 182 [mw7004.v,mo7004.v], .own 3 mw7004, .own 3 mo7004,(F.mem i7004).X q7004, .blk b13 173 [.iface (F.mem i7004).T (.pointer (some (F.mem i7004).u)), .pointer (some ⟨x.gp,0,none⟩),vt,s7009.v, .bool false], .rblk x.g 173 [.iface (F.mem x.i).T (.pointer (some (F.mem x.i).u)), .pointer (some ⟨x.gp,0,none⟩),x.vt,x.prints.v, .bool false], .at_ (⟨x.vt,x.rows.map ThR.toQ⟩:Ls ThQ), .rgs x.rows, .at_ x.prints, .rblk (F.mem x.i).g0 182 [x.words.v,x.owner.v], .at_ x.words, .at_ x.owner, .ro [(F.mem x.i).X x.q], .big (regA 3 M)]∧m=x.rows.length-t) ⟨_,0, [],_,(by omega),(rfl),(rfl),h49.nrm ⟨rfl,rfl,rfl,trivial⟩ [1,2,3,4,5,6,7,8,9,10,11,12,13,14,15,0] rfl,rfl⟩ ?_
 clear h49
 rintro m46 a46 w46 ⟨t,M,vt,ht,hMl,hM9,h46,hm46⟩
 have hln:(M.map ThR.toQ++(x.rows.drop t).map ThR.toQ).length=x.rows.length:=by rw [List.length_append,List.length_map,List.length_map,List.length_drop];omega
 refine gG h46<|sG (oltN _ _ rfl<|.nl)<|gK fun _ k51=>gcd rfl (fun hb52 hp52=> ?_) fun hb52 hp52=> ?_;clear h46
 ·skip
  refine gS<|hK k51<|gK fun _ k53=>gB<|sG (oM 2 rfl<|.nl)<|gF [3,4,28,29,30,31] rfl<|fun a56 w56 h56=>x_any ((fun Φ Ψ S a w=>(S 9=false∧S 12=false∧FrI 45 S Φ Ψ a∧Sh (fun _=>False) W w [.own 189 (⟨vt,(M.map ThR.toQ++(x.rows.drop t).map ThR.toQ)⟩:Ls ThQ), .own 3 (⟨s7009.v,x.prints.l⟩:Ls Int), .blk (F.mem i7004).g0 182 [mw7004.v,mo7004.v], .own 3 mw7004, .own 3 mo7004,(F.mem i7004).X q7004, .blk b13 173 [.iface (F.mem i7004).T (.pointer (some (F.mem i7004).u)), .pointer (some ⟨x.gp,0,none⟩),vt,s7009.v, .bool false], .rblk x.g 173 [.iface (F.mem x.i).T (.pointer (some (F.mem x.i).u)), .pointer (some ⟨x.gp,0,none⟩),x.vt,x.prints.v, .bool false], .at_ (⟨x.vt,x.rows.map ThR.toQ⟩:Ls ThQ), .rgs x.rows, .at_ x.prints, .rblk (F.mem x.i).g0 182 [x.words.v,x.owner.v], .at_ x.words, .at_ x.owner, .ro [(F.mem x.i).X x.q], .big (regA 3 M)])∨(S 9=true∧S 12=false∧∃(s7109:Ls Int),FrI 45 S Φ (Ψ++ [(9,41,s7109.v),(10,42, .pointer (some (padr vt 2 t 0))),(11,43, .pointer (some (padr vt 2 t 1)))]) a∧Sh (fun _=>False) W w [.own 3 (⟨s7109.v,(nth x.rows t).regs.l⟩:Ls Int), .own 189 (⟨vt,(M.map ThR.toQ++(x.rows.drop t).map ThR.toQ)⟩:Ls ThQ), .own 3 (⟨s7009.v,x.prints.l⟩:Ls Int), .blk (F.mem i7004).g0 182 [mw7004.v,mo7004.v], .own 3 mw7004, .own 3 mo7004,(F.mem i7004).X q7004, .blk b13 173 [.iface (F.mem i7004).T (.pointer (some (F.mem i7004).u)), .pointer (some ⟨x.gp,0,none⟩),vt,s7009.v, .bool false], .rblk x.g 173 [.iface (F.mem x.i).T (.pointer (some (F.mem x.i).u)), .pointer (some ⟨x.gp,0,none⟩),x.vt,x.prints.v, .bool false], .at_ (⟨x.vt,x.rows.map ThR.toQ⟩:Ls ThQ), .rgs x.rows, .at_ x.prints, .rblk (F.mem x.i).g0 182 [x.words.v,x.owner.v], .at_ x.words, .at_ x.owner, .ro [(F.mem x.i).X x.q], .big (regA 3 M)])∨(S 9=true∧S 12=true∧∃(s7109:Ls Int),FrI 45 S Φ (Ψ++ [(9,41,s7109.v),(10,42, .pointer (some (padr vt 2 t 0))),(11,43, .pointer (some (padr vt 2 t 1)))]) a∧Sh (fun _=>False) W w [.own 3 (⟨s7109.v,(nth x.rows t).regs.l⟩:Ls Int), .own 189 (⟨vt,(M.map ThR.toQ++(x.rows.drop t).map ThR.toQ).set t ({ nth (M.map ThR.toQ++(x.rows.drop t).map ThR.toQ) t with rv:=s7109.v })⟩:Ls ThQ), .own 3 (⟨s7009.v,x.prints.l⟩:Ls Int), .blk (F.mem i7004).g0 182 [mw7004.v,mo7004.v], .own 3 mw7004, .own 3 mo7004,(F.mem i7004).X q7004, .blk b13 173 [.iface (F.mem i7004).T (.pointer (some (F.mem i7004).u)), .pointer (some ⟨x.gp,0,none⟩),vt,s7009.v, .bool false], .rblk x.g 173 [.iface (F.mem x.i).T (.pointer (some (F.mem x.i).u)), .pointer (some ⟨x.gp,0,none⟩),x.vt,x.prints.v, .bool false], .at_ (⟨x.vt,x.rows.map ThR.toQ⟩:Ls ThQ), .rgs x.rows, .at_ x.prints, .rblk (F.mem x.i).g0 182 [x.words.v,x.owner.v], .at_ x.words, .at_ x.owner, .ro [(F.mem x.i).X x.q], .big (regA 3 M)])) [(3, .pointer (some ⟨b13,0,none⟩)),(4, .int .i64 ((t:Nat):Int)),(28, .int .i64 (((x.rows.map ThR.toQ).length:Nat):Int)),(29, .int .i64 ((t:Nat):Int)),(30, .bool (decide (t<(x.rows.map ThR.toQ).length))),(31, .int .i64 ((t:Nat):Int))] [(0,32, .pointer (some ⟨b13,2,none⟩)),(1,33,vt),(2,34, .int .i64 ((t:Nat):Int)),(3,35, .pointer (some ⟨b13,2,none⟩)),(4,36,vt),(5,37, .int .i64 ((t:Nat):Int)),(6,38, .pointer (some (padr vt 2 t 0))),(7,39, .pointer (some (padr vt 2 t 1))),(8,40,(nth x.rows t).regs.v)]) (by kernel_rfl) (by kernel_rfl) (Or.inl (⟨rfl,rfl,FrI.start h56.fr,h56.sh.drew⟩)) ?_ ?_
  ·intro S i o ho hSi hcl hdep a w hI
   clear h56
   rcases i with _|_|_|_|_|_|_|_|_|_|_|_|_|i
   ·obtain rfl:_=o:=Option.some.inj ho
    rcases hI with ⟨ν9,ν12,φ,ς⟩|⟨ν9,ν12,s7109,φ,ς⟩|⟨_,ν12,_⟩
    ·exact sq φ φ.fr0 ς (r_fieldB (r:=2) fl_173_2 rfl rfl rfl) 0 rfl rfl rfl rfl rfl rfl fun a hg=>Or.inl (⟨un rfl ν9,un rfl ν12,hg,ς⟩)
    ·exact sq φ φ.fr0 ς (r_fieldB (r:=2) fl_173_2 rfl rfl rfl) 0 rfl rfl rfl rfl rfl rfl fun a hg=>Or.inr (Or.inl (⟨un rfl ν9,un rfl ν12,s7109,hg,ς⟩))
    ·exact no_way (cA hcl 12 0 rfl ν12) hSi
   ·obtain rfl:_=o:=Option.some.inj ho
    have hd0:S 0=true:=depAt hdep 0 rfl rfl
    rcases hI with ⟨ν9,ν12,φ,ς⟩|⟨ν9,ν12,s7109,φ,ς⟩|⟨_,ν12,_⟩
    ·exact sq φ (Fr.cons φ.fr0 (φ.at_ 0 0 32 _ rfl hd0)) ς (r_ldb (i:=6) ti_171 rfl rfl rfl rfl) 1 rfl rfl rfl rfl rfl rfl fun a hg=>Or.inl (⟨un rfl ν9,un rfl ν12,hg,ς⟩)
    ·exact sq φ (Fr.cons φ.fr0 (φ.at_ 0 0 32 _ rfl hd0)) ς (r_ldb (i:=7) ti_171 rfl rfl rfl rfl) 1 rfl rfl rfl rfl rfl rfl fun a hg=>Or.inr (Or.inl (⟨un rfl ν9,un rfl ν12,s7109,hg,ς⟩))
    ·exact no_way (cA hcl 12 1 rfl ν12) hSi
   ·obtain rfl:_=o:=Option.some.inj ho
    rcases hI with ⟨ν9,ν12,φ,ς⟩|⟨ν9,ν12,s7109,φ,ς⟩|⟨_,ν12,_⟩
    ·exact sq φ φ.fr0 ς (r_move rfl rfl) 2 rfl rfl rfl rfl rfl rfl fun a hg=>Or.inl (⟨un rfl ν9,un rfl ν12,hg,ς⟩)
    ·exact sq φ φ.fr0 ς (r_move rfl rfl) 2 rfl rfl rfl rfl rfl rfl fun a hg=>Or.inr (Or.inl (⟨un rfl ν9,un rfl ν12,s7109,hg,ς⟩))
    ·exact no_way (cA hcl 12 2 rfl ν12) hSi
   ·obtain rfl:_=o:=Option.some.inj ho
    rcases hI with ⟨ν9,ν12,φ,ς⟩|⟨ν9,_⟩|⟨ν9,_⟩
    ·exact sq φ φ.fr0 ς (r_fieldB (r:=2) fl_173_2 rfl rfl rfl) 3 rfl rfl rfl rfl rfl rfl fun a hg=>Or.inl (⟨un rfl ν9,un rfl ν12,hg,ς⟩)
    ·exact no_way (cA hcl 9 3 rfl ν9) hSi
    ·exact no_way (cA hcl 9 3 rfl ν9) hSi
   ·obtain rfl:_=o:=Option.some.inj ho
    have hd3:S 3=true:=depAt hdep 0 rfl rfl
    rcases hI with ⟨ν9,ν12,φ,ς⟩|⟨ν9,_⟩|⟨ν9,_⟩
    ·exact sq φ (Fr.cons φ.fr0 (φ.at_ 3 3 35 _ rfl hd3)) ς (r_ldb (i:=6) ti_171 rfl rfl rfl rfl) 4 rfl rfl rfl rfl rfl rfl fun a hg=>Or.inl (⟨un rfl ν9,un rfl ν12,hg,ς⟩)
    ·exact no_way (cA hcl 9 4 rfl ν9) hSi
    ·exact no_way (cA hcl 9 4 rfl ν9) hSi
   ·obtain rfl:_=o:=Option.some.inj ho
    rcases hI with ⟨ν9,ν12,φ,ς⟩|⟨ν9,_⟩|⟨ν9,_⟩
    ·exact sq φ φ.fr0 ς (r_move rfl rfl) 5 rfl rfl rfl rfl rfl rfl fun a hg=>Or.inl (⟨un rfl ν9,un rfl ν12,hg,ς⟩)
    ·exact no_way (cA hcl 9 5 rfl ν9) hSi
    ·exact no_way (cA hcl 9 5 rfl ν9) hSi
   ·obtain rfl:_=o:=Option.some.inj ho
    have hd4:S 4=true:=depAt hdep 0 rfl rfl
    have hd5:S 5=true:=depAt hdep 1 rfl rfl
    rcases hI with ⟨ν9,ν12,φ,ς⟩|⟨ν9,_⟩|⟨ν9,_⟩
    ·exact sq φ (Fr.cons (Fr.cons φ.fr0 (φ.at_ 4 4 36 _ rfl hd4)) (φ.at_ 5 5 37 _ rfl hd5)) ς (r_ixN (s:=(⟨vt,(M.map ThR.toQ++(x.rows.drop t).map ThR.toQ)⟩:Ls ThQ)) (q:=t) sl_171 ti_189 rfl rfl rfl (fun w h=>(h.own 0 rfl)) (show t<(M.map ThR.toQ++(x.rows.drop t).map ThR.toQ).length from (by first|omega|(simp only [lens9];omega)))) 6 rfl rfl rfl rfl rfl rfl fun a hg=>Or.inl (⟨un rfl ν9,un rfl ν12,hg,ς⟩)
    ·exact no_way (cA hcl 9 6 rfl ν9) hSi
    ·exact no_way (cA hcl 9 6 rfl ν9) hSi
   ·obtain rfl:_=o:=Option.some.inj ho
    have hd6:S 6=true:=depAt hdep 0 rfl rfl
    rcases hI with ⟨ν9,ν12,φ,ς⟩|⟨ν9,_⟩|⟨ν9,_⟩
    ·exact sq φ (Fr.cons φ.fr0 (φ.at_ 6 6 38 _ rfl hd6)) ς (r_fieldE (r:=1) fl_189_1 rfl rfl rfl) 7 rfl rfl rfl rfl rfl rfl fun a hg=>Or.inl (⟨un rfl ν9,un rfl ν12,hg,ς⟩)
    ·exact no_way (cA hcl 9 7 rfl ν9) hSi
    ·exact no_way (cA hcl 9 7 rfl ν9) hSi
   ·obtain rfl:_=o:=Option.some.inj ho
    have hd7:S 7=true:=depAt hdep 0 rfl rfl
    rcases hI with ⟨ν9,ν12,φ,ς⟩|⟨ν9,_⟩|⟨ν9,_⟩
    ·exact sq φ (Fr.cons φ.fr0 (φ.at_ 7 7 39 _ rfl hd7)) ς (Rn.same (r_lde (s:=(⟨vt,(M.map ThR.toQ++(x.rows.drop t).map ThR.toQ)⟩:Ls ThQ)) (i:=t) (v:=((nth (M.map ThR.toQ++(x.rows.drop t).map ThR.toQ) t).rv)) ti_23 rfl rfl rfl (fun w h=>(h.own 0 rfl)) (show t<(M.map ThR.toQ++(x.rows.drop t).map ThR.toQ).length from (by first|omega|(simp only [lens9];omega))) (Nat.le_of_ble_eq_true rfl) rfl) (by rw [clone_nth hMl (by omega)];rfl)) 8 rfl rfl rfl rfl rfl rfl fun a hg=>Or.inl (⟨un rfl ν9,un rfl ν12,hg,ς⟩)
    ·exact no_way (cA hcl 9 8 rfl ν9) hSi
    ·exact no_way (cA hcl 9 8 rfl ν9) hSi
   ·obtain rfl:_=o:=Option.some.inj ho
    have hd8:S 8=true:=depAt hdep 0 rfl rfl
    rcases hI with ⟨ν9,ν12,φ,ς⟩|⟨ν9,_⟩|⟨ν9,_⟩
    ·have hs:=St.mk (Fr.cons φ.fr0 (φ.at_ 8 8 40 _ rfl hd8)) ς
     refine step_ex (x_call hs bd_44 rfl rfl rfl rfl rfl (cloneI_c ((nth x.rows t).regs) _ (rgs_at hs.sh 9 rfl t (show t<x.rows.length from (by omega))) (by have:=hk.rn t (by omega);omega))) (wanted_none rfl _) ?_
     rintro a70 w70 ⟨_,⟨s70,rfl,hs70⟩,hf70⟩ ⟨v0,ht70⟩
     have h70:=(⟨hf70,hs.sh.call hs70 (by intro A hA b hb;simp only [memA,List.mem_cons,List.not_mem_nil,or_false] at hA;first|(subst hA;exact Flat.noRd hb)|(rcases hA with rfl|rfl|rfl|rfl<;>first|exact (hb:False).elim|exact Flat.noRd hb|exact ((hF.ok _).xrd _ _ hb).elim))⟩:St 45 (fun _=>False) W a70 w70 _ _)
     clear hf70 hs70
     exact Or.inr (Or.inl (⟨upd_self _ _,un rfl ν12,s70,φ.stepW hcl hSi [0,1,2,3,4,5,6,7,8] (by kernel_rfl) (by kernel_rfl) ht70 h70.fr.defers (h70.fr.at_ 41 _ rfl) 9 rfl rfl rfl rfl,(h70.sh.sel [0,1,2,3,4,5,6,7,8,9,10,11,12,13,14,15,16] rfl)⟩))
    ·exact no_way ν9 hSi
    ·exact no_way ν9 hSi
   ·obtain rfl:_=o:=Option.some.inj ho
    have hd1:S 1=true:=depAt hdep 0 rfl rfl
    have hd2:S 2=true:=depAt hdep 1 rfl rfl
    have hd9:S 9=true:=depAt hdep 11 rfl rfl
    rcases hI with ⟨ν9,_⟩|⟨ν9,ν12,s7109,φ,ς⟩|⟨_,ν12,_⟩
    ·exact no_way hd9 ν9
    ·exact sq φ (Fr.cons (Fr.cons φ.fr0 (φ.at_ 1 1 33 _ rfl hd1)) (φ.at_ 2 2 34 _ rfl hd2)) ς (r_ixN (s:=(⟨vt,(M.map ThR.toQ++(x.rows.drop t).map ThR.toQ)⟩:Ls ThQ)) (q:=t) sl_171 ti_189 rfl rfl rfl (fun w h=>(h.own 1 rfl)) (show t<(M.map ThR.toQ++(x.rows.drop t).map ThR.toQ).length from (by first|omega|(simp only [lens9];omega)))) 10 rfl rfl rfl rfl rfl rfl fun a hg=>Or.inr (Or.inl (⟨un rfl ν9,un rfl ν12,s7109,hg,ς⟩))
    ·exact no_way (cA hcl 12 10 rfl ν12) hSi
   ·obtain rfl:_=o:=Option.some.inj ho
    have hd10:S 10=true:=depAt hdep 0 rfl rfl
    have hd9:S 9=true:=depAt hdep 10 rfl rfl
    rcases hI with ⟨ν9,_⟩|⟨ν9,ν12,s7109,φ,ς⟩|⟨_,ν12,_⟩
    ·exact no_way hd9 ν9
    ·exact sq φ (Fr.cons φ.fr0 (φ.at_ 10 10 42 _ rfl hd10)) ς (r_fieldE (r:=1) fl_189_1 rfl rfl rfl) 11 rfl rfl rfl rfl rfl rfl fun a hg=>Or.inr (Or.inl (⟨un rfl ν9,un rfl ν12,s7109,hg,ς⟩))
    ·exact no_way (cA hcl 12 11 rfl ν12) hSi
   ·obtain rfl:_=o:=Option.some.inj ho
    have hd11:S 11=true:=depAt hdep 0 rfl rfl
    have hd9:S 9=true:=depAt hdep 1 rfl rfl
    rcases hI with ⟨ν9,_⟩|⟨ν9,ν12,s7109,φ,ς⟩|⟨_,ν12,_⟩
    ·exact no_way hd9 ν9
    ·have hs:=St.mk (Fr.cons (Fr.cons φ.fr0 (φ.at_ 9 9 41 _ rfl hd9)) (φ.at_ 11 11 43 _ rfl hd11)) ς
     refine step_ex (x_ste (r:=1) (i:=t) (j:=1) (x' :=({ nth (M.map ThR.toQ++(x.rows.drop t).map ThR.toQ) t with rv:=s7109.v } :ThQ)) hs ti_23 rfl rfl rfl rfl rfl (show t<(M.map ThR.toQ++(x.rows.drop t).map ThR.toQ).length from (by first|omega|(simp only [lens9];omega))) (Nat.le_of_ble_eq_true rfl) rfl (cells_oneL ((hs.sh.own 0 rfl)).one) ((hs.sh.own 0 rfl)).one (by intro q hq;rcases q with _|_|q<;>first|rfl|omega|exact absurd hq (by show¬(q+2<2);omega)) (fun w h=>Flat.inner _ _) (fun b hb=>(Flat.on _ _ hb).elim)) (wanted_none rfl _) ?_
     rintro a73 w73 h73 ⟨v0,ht73⟩
     exact Or.inr (Or.inr (⟨un rfl ν9,upd_self _ _,s7109,φ.noneW hcl hSi [0,1,2,3,4,5,6,7,8,9,10,11] (by kernel_rfl) (by kernel_rfl) ht73 h73.fr.defers rfl,(h73.sh.sel [0,1,2,3,4,5,6,7,8,9,10,11,12,13,14,15,16] rfl)⟩))
    ·exact no_way ν12 hSi
   · simp at ho
  intro S hall a w hI
  clear h56
  rcases hI with ⟨ν9,ν12,φ,ς⟩|⟨ν9,ν12,s7109,φ,ς⟩|⟨ν9,ν12,s7109,φ,ς⟩
  · exact no_way (hall 9 (by decide)) ν9
  · exact no_way (hall 12 (by decide)) ν12
  have h74:St 45 (fun _=>False) W a w _ _:=⟨φ.fr0,ς⟩
  clear hall φ ς ν9 ν12
  refine gG h74<|hK k53<|gL<|gRn (oadN _ 1 om9 rfl<|oM 1 rfl<|.nl)<|nN<|gO [0,16,1,2,3,4,5,6,7,8,9,10,11,12,13,14,15] rfl<|fun a77 w77 h77=> ?_;clear h74
  have h76:=h77.foldR (x:=(⟨(nth x.rows t).pc,(⟨s7109.v,(nth x.rows t).regs.l⟩:Ls Int)⟩:ThR))
  clear h77
  have h78:=h76.relist (i:=1) (l' :=(M++ [(⟨(nth x.rows t).pc,(⟨s7109.v,(nth x.rows t).regs.l⟩:Ls Int)⟩:ThR)]).map ThR.toQ++(x.rows.drop (t+1)).map ThR.toQ) rfl (clone_set (rows:=x.rows) hMl (by omega) (⟨s7109.v,(nth x.rows t).regs.l⟩:Ls Int))
  clear h76
  refine x_again ⟨_, ?_,(t+1),(M++ [(⟨(nth x.rows t).pc,(⟨s7109.v,(nth x.rows t).regs.l⟩:Ls Int)⟩:ThR)]),vt, ?_, ?_, ?_,h78.nrm ⟨rfl,rfl,rfl,trivial⟩ [1,2,3,4,5,6,7,8,9,10,11,12,13,14,15,0] rfl,rfl⟩
  · rw [hm46];first|omega|(simp only [lens9];omega)
  · omega
  · simp [hMl]
  · rw [take_succ_nth _ _ (by omega),List.map_append,List.map_append,hM9];rfl
 refine gX<|hK k43<|sG (oM 1 rfl<|.nl)<|gR<|fun a80 w80 h80=>x_ret1 (fn:=Tryz.f143) (t:=2) rfl h80 rfl ?_
 have h81:=h80.relist (i:=0) (l' :=M.map ThR.toQ) rfl (by rw [show t=x.rows.length by omega,List.drop_length];simp)
 clear h80
 refine ⟨⟨x.gp,i7004,q7004,b13,vt,M,(⟨s7009.v,x.prints.l⟩:Ls Int),mw7004,mo7004⟩,rfl,rfl,by rw [hMl];show t=x.rows.length;omega, ?_,hq7004,(h81.sh.sel [6,0,15,1,2,3,4,5] rfl)⟩
 show mstR M ((F.mem i7004).qs q7004) mw7004.l mo7004.l x.prints.l=mstR x.rows _ _ _ _
 rw [hmw7004,hmo7004,hq7004]
 exact mstR_congr (by rw [hM9,show t=x.rows.length by omega,List.take_length])
def mvT (p:Pg)(m:Int)(s:MSt)(v:Mv):TS:=stepT p m s v.th.toNat (v.st+1).toNat
def endsV (p:Pg)(m:Int)(s:MSt)(v:Mv):List Outc:=if (mvT p m s v).fell=true then [⟨1, [],(mvT p m s v).prints⟩] else []
def nextV (p:Pg)(m:Int)(s:MSt)(v:Mv):List MSt:=if (mvT p m s v).fell=true then [] else [s.putT v.th.toNat (mvT p m s v)]
def lookE (p:Pg)(m:Int)(s:MSt):List Outc:=
 if ended p s=true then [⟨0,s.words,s.prints⟩] else if (movesV p m s).length=0 then [⟨2,s.words,s.prints⟩] else (movesV p m s).flatMap (endsV p m s)
def lookN (p:Pg)(m:Int)(s:MSt):List MSt:=if ended p s=true then [] else (movesV p m s).flatMap (nextV p m s)
section
variable {p:Pg}{m:Int}{s:MSt}
theorem mem_movesV {v:Mv} :v∈movesV p m s↔∃t k,t<p.code.length∧mvOK m (nth p.code t) (s.view t) k=true∧v=⟨(t:Int),(k:Int)-1⟩:=by
 unfold movesV
 rw [List.mem_flatMap]
 constructor
 ·rintro ⟨t,ht,h⟩
  obtain ⟨k,hk,e⟩:=mem_mvsV h
  exact ⟨t,k,by simpa using ht,hk,e⟩
 ·rintro ⟨t,k,ht,hk,rfl⟩
  refine ⟨t,by simpa using ht, ?_⟩
  unfold mvsV
  rw [List.mem_append]
  rcases mvOK_k hk with ⟨rfl,h1,h2⟩|⟨h1,h2,h3⟩
  ·left
   have:ableV (nth p.code t) (s.view t)=true:=by unfold ableV;simp [h1,h2]
   rw [if_pos this];simp
  ·right
   refine List.mem_map.2 ⟨k-1,List.mem_filter.2 ⟨by simp;omega,h3⟩, ?_⟩
   congr 1
   omega
theorem mvT_of (t k:Nat):mvT p m s ⟨(t:Int),(k:Int)-1⟩=stepT p m s t k:=by
 unfold mvT
 show stepT p m s ((t:Int).toNat) (((k:Int)-1+1).toNat)=_
 rw [Int.toNat_natCast,show (k:Int)-1+1=(k:Int) by omega,Int.toNat_natCast]
theorem movesV_nil :(movesV p m s).length=0↔Stuck_ p m s:=by
 constructor
 ·intro h t k ht
  cases hk:mvOK m (nth p.code t) (s.view t) k with
  |false=>rfl
  |true=>
   have:=mem_movesV.2 ⟨t,k,ht,hk,rfl⟩
   rw [List.eq_nil_of_length_eq_zero h] at this
   cases this
 ·intro h
  rw [List.length_eq_zero_iff,List.eq_nil_iff_forall_not_mem]
  intro v hv
  obtain ⟨t,k,ht,hk,_⟩:=mem_movesV.1 hv
  rw [h t k ht] at hk
  cases hk
theorem look_exp {S:List MSt}{E:List Outc}(hE:∀o∈lookE p m s,o∈E)(hS:∀x∈lookN p m s,x∈S):Expanded p m S E s:=by
 unfold lookE at hE
 unfold lookN at hS
 refine ⟨fun he=> ?_,fun he hs=> ?_,fun t k ht hk=> ?_⟩
 ·rw [if_pos he] at hE;exact hE _ (by simp)
 ·rw [if_neg (by rw [he];decide),if_pos (movesV_nil.2 hs)] at hE;exact hE _ (by simp)
 ·have hv:=mem_movesV.2 ⟨t,k,ht,hk,rfl⟩
  have he:ended p s=false:=by
   cases he:ended p s with
   |false=>rfl
   |true=>rw [ended_no he t k ht] at hk;cases hk
  have hl:¬(movesV p m s).length=0:=fun h=>by rw [List.eq_nil_of_length_eq_zero h] at hv;cases hv
  rw [if_neg (by rw [he];decide),if_neg hl] at hE
  rw [if_neg (by rw [he];decide)] at hS
  unfold Handled
  split
  ·rename_i hf
   refine hE _ (List.mem_flatMap.2 ⟨_,hv, ?_⟩)
   unfold endsV
   rw [mvT_of,if_pos hf]
   simp
  ·rename_i hf
   refine hS _ (List.mem_flatMap.2 ⟨_,hv, ?_⟩)
   unfold nextV
   rw [mvT_of,if_neg hf]
   simp
theorem look_outs (hr:Reach p m s){o:Outc}(ho:o∈lookE p m s):Outs p m o:=by
 unfold lookE at ho
 split at ho
 ·rename_i he
  obtain rfl:o=_:=by simpa using ho
  exact .done hr he
 ·rename_i he
  have he' :ended p s=false:=by simpa using he
  split at ho
  ·rename_i hl
   obtain rfl:o=_:=by simpa using ho
   exact .stuck hr he' (movesV_nil.1 hl)
  ·obtain ⟨v,hv,ho⟩:=List.mem_flatMap.1 ho
   obtain ⟨t,k,ht,hk,rfl⟩:=mem_movesV.1 hv
   unfold endsV at ho
   rw [mvT_of] at ho
   split at ho
   ·rename_i hf
    obtain rfl:o=_:=by simpa using ho
    exact .fell hr ht hk hf
   ·cases ho
theorem look_reach (hr:Reach p m s){x:MSt}(hx:x∈lookN p m s):Reach p m x∧x.prints.length≤s.prints.length+2:=by
 unfold lookN at hx
 split at hx
 ·cases hx
 ·obtain ⟨v,hv,hx⟩:=List.mem_flatMap.1 hx
  obtain ⟨t,k,ht,hk,rfl⟩:=mem_movesV.1 hv
  unfold nextV at hx
  rw [mvT_of] at hx
  split at hx
  ·cases hx
  ·rename_i hf
   obtain rfl:x=_:=by simpa using hx
   have hf' :(stepT p m s t k).fell=false:=by simpa using hf
   refine ⟨.step hr ht hk hf', ?_⟩
   exact doT_prints m t (nth p.code t) k (s.view t)
theorem flatMap_le {α β:Type}{f:α→List β}{c:Nat} :∀ {l:List α},(∀x∈l,(f x).length≤c)→(l.flatMap f).length≤c*l.length
 | [],_=>by simp
 |x::l,h=>by
  have h1:=h x (by simp)
  have h2:=flatMap_le (l:=l) (f:=f) (c:=c) fun y hy=>h y (by simp [hy])
  rw [List.flatMap_cons,List.length_append,List.length_cons,Nat.mul_add]
  omega
theorem endsV_len (v:Mv):(endsV p m s v).length≤1:=by unfold endsV;split<;>simp
theorem nextV_len (v:Mv):(nextV p m s v).length≤1:=by unfold nextV;split<;>simp
structure BI (p:Pg)(m:Int)(S:List MSt)(F:MSt→Prop)(E:List Outc):Prop where
 start:begin_ p∈S
 reach:∀s∈S,Reach p m s
 nd:S.Nodup
 pr:∀s∈S,s.prints.length≤2*S.length
 sound:∀o∈E,Outs p m o
 done:∀s∈S,F s∨Expanded p m S E s
variable {S:List MSt}{F F' :MSt→Prop}{E E' :List Outc}
theorem BI.first (s:MSt)(hs:s=begin_ p):BI p m [s] (fun x=>x=s) []:=by
 subst hs
 refine ⟨by simp,fun x hx=> ?_,by simp,fun x hx=> ?_,fun o ho=>(by cases ho),fun x hx=> .inl (by simpa using hx)⟩
 ·obtain rfl:x=begin_ p:=by simpa using hx
  exact .start
 ·obtain rfl:x=begin_ p:=by simpa using hx
  exact Nat.zero_le _
theorem BI.add (h:BI p m S F E){x:MSt}(hr:Reach p m x)(hx:x∉S)(hp:x.prints.length≤2*(S.length+1)):BI p m (S++ [x]) (fun y=>F y∨y=x) E:=by
 refine ⟨by simp [h.start],fun y hy=> ?_, ?_,fun y hy=> ?_,h.sound,fun y hy=> ?_⟩
 ·rcases List.mem_append.1 hy with hy|hy
  ·exact h.reach y hy
  ·obtain rfl:y=x:=by simpa using hy
   exact hr
 ·rw [List.nodup_append]
  exact ⟨h.nd,by simp,fun y hy z hz e=>by
   obtain rfl:z=x:=by simpa using hz
   exact hx (e▸hy)⟩
 ·rw [List.length_append]
  show _≤2*(S.length+1)
  rcases List.mem_append.1 hy with hy|hy
  ·have:=h.pr y hy;omega
  ·obtain rfl:y=x:=by simpa using hy
   exact hp
 ·rcases List.mem_append.1 hy with hy|hy
  ·rcases h.done y hy with h1|h1
   ·exact .inl (.inl h1)
   ·exact .inr (h1.mono (fun z hz=>by simp [hz]) fun _ h=>h)
  ·exact .inl (.inr (by simpa using hy))
theorem BI.outs (h:BI p m S F E)(hs:∀o∈E',Outs p m o)(hE:∀o∈E,o∈E'):BI p m S F E' :=
 ⟨h.start,h.reach,h.nd,h.pr,hs,fun s hs=>(h.done s hs).imp_right fun h1=>h1.mono (fun _ h=>h) hE⟩
theorem BI.mono (h:BI p m S F E)(hF:∀s∈S,F s→F' s∨Expanded p m S E s):BI p m S F' E:=
 ⟨h.start,h.reach,h.nd,h.pr,h.sound,fun s hs=>(h.done s hs).elim (hF s hs) .inr⟩
theorem BI.states (h:BI p m S F E)(hF:∀s∈S,¬F s):∀s,s∈S↔Reach p m s:=by
 intro s
 refine ⟨h.reach s,fun hs=> ?_⟩
 induction hs with
 |start=>exact h.start
 | @step s t k hr ht hk hf ih=>
  have:=((h.done s ih).resolve_left (hF s ih)).moves t k ht hk
  unfold Handled at this
  rw [if_neg (by rw [hf];decide)] at this
  exact this
theorem BI.all (h:BI p m S F E)(hF:∀s∈S,¬F s):∀o,o∈E↔Outs p m o:=by
 intro o
 refine ⟨h.sound o,fun ho=> ?_⟩
 have hall:=h.states hF
 have hex:∀s,Reach p m s→Expanded p m S E s:=fun s hs=>(h.done s ((hall s).2 hs)).resolve_left (hF s ((hall s).2 hs))
 cases ho with
 |done hr he=>exact (hex _ hr).done he
 |stuck hr he hst=>exact (hex _ hr).stuck he hst
 |fell hr ht hk hf=>
  have:=(hex _ hr).moves _ _ ht hk
  unfold Handled at this
  rwa [if_pos hf] at this
theorem BI.big (h:BI p m S F E)(hl:4000<S.length):Big p m:=⟨S,h.nd,h.reach,hl⟩
theorem BI.small (h:BI p m S F E)(hF:∀s∈S,¬F s)(hl:S.length≤4000):¬Big p m:=by
 rintro ⟨T,h1,h2,h3⟩
 have:=nodup_sub h1 fun s hs=>(h.states hF s).2 (h2 s hs)
 omega
end
end Go.Proofs.YtmjkobhkkjgplaaGreatDoor
