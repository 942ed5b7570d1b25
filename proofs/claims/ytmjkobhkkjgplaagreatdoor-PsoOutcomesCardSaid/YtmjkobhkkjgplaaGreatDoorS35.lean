/- A kind of memories, by what its methods do; copies of a state. -/
import Derived.Test.YtmjkobhkkjgplaaGreatDoorS32
import Derived.Laws.IdiomStrings
import Derived.Test.YtmjkobhkkjgplaaGreatDoorL7
section
namespace Go.Proofs.YtmjkobhkkjgplaaGreatDoor
open Go.RowKit
set_option linter.unusedSimpArgs false
set_option linter.unusedVariables false
def bv (x:UInt8):Value:= .int .u8 (x.toNat:Int)
theorem nth_bv {l:List UInt8} {q:Nat} (h:q<l.length):(l.map bv)[q]? =some (bv (nth l q)):=by
 rw [List.getElem?_map,List.getElem?_eq_getElem h,nth_lt _ _ h];rfl
theorem splice_bv {l:List UInt8} {q:Nat} {n:UInt8} (h:q<l.length):splice (l.map bv) q [bv n]=(l.set q n).map bv:=by
 unfold splice
 rw [List.set_eq_take_append_cons_drop,if_pos h]
 simp
section
variable {P:Program} {o:Oper} {N:Nat} {K:Nat→Prop} {W w:World} {a:Act} {F:List (Nat×Value)} {L:List Asn}
theorem x_allocBy {d:Nat} {T:TypeId} {g:Bool} {n by_ k:Nat} {z:List Value} (h:St N K W a w F L) (hT:tyI P T=some (g,n,by_,z)) (hz:z=(List.replicate k 0).map bv) (ho:o.op= .alloc T) (hd:o.dst=some d) (hdN:Nat.blt d N=true):
  Ex P o a w (fun a' w' =>∃b:Nat,St N K W a' w' ((d, .pointer (some ⟨b,0,none⟩))::F) (.blk b T ((List.replicate k 0).map bv)::L)):=by
 subst hz;exact x_alloc h hT ho hd hdN
theorem x_stBy {T:TypeId} {gg:Bool} {by_:Nat} {z:List Value} {x y:Operand} {g q i:Nat} {n:UInt8} {E:TypeId} {l:List UInt8} (h:St N K W a w F L) (hT:tyI P T=some (gg,1,by_,z)) (ho:o.op= .store T x y) (hd:o.dst=none)
  (hx:ev F x=some (.pointer (some ⟨g,q,none⟩))) (hy:ev F y=some (.int .u8 (n.toNat:Int))) (hi:L[i]? =some (.blk g E (l.map bv))) (hq:q<l.length):
  Ex P o a w (fun a' w' =>St N K W a' w' F (L.set i (.blk g E ((l.set q n).map bv)))):=
 x_stb h hT ho hd hx hy hi (vs:= [bv n]) rfl rfl rfl (by rw [List.length_map];omega) (splice_bv hq)
def arrS (g q n:Nat):Value:= .slice (some ⟨g,q,none⟩) (n-q) (n-q)
theorem r_slBy {T e:TypeId} {n m by_ q g:Nat} {gg:Bool} {z:List Value} {x y:Operand} (hT:arI P T=some (n,e)) (he:tyI P e=some (gg,m,by_,z)) (hm:m=1) (ho:o.op= .slice T x (some y) none none)
  (hx:ev F x=some (.pointer (some ⟨g,0,none⟩))) (hy:ev F y=some (.int .i64 (q:Int))) (hq:q<n):Rn P o N K W F L (arrS g q n):=fun a w h=>by
 subst hm
 obtain ⟨ti,d,zv,hi,hd,_,hs,_⟩:=tyI_parts he
 have hu:=arI_parts hT
 have hel:P.elem T=e:=by simp [Program.elem,hu]
 have hal:P.arrayLen T=n:=by simp [Program.arrayLen,hu]
 have hu' :P.underlying T=some (.array (P.arrayLen T) (P.elem T)):=by rw [hel,hal];exact hu
 have e2:=run_sliceAt_array_l (P:=P) w T ⟨g,0,none⟩ hu' .i64 (q:Int) (by omega) (by rw [hal];omega)
 have hs1:ti.size=1:=by first|exact hs|exact hs.symm
 rw [hel,run_sizeOf hi,Result.andThen_ok,hal,hs1] at e2
 unfold execOp
 simp only [ho,h.fr.ev hx,h.fr.ev hy,Option.map_some,Option.map_none,Sem.run_bind,e2,Result.andThen_ok,Sem.run_pure,slicedAt,arrS]
 simp only [Int.toNat_natCast]
 rw [if_neg (by omega)]
 simp [Addr.add]
 try omega
theorem arr_at {g q n i:Nat} {E:TypeId} {l:List UInt8} (h:Sh K W w L) (hi:L[i]? =some (.blk g E (l.map bv))) (hl:l.length=n) (hq:q≤n) (hn:n≤1000):(⟨arrS g q n,l.drop q⟩:Ls UInt8).At w:=by
 have hb:Blk w g E (l.map bv).toArray:=h.ok _ (List.mem_of_getElem? hi)
 refine ⟨some ⟨g,q,none⟩,n-q, ?_, ?_, ?_, ?_, ?_, ?_, ?_, ?_⟩
 ·show arrS g q n= .slice _ (l.drop q).length _
  unfold arrS
  rw [List.length_drop,hl]
 ·show (l.drop q).length≤n-q
  rw [List.length_drop,hl]
  exact Nat.le_refl _
 ·show n-q≤maxLen
  have:(1000:Nat)≤maxLen:=by decide
  omega
 ·show (l.drop q).length≤_
  rw [List.length_drop,hl];omega
 ·intro _;exact ⟨_,rfl,rfl⟩
 ·intro _;exact hb.lt
 ·intro i' j hi' hj
  have hi2:i' <(l.drop q).length:=hi'
  rw [List.length_drop] at hi2
  have hj0:j=0:=by have:Enc.sz UInt8=1:=rfl;omega
  subst hj0
  have e:(nth (l.drop q) i')=nth l (q+i'):=by simp [nth,List.getD,List.getElem?_drop]
  show w.cell? ⟨g,q+i' *1+0,none⟩=some (bv (nth (l.drop q) i'))
  rw [e,Nat.mul_one,Nat.add_zero]
  exact (hb.cell (q+i')).trans (by simpa using nth_bv (by omega))
 ·intro i' _;trivial
theorem arr_on {g q n:Nat} {E:TypeId} {l:List UInt8} {b:Nat} (hb:(⟨arrS g q n,l.drop q⟩:Ls UInt8).on b):(Asn.blk g E (l.map bv)).fp b:=by
 rcases hb with ⟨h0,h⟩|⟨i',_,h⟩
 ·exact (show g=b from h).symm
 ·exact h.elim
theorem r_cvStr {T D e:TypeId} {x:Operand} {s:Ls UInt8} (hT:P.underlying T=some (.slice e)) (he:P.underlying e=some (.int .u8)) (hD:P.underlying D=some .string) (ho:o.op= .convert T D x) (hx:ev F x=some s.v) (hat:∀w,Sh K W w L→s.At w) (h0:0<s.l.length):
  Rn P o N K W F L (.string ⟨s.l.toArray⟩):=fun a w h=>by
 obtain ⟨A,cap,hv,hA⟩:=hat w h.sh
 obtain ⟨ad,e1,hsp⟩:=hA.some h0
 have e1' :A=some ad:=e1
 subst e1'
 have key:=run_convert_bytes_back (P:=P) w T D e ad cap s.l hT he hD (fun j hj=>by
  have hc:=hA.cell j 0 hj (by decide)
  obtain ⟨blk,off,sp⟩:=ad
  simp only at hsp
  subst hsp
  rw [Addr.add_lit]
  have e2:(⟨some ⟨blk,off,none⟩,cap,s.l⟩:Sl UInt8).adr 1 j 0=⟨blk,off+j,none⟩:=by simp [Sl.adr]
  rw [←e2]
  refine hc.trans ?_
  show some (Value.int .u8 ((nth s.l j).toNat:Int))=_
  rw [nth_lt _ _ hj])
 unfold execOp
 simp only [ho,h.fr.ev hx,hv,Sem.run_bind,key,Result.andThen_ok,Sem.run_pure]
end
end Go.Proofs.YtmjkobhkkjgplaaGreatDoor
end
namespace Go.Proofs.YtmjkobhkkjgplaaGreatDoor
open Go.RowKit
set_option linter.unusedSimpArgs false
set_option linter.unusedVariables false
def MemF.tells (F:MemF) (i:F.ι) (words owner:Ls Int) (q:(F.mem i).σ):List (List Int):= [words.l,owner.l]++F.tq ((F.mem i).qs q)
structure MemFI (P:Program) (PL INT BX BY KEY:Nat) (F:MemF):Prop where
 ok:∀i,MemI P PL INT (F.mem i)
 hT:∀i,(F.mem i).T=F.T
 hm:∀i,(F.mem i).m=F.m
 tq:TqOK F.tq F.Q
 qQ:∀i q,F.Q ((F.mem i).qs q)
 copy:∀(w:World) (i:F.ι) (words owner:Ls Int) (q:(F.mem i).σ),MemRd PL (F.mem i) w words owner q→words.l.length≤64→owner.l.length≤4→((F.mem i).qs q).length≤4→(∀l∈(F.mem i).qs q,l.length≤3)→
  InvM P (F.mem i).T (F.mem i).u "Copy" [] w (fun v w' =>∃(i' :F.ι) (words' owner' :Ls Int) (q' :(F.mem i').σ),v= .iface (F.mem i').T (.pointer (some (F.mem i').u))∧words'.l=words.l∧owner'.l=owner.l∧(F.mem i').qs q' =(F.mem i).qs q∧Sh0 w w' (memA PL INT (F.mem i') words' owner' q'))
 tell:∀(K:Nat→Prop) (W:World) (i:F.ι) (words owner:Ls Int) (q:(F.mem i).σ) (gb:Nat) (bs:Ls UInt8),Sh K W W [.blk gb BX [bs.v], .own BY bs, .rblk (F.mem i).g0 PL [words.v,owner.v], .at_ words, .at_ owner, .ro [(F.mem i).X q]]→
  words.l.length≤64→owner.l.length≤4→((F.mem i).qs q).length≤4→(∀l∈(F.mem i).qs q,l.length≤3)→R64L words.l→R64L owner.l→(∀l∈(F.mem i).qs q,R64W l)→bs.l.length≤1000000000000→
  InvM P (F.mem i).T (F.mem i).u "Tell" [.func (.func KEY) #[] #[.pointer (some ⟨gb,0,none⟩)]] W (fun v w' =>v= .tuple #[]∧∃bs' :Ls UInt8,bs'.l=bs.l++by8 ((F.tells i words owner q).flatMap putB)∧bs'.l.length≤bs.l.length+100000∧
   Sh K W w' [.blk gb BX [bs'.v], .own BY bs', .rblk (F.mem i).g0 PL [words.v,owner.v], .at_ words, .at_ owner, .ro [(F.mem i).X q]])
def Asn.rgs (rows:List ThR):Asn where
 fp _:=False
 rd b:=∃r∈rows,r.regs.on b
 ok w:=∀r∈rows,r.regs.At w
 keep w w' h hb r hr:=(h r hr).keep fun b hb' =>hb b (.inr ⟨r,hr,hb'⟩)
 lt w h b hb:=by rcases hb with hb|⟨r,hr,hb⟩;exact hb.elim;exact (h r hr).lt hb
theorem rgs_at {K:Nat→Prop} {W w:World} {L:List Asn} {rows:List ThR} (h:Sh K W w L) (i:Nat) (hi:L[i]? =some (.rgs rows)) (t:Nat) (ht:t<rows.length):(nth rows t).regs.At w:=h.ok _ (List.mem_of_getElem? hi) _ (nth_mem _ _ ht)
theorem num36_len (n:Int) (h: -9223372036854775808≤n∧n<9223372036854775808):(num36 n).length≤65:=by
 have key:∀k n,n<36^(k+1)→(digs n).length≤k+1:=by
  intro k
  induction k with
  |zero=>intro n hn;rw [digs_lo (by simpa using hn)];simp
  |succ k ih=>
   intro n hn
   by_cases h36:n<36
   ·rw [digs_lo h36];simp
   ·rw [digs_hi h36,List.length_append]
    have:=ih (n/36) (by rw [Nat.div_lt_iff_lt_mul (by decide),←Nat.pow_succ];exact hn)
    simp only [List.length_cons,List.length_nil]
    omega
 have:=key 63 n.natAbs (by
  have:(36:Nat)^64>9223372036854775808:=by decide
  omega)
 unfold num36
 split
 ·simp only [List.length_cons];omega
 ·omega
theorem putB_len {l:List Int} (h:∀n∈l,-9223372036854775808≤n∧n<9223372036854775808):(putB l).length≤66*l.length+1:=by
 unfold putB
 rw [List.length_append]
 have:(l.flatMap fun n=>num36 n++ [32]).length≤66*l.length:=by
  induction l with
  |nil=>simp
  |cons x l ih=>
   rw [List.flatMap_cons,List.length_append,List.length_append,List.length_cons]
   have h1:=num36_len x (h x (by simp))
   have h2:=ih fun n hn=>h n (by simp [hn])
   simp only [List.length_cons,List.length_nil]
   omega
 simp only [List.length_cons,List.length_nil]
 omega
end Go.Proofs.YtmjkobhkkjgplaaGreatDoor
