/- The memory in which stores wait loosely does as the document says; runs of the program in it. -/
import Derived.Test.YtmjkobhkkjgplaaGreatDoorX69
import Derived.Test.YtmjkobhkkjgplaaGreatDoorX66
import Derived.Test.YtmjkobhkkjgplaaGreatDoorS20
section
namespace Go.Proofs.YtmjkobhkkjgplaaGreatDoor
open Go.RowKit
set_option linter.unusedSimpArgs false
set_option linter.unusedVariables false
set_option maxRecDepth 100000
set_option maxHeartbeats 20000000
theorem matX_rd {E E2:TypeId} {v:Value} {M:List (Ls Wt)} {b:Nat} (h:(Asn.big (matX (.own E) E2 v M)).rd b):False:=by
 obtain ⟨A,hA,hb⟩:=h
 rcases List.mem_cons.1 hA with rfl|hA
 ·exact Flat.noRd hb
 ·obtain ⟨s,_,rfl⟩:=List.mem_map.1 hA
  exact Flat.noRd hb
def memT (g1 g0:Nat):MemS:=⟨Ls (Ls Wt),fun q=>q.l.map (·.l),fun q=> .big [.blk g1 185 [.pointer (some ⟨g0,0,none⟩),q.v], .big (matX (.own 266) 267 q.v q.l)],125,⟨g1,0,none⟩,g0,1⟩
theorem memT_rd {g1 g0:Nat} {q:Ls (Ls Wt)} {b:Nat} (h:((memT g1 g0).X q).rd b):False:=by
 obtain ⟨A,hA,hb⟩:=h
 simp only [List.mem_cons,List.not_mem_nil,or_false] at hA
 rcases hA with rfl|rfl
 ·exact hb
 ·exact matX_rd hb
theorem memT_nth {q:Ls (Ls Wt)} {t:Nat} (h:t<(q.l.map (·.l)).length):nth (q.l.map (·.l)) t=(nth q.l t).l:=nth_map' (fun x:Ls Wt=>x.l) q.l t (by simpa using h)
theorem memT_at {g1 g0:Nat} {q:Ls (Ls Wt)} {w:World} (h:((memT g1 g0).X q).ok w):Blk w g1 185 #[.pointer (some ⟨g0,0,none⟩),q.v]∧q.At w:=by
 obtain ⟨h1,h2,h3⟩:=h
 refine ⟨h1 _ (List.mem_cons_self ..), ?_⟩
 have hb:=h1 _ (List.mem_cons_of_mem _ (List.mem_cons_self ..))
 have hs:Sh (fun _=>True) w w [.big (matX (.own 266) 267 q.v q.l)]:=⟨Chg.refl _ _,by simpa using hb,fun _ _ _ _=> .inl trivial,by
  intro A hA b _ hr
  obtain rfl:=List.mem_singleton.1 hA
  exact matX_rd hr,List.pairwise_singleton _ _⟩
 exact (hs.matDeep own_mat).deep 0 rfl
theorem memT_open {g1 g0:Nat} {K:Nat→Prop} {W w:World} {words owner:Ls Int} {q:Ls (Ls Wt)} (h:Sh K W w (memA 182 3 (memT g1 g0) words owner q)):Sh K W w ([.blk g1 185 [.pointer (some ⟨g0,0,none⟩),q.v], .big (matX (.own 266) 267 q.v q.l)]++ [.blk g0 182 [words.v,owner.v], .own 3 words, .own 3 owner]):=
 (h.sel (L' := [(memT g1 g0).X q, .blk g0 182 [words.v,owner.v], .own 3 words, .own 3 owner]) [3,0,1,2] rfl).open_
theorem memT_close {g1 g0:Nat} {K:Nat→Prop} {W w:World} {words owner:Ls Int} {q:Ls (Ls Wt)} (h:Sh K W w ([.blk g1 185 [.pointer (some ⟨g0,0,none⟩),q.v], .big (matX (.own 266) 267 q.v q.l)]++ [.blk g0 182 [words.v,owner.v], .own 3 words, .own 3 owner])):Sh K W w (memA 182 3 (memT g1 g0) words owner q):=
 (Sh.close h).sel [1,2,3,0] rfl
theorem memT_st {g1 g0 t:Nat} {x:Wt} {words owner:Ls Int} {q:Ls (Ls Wt)} {u:Ls Wt} (h:t<(q.l.map (·.l)).length) (e:u.l=(nth q.l t).l++ [x]):StoreP (memT g1 g0) t x words owner q words owner (⟨q.v,q.l.set t u⟩:Ls (Ls Wt)):=by
 refine ⟨u.l, ?_,fun pc regs prints fell=> ?_⟩
 ·show (q.l.set t u).map (·.l)=(q.l.map (·.l)).set t u.l
  rw [List.map_set]
 ·show _=TS.store 1 ⟨pc,regs,nth (q.l.map (·.l)) t,words.l,owner.l,prints,fell⟩ x
  rw [memT_nth h,e]
  unfold TS.store
  rw [if_pos (by decide)]
def embI (P:Program) (T:TypeId) (name:String):Option (FuncId×TypeId):=
 match P.info? T with
 |none=>none
 |some i=>match i.methods.find? (·.name==name) with
  |none=>none
  |some m=>match m.path.toList,m.func with
   | [st],some (f,true)=>match P.underlying st.struct with
    |some (.struct fs)=>match fs[st.index]? with
     |none=>none
     |some fd=>match P.info? fd.type,P.underlying fd.type with
      |some fi,some (.pointer _)=>if st.deref=true∧fd.offset=0∧fi.size≠0 then some (f,fd.type) else none
      |_,_=>none
    |_=>none
   |_,_=>none
theorem meth_emb {P:Program} {n g1:Nat} {T xt:TypeId} {name:String} {f:FuncId} {r:Value} {w:World} (hn:Nat.blt 0 n=true) (hI:embI P T name=some (f,xt)) (hl:(loadVar xt ⟨g1,0,none⟩).run P w= .ok r w):(method n T (.pointer (some ⟨g1,0,none⟩)) name).run P w= .ok (f,r) w:=by
 obtain ⟨n,rfl⟩:∃n',n=n' +1:=⟨n-1,by rw [Nat.blt_eq] at hn;omega⟩
 unfold embI at hI
 split at hI
 ·cases hI
 rename_i i hi
 split at hI
 ·cases hI
 rename_i m hm
 split at hI
 ·rename_i st f' hp hf
  split at hI
  ·rename_i fs hfs
   split at hI
   ·cases hI
   rename_i fd hfd
   split at hI
   ·rename_i fi e hfi hfu
    split at hI
    ·rename_i hc
     cases hI
     obtain ⟨h1,h2,h3⟩:=hc
     unfold method
     simp [typeInfo,hi,hm,hp,hf,follow,run_underlying hfs,hfd,h1,Place.get,asAddr,fieldPlace,sizeOf,hfi,h3,h2,receiverAt,run_underlying hfu,hl,Addr.add]
    ·cases hI
   ·cases hI
  ·cases hI
 ·cases hI
theorem methT_ld {g1 g0:Nat} {w:World} {v:Value} (h:Blk w g1 185 #[.pointer (some ⟨g0,0,none⟩),v]):(loadVar 123 ⟨g1,0,none⟩).run Tryz.prog w= .ok (.pointer (some ⟨g0,0,none⟩)) w:=by
 have hc:=h.cells2.1
 unfold Blk at h
 simp [loadVar,World.cell?,h]
theorem mayK_tso (l:List Wt):((List.range l.length).filter (mayK 1 l)).map (fun k=>((k:Nat):Int))=if l.length=0 then [] else [0]:=by
 have e:mayK 1 l=fun k=>decide (k=0):=by
  funext k
  unfold mayK
  simp
 rw [e]
 cases h:l.length with
 |zero=>rfl
 |succ n=>
  rw [if_neg (by omega),List.range_succ_eq_map,List.filter_cons,if_pos (by rfl),List.filter_eq_nil_iff.2]
  ·rfl
  ·intro x hx
   obtain ⟨y,_,rfl⟩:=List.mem_map.1 hx
   simp
theorem memT_ok (g1 g0:Nat):MemI Tryz.prog 182 3 (memT g1 g0) where
 load w words owner q t wd h ht hl hwd:=⟨212,⟨g1,0,none⟩,by kernel_rfl,bd_212,by
  have e:nth ((memT g1 g0).qs q) t=(nth q.l t).l:=memT_nth ht
  rw [e] at hl⊢
  have ht' :t<q.l.length:=by simpa [memT] using ht
  obtain ⟨hB,hq⟩:=memT_at h.x
  obtain ⟨A,cap,hv,hA⟩:=hq
  have hr:=hA.inner t ht'
  obtain ⟨A2,cap2,hv2,hA2⟩:=hr
  have hB' :=hB
  rw [hv] at hB'
  have hc:=callsIn_wide.1 (bufLoad_in g1 g0 t ⟨A,cap,q.l⟩ ⟨A2,cap2,(nth q.l t).l⟩ words owner wd w hB' h.blk h.wa h.oa hA ht' hv2 hA2 hl hwd)
  exact Calls.mono hc fun e w' he=>⟨_,he.1,rfl,⟨Chg.below he.2,fun A hA=>(by cases hA),fun A hA=>(by cases hA),fun A hA=>(by cases hA),List.Pairwise.nil⟩⟩⟩
 waits w words owner q t h ht hl:=⟨216,⟨g1,0,none⟩,by kernel_rfl,bd_216,by
  have e:nth ((memT g1 g0).qs q) t=(nth q.l t).l:=memT_nth ht
  rw [e]
  obtain ⟨hB,hq⟩:=memT_at h.x
  exact tbWaits_c g1 g0 q t 0 w hB hq (by simpa [memT] using ht)⟩
 freeing w words owner q t a h ht hl hlk:=⟨211,⟨g1,0,none⟩,by kernel_rfl,bd_211,by
  have e:nth ((memT g1 g0).qs q) t=(nth q.l t).l:=memT_nth ht
  rw [e] at hlk⊢
  obtain ⟨hB,hq⟩:=memT_at h.x
  exact tbFreeing_c g1 g0 q t a w hB hq (by simpa [memT] using ht) hlk⟩
 ready w words owner q t h ht hl:=⟨213,⟨g1,0,none⟩,by kernel_rfl,bd_213,by
  have e:nth ((memT g1 g0).qs q) t=(nth q.l t).l:=memT_nth ht
  rw [e]
  obtain ⟨hB,hq⟩:=memT_at h.x
  refine Rets.mono (tbReady_c g1 g0 q t 0 w hB hq (by simpa [memT] using ht)) ?_
  rintro v w' ⟨s,rfl,hs,h9⟩
  exact ⟨s,rfl,hs.trans (mayK_tso _).symm,h9⟩⟩
 base w words owner q h:=⟨197,⟨g0,0,none⟩,meth_emb (xt:=123) (by kernel_rfl) (by kernel_rfl) (methT_ld (memT_at h.x).1),bd_197,plBase_c g0 words owner 0 0 0 w h.blk h.wa h.oa⟩
 store K W words owner q t wd what hS ht hl hwd:=⟨214,⟨g1,0,none⟩,by kernel_rfl,bd_214,by
  have h:=memT_open hS
  have e:nth ((memT g1 g0).qs q) t=(nth q.l t).l:=memT_nth ht
  rw [e] at hl
  refine Rets.mono (tbStore_c _ g1 g0 q.v q.l t wd what W h.passL (by simpa [memT] using ht) (by omega)) ?_
  rintro v w' ⟨rfl,u,hu,hs⟩
  exact ⟨rfl,words,owner,⟨q.v,q.l.set t u⟩,memT_st ht hu,memT_close (q:=⟨q.v,q.l.set t u⟩) (h.backL hs (by intro A hA b hb;simp only [List.mem_cons,List.not_mem_nil,or_false] at hA;rcases hA with rfl|rfl<;>first|exact (hb:False).elim|exact Flat.noRd hb|exact (matX_rd hb).elim))⟩⟩
 free K W words owner q t a hS ht hl ha:=⟨210,⟨g1,0,none⟩,by kernel_rfl,bd_210,by
  have h:=memT_open hS
  have e:nth ((memT g1 g0).qs q) t=(nth q.l t).l:=memT_nth ht
  rw [e] at hl
  refine Rets.mono (tbFree_c _ g1 g0 q.v q.l t a 0 W h.passL (by simpa [memT] using ht) (by omega)) ?_
  rintro v w' ⟨rfl,u,hu,hs⟩
  exact ⟨rfl,words,owner,⟨q.v,q.l.set t u⟩,memT_st ht hu,memT_close (q:=⟨q.v,q.l.set t u⟩) (h.backL hs (by intro A hA b hb;simp only [List.mem_cons,List.not_mem_nil,or_false] at hA;rcases hA with rfl|rfl<;>first|exact (hb:False).elim|exact Flat.noRd hb|exact (matX_rd hb).elim))⟩⟩
 swap K W words owner q t wd what hS hwd:=⟨205,⟨g0,0,none⟩,meth_emb (xt:=123) (by kernel_rfl) (by kernel_rfl) (methT_ld (memT_at (hS.ok _ (List.mem_cons_of_mem _ (List.mem_cons_of_mem _ (List.mem_cons_of_mem _ (List.mem_cons_self ..)))))).1),bd_205,by
  have h:Sh K W W ([.blk g0 182 [words.v,owner.v], .own 3 words, .own 3 owner]++ [(memT g1 g0).X q]):=hS
  refine Rets.mono (plSwap_c _ g0 words owner _ wd what W h.passL hwd) ?_
  rintro v w' ⟨rfl,hs⟩
  exact ⟨rfl,⟨words.v,words.l.set wd.toNat what⟩,owner,q,⟨rfl,rfl,rfl⟩,h.backL hs (by intro A hA b hb;simp only [List.mem_cons,List.not_mem_nil,or_false] at hA;rcases hA with rfl|rfl|rfl<;>first|exact (hb:False).elim|exact Flat.noRd hb)⟩⟩
 flush K W words owner q t k hS ht hl hk hw:=⟨209,⟨g1,0,none⟩,by kernel_rfl,bd_209,by
  have h:=memT_open hS
  have e:nth ((memT g1 g0).qs q) t=(nth q.l t).l:=memT_nth ht
  rw [e] at hl hk hw
  refine Rets.mono (tbFlush_c K g1 g0 q.v q.l words owner t k W h (by simpa [memT] using ht) (by omega) hk (hw k hk)) ?_
  rintro v w' ⟨rfl,u,hu,hs⟩
  refine ⟨rfl,_,_,⟨q.v,q.l.set t u⟩,⟨u.l, ?_,fun pc regs prints fell=> ?_⟩,memT_close (words:=⟨words.v,if (nth (nth q.l t).l k).lock=true then words.l else words.l.set (nth (nth q.l t).l k).wh.toNat (nth (nth q.l t).l k).what⟩) (owner:=⟨owner.v,if (nth (nth q.l t).l k).lock=true then owner.l.set (nth (nth q.l t).l k).wh.toNat (-1) else owner.l⟩) (q:=⟨q.v,q.l.set t u⟩) hs⟩
  ·show (q.l.set t u).map (·.l)=(q.l.map (·.l)).set t u.l
   rw [List.map_set]
  ·rw [e,hu]
   rfl⟩
 xrd q b h:=memT_rd h
theorem tnew_c (code:Ls (Ls Ins)) (words0:Ls Int) (Lk:Nat) (nregs:Int) (W:World) (hcode:code.At W) (hwords:words0.At W) (hcl:code.l.length≤100) (hwn:words0.l.length≤64) (hlk:Lk≤4):
    Rets Tryz.prog 82 [.agg #[code.v,words0.v, .int .i64 ((Lk:Nat):Int), .int .i64 nregs]] W (fun v w' =>∃(gt g:Nat) (words' owner' :Ls Int) (q:Ls (Ls Wt)),v= .pointer (some ⟨gt,0,none⟩)∧words'.l=words0.l∧owner'.l=List.replicate Lk (-1)∧(memT gt g).qs q=List.replicate code.l.length []∧Sh0 W w' (memA 182 3 (memT gt g) words' owner' q)):=by
 refine gen Tryz.func82 Tryz.ntmps82 (Sh0.ext2 hcode hwords:Sh (fun _=>False) W W [.at_ code, .at_ words0]) rfl fun a10 h10=>gG h10<|sK fun _ k11=>gbx rfl rfl fun b12=>gRn (oM 1 rfl<|.nl)<|nK k11<|gK fun _ k13=>gF [0,1] rfl<|fun a14 w14 h14=>x_any ((fun Φ Ψ S a w=>(S 1=false∧S 5=false∧S 7=false∧FrI 11 S Φ Ψ a∧Sh (fun _=>False) W w [.blk b12 25 [code.v,words0.v, .int .i64 ((Lk:Nat):Int), .int .i64 nregs], .at_ code, .at_ words0])∨(S 1=true∧S 5=false∧S 7=false∧∃(g7001:Nat) (mw7001:Ls Int) (mo7001:Ls Int),(mw7001.l=words0.l)∧(mo7001.l=List.replicate Lk (-1))∧FrI 11 S Φ (Ψ++ [(1,4, .pointer (some ⟨g7001,0,none⟩))]) a∧Sh (fun _=>False) W w [.blk g7001 182 [mw7001.v,mo7001.v], .own 3 mw7001, .own 3 mo7001, .blk b12 25 [code.v,words0.v, .int .i64 ((Lk:Nat):Int), .int .i64 nregs], .at_ code, .at_ words0])∨(S 1=false∧S 5=true∧S 7=false∧∃(v7005:Value),FrI 11 S Φ (Ψ++ [(5,8,v7005)]) a∧Sh (fun _=>False) W w [.big (matX (.own 266) 267 v7005 (List.replicate code.l.length (⟨.slice none 0 0, []⟩:Ls Wt))), .blk b12 25 [code.v,words0.v, .int .i64 ((Lk:Nat):Int), .int .i64 nregs], .at_ code, .at_ words0])∨(S 1=true∧S 5=true∧S 7=false∧∃(g7001:Nat) (mw7001:Ls Int) (mo7001:Ls Int) (v7005:Value),(mw7001.l=words0.l)∧(mo7001.l=List.replicate Lk (-1))∧FrI 11 S Φ (Ψ++ [(1,4, .pointer (some ⟨g7001,0,none⟩)),(5,8,v7005),(6,9, .agg #[.pointer (some ⟨g7001,0,none⟩),v7005])]) a∧Sh (fun _=>False) W w [.big (matX (.own 266) 267 v7005 (List.replicate code.l.length (⟨.slice none 0 0, []⟩:Ls Wt))), .blk g7001 182 [mw7001.v,mo7001.v], .own 3 mw7001, .own 3 mo7001, .blk b12 25 [code.v,words0.v, .int .i64 ((Lk:Nat):Int), .int .i64 nregs], .at_ code, .at_ words0])∨(S 1=true∧S 5=true∧S 7=true∧∃(g7001:Nat) (mw7001:Ls Int) (mo7001:Ls Int) (v7005:Value) (b7007:Nat),(mw7001.l=words0.l)∧(mo7001.l=List.replicate Lk (-1))∧FrI 11 S Φ (Ψ++ [(1,4, .pointer (some ⟨g7001,0,none⟩)),(5,8,v7005),(6,9, .agg #[.pointer (some ⟨g7001,0,none⟩),v7005]),(7,10, .pointer (some ⟨b7007,0,none⟩)),(8,2, .pointer (some ⟨b7007,0,none⟩))]) a∧Sh (fun _=>False) W w [.blk b7007 185 [.pointer (some ⟨g7001,0,none⟩),v7005], .big (matX (.own 266) 267 v7005 (List.replicate code.l.length (⟨.slice none 0 0, []⟩:Ls Wt))), .blk g7001 182 [mw7001.v,mo7001.v], .own 3 mw7001, .own 3 mo7001, .blk b12 25 [code.v,words0.v, .int .i64 ((Lk:Nat):Int), .int .i64 nregs], .at_ code, .at_ words0])) [(0, .agg #[code.v,words0.v, .int .i64 ((Lk:Nat):Int), .int .i64 nregs]),(1, .pointer (some ⟨b12,0,none⟩))] [(0,3, .agg #[code.v,words0.v, .int .i64 ((Lk:Nat):Int), .int .i64 nregs]),(2,5, .pointer (some ⟨b12,0,none⟩)),(3,6,code.v),(4,7, .int .i64 ((code.l.length:Nat):Int))]) (by kernel_rfl) (by kernel_rfl) (Or.inl (⟨rfl,rfl,rfl,FrI.start h14.fr,h14.sh.drew⟩)) ?_ ?_;clear h10
 ·intro S i o ho hSi hcl hdep a w hI
  clear h14
  rcases i with _|_|_|_|_|_|_|_|_|i
  ·obtain rfl:_=o:=Option.some.inj ho
   rcases hI with ⟨ν1,ν5,ν7,φ,ς⟩|⟨ν1,_⟩|⟨ν1,ν5,ν7,v7005,φ,ς⟩|⟨ν1,_⟩|⟨ν1,_⟩
   ·exact sq φ φ.fr0 ς (r_ldbw (i:=0) (vs:= [code.v,words0.v, .int .i64 ((Lk:Nat):Int), .int .i64 nregs]) ti_25 rfl rfl rfl rfl rfl) 0 rfl rfl rfl rfl rfl rfl fun a hg=>Or.inl (⟨un rfl ν1,un rfl ν5,un rfl ν7,hg,ς⟩)
   ·exact no_way (cA hcl 1 0 rfl ν1) hSi
   ·exact sq φ φ.fr0 ς (r_ldbw (i:=1) (vs:= [code.v,words0.v, .int .i64 ((Lk:Nat):Int), .int .i64 nregs]) ti_25 rfl rfl rfl rfl rfl) 0 rfl rfl rfl rfl rfl rfl fun a hg=>Or.inr (Or.inr (Or.inl (⟨un rfl ν1,un rfl ν5,un rfl ν7,v7005,hg,ς⟩)))
   ·exact no_way (cA hcl 1 0 rfl ν1) hSi
   ·exact no_way (cA hcl 1 0 rfl ν1) hSi
  ·obtain rfl:_=o:=Option.some.inj ho
   have hd0:S 0=true:=depAt hdep 0 rfl rfl
   rcases hI with ⟨ν1,ν5,ν7,φ,ς⟩|⟨ν1,_⟩|⟨ν1,ν5,ν7,v7005,φ,ς⟩|⟨ν1,_⟩|⟨ν1,_⟩
   ·have hs:=St.mk (Fr.cons φ.fr0 (φ.at_ 0 0 3 _ rfl hd0)) ς
    refine step_ex (x_call hs bd_81 rfl rfl rfl rfl rfl (pnew_c words0 Lk code.v nregs _ (hs.sh.at 2 rfl) (by omega) (by omega))) (wanted_none rfl _) ?_
    rintro a25 w25 ⟨_,⟨g25,mw25,mo25,rfl,hmw25,hmo25,hs25⟩,hf25⟩ ⟨v0,ht25⟩
    have h25:=(⟨hf25,hs.sh.call hs25 (by intro A hA b hb;simp only [memA,List.mem_cons,List.not_mem_nil,or_false] at hA;first|(subst hA;exact Flat.noRd hb)|(rcases hA with rfl|rfl|rfl|rfl<;>first|exact (hb:False).elim|exact Flat.noRd hb|exact (memT_rd hb).elim))⟩:St 11 (fun _=>False) W a25 w25 _ _)
    clear hf25 hs25
    exact Or.inr (Or.inl (⟨upd_self _ _,un rfl ν5,un rfl ν7,g25,mw25,mo25,hmw25,hmo25,φ.stepW hcl hSi [0,1,2,3] (by kernel_rfl) (by kernel_rfl) ht25 h25.fr.defers (h25.fr.at_ 4 _ rfl) 4 rfl rfl rfl rfl,(h25.sh.sel [0,1,2,3,4,5] rfl)⟩))
   ·exact no_way ν1 hSi
   ·have hs:=St.mk (Fr.cons φ.fr0 (φ.at_ 0 0 3 _ rfl hd0)) ς
    refine step_ex (x_call hs bd_81 rfl rfl rfl rfl rfl (pnew_c words0 Lk code.v nregs _ (hs.sh.at 3 rfl) (by omega) (by omega))) (wanted_none rfl _) ?_
    rintro a26 w26 ⟨_,⟨g26,mw26,mo26,rfl,hmw26,hmo26,hs26⟩,hf26⟩ ⟨v0,ht26⟩
    have h26:=(⟨hf26,hs.sh.call hs26 (by intro A hA b hb;simp only [memA,List.mem_cons,List.not_mem_nil,or_false] at hA;first|(subst hA;exact Flat.noRd hb)|(rcases hA with rfl|rfl|rfl|rfl<;>first|exact (hb:False).elim|exact Flat.noRd hb|exact (memT_rd hb).elim))⟩:St 11 (fun _=>False) W a26 w26 _ _)
    clear hf26 hs26
    exact Or.inr (Or.inr (Or.inr (Or.inl (⟨upd_self _ _,un rfl ν5,un rfl ν7,g26,mw26,mo26,v7005,hmw26,hmo26,φ.stepW hcl hSi [0,1,2,3,5] (by kernel_rfl) (by kernel_rfl) ht26 h26.fr.defers (h26.fr.at_ 4 _ rfl) 4 rfl rfl rfl rfl,(h26.sh.sel [3,0,1,2,4,5,6] rfl)⟩))))
   ·exact no_way ν1 hSi
   ·exact no_way ν1 hSi
  ·obtain rfl:_=o:=Option.some.inj ho
   rcases hI with ⟨ν1,ν5,ν7,φ,ς⟩|⟨ν1,ν5,ν7,g7001,mw7001,mo7001,hmw7001,hmo7001,φ,ς⟩|⟨_,ν5,_⟩|⟨_,ν5,_⟩|⟨_,ν5,_⟩
   ·exact sq φ φ.fr0 ς (r_fieldB (r:=0) fl_25_0 rfl rfl rfl) 1 rfl rfl rfl rfl rfl rfl fun a hg=>Or.inl (⟨un rfl ν1,un rfl ν5,un rfl ν7,hg,ς⟩)
   ·exact sq φ φ.fr0 ς (r_fieldB (r:=0) fl_25_0 rfl rfl rfl) 1 rfl rfl rfl rfl rfl rfl fun a hg=>Or.inr (Or.inl (⟨un rfl ν1,un rfl ν5,un rfl ν7,g7001,mw7001,mo7001,hmw7001,hmo7001,hg,ς⟩))
   ·exact no_way (cA hcl 5 2 rfl ν5) hSi
   ·exact no_way (cA hcl 5 2 rfl ν5) hSi
   ·exact no_way (cA hcl 5 2 rfl ν5) hSi
  ·obtain rfl:_=o:=Option.some.inj ho
   have hd2:S 2=true:=depAt hdep 0 rfl rfl
   rcases hI with ⟨ν1,ν5,ν7,φ,ς⟩|⟨ν1,ν5,ν7,g7001,mw7001,mo7001,hmw7001,hmo7001,φ,ς⟩|⟨_,ν5,_⟩|⟨_,ν5,_⟩|⟨_,ν5,_⟩
   ·exact sq φ (Fr.cons φ.fr0 (φ.at_ 1 2 5 _ rfl hd2)) ς (r_ldb (i:=0) ti_22 rfl rfl rfl rfl) 2 rfl rfl rfl rfl rfl rfl fun a hg=>Or.inl (⟨un rfl ν1,un rfl ν5,un rfl ν7,hg,ς⟩)
   ·exact sq φ (Fr.cons φ.fr0 (φ.at_ 1 2 5 _ rfl hd2)) ς (r_ldb (i:=3) ti_22 rfl rfl rfl rfl) 2 rfl rfl rfl rfl rfl rfl fun a hg=>Or.inr (Or.inl (⟨un rfl ν1,un rfl ν5,un rfl ν7,g7001,mw7001,mo7001,hmw7001,hmo7001,hg,ς⟩))
   ·exact no_way (cA hcl 5 3 rfl ν5) hSi
   ·exact no_way (cA hcl 5 3 rfl ν5) hSi
   ·exact no_way (cA hcl 5 3 rfl ν5) hSi
  ·obtain rfl:_=o:=Option.some.inj ho
   have hd3:S 3=true:=depAt hdep 0 rfl rfl
   rcases hI with ⟨ν1,ν5,ν7,φ,ς⟩|⟨ν1,ν5,ν7,g7001,mw7001,mo7001,hmw7001,hmo7001,φ,ς⟩|⟨_,ν5,_⟩|⟨_,ν5,_⟩|⟨_,ν5,_⟩
   ·have hs:=St.mk (Fr.cons φ.fr0 (φ.at_ 2 3 6 _ rfl hd3)) ς
    have hl31:code.l.length≤140737488355328:=(hs.sh.at 1 rfl).len
    exact sq φ (Fr.cons φ.fr0 (φ.at_ 2 3 6 _ rfl hd3)) ς (r_len (s:=code) (n:=code.l.length) sl_22 rfl rfl (fun w h=>(h.at 1 rfl)) rfl) 3 rfl rfl rfl rfl rfl rfl fun a hg=>Or.inl (⟨un rfl ν1,un rfl ν5,un rfl ν7,hg,ς⟩)
   ·have hs:=St.mk (Fr.cons φ.fr0 (φ.at_ 2 3 6 _ rfl hd3)) ς
    have hl33:code.l.length≤140737488355328:=(hs.sh.at 4 rfl).len
    exact sq φ (Fr.cons φ.fr0 (φ.at_ 2 3 6 _ rfl hd3)) ς (r_len (s:=code) (n:=code.l.length) sl_22 rfl rfl (fun w h=>(h.at 4 rfl)) rfl) 3 rfl rfl rfl rfl rfl rfl fun a hg=>Or.inr (Or.inl (⟨un rfl ν1,un rfl ν5,un rfl ν7,g7001,mw7001,mo7001,hmw7001,hmo7001,hg,ς⟩))
   ·exact no_way (cA hcl 5 4 rfl ν5) hSi
   ·exact no_way (cA hcl 5 4 rfl ν5) hSi
   ·exact no_way (cA hcl 5 4 rfl ν5) hSi
  ·obtain rfl:_=o:=Option.some.inj ho
   have hd4:S 4=true:=depAt hdep 0 rfl rfl
   rcases hI with ⟨ν1,ν5,ν7,φ,ς⟩|⟨ν1,ν5,ν7,g7001,mw7001,mo7001,hmw7001,hmo7001,φ,ς⟩|⟨_,ν5,_⟩|⟨_,ν5,_⟩|⟨_,ν5,_⟩
   ·have hs:=St.mk (Fr.cons φ.fr0 (φ.at_ 3 4 7 _ rfl hd4)) ς
    refine step_ex (x_makeMat (n:=code.l.length) hs sl_183 ti_267 rfl rfl rfl (show 24*code.l.length≤140737488355328∧code.l.length≤140737488355328 from (by omega)) rfl rfl 266 Wt) (wanted_none rfl _) ?_
    rintro a35 w35 ⟨v35,h35⟩ ⟨v0,ht35⟩
    exact Or.inr (Or.inr (Or.inl (⟨un rfl ν1,upd_self _ _,un rfl ν7,v35,φ.stepW hcl hSi [0,1,2,3] (by kernel_rfl) (by kernel_rfl) ht35 h35.fr.defers (h35.fr.at_ 8 _ rfl) 4 rfl rfl rfl rfl,(h35.sh.sel [0,1,2,3] rfl)⟩)))
   ·have hs:=St.mk (Fr.cons φ.fr0 (φ.at_ 3 4 7 _ rfl hd4)) ς
    refine step_ex (x_makeMat (n:=code.l.length) hs sl_183 ti_267 rfl rfl rfl (show 24*code.l.length≤140737488355328∧code.l.length≤140737488355328 from (by omega)) rfl rfl 266 Wt) (wanted_none rfl _) ?_
    rintro a36 w36 ⟨v36,h36⟩ ⟨v0,ht36⟩
    exact Or.inr (Or.inr (Or.inr (Or.inl (⟨un rfl ν1,upd_self _ _,un rfl ν7,g7001,mw7001,mo7001,v36,hmw7001,hmo7001,φ.stepW hcl hSi [0,1,2,3,4] (by kernel_rfl) (by kernel_rfl) ht36 h36.fr.defers (h36.fr.at_ 8 _ rfl) 5 rfl rfl rfl rfl,(h36.sh.sel [0,1,2,3,4,5,6] rfl)⟩))))
   ·exact no_way ν5 hSi
   ·exact no_way ν5 hSi
   ·exact no_way ν5 hSi
  ·obtain rfl:_=o:=Option.some.inj ho
   have hd1:S 1=true:=depAt hdep 0 rfl rfl
   have hd5:S 5=true:=depAt hdep 1 rfl rfl
   rcases hI with ⟨ν1,_⟩|⟨_,ν5,_⟩|⟨ν1,_⟩|⟨ν1,ν5,ν7,g7001,mw7001,mo7001,v7005,hmw7001,hmo7001,φ,ς⟩|⟨_,_,ν7,_⟩
   ·exact no_way hd1 ν1
   ·exact no_way hd5 ν5
   ·exact no_way hd1 ν1
   ·have hs:=St.mk (Fr.cons (Fr.cons φ.fr0 (φ.at_ 4 1 4 _ rfl hd1)) (φ.at_ 5 5 8 _ rfl hd5)) ς
    exact sq φ (Fr.cons (Fr.cons φ.fr0 (φ.at_ 4 1 4 _ rfl hd1)) (φ.at_ 5 5 8 _ rfl hd5)) ς (r_build (cs:= [.pointer (some ⟨g7001,0,none⟩),v7005]) rfl rfl (by obtain ⟨A37,n37,c37,(e37:v7005=_)⟩:=((hs.sh.matAt 0 rfl)).form;rw [e37];kernel_rfl)) 6 rfl rfl rfl rfl rfl rfl fun a hg=>Or.inr (Or.inr (Or.inr (Or.inl (⟨un rfl ν1,un rfl ν5,un rfl ν7,g7001,mw7001,mo7001,v7005,hmw7001,hmo7001,hg,ς⟩))))
   ·exact no_way (cA hcl 7 6 rfl ν7) hSi
  ·obtain rfl:_=o:=Option.some.inj ho
   have hd6:S 6=true:=depAt hdep 0 rfl rfl
   rcases hI with ⟨ν1,_⟩|⟨_,ν5,_⟩|⟨ν1,_⟩|⟨ν1,ν5,ν7,g7001,mw7001,mo7001,v7005,hmw7001,hmo7001,φ,ς⟩|⟨_,_,ν7,_⟩
   ·exact no_way (cA hcl 6 1 rfl hd6) ν1
   ·exact no_way (cA hcl 6 5 rfl hd6) ν5
   ·exact no_way (cA hcl 6 1 rfl hd6) ν1
   ·have hs:=St.mk (Fr.cons φ.fr0 (φ.at_ 6 6 9 _ rfl hd6)) ς
    refine step_ex (x_box (cs:= [.pointer (some ⟨g7001,0,none⟩),v7005]) hs rfl rfl rfl rfl rfl) (wanted_none rfl _) ?_
    rintro a39 w39 ⟨b39,h39⟩ ⟨v0,ht39⟩
    exact Or.inr (Or.inr (Or.inr (Or.inr (⟨un rfl ν1,un rfl ν5,upd_self _ _,g7001,mw7001,mo7001,v7005,b39,hmw7001,hmo7001,φ.stepW hcl hSi [0,1,2,3,4,5,6] (by kernel_rfl) (by kernel_rfl) ht39 h39.fr.defers (h39.fr.at_ 10 _ rfl) 7 rfl rfl rfl rfl,(h39.sh.sel [0,1,2,3,4,5,6,7] rfl)⟩))))
   ·exact no_way ν7 hSi
  ·obtain rfl:_=o:=Option.some.inj ho
   have hd7:S 7=true:=depAt hdep 0 rfl rfl
   have hd1:S 1=true:=depAt hdep 1 rfl rfl
   have hd5:S 5=true:=depAt hdep 7 rfl rfl
   rcases hI with ⟨ν1,_⟩|⟨_,ν5,_⟩|⟨ν1,_⟩|⟨_,_,ν7,_⟩|⟨ν1,ν5,ν7,g7001,mw7001,mo7001,v7005,b7007,hmw7001,hmo7001,φ,ς⟩
   ·exact no_way hd1 ν1
   ·exact no_way hd5 ν5
   ·exact no_way hd1 ν1
   ·exact no_way hd7 ν7
   ·exact sq φ (Fr.cons φ.fr0 (φ.at_ 7 7 10 _ rfl hd7)) ς (r_assign rfl rfl) 8 rfl rfl rfl rfl rfl rfl fun a hg=>Or.inr (Or.inr (Or.inr (Or.inr (⟨un rfl ν1,un rfl ν5,un rfl ν7,g7001,mw7001,mo7001,v7005,b7007,hmw7001,hmo7001,hg,ς⟩))))
  · simp at ho
 intro S hall a w hI
 clear h14
 rcases hI with ⟨ν1,ν5,ν7,φ,ς⟩|⟨ν1,ν5,ν7,g7001,mw7001,mo7001,hmw7001,hmo7001,φ,ς⟩|⟨ν1,ν5,ν7,v7005,φ,ς⟩|⟨ν1,ν5,ν7,g7001,mw7001,mo7001,v7005,hmw7001,hmo7001,φ,ς⟩|⟨ν1,ν5,ν7,g7001,mw7001,mo7001,v7005,b7007,hmw7001,hmo7001,φ,ς⟩
 · exact no_way (hall 1 (by decide)) ν1
 · exact no_way (hall 5 (by decide)) ν5
 · exact no_way (hall 1 (by decide)) ν1
 · exact no_way (hall 7 (by decide)) ν7
 have h41:St 11 (fun _=>False) W a w _ _:=⟨(Fr.cons φ.fr0 (φ.at_ 8 8 2 _ rfl (hall 8 (by decide)))),ς⟩
 clear hall φ ς ν1 ν5 ν7
 refine gG h41<|hK k13<|gR<|fun a42 w42 h42=> ?_;clear h41
 try simp only [Exit.then,Exit.inBlock]
 refine x_ret1 (fn:=Tryz.f82) (t:=2) rfl h42 rfl ?_
 exact ⟨b7007,g7001,mw7001,mo7001,⟨v7005,List.replicate code.l.length (⟨.slice none 0 0, []⟩:Ls Wt)⟩,rfl,hmw7001,hmo7001,by simp [memT],memT_close (q:=⟨v7005,List.replicate code.l.length (⟨.slice none 0 0, []⟩:Ls Wt)⟩) (h42.sh.sel [0,1,2,3,4] rfl)⟩
end Go.Proofs.YtmjkobhkkjgplaaGreatDoor
end
section
namespace Go.Proofs.YtmjkobhkkjgplaaGreatDoor
open Go.RowKit
set_option linter.unusedSimpArgs false
set_option linter.unusedVariables false
def vs (l:List Int):List (Int×Value):=l.map fun k=>(k, .bool true)
def Asn.setO (g:Nat) (l:List Int):Asn where
 fp b:=g=b
 rd _:=False
 ok w:=MapI w g (vs l)
 keep w w' h hb:=h.of_block (hb g (.inl rfl))
 lt w h b hb:=by
  rcases hb with rfl|hb
  ·exact h.lt
  ·exact hb.elim
theorem atKey_vs (k:Int):∀(l:List Int) (i:Nat),(∃j,atKey k (vs l) i=some (i+j, .bool true)∧l[j]? =some k)∨(atKey k (vs l) i=none∧k∉l)
 | [],i=> .inr ⟨rfl,by simp⟩
 |x::r,i=>by
  show (∃j,(if k=x then some (i,Value.bool true) else atKey k (vs r) (i+1))=some (i+j, .bool true)∧(x::r)[j]? =some k)∨((if k=x then some (i,Value.bool true) else atKey k (vs r) (i+1))=none∧k∉x::r)
  by_cases h:k=x
  ·subst h;exact .inl ⟨0,by rw [if_pos rfl];rfl,rfl⟩
  ·rw [if_neg h]
   rcases atKey_vs k r (i+1) with ⟨j,h1,h2⟩|⟨h1,h2⟩
   ·exact .inl ⟨j+1,by rw [h1,show i+1+j=i+(j+1) by omega],by simpa using h2⟩
   ·exact .inr ⟨h1,by simp [h,h2]⟩
structure MapTS (P:Program) (T kT eT:TypeId):Prop where
 map:P.underlying T=some (.map kT eT)
 int:P.underlying kT=some (.int .i64)
 zero:∀w,(zeroValue eT).run P w= .ok (.bool false) w
section
variable {P:Program} {o:Oper} {N:Nat} {K:Nat→Prop} {W w:World} {a:Act} {F:List (Nat×Value)} {L:List Asn} {T kT eT:TypeId} {l:List Int} {k:Int} {g:Nat}
theorem run_lookS (hT:MapTS P T kT eT) (h:(Asn.setO g l).ok w):(Instr.lookup T (.map (some g)) (.int .i64 k) true).run P w= .ok (.tuple #[.bool (decide (k∈l)), .bool (decide (k∈l))]) w:=by
 rw [run_lookup_ok w T kT eT g k (vs l) (.bool false) hT.map hT.int (hT.zero w) h]
 rcases atKey_vs k l 0 with ⟨j,h1,h2⟩|⟨h1,h2⟩
 ·rw [h1,decide_eq_true (List.mem_of_getElem? h2)];rfl
 ·rw [h1,decide_eq_false h2];rfl
theorem r_lookS {x y:Operand} {i:Nat} (hT:MapTS P T kT eT) (ho:o.op= .lookup T x y true) (hx:ev F x=some (.map (some g))) (hy:ev F y=some (.int .i64 k)) (hi:L[i]? =some (.setO g l)):Rn P o N K W F L (.tuple #[.bool (decide (k∈l)), .bool (decide (k∈l))]):=fun a w h=>by
 have key:=run_lookS (k:=k) hT (h.sh.ok _ (List.mem_of_getElem? hi))
 unfold execOp
 simp only [ho,h.fr.ev hx,h.fr.ev hy,Sem.run_bind,key,Result.andThen_ok,Sem.run_pure]
theorem x_makeS {d:Nat} (h:St N K W a w F L) (ho:o.op= .makeMap T none) (hd:o.dst=some d) (hdN:Nat.blt d N=true):Ex P o a w (fun a' w' =>∃g:Nat,St N K W a' w' ((d, .map (some g))::F) (.setO g []::L)):=by
 have hrun:(Instr.makeMap T none).run P w= .ok (.map (some w.heap.size)) (w.alloc (.map #[] 0)):=run_makeMap T w
 refine Ex.of_run (v:= .map (some w.heap.size)) (w' :=w.alloc (.map #[] 0)) ?_ ⟨w.heap.size, ?_⟩
 ·unfold execOp
  simp only [ho,Option.map_none,Sem.run_bind,hrun,Result.andThen_ok,Sem.run_pure]
 ·rw [hd]
  have h1:Sh K W (w.alloc (.map #[] 0)) (.setO w.heap.size []::L):=
   h.sh.push (Chg.alloc _ w _) (MapI.made w) (fun b hb=>by rw [←(show w.heap.size=b from hb)];exact Nat.le_refl _) (fun b hb=>hb.elim) (fun b _ hb=>hb)
  exact ⟨h.fr.put d (by simpa [Nat.blt_eq] using hdN) _,h1⟩
theorem run_updS (hT:MapTS P T kT eT) (h:MapI w g (vs l)):∃w',(Instr.mapUpdate T (.map (some g)) (.int .i64 k) (.bool true)).run P w= .ok () w' ∧MapI w' g (vs (if k∈l then l else l++ [k]))∧w.grownBy w' (some g):=by
 rcases atKey_vs k l 0 with ⟨j,h1,h2⟩|⟨h1,h2⟩
 ·rw [if_pos (List.mem_of_getElem? h2)]
  obtain ⟨es,c,h3,h4⟩:=h
  have hlt:g<w.heap.size:=(Array.getElem?_eq_some_iff.1 h3).1
  have e0:(getObj g).run P w= .ok (.map es c) w:=by simp [getObj,Sem.run,h3]
  have e1:=run_findKey_int (P:=P) w kT k es (vs l) hT.int h4
  have e2:=run_checkKey_int (P:=P) w false 9999 kT k hT.int
  rw [h1,Nat.zero_add] at e1
  have hj:(pairsOf es)[j]? =some (.int .i64 k, .bool true):=by rw [h4];simp [keysI,vs,h2]
  obtain ⟨e,he,hek⟩:∃e,es[j]? =some e∧(e.key,e.val)=(Value.int .i64 k,Value.bool true):=by
   rw [pairsOf,List.getElem?_map,Array.getElem?_toList] at hj
   cases hh:es[j]? with
   |none=>rw [hh] at hj;cases hj
   |some e=>rw [hh] at hj;exact ⟨e,rfl,Option.some.inj hj⟩
  have hk1:e.key= .int .i64 k:=(Prod.mk.inj hek).1
  have hk2:e.val= .bool true:=(Prod.mk.inj hek).2
  refine ⟨World.setMap w g (es.modify j fun e=> { e with key:= .int .i64 k,val:= .bool true }) c, ?_,⟨_,c,setMap_get hlt _ _, ?_⟩,⟨rfl,rfl,rfl,by simp [World.setMap],fun q hq hne=> ?_⟩⟩
  ·simp [Instr.mapUpdate,run_underlying hT.map,e0,e1,e2,setObj,Sem.run,h3,World.setMap,he,hk1,Instr.keyThatStays,Instr.sameBits]
  ·rw [←h4]
   unfold pairsOf
   apply List.ext_getElem?
   intro q
   simp only [List.getElem?_map,Array.getElem?_toList,Array.getElem?_modify]
   split
   ·rename_i hq;subst hq;rw [he];simp [hk1,hk2]
   ·rfl
  ·have:g≠q:=fun e=>hne (by rw [e])
   simp [World.setMap,Array.getElem?_setIfInBounds,this]
 ·rw [if_neg h2]
  obtain ⟨w',hr,hm,hg⟩:=run_mapUpdate_new w T kT eT g k (vs l) (.bool true) hT.map hT.int h h1
  exact ⟨w',hr,by simpa [vs] using hm,hg⟩
theorem x_updS {x y z:Operand} {i:Nat} (h:St N K W a w F L) (hT:MapTS P T kT eT) (ho:o.op= .mapUpdate T x y z) (hd:o.dst=none) (hx:ev F x=some (.map (some g))) (hy:ev F y=some (.int .i64 k)) (hz:ev F z=some (.bool true)) (hi:L[i]? =some (.setO g l)):
  Ex P o a w (fun a' w' =>St N K W a' w' F (L.set i (.setO g (if k∈l then l else l++ [k])))):=by
 obtain ⟨w',hrun,hm,hg⟩:=run_updS (k:=k) hT (show MapI w g (vs l) from h.sh.ok _ (List.mem_of_getElem? hi))
 refine Ex.of_skip (w' :=w') ?_ ?_
 ·unfold execOp
  simp only [ho,h.fr.ev hx,h.fr.ev hy,h.fr.ev hz,Sem.run_bind,hrun,Result.andThen_ok,Sem.run_pure]
 ·rw [hd]
  exact ⟨h.fr,h.sh.put hi (Chg.grown hg (fun b hb=>Option.some.inj hb)) hm (fun b hb=> .inl hb) (fun b hb=>hb.elim) (fun b _ hb=>hb)⟩
end
end Go.Proofs.YtmjkobhkkjgplaaGreatDoor
end
namespace Go.Proofs.YtmjkobhkkjgplaaGreatDoor
open Go.RowKit
set_option linter.unusedSimpArgs false
set_option linter.unusedVariables false
set_option maxRecDepth 100000
set_option maxHeartbeats 20000000
theorem ms_274 :MapTS Tryz.prog 274 3 4:=⟨by kernel_rfl,by kernel_rfl,fun w=>by kernel_rfl⟩
def psoR (l:List Wt) (n:Nat):List Int:=((List.range n).filter (mayK 2 l)).map (fun k=>((k:Nat):Int))
theorem psoR_succ (l:List Wt) (n:Nat):psoR l (n+1)=psoR l n++(if mayK 2 l n=true then [((n:Nat):Int)] else []):=by
 unfold psoR
 rw [List.range_succ,List.filter_append,List.map_append]
 congr 1
 cases h:mayK 2 l n<;>simp [h]
theorem mayK2 (l:List Wt) (k:Nat):mayK 2 l k=true↔k=0∨((nth l k).lock=false∧∀i,i<k→(nth l i).lock=false∧(nth l i).wh≠(nth l k).wh):=by
 unfold mayK
 simp only [Bool.or_eq_true,Bool.and_eq_true,Bool.not_eq_true',decide_eq_true_eq,List.all_eq_true,List.mem_range,Bool.or_eq_false_iff,decide_eq_false_iff_not]
 constructor
 ·rintro (h|⟨h1,h2⟩)
  ·exact .inl h
  ·exact .inr ⟨h1.2,h2⟩
 ·rintro (h|⟨h1,h2⟩)
  ·exact .inl h
  ·exact .inr ⟨⟨by decide,h1⟩,h2⟩
theorem psoR_yes {l:List Wt} {n:Nat} {sn rd:List Int} (hrd:rd=psoR l n) (hlk:∀i,i<n→(nth l i).lock=false) (hsn:∀x,x∈sn↔∃i,i<n∧(nth l i).wh=x) (h1:(nth l n).lock=false) (h2:¬(nth l n).wh∈sn):rd++ [((n:Nat):Int)]=psoR l (n+1):=by
 rw [psoR_succ,if_pos ((mayK2 l n).2 (.inr ⟨h1,fun i hi=>⟨hlk i hi,fun e=>h2 ((hsn _).2 ⟨i,hi,e⟩)⟩⟩)),hrd]
theorem psoR_no {l:List Wt} {n:Nat} {sn rd:List Int} (hrd:rd=psoR l n) (hsn:∀x,x∈sn↔∃i,i<n∧(nth l i).wh=x) (h2:(nth l n).wh∈sn):rd=psoR l (n+1):=by
 obtain ⟨i,hi,e⟩:=(hsn _).1 h2
 rw [psoR_succ,if_neg (fun h=> ?_),List.append_nil,hrd]
 rcases (mayK2 l n).1 h with h|⟨_,h⟩
 ·omega
 ·exact (h i hi).2 e
theorem psoR_end {l:List Wt} {n:Nat} (h:(nth l n).lock=true):∀k,psoR l (n+1+k)=psoR l n++(if n=0 then [0] else [])
 |0=>by
  rw [Nat.add_zero,psoR_succ]
  congr 1
  by_cases h0:n=0
  ·subst h0;rw [if_pos ((mayK2 l 0).2 (.inl rfl)),if_pos rfl];rfl
  ·rw [if_neg h0,if_neg]
   intro h9
   rcases (mayK2 l n).1 h9 with h9|⟨h9,_⟩
   ·exact h0 h9
   ·rw [h] at h9;cases h9
 |k+1=>by
  rw [←Nat.add_assoc,psoR_succ,psoR_end h k,if_neg (c:=mayK 2 l (n+1+k)=true),List.append_nil]
  intro h9
  rcases (mayK2 l (n+1+k)).1 h9 with h9|⟨_,h9⟩
  ·omega
  ·have:=(h9 n (by omega)).1;rw [h] at this;cases this
theorem psoR_lock0 {l:List Wt} {n:Nat} {rd:List Int} (hrd:rd=psoR l n) (hn:n<l.length) (h:(nth l n).lock=true) (h0:n=0):rd++ [((n:Nat):Int)]=psoR l l.length:=by
 have:=psoR_end h (l.length-(n+1))
 rw [show n+1+(l.length-(n+1))=l.length by omega,if_pos h0,←hrd] at this
 rw [this,h0];rfl
theorem psoR_lock {l:List Wt} {n:Nat} {rd:List Int} (hrd:rd=psoR l n) (hn:n<l.length) (h:(nth l n).lock=true) (h0:¬n=0):rd=psoR l l.length:=by
 have:=psoR_end h (l.length-(n+1))
 rw [show n+1+(l.length-(n+1))=l.length by omega,if_neg h0,←hrd,List.append_nil] at this
 exact this.symm
theorem psoR_len (l:List Wt) (n:Nat):(psoR l n).length≤n:=by
 unfold psoR
 rw [List.length_map]
 exact Nat.le_trans (List.length_filter_le _ _) (by simp)
theorem sn_step {l:List Wt} {n:Nat} {sn:List Int} (hsn:∀x,x∈sn↔∃i,i<n∧(nth l i).wh=x):∀x,x∈(if (nth l n).wh∈sn then sn else sn++ [(nth l n).wh])↔∃i,i<n+1∧(nth l i).wh=x:=by
 intro x
 have h1:(∃i,i<n+1∧(nth l i).wh=x)↔(∃i,i<n∧(nth l i).wh=x)∨(nth l n).wh=x:=by
  constructor
  ·rintro ⟨i,hi,e⟩
   rcases Nat.lt_or_eq_of_le (Nat.le_of_lt_succ hi) with h|h
   ·exact .inl ⟨i,h,e⟩
   ·subst h;exact .inr e
  ·rintro (⟨i,hi,e⟩|e)
   ·exact ⟨i,by omega,e⟩
   ·exact ⟨n,by omega,e⟩
 rw [h1,←hsn]
 split
 ·rename_i h
  exact ⟨.inl,fun h2=>h2.elim id fun e=>e▸h⟩
 ·rw [List.mem_append,List.mem_singleton,eq_comm (a:=x)]
theorem lk_step {l:List Wt} {n:Nat} (hlk:∀i,i<n→(nth l i).lock=false) (h:(nth l n).lock=false):∀i,i<n+1→(nth l i).lock=false:=fun i hi=>by
 rcases Nat.lt_or_eq_of_le (Nat.le_of_lt_succ hi) with h3|h3
 ·exact hlk i h3
 ·subst h3;exact h
theorem tbWaiting_c (g1 g0:Nat) (wait:Ls (Ls Wt)) (t k:Nat) (W:World) (hB:Blk W g1 185 #[.pointer (some ⟨g0,0,none⟩),wait.v]) (hw:wait.At W) (ht:t<wait.l.length) (hk:k<(nth wait.l t).l.length):
    Rets Tryz.prog 224 [.pointer (some ⟨g1,0,none⟩), .int .i64 ((t:Nat):Int), .int .i64 ((k:Nat):Int)] W (fun v w' =>v= .tuple #[.int .i64 (nth (nth wait.l t).l k).wh, .bool (nth (nth wait.l t).l k).lock]∧Sh0 W w' []):=by
 refine gen Tryz.func224 Tryz.ntmps224 (Sh0.ext (by intro A hA;simp only [List.mem_cons,List.not_mem_nil,or_false] at hA;rcases hA with rfl|rfl;exact hB;exact hw) (by intro A hA b hb;simp only [List.mem_cons,List.not_mem_nil,or_false] at hA;rcases hA with rfl|rfl<;>exact hb):Sh (fun _=>False) W W [.rblk g1 185 [.pointer (some ⟨g0,0,none⟩),wait.v], .at_ wait]) rfl fun a10 h10=>gG h10<|sG (oM 2 rfl<|.nl)<|gK fun _ k12=>gNl (aA 1 rfl) fun hl13=>gNl (fun w h=>((h.at 1 rfl).nth t (show t<wait.l.length from (by omega)))) fun (hl14:((nth wait.l t).l).length≤140737488355328)=>rQ (by kernel_rfl) (by kernel_rfl) (oM 1 rfl<|onf fl_185_1 rfl<|olR 0 ti_183 rfl rfl<|oM 1 rfl<|oxN sl_183 ti_267 (aA 1 rfl) _ om9 rfl<|olE ((nth wait.l t).v) ti_267 (aA 1 rfl) om9 rfl<|oM 1 rfl<|oxN sl_267 ti_266 (fun w h=>((h.at 1 rfl).nth t (show t<wait.l.length from (by omega)))) _ om9 rfl<|ofE fl_266_1 rfl<|olE (.int .i64 ((nth ((nth wait.l t).l) k).wh)) ti_3 (fun w h=>((h.at 1 rfl).nth t (show t<wait.l.length from (by omega)))) om9 rfl<|oM 1 rfl<|onf fl_185_1 rfl<|olR 0 ti_183 rfl rfl<|oM 1 rfl<|oxN sl_183 ti_267 (aA 1 rfl) _ om9 rfl<|olE ((nth wait.l t).v) ti_267 (aA 1 rfl) om9 rfl<|oM 1 rfl<|oxN sl_267 ti_266 (fun w h=>((h.at 1 rfl).nth t (show t<wait.l.length from (by omega)))) _ om9 rfl<|ofE fl_266_0 rfl<|olE (.bool ((nth ((nth wait.l t).l) k).lock)) ti_4 (fun w h=>((h.at 1 rfl).nth t (show t<wait.l.length from (by omega)))) om9 rfl<|oM 2 rfl<|.nl)<|hK k12<|gF [6,7] rfl<|gR<|fun a15 w15 h15=> ?_;clear h10
 try simp only [Exit.then,Exit.inBlock]
 refine x_ret2 (fn:=Tryz.f224) (t:=6) (u:=7) rfl h15 rfl rfl ?_
 exact ⟨rfl,(h15.sh.sel [] rfl)⟩
theorem psReady_c (g2 g1 g0:Nat) (wait:Ls (Ls Wt)) (t:Nat) (W:World) (hL:Blk W g2 159 #[.pointer (some ⟨g1,0,none⟩)]) (hB:Blk W g1 185 #[.pointer (some ⟨g0,0,none⟩),wait.v]) (hw:wait.At W) (ht:t<wait.l.length) (hl3:(nth wait.l t).l.length≤3):
    Rets Tryz.prog 223 [.pointer (some ⟨g2,0,none⟩), .int .i64 ((t:Nat):Int)] W (fun v w' =>∃s:Ls Int,v=s.v∧s.l=psoR (nth wait.l t).l (nth wait.l t).l.length∧Sh0 W w' [.own 3 s]):=by
 refine gen Tryz.func223 Tryz.ntmps223 (Sh0.ext (by intro A hA;simp only [List.mem_cons,List.not_mem_nil,or_false] at hA;rcases hA with rfl|rfl|rfl;exact hL;exact hB;exact hw) (by intro A hA b hb;simp only [List.mem_cons,List.not_mem_nil,or_false] at hA;rcases hA with rfl|rfl|rfl<;>exact hb):Sh (fun _=>False) W W [.rblk g2 159 [.pointer (some ⟨g1,0,none⟩)], .rblk g1 185 [.pointer (some ⟨g0,0,none⟩),wait.v], .at_ wait]) rfl fun a10 h10=>gG h10<|sG (oM 1 rfl<|.nl)<|sG (oM 1 rfl<|.nl)<|sK fun _ k13=>gE1 (fun _ _ h_=>x_makeS h_ rfl rfl rfl) rfl fun g14=>gRn (oM 1 rfl<|.nl)<|nK k13<|gK fun _ k15=>sK fun _ k16=>gRn (oM 1 rfl<|onf fl_159_0 rfl<|olR 1 ti_125 rfl rfl<|oM 1 rfl<|.nl)<|gP (fun _ _ h_=>xCl h_ bd_216 rfl (tbWaits_c g1 g0 wait t 0 _ (h_.sh.rblk 2 rfl) (h_.sh.at 3 rfl) ht)) rfl<|gRn (oM 1 rfl<|.nl)<|nK k16<|gB<|fun a20 w20 h20=> ?_;clear h10
 have h19:=h20.nil (α:=Int) 3
 clear h20
 refine x_loop (fun m a w=>∃(n:Nat) (rd sn:List Int) (vr:Value),(n≤(nth wait.l t).l.length)∧(rd=psoR (nth wait.l t).l n)∧(∀x,x∈sn↔∃i,i<n∧(nth (nth wait.l t).l i).wh=x)∧(∀i,i<n→(nth (nth wait.l t).l i).lock=false)∧St 55 (fun _=>False) W a w [(0, .pointer (some ⟨g2,0,none⟩)),(1, .int .i64 ((t:Nat):Int)),(5,vr),(6, .map (some g14)),(18, .int .i64 (((nth wait.l t).l.length:Nat):Int)),(19, .int .i64 ((n:Nat):Int))] [.setO g14 sn, .rblk g2 159 [.pointer (some ⟨g1,0,none⟩)], .rblk g1 185 [.pointer (some ⟨g0,0,none⟩),wait.v], .at_ wait, .own 3 (⟨vr,rd⟩:Ls Int)]∧m=(nth wait.l t).l.length-n) ⟨_,0, [], [],(.slice none 0 0),(by omega),(rfl),(fun x=>by simp),(fun i hi=>absurd hi (by omega)),h19.nrm ⟨rfl,rfl,rfl,rfl,rfl,rfl,trivial⟩ [1,2,3,4,0] rfl,rfl⟩ ?_
 clear h19
 rintro m18 a18 w18 ⟨n,rd,sn,vr,hn,hrd,hsn,hlk,h18,hm18⟩
 have hrl:rd.length≤n:=by rw [hrd];exact psoR_len _ _
 refine gG h18<|sG (oltN _ _ rfl<|.nl)<|gK fun _ k22=>gcd rfl (fun hb23 hp23=> ?_) fun hb23 hp23=> ?_;clear h18
 ·skip
  refine gS<|hK k22<|gK fun _ k24=>gB<|sG (oM 2 rfl<|.nl)<|sK fun _ k26=>gRn (oM 1 rfl<|onf fl_159_0 rfl<|olR 1 ti_125 rfl rfl<|oM 2 rfl<|.nl)<|gP (fun _ _ h_=>xCl h_ bd_224 rfl (tbWaiting_c g1 g0 wait t n _ (h_.sh.rblk 2 rfl) (h_.sh.at 3 rfl) ht (by omega))) rfl<|gRn (oM 1 rfl<|oxt rfl<|oxt rfl<|oM 2 rfl<|.nl)<|nK k26<|gK fun _ k28=>sG (oM 1 rfl<|.nl)<|gCb rfl (fun hb30=> ?_) fun hb30=> ?_
  ·skip
   refine gK fun _ k31=>sG (oM 1 rfl<|oeqN _ 0 rfl<|.nl)<|gcd rfl (fun hb33 hp33=> ?_) fun hb33 hp33=> ?_
   ·skip
    refine gL<|gRn (oM 2 rfl<|.nl)<|gE1 (fun _ _ h_=>x_lit (n:=1) (cs:= [.int .i64 ((n:Nat):Int)]) ([((n:Nat):Int)]:List Int) h_ sl_23 ti_3 rfl rfl rfl (by decide) rfl (by kernel_rfl) rfl (fun q hq w h=>Flat.inner _ _) (fun q hq b hb=>(Flat.on _ _ hb).elim) rfl rfl) rfl fun v34=>gE1 (fun _ _ h_=>x_app (r:=5) (rm:=0) (s:=(⟨vr,rd⟩:Ls Int)) (m:=(⟨v34, [((n:Nat):Int)]⟩:Ls Int)) h_ sl_23 ti_3 rfl rfl rfl rfl rfl rfl rfl (fun w h=>(h.own 0 rfl)) (fun b hb=>own_on (h_.sh.ok _ (List.mem_of_getElem? (i:=0) rfl)) hb) (fun q hq b hb=>⟨q,hq,hb⟩) rfl rfl rfl inferInstance (show (rd.length+([((n:Nat):Int)]).length)*8≤140737488355328∧rd.length+([((n:Nat):Int)]).length≤140737488355328 from om9) rfl rfl) rfl fun v35=>gRn (oM 1 rfl<|.nl)<|nK k31<|gF [5] rfl<|gX<|hK k15<|sG (oM 2 rfl<|.nl)<|gR<|fun a37 w37 h37=> ?_
    try simp only [Exit.then,Exit.inBlock]
    refine x_ret1 (fn:=Tryz.f223) (t:=4) rfl h37 rfl ?_
    exact ⟨⟨v35,rd++([((n:Nat):Int)])⟩,rfl,(by first|exact psoR_lock0 hrd (by omega) (by assumption) (by assumption)|exact psoR_lock hrd (by omega) (by assumption) (by assumption)|(rw [←show n=(nth wait.l t).l.length by omega];exact hrd)),(h37.sh.sel [5] rfl)⟩
   refine gS<|hK k31<|gF [5] rfl<|gX<|hK k15<|sG (oM 2 rfl<|.nl)<|gR<|fun a39 w39 h39=> ?_
   try simp only [Exit.then,Exit.inBlock]
   refine x_ret1 (fn:=Tryz.f223) (t:=4) rfl h39 rfl ?_
   exact ⟨⟨vr,rd⟩,rfl,(by first|exact psoR_lock0 hrd (by omega) (by assumption) (by assumption)|exact psoR_lock hrd (by omega) (by assumption) (by assumption)|(rw [←show n=(nth wait.l t).l.length by omega];exact hrd)),(h39.sh.sel [4] rfl)⟩
  refine gS<|hK k28<|gK fun _ k40=>sG (oM 2 rfl<|oV (r_lookS (i:=0) (k:=((nth (nth wait.l t).l n).wh)) (l:=sn) ms_274 rfl rfl rfl rfl) rfl<|oM 1 rfl<|oxt rfl<|oxt rfl<|oM 2 rfl<|.nl)<|sG (oM 1 rfl<|ont rfl<|.nl)<|gF [0,1,5,6,7,8,18,19,46] rfl<|gCb rfl (fun hb43=> ?_) fun hb43=> ?_
  ·have hp43:¬((nth (nth wait.l t).l n).wh∈sn):=by simpa using hb43
   refine gL<|gRn (oM 2 rfl<|.nl)<|gE1 (fun _ _ h_=>x_lit (n:=1) (cs:= [.int .i64 ((n:Nat):Int)]) ([((n:Nat):Int)]:List Int) h_ sl_23 ti_3 rfl rfl rfl (by decide) rfl (by kernel_rfl) rfl (fun q hq w h=>Flat.inner _ _) (fun q hq b hb=>(Flat.on _ _ hb).elim) rfl rfl) rfl fun v44=>gE1 (fun _ _ h_=>x_app (r:=5) (rm:=0) (s:=(⟨vr,rd⟩:Ls Int)) (m:=(⟨v44, [((n:Nat):Int)]⟩:Ls Int)) h_ sl_23 ti_3 rfl rfl rfl rfl rfl rfl rfl (fun w h=>(h.own 0 rfl)) (fun b hb=>own_on (h_.sh.ok _ (List.mem_of_getElem? (i:=0) rfl)) hb) (fun q hq b hb=>⟨q,hq,hb⟩) rfl rfl rfl inferInstance (show (rd.length+([((n:Nat):Int)]).length)*8≤140737488355328∧rd.length+([((n:Nat):Int)]).length≤140737488355328 from om9) rfl rfl) rfl fun v45=>gRn (oM 1 rfl<|.nl)<|nK k40<|gL<|gRn (oM 2 rfl<|.nl)<|gE (fun _ _ h_=>x_updS (i:=1) (k:=((nth (nth wait.l t).l n).wh)) h_ ms_274 rfl rfl rfl rfl rfl rfl) rfl<|nK k24<|gL<|gRn (oadN _ 1 om9 rfl<|oM 1 rfl<|.nl)<|nN<|fun a47 w47 h47=>x_again ⟨_, ?_,n+1,rd++([((n:Nat):Int)]),if (nth (nth wait.l t).l n).wh∈sn then sn else sn++ [(nth (nth wait.l t).l n).wh],v45, ?_, ?_, ?_, ?_,h47.nrm ⟨rfl,rfl,rfl,rfl,rfl,rfl,trivial⟩ [1,2,3,4,5] rfl,rfl⟩
   · rw [hm18];first|omega|(simp only [lens9];omega)
   · omega
   · first|exact psoR_yes hrd hlk hsn (by assumption) (by assumption)|exact psoR_no hrd hsn (by assumption)
   · exact sn_step hsn
   · exact lk_step hlk (by assumption)
  have hp43:(nth (nth wait.l t).l n).wh∈sn:=by simpa using hb43
  refine gS<|hK k40<|gL<|gRn (oM 2 rfl<|.nl)<|gE (fun _ _ h_=>x_updS (i:=0) (k:=((nth (nth wait.l t).l n).wh)) h_ ms_274 rfl rfl rfl rfl rfl rfl) rfl<|nK k24<|gL<|gRn (oadN _ 1 om9 rfl<|oM 1 rfl<|.nl)<|nN<|fun a49 w49 h49=>x_again ⟨_, ?_,n+1,rd,if (nth (nth wait.l t).l n).wh∈sn then sn else sn++ [(nth (nth wait.l t).l n).wh],vr, ?_, ?_, ?_, ?_,h49.nf ⟨rfl,rfl,rfl,rfl,rfl,rfl,trivial⟩,rfl⟩
  · rw [hm18];first|omega|(simp only [lens9];omega)
  · omega
  · first|exact psoR_yes hrd hlk hsn (by assumption) (by assumption)|exact psoR_no hrd hsn (by assumption)
  · exact sn_step hsn
  · exact lk_step hlk (by assumption)
 refine gX<|hK k15<|sG (oM 2 rfl<|.nl)<|gR<|fun a51 w51 h51=> ?_
 try simp only [Exit.then,Exit.inBlock]
 refine x_ret1 (fn:=Tryz.f223) (t:=4) rfl h51 rfl ?_
 exact ⟨⟨vr,rd⟩,rfl,(by first|exact psoR_lock0 hrd (by omega) (by assumption) (by assumption)|exact psoR_lock hrd (by omega) (by assumption) (by assumption)|(rw [←show n=(nth wait.l t).l.length by omega];exact hrd)),(h51.sh.sel [4] rfl)⟩
def embI2 (P:Program) (T:TypeId) (name:String):Option (FuncId×TypeId×TypeId):=
 match P.info? T with
 |none=>none
 |some i=>match i.methods.find? (·.name==name) with
  |none=>none
  |some m=>match m.path.toList,m.func with
   | [st,st2],some (f,true)=>match P.underlying st.struct,P.underlying st2.struct with
    |some (.struct fs),some (.struct fs2)=>match fs[st.index]?,fs2[st2.index]? with
     |some fd,some fd2=>match P.info? fd.type,P.info? fd2.type,P.underlying fd2.type with
      |some fi,some fi2,some (.pointer _)=>if st.deref=true∧st2.deref=true∧fd.offset=0∧fd2.offset=0∧fi.size≠0∧fi2.size≠0 then some (f,fd.type,fd2.type) else none
      |_,_,_=>none
     |_,_=>none
    |_,_=>none
   |_,_=>none
theorem meth_emb2 {P:Program} {n g2 g1:Nat} {T x1 x2:TypeId} {name:String} {f:FuncId} {r:Value} {w:World} (hn:Nat.blt 0 n=true) (hI:embI2 P T name=some (f,x1,x2)) (hl:(loadVar x1 ⟨g2,0,none⟩).run P w= .ok (.pointer (some ⟨g1,0,none⟩)) w) (hl2:(loadVar x2 ⟨g1,0,none⟩).run P w= .ok r w):(method n T (.pointer (some ⟨g2,0,none⟩)) name).run P w= .ok (f,r) w:=by
 obtain ⟨n,rfl⟩:∃n',n=n' +1:=⟨n-1,by rw [Nat.blt_eq] at hn;omega⟩
 unfold embI2 at hI
 split at hI
 ·cases hI
 rename_i i hi
 split at hI
 ·cases hI
 rename_i m hm
 split at hI
 ·rename_i st st2 f' hp hf
  split at hI
  ·rename_i fs fs2 hfs hfs2
   split at hI
   ·rename_i fd fd2 hfd hfd2
    split at hI
    ·rename_i fi fi2 e hfi hfi2 hfu
     split at hI
     ·rename_i hc
      cases hI
      obtain ⟨h1,h2,h3,h4,h5,h6⟩:=hc
      unfold method
      simp [typeInfo,hi,hm,hp,hf,follow,run_underlying hfs,run_underlying hfs2,hfd,hfd2,h1,h2,Place.get,asAddr,fieldPlace,sizeOf,hfi,hfi2,h3,h4,h5,h6,receiverAt,run_underlying hfu,hl,hl2,Addr.add]
     ·cases hI
    ·cases hI
   ·cases hI
  ·cases hI
 ·cases hI
theorem inv_via {P:Program} {T T' :TypeId} {u u' :Addr} {name:String} {vs:List Value} {w:World} {R:Value→World→Prop} {f:FuncId} {r:Addr} (h:InvM P T u name vs w R) (h1:(method (P.types.size+Made.depth) T (.pointer (some u)) name).run P w= .ok (f, .pointer (some r)) w)
  (h2:(method (P.types.size+Made.depth) T' (.pointer (some u')) name).run P w= .ok (f, .pointer (some r)) w):InvM P T' u' name vs w R:=by
 obtain ⟨f0,r0,h3,h4,h5⟩:=h
 rw [h1] at h3
 injection h3 with h3 _
 injection h3 with h3 h6
 injection h6 with h6
 injection h6 with h6
 subst h3 h6
 exact ⟨_,_,h2,h4,h5⟩
theorem inv_mono {P:Program} {T:TypeId} {u:Addr} {name:String} {vs:List Value} {w:World} {R R' :Value→World→Prop} (h:InvM P T u name vs w R) (hr:∀v w',R v w' →R' v w'):InvM P T u name vs w R' :=by
 obtain ⟨f0,r0,h3,h4,h5⟩:=h
 exact ⟨f0,r0,h3,h4,h5.mono hr⟩
theorem store12 (x:TS) (w:Wt):TS.store 1 x w=TS.store 2 x w:=by
 unfold TS.store
 rw [if_pos (by decide),if_pos (by decide)]
def memL (g2 g1 g0:Nat):MemS:=⟨Ls (Ls Wt),fun q=>q.l.map (·.l),fun q=> .big [.blk g2 159 [.pointer (some ⟨g1,0,none⟩)], .blk g1 185 [.pointer (some ⟨g0,0,none⟩),q.v], .big (matX (.own 266) 267 q.v q.l)],157,⟨g2,0,none⟩,g0,2⟩
theorem memL_rd {g2 g1 g0:Nat} {q:Ls (Ls Wt)} {b:Nat} (h:((memL g2 g1 g0).X q).rd b):False:=by
 obtain ⟨A,hA,hb⟩:=h
 simp only [List.mem_cons,List.not_mem_nil,or_false] at hA
 rcases hA with rfl|rfl|rfl
 ·exact hb
 ·exact hb
 ·exact matX_rd hb
theorem MemRd.blkL {g2 g1 g0:Nat} {w:World} {words owner:Ls Int} {q:Ls (Ls Wt)} (h:MemRd 182 (memL g2 g1 g0) w words owner q):Blk w g2 159 #[.pointer (some ⟨g1,0,none⟩)]:=h.x.1 _ (List.mem_cons_self ..)
theorem MemRd.toT {g2 g1 g0:Nat} {w:World} {words owner:Ls Int} {q:Ls (Ls Wt)} (h:MemRd 182 (memL g2 g1 g0) w words owner q):MemRd 182 (memT g1 g0) w words owner q:=
 ⟨h.blk,h.wa,h.oa,fun A hA=>h.x.1 A (List.mem_cons_of_mem _ hA),(List.pairwise_cons.1 h.x.2.1).2,fun A hA=>h.x.2.2 A (List.mem_cons_of_mem _ hA)⟩
theorem memL_open {g2 g1 g0:Nat} {K:Nat→Prop} {W w:World} {words owner:Ls Int} {q:Ls (Ls Wt)} (h:Sh K W w (memA 182 3 (memL g2 g1 g0) words owner q)):Sh K W w (memA 182 3 (memT g1 g0) words owner q++ [.blk g2 159 [.pointer (some ⟨g1,0,none⟩)]]):=by
 have h1:=(h.sel (L' := [(memL g2 g1 g0).X q, .blk g0 182 [words.v,owner.v], .own 3 words, .own 3 owner]) [3,0,1,2] rfl).open_
 have h2:Sh K W w ([.blk g1 185 [.pointer (some ⟨g0,0,none⟩),q.v], .big (matX (.own 266) 267 q.v q.l)]++ [.blk g2 159 [.pointer (some ⟨g1,0,none⟩)], .blk g0 182 [words.v,owner.v], .own 3 words, .own 3 owner]):=h1.sel [1,2,0,3,4,5] rfl
 exact h2.close.sel [2,3,4,0,1] rfl
theorem memL_close {g2 g1 g0:Nat} {K:Nat→Prop} {W w:World} {words owner:Ls Int} {q:Ls (Ls Wt)} (h:Sh K W w (memA 182 3 (memT g1 g0) words owner q++ [.blk g2 159 [.pointer (some ⟨g1,0,none⟩)]])):Sh K W w (memA 182 3 (memL g2 g1 g0) words owner q):=by
 have h1:=(h.sel (L' := [(memT g1 g0).X q, .blk g2 159 [.pointer (some ⟨g1,0,none⟩)], .blk g0 182 [words.v,owner.v], .own 3 words, .own 3 owner]) [3,4,0,1,2] rfl).open_
 have h2:Sh K W w ([.blk g2 159 [.pointer (some ⟨g1,0,none⟩)], .blk g1 185 [.pointer (some ⟨g0,0,none⟩),q.v], .big (matX (.own 266) 267 q.v q.l)]++ [.blk g0 182 [words.v,owner.v], .own 3 words, .own 3 owner]):=h1.sel [2,0,1,3,4,5] rfl
 exact h2.close.sel [1,2,3,0] rfl
theorem memL_blk {g2 g1 g0:Nat} {K:Nat→Prop} {W w:World} {words owner:Ls Int} {q:Ls (Ls Wt)} (h:Sh K W w (memA 182 3 (memL g2 g1 g0) words owner q)):Blk w g2 159 #[.pointer (some ⟨g1,0,none⟩)]:=(memL_open h).ok _ (List.mem_append.2 (.inr (List.mem_cons_self ..)))
theorem memT_x {g2 g1 g0:Nat} {K:Nat→Prop} {W w:World} {words owner:Ls Int} {q:Ls (Ls Wt)} (h:Sh K W w (memA 182 3 (memL g2 g1 g0) words owner q)):((memT g1 g0).X q).ok w:=(memL_open h).ok _ (List.mem_append.2 (.inl (List.mem_cons_of_mem _ (List.mem_cons_of_mem _ (List.mem_cons_of_mem _ (List.mem_cons_self ..))))))
theorem loose_ld {g2 g1:Nat} {w:World} (h:Blk w g2 159 #[.pointer (some ⟨g1,0,none⟩)]):(loadVar 125 ⟨g2,0,none⟩).run Tryz.prog w= .ok (.pointer (some ⟨g1,0,none⟩)) w:=by
 unfold Blk at h
 simp [loadVar,World.cell?,h]
theorem memL_ok (g2 g1 g0:Nat):MemI Tryz.prog 182 3 (memL g2 g1 g0) where
 load w words owner q t wd h ht hl hwd:=inv_via (f:=212) (r:=⟨g1,0,none⟩) ((memT_ok g1 g0).load w words owner q t wd h.toT ht hl hwd) (by kernel_rfl) (meth_emb (xt:=125) (by kernel_rfl) (by kernel_rfl) (loose_ld h.blkL))
 waits w words owner q t h ht hl:=inv_via (f:=216) (r:=⟨g1,0,none⟩) ((memT_ok g1 g0).waits w words owner q t h.toT ht hl) (by kernel_rfl) (meth_emb (xt:=125) (by kernel_rfl) (by kernel_rfl) (loose_ld h.blkL))
 freeing w words owner q t a h ht hl hlk:=inv_via (f:=211) (r:=⟨g1,0,none⟩) ((memT_ok g1 g0).freeing w words owner q t a h.toT ht hl hlk) (by kernel_rfl) (meth_emb (xt:=125) (by kernel_rfl) (by kernel_rfl) (loose_ld h.blkL))
 ready w words owner q t h ht hl:=⟨223,⟨g2,0,none⟩,by kernel_rfl,bd_223,by
  have e:nth ((memL g2 g1 g0).qs q) t=(nth q.l t).l:=memT_nth ht
  rw [e] at hl⊢
  obtain ⟨hB,hq⟩:=memT_at h.toT.x
  exact psReady_c g2 g1 g0 q t w h.blkL hB hq (by simpa [memL] using ht) hl⟩
 base w words owner q h:=inv_via (f:=197) (r:=⟨g0,0,none⟩) ((memT_ok g1 g0).base w words owner q h.toT) (meth_emb (xt:=123) (by kernel_rfl) (by kernel_rfl) (methT_ld (memT_at h.toT.x).1)) (meth_emb2 (x1:=125) (x2:=123) (by kernel_rfl) (by kernel_rfl) (loose_ld h.blkL) (methT_ld (memT_at h.toT.x).1))
 store K W words owner q t wd what hS ht hl hwd:=inv_via (f:=214) (r:=⟨g1,0,none⟩) (inv_mono ((memT_ok g1 g0).store _ W words owner q t wd what (memL_open hS).passL ht hl hwd) (by
  rintro v w' ⟨rfl,words',owner',q',⟨wt,h1,h2⟩,hs⟩
  exact ⟨rfl,words',owner',q',⟨wt,h1,fun pc regs prints fell=>(h2 pc regs prints fell).trans (store12 _ _)⟩,memL_close ((memL_open hS).backL hs (by intro A hA b hb;simp only [memA,List.mem_cons,List.not_mem_nil,or_false] at hA;rcases hA with rfl|rfl|rfl|rfl<;>first|exact (hb:False).elim|exact Flat.noRd hb|exact (memT_rd hb).elim))⟩)) (by kernel_rfl) (meth_emb (xt:=125) (by kernel_rfl) (by kernel_rfl) (loose_ld (memL_blk hS)))
 free K W words owner q t a hS ht hl ha:=inv_via (f:=210) (r:=⟨g1,0,none⟩) (inv_mono ((memT_ok g1 g0).free _ W words owner q t a (memL_open hS).passL ht hl ha) (by
  rintro v w' ⟨rfl,words',owner',q',⟨wt,h1,h2⟩,hs⟩
  exact ⟨rfl,words',owner',q',⟨wt,h1,fun pc regs prints fell=>(h2 pc regs prints fell).trans (store12 _ _)⟩,memL_close ((memL_open hS).backL hs (by intro A hA b hb;simp only [memA,List.mem_cons,List.not_mem_nil,or_false] at hA;rcases hA with rfl|rfl|rfl|rfl<;>first|exact (hb:False).elim|exact Flat.noRd hb|exact (memT_rd hb).elim))⟩)) (by kernel_rfl) (meth_emb (xt:=125) (by kernel_rfl) (by kernel_rfl) (loose_ld (memL_blk hS)))
 swap K W words owner q t wd what hS hwd:=inv_via (f:=205) (r:=⟨g0,0,none⟩) (inv_mono ((memT_ok g1 g0).swap _ W words owner q t wd what (memL_open hS).passL hwd) (by
  rintro v w' ⟨rfl,words',owner',q',hp,hs⟩
  exact ⟨rfl,words',owner',q',hp,memL_close ((memL_open hS).backL hs (by intro A hA b hb;simp only [memA,List.mem_cons,List.not_mem_nil,or_false] at hA;rcases hA with rfl|rfl|rfl|rfl<;>first|exact (hb:False).elim|exact Flat.noRd hb|exact (memT_rd hb).elim))⟩)) (meth_emb (xt:=123) (by kernel_rfl) (by kernel_rfl) (methT_ld (memT_at (memT_x hS)).1)) (meth_emb2 (x1:=125) (x2:=123) (by kernel_rfl) (by kernel_rfl) (loose_ld (memL_blk hS)) (methT_ld (memT_at (memT_x hS)).1))
 flush K W words owner q t k hS ht hl hk hw:=inv_via (f:=209) (r:=⟨g1,0,none⟩) (inv_mono ((memT_ok g1 g0).flush _ W words owner q t k (memL_open hS).passL ht hl hk hw) (by
  rintro v w' ⟨rfl,words',owner',q',hp,hs⟩
  exact ⟨rfl,words',owner',q',hp,memL_close ((memL_open hS).backL hs (by intro A hA b hb;simp only [memA,List.mem_cons,List.not_mem_nil,or_false] at hA;rcases hA with rfl|rfl|rfl|rfl<;>first|exact (hb:False).elim|exact Flat.noRd hb|exact (memT_rd hb).elim))⟩)) (by kernel_rfl) (meth_emb (xt:=125) (by kernel_rfl) (by kernel_rfl) (loose_ld (memL_blk hS)))
 xrd q b h:=memL_rd h
theorem lbegin_c (code:Ls (Ls Ins)) (words0:Ls Int) (Lk:Nat) (nregs:Int) (W:World) (hcode:code.At W) (hwords:words0.At W) (hcl:code.l.length≤100) (hwn:words0.l.length≤64) (hlk:Lk≤4):
    Rets Tryz.prog 62 [.agg #[code.v,words0.v, .int .i64 ((Lk:Nat):Int), .int .i64 nregs]] W (fun v w' =>∃(gl gt g:Nat) (words' owner' :Ls Int) (q:Ls (Ls Wt)),v= .iface 157 (.pointer (some ⟨gl,0,none⟩))∧words'.l=words0.l∧owner'.l=List.replicate Lk (-1)∧(memL gl gt g).qs q=List.replicate code.l.length []∧Sh0 W w' (memA 182 3 (memL gl gt g) words' owner' q)):=by
 refine gen Tryz.func62 Tryz.ntmps62 (Sh0.ext2 hcode hwords:Sh (fun _=>False) W W [.at_ code, .at_ words0]) rfl fun a10 h10=>gG h10<|sK fun _ k11=>gbx rfl rfl fun b12=>gRn (oM 1 rfl<|.nl)<|nK k11<|sK fun _ k13=>gRn (olw 0 ti_25 rfl rfl<|.nl)<|fun a15 w15 h15=>wl_ex (x_call h15 bd_82 rfl rfl rfl rfl rfl (tnew_c code words0 Lk nregs _ (h15.sh.at 1 rfl) (h15.sh.at 2 rfl) (by omega) hwn hlk)) (wanted_none rfl _) ?_;clear h10
 rintro a16 w16 ⟨_,⟨gt16,g16,mw16,mo16,q16,rfl,hmw16,hmo16,hq16,hs16⟩,hf16⟩
 have h16:=(⟨hf16,h15.sh.call hs16 (by intro A hA b hb;simp only [memA,List.mem_cons,List.not_mem_nil,or_false] at hA;first|(subst hA;exact Flat.noRd hb)|(rcases hA with rfl|rfl|rfl|rfl<;>first|exact (hb:False).elim|exact Flat.noRd hb|exact (memT_rd hb).elim|exact (memL_rd hb).elim))⟩:St 8 (fun _=>False) W a16 w16 _ _)
 clear hf16 hs16
 clear h15
 refine gG h16<|gRn (oV (r_build (cs:= [.pointer (some ⟨gt16,0,none⟩)]) rfl rfl (by kernel_rfl)) rfl<|.nl)<|gbx rfl rfl fun b17=>gRn (oV (Rn.same (r_mkIfP (T:=157) Tryz.underlying157 rfl rfl) rfl) rfl<|oM 1 rfl<|.nl)<|nK k13<|gR<|fun a18 w18 h18=> ?_;clear h16
 try simp only [Exit.then,Exit.inBlock]
 refine x_ret1 (fn:=Tryz.f62) (t:=2) rfl h18 rfl ?_
 exact ⟨b17,gt16,g16,mw16,mo16,q16,rfl,hmw16,hmo16,hq16,memL_close (q:=q16) (h18.sh.sel [1,2,3,4,0] rfl)⟩
end Go.Proofs.YtmjkobhkkjgplaaGreatDoor
