/- A state's key; a copy of a state. -/
import Derived.Test.YtmjkobhkkjgplaaGreatDoorX83
import Derived.Test.YtmjkobhkkjgplaaGreatDoorS31
import Derived.Test.YtmjkobhkkjgplaaGreatDoorS35
import Derived.Test.YtmjkobhkkjgplaaGreatDoorX64
section
namespace Go.Proofs.YtmjkobhkkjgplaaGreatDoor
open Go.RowKit
set_option linter.unusedSimpArgs false
set_option linter.unusedVariables false
set_option maxRecDepth 100000
set_option maxHeartbeats 4000000
theorem matX_on {IE E:TypeId} {v:Value} {M:List (Ls Wt)} {w:World} {b:Nat} (h:(Asn.big (matX (.own IE) E v M)).ok w) (hb:(⟨v,M⟩:Ls (Ls Wt)).on b):(Asn.big (matX (.own IE) E v M)).fp b:=by
 rcases hb with ⟨h0,hb⟩|⟨i,hi,hb⟩
 ·refine ⟨_,List.mem_cons_self .., ?_⟩
  have h1:(⟨v,rvs M⟩:Ls RV).on b:= .inl ⟨by show 0<(rvs M).length;rw [rvs_len];exact h0,hb⟩
  exact (own_on (h.1 _ (List.mem_cons_self ..)) h1).elim id fun h9=>Flat.noRd h9
 ·have hm:Asn.own IE (nth M i)∈matX (.own IE) E v M:=List.mem_cons_of_mem _ (List.mem_map.2 ⟨_,nth_mem _ _ hi,rfl⟩)
  exact ⟨_,hm,(own_mat (nth M i) w (h.1 _ hm)).2 b hb⟩
theorem memT_on {g1 g0:Nat} {q:Ls (Ls Wt)} {w:World} {b:Nat} (h:((memT g1 g0).X q).ok w) (hb:q.on b):((memT g1 g0).X q).fp b:=
 ⟨_,List.mem_cons_of_mem _ (List.mem_cons_self ..),matX_on (h.1 _ (List.mem_cons_of_mem _ (List.mem_cons_self ..))) hb⟩
theorem memL_xt {g2 g1 g0:Nat} {q:Ls (Ls Wt)} {w:World} (h:((memL g2 g1 g0).X q).ok w):((memT g1 g0).X q).ok w:=
 ⟨fun A hA=>h.1 A (List.mem_cons_of_mem _ hA),(List.pairwise_cons.1 h.2.1).2,fun A hA=>h.2.2 A (List.mem_cons_of_mem _ hA)⟩
theorem memL_fp {g2 g1 g0:Nat} {q:Ls (Ls Wt)} {b:Nat} (h:((memT g1 g0).X q).fp b):((memL g2 g1 g0).X q).fp b:=by
 obtain ⟨A,hA,hb⟩:=h
 exact ⟨A,List.mem_cons_of_mem _ hA,hb⟩
def FL :MemF:=⟨Nat×Nat×Nat,fun i=>memL i.1 i.2.1 i.2.2,157,2,tqB,fun _=>True,(0,0,0),(default:Ls (Ls Wt))⟩
theorem looseLd {g2 g1 g0:Nat} {q:Ls (Ls Wt)} {w:World} (h:((memL g2 g1 g0).X q).ok w):(loadVar 125 ⟨g2,0,none⟩).run Tryz.prog w= .ok (.pointer (some ⟨g1,0,none⟩)) w:=loose_ld (h.1 _ (List.mem_cons_self ..))
theorem FL_ok :MemFI Tryz.prog 182 3 204 5 141 FL where
 ok i:=memL_ok i.1 i.2.1 i.2.2
 hT _:=rfl
 hm _:=rfl
 tq:=tqB_ok
 qQ _ _:=trivial
 copy w i words owner q h hwl hol hqc hq3:=⟨222,⟨i.1,0,none⟩,by kernel_rfl,bd_222,by
  obtain ⟨hB,hq⟩:=memT_at h.toT.x
  have hql' :q.l.length≤4:=by have h9:(q.l.map (·.l)).length≤4:=hqc;rwa [List.length_map] at h9
  refine Rets.mono (psCopy_c i.1 i.2.1 i.2.2 words owner q w h.blkL hB hq h.blk h.wa h.oa hwl hol hql' (fun t ht=>hq3 _ (List.mem_map.2 ⟨_,nth_mem _ _ ht,rfl⟩))) ?_
  rintro v w' ⟨gl,gt,g,words',owner',q',rfl,h1,h2,h3,hs⟩
  exact ⟨(gl,gt,g),words',owner',q',rfl,h1,h2,h3,hs⟩⟩
 tell K W i words owner q gb bs hS hwl hol hqc hq3 hRw hRo hRq hbn:=⟨215,⟨i.2.1,0,none⟩,meth_emb (xt:=125) (by kernel_rfl) (by kernel_rfl) (looseLd (hS.ok (.ro [(memL i.1 i.2.1 i.2.2).X q]) (List.mem_of_getElem? (i:=5) rfl) _ (List.mem_singleton.2 rfl))),bd_215,by
  have hx:((memL i.1 i.2.1 i.2.2).X q).ok W:=hS.ok (.ro [(memL i.1 i.2.1 i.2.2).X q]) (List.mem_of_getElem? (i:=5) rfl) _ (List.mem_singleton.2 rfl)
  have hxt:((memT i.2.1 i.2.2).X q).ok W:=memL_xt hx
  obtain ⟨hB,hq⟩:=memT_at hxt
  have h1:=(hS.addRd (A:= .at_ q) hq (fun b hb=>hb) (fun b hb=>⟨.ro [(memL i.1 i.2.1 i.2.2).X q],List.mem_of_getElem? (i:=5) rfl,_,List.mem_singleton.2 rfl, .inl (memL_fp (memT_on hxt hb))⟩)).addRd (A:= .rblk i.2.1 185 [.pointer (some ⟨i.2.2,0,none⟩),q.v]) hB (fun b hb=>hb) (fun b hb=>⟨.ro [(memL i.1 i.2.1 i.2.2).X q],List.mem_of_getElem? (i:=6) rfl,_,List.mem_singleton.2 rfl, .inl (memL_fp ⟨_,List.mem_cons_self ..,hb⟩)⟩)
  have h2:Sh K W W ([.blk gb 204 [bs.v], .own 5 bs, .rblk i.2.2 182 [words.v,owner.v], .at_ words, .at_ owner, .rblk i.2.1 185 [.pointer (some ⟨i.2.2,0,none⟩),q.v], .at_ q]++ [.ro [(memL i.1 i.2.1 i.2.2).X q]]):=h1.sel [2,3,4,5,6,0,1,7] rfl
  have hl:∀t,t<q.l.length→(nth q.l t).l∈(memL i.1 i.2.1 i.2.2).qs q:=fun t ht=>List.mem_map.2 ⟨_,nth_mem _ _ ht,rfl⟩
  have hql' :q.l.length≤4:=by have h9:(q.l.map (·.l)).length≤4:=hqc;rwa [List.length_map] at h9
  refine Rets.mono (tbTell_c _ gb bs i.2.1 i.2.2 words owner q W h2.passL hwl hol hRw hRo (by omega) hql' (fun t ht=>hq3 _ (hl t ht)) (fun t ht=>hRq _ (hl t ht))) ?_
  rintro v w' ⟨rfl,bs',e,hn,hs⟩
  refine ⟨rfl,bs',e,by omega,(h2.backL hs (by
   intro C hC b hb
   simp only [List.mem_cons,List.not_mem_nil,or_false] at hC
   rcases hC with rfl|rfl|rfl|rfl|rfl|rfl|rfl
   ·exact (hb:False).elim
   ·exact Flat.noRd hb
   all_goals exact .inl ⟨_,by simp, .inr hb⟩)).sel [0,1,2,3,4,7] rfl⟩⟩
end Go.Proofs.YtmjkobhkkjgplaaGreatDoor
end
namespace Go.Proofs.YtmjkobhkkjgplaaGreatDoor
open Go.RowKit
set_option linter.unusedSimpArgs false
set_option linter.unusedVariables false
set_option maxRecDepth 100000
set_option maxHeartbeats 4000000
structure KeyOK {F:MemF} (x:PSD F):Prop where
 rl:x.rows.length≤4
 pc:∀t,t<x.rows.length→R64 (nth x.rows t).pc
 regs:∀t,t<x.rows.length→R64L (nth x.rows t).regs.l
 rn:∀t,t<x.rows.length→(nth x.rows t).regs.l.length≤200
 pr:R64L x.prints.l
 pn:x.prints.l.length≤100000
 wl:x.words.l.length≤64
 ol:x.owner.l.length≤4
 ql:x.qs.length≤4
 q3:∀l∈x.qs,l.length≤3
 Rw:R64L x.words.l
 Ro:R64L x.owner.l
 Rq:∀l∈x.qs,R64W l
theorem R64L.one {n:Int} (h:R64 n):R64L [n]:=fun x hx=>by
 obtain rfl:x=n:=by simpa using hx
 exact h
theorem key_step {l:List Th} {t:Nat} {b c d:List UInt8} (h:t<l.length) (hb:b=by8 (((l.take t).flatMap fun y=> [[y.pc],y.regs]).flatMap putB)) {p:Int} {r:List Int} (hc:c=b++by8 (putB [p])) (hd:d=c++by8 (putB r)) (hp:p=(nth l t).pc) (hr:r=(nth l t).regs):d=by8 (((l.take (t+1)).flatMap fun y=> [[y.pc],y.regs]).flatMap putB):=by
 rw [hd,hc,hb,take_succ_nth _ _ h,hp,hr]
 simp only [List.flatMap_append,by8_app,List.flatMap_cons,List.flatMap_nil,List.append_nil,List.append_assoc]
theorem key_end {F:MemF} {x:PSD F} {t:Nat} {b c d:List UInt8} (ht:t=x.rows.length) (hb:b=by8 (((x.st.ths.take t).flatMap fun y=> [[y.pc],y.regs]).flatMap putB)) (hw:x.st.ths.map Th.wait=x.qs) (hc:c=b++by8 ((F.tells x.i x.words x.owner x.q).flatMap putB)) (hd:d=c++by8 (putB x.prints.l)):d=by8 (keyB F.tq x.st):=by
 rw [hd,hc,hb,ht,←PSD.st_len,List.take_length]
 unfold keyB keyLL MemF.tells
 rw [hw]
 simp only [List.flatMap_append,by8_app,List.flatMap_cons,List.flatMap_nil,List.append_nil,List.append_assoc,List.nil_append,List.cons_append]
 rfl
theorem key_pos {F:MemF} {s:MSt} {l:List UInt8} (h:l=by8 (keyB F.tq s)):0<l.length:=by
 rw [h,by8_len]
 unfold keyB keyLL
 simp only [List.flatMap_append,List.flatMap_cons,List.flatMap_nil,List.length_append]
 have:0<(putB s.words).length:=by unfold putB;simp
 omega
theorem psd_th {F:MemF} {x:PSD F} {t:Nat} (h:t<x.rows.length):(nth x.st.ths t).pc=(nth x.rows t).pc∧(nth x.st.ths t).regs=(nth x.rows t).regs.l:=by
 unfold PSD.st
 rw [mstR_th h]
 exact ⟨rfl,rfl⟩
theorem psd_wait {F:MemF} {x:PSD F} (h:x.qs.length=x.rows.length):x.st.ths.map Th.wait=x.qs:=by
 unfold PSD.st mstR
 rw [List.map_map]
 refine ext_nth _ _ (by simp [h]) fun i hi=> ?_
 have hi' :i<x.rows.length:=by simpa using hi
 rw [nth_map' _ _ _ (by simpa using hi'),nth_range hi']
 rfl
theorem clone_nth {rows M:List ThR} {t:Nat} (hM:M.length=t) (ht:t<rows.length):nth (M.map ThR.toQ++(rows.drop t).map ThR.toQ) t=(nth rows t).toQ:=by
 have e:rows.drop t=nth rows t::rows.drop (t+1):=by rw [nth_lt _ _ ht];exact List.drop_eq_getElem_cons ht
 rw [e]
 subst hM
 simp [nth,List.getD]
theorem mid_set {α:Type} {l m:List α} {k:Nat} {a b:α} (h:k=l.length):(l++a::m).set k b=l++b::m:=by subst h;simp
theorem clone_set {rows M:List ThR} {t:Nat} (hM:M.length=t) (ht:t<rows.length) (s:Ls Int):(M.map ThR.toQ++(rows.drop t).map ThR.toQ).set t (⟨(nth (M.map ThR.toQ++(rows.drop t).map ThR.toQ) t).pc,s.v⟩:ThQ)=(M++ [(⟨(nth rows t).pc,s⟩:ThR)]).map ThR.toQ++(rows.drop (t+1)).map ThR.toQ:=by
 rw [clone_nth hM ht]
 have e:rows.drop t=nth rows t::rows.drop (t+1):=by rw [nth_lt _ _ ht];exact List.drop_eq_getElem_cons ht
 rw [e,List.map_cons,List.map_append,List.append_assoc]
 rw [show (M.map ThR.toQ++(nth rows t).toQ::(rows.drop (t+1)).map ThR.toQ).set t (⟨(nth rows t).toQ.pc,s.v⟩:ThQ)=M.map ThR.toQ++(⟨(nth rows t).toQ.pc,s.v⟩:ThQ)::(rows.drop (t+1)).map ThR.toQ from mid_set (by simp [hM])]
 rfl
theorem mstR_congr {rows rows' :List ThR} {qs:List (List Wt)} {words owner prints:List Int} (h:rows'.map (fun r=>(r.pc,r.regs.l))=rows.map (fun r=>(r.pc,r.regs.l))):mstR rows' qs words owner prints=mstR rows qs words owner prints:=by
 have hl:rows'.length=rows.length:=by simpa using congrArg List.length h
 unfold mstR
 rw [hl]
 congr 1
 refine List.map_congr_left fun t ht=> ?_
 have ht' :t<rows.length:=by simpa using ht
 have e:∀(l:List ThR),t<l.length→(l.map fun r=>(r.pc,r.regs.l))[t]? =some ((nth l t).pc,(nth l t).regs.l):=fun l h9=>by
  rw [List.getElem?_map,List.getElem?_eq_getElem h9,nth_lt _ _ h9];rfl
 have h2:(rows'.map fun r=>(r.pc,r.regs.l))[t]? =(rows.map fun r=>(r.pc,r.regs.l))[t]? :=by rw [h]
 rw [e _ (by omega),e _ ht'] at h2
 obtain ⟨e1,e2⟩:=Prod.mk.inj (Option.some.inj h2)
 rw [e1,e2]
theorem one_thq {l:List ThQ} (h:∀r∈l,r.rv.oneCell' =true) {q:Nat} (hq:q<l.length) {j:Nat} (hj:j<Enc.sz ThQ):(Enc.cell (nth l q) j).oneCell' =true:=by
 rcases j with _|_|j
 ·rfl
 ·exact h _ (nth_mem _ _ hq)
 ·exact absurd hj (by show¬(j+1+1<2);omega)
theorem key_c (F:MemF) (x:PSD F) (W:World) (hF:MemFI Tryz.prog 182 3 204 5 141 F) (hX:x.Rd W) (hk:KeyOK x) (hql:x.qs.length=x.rows.length):
    Rets Tryz.prog 101 [.pointer (some ⟨x.g,0,none⟩)] W (fun v w' =>v= .string (keyS F.tq x.st)∧Sh0 W w' []):=by
 have hrl:=hk.rl
 have hrl2:(x.rows.map ThR.toQ).length=x.rows.length:=List.length_map _
 have hkp:=hk.pn
 refine gen Tryz.func101 Tryz.ntmps101 (Sh0.ext (by intro A hA;simp only [List.mem_cons,List.not_mem_nil,or_false] at hA;rcases hA with rfl|rfl|rfl|rfl|rfl|rfl|rfl|rfl;exact hX.blk;exact hX.thr;exact hX.row;exact hX.prints;exact hX.mem.blk;exact hX.mem.wa;exact hX.mem.oa;exact (fun A hA=>by obtain rfl:=List.mem_singleton.1 hA;exact hX.mem.x)) (by intro A hA b hb;simp only [List.mem_cons,List.not_mem_nil,or_false] at hA;rcases hA with rfl|rfl|rfl|rfl|rfl|rfl|rfl|rfl<;>exact hb):Sh (fun _=>False) W W [.rblk x.g 173 [.iface (F.mem x.i).T (.pointer (some (F.mem x.i).u)), .pointer (some ⟨x.gp,0,none⟩),x.vt,x.prints.v, .bool false], .at_ (⟨x.vt,x.rows.map ThR.toQ⟩:Ls ThQ), .rgs x.rows, .at_ x.prints, .rblk (F.mem x.i).g0 182 [x.words.v,x.owner.v], .at_ x.words, .at_ x.owner, .ro [(F.mem x.i).X x.q]]) rfl fun a10 h10=>gG h10<|sG (oM 1 rfl<|.nl)<|sK fun _ k12=>gal ti_204 rfl fun b13=>nK k12<|sG (oV (r_makeFunc rfl rfl rfl) rfl<|oM 1 rfl<|.nl)<|gK fun _ k15=>sK fun _ k16=>gNl (aA 2 rfl) fun (hl17:(x.rows.map ThR.toQ).length≤140737488355328)=>gRn (oM 1 rfl<|onf fl_173_2 rfl<|olR 1 ti_171 rfl rfl<|oln (n:=(x.rows.map ThR.toQ).length) sl_171 (aA 2 rfl) rfl<|oM 1 rfl<|.nl)<|nK k16<|gB<|fun a20 w20 h20=> ?_;clear h10
 have h19:=h20.nil (α:=UInt8) 5
 clear h20
 refine x_loop (fun m a w=>∃(t:Nat) (bl:List UInt8) (vb:Value),(t≤x.rows.length)∧(bl=by8 (((x.st.ths.take t).flatMap fun y=> [[y.pc],y.regs]).flatMap putB))∧(bl.length≤20000*t)∧St 41 (fun _=>False) W a w [(0, .pointer (some ⟨x.g,0,none⟩)),(3, .pointer (some ⟨b13,0,none⟩)),(4, .func (.func 141) #[] #[.pointer (some ⟨b13,0,none⟩)]),(11,x.vt),(12, .int .i64 (((x.rows.map ThR.toQ).length:Nat):Int)),(13, .int .i64 ((t:Nat):Int))] [.blk b13 204 [vb], .rblk x.g 173 [.iface (F.mem x.i).T (.pointer (some (F.mem x.i).u)), .pointer (some ⟨x.gp,0,none⟩),x.vt,x.prints.v, .bool false], .at_ (⟨x.vt,x.rows.map ThR.toQ⟩:Ls ThQ), .rgs x.rows, .at_ x.prints, .rblk (F.mem x.i).g0 182 [x.words.v,x.owner.v], .at_ x.words, .at_ x.owner, .ro [(F.mem x.i).X x.q], .own 5 (⟨vb,bl⟩:Ls UInt8)]∧m=x.rows.length-t) ⟨_,0, [],(.slice none 0 0),(by omega),(rfl),(by simp),h19.nrm ⟨rfl,rfl,rfl,rfl,rfl,rfl,trivial⟩ [1,2,3,4,5,6,7,8,9,0] rfl,rfl⟩ ?_
 clear h19
 rintro m18 a18 w18 ⟨t,bl,vb,ht,hbl,hbn,h18,hm18⟩
 refine gG h18<|sG (oltN _ _ rfl<|.nl)<|gK fun _ k22=>gcd rfl (fun hb23 hp23=> ?_) fun hb23 hp23=> ?_;clear h18
 ·skip
  refine gS<|hK k22<|gK fun _ k24=>gB<|sK fun _ k25=>gRn (oxN sl_171 ti_189 (aA 2 rfl) _ (show t<(x.rows.map ThR.toQ).length from om9) rfl<|oV (Rn.same (r_ldew (s:=(⟨x.vt,x.rows.map ThR.toQ⟩:Ls ThQ)) (i:=t) (vs:= [.int .i64 ((nth (x.rows.map ThR.toQ) t).pc),((nth (x.rows.map ThR.toQ) t).rv)]) ti_189 rfl rfl rfl (fun w h=>(h.at 2 rfl)) (show t<(x.rows.map ThR.toQ).length from om9) (Nat.le_of_ble_eq_true rfl) rfl) (by rw [show ((nth (x.rows.map ThR.toQ) t).rv)=(nth x.rows t).regs.v from (by rw [toQ_at (by omega)];rfl)])) rfl<|.nl)<|gal ti_189 rfl fun b26=>gE (fun _ _ h_=>x_stb (i:=0) (vs:= [.int .i64 ((nth (x.rows.map ThR.toQ) t).pc),(nth x.rows t).regs.v]) (cs' := [.int .i64 ((nth (x.rows.map ThR.toQ) t).pc),(nth x.rows t).regs.v]) h_ ti_189 rfl rfl rfl rfl rfl rfl rfl (allOne_cons rfl (allOne_cons ((rgs_at h_.sh 4 rfl t (show t<x.rows.length from om9))).one allOne_nil)) (Nat.le_of_ble_eq_true rfl) rfl) rfl<|nK k25<|sK fun _ k28=>gRn (oM 1 rfl<|ofB fl_189_0 rfl<|olB 0 ti_3 rfl rfl<|.nl)<|gE1 (fun _ _ h_=>x_lit (n:=1) (cs:= [.int .i64 ((nth (x.rows.map ThR.toQ) t).pc)]) ([(nth (x.rows.map ThR.toQ) t).pc]:List Int) h_ sl_23 ti_3 rfl rfl rfl (by decide) rfl (by kernel_rfl) rfl (fun q hq w h=>Flat.inner _ _) (fun q hq b hb=>(Flat.on _ _ hb).elim) rfl rfl) rfl fun v29=>fun a31 w31 h31=> ?_
  have h30:St _ _ _ _ _ _ _:=⟨h31.fr,h31.sh.share 0 rfl⟩
  clear h31
  have h32:=h30.sel (L' := [_,_,_,_,_,_,_,_,_,_,_,_]) [2,11,0,1,3,4,5,6,7,8,9,10] rfl
  have hp33:=h32.sh.passL (Lp:= [_,_,_])
  refine wl_ex (x_call h32 bd_141 rfl rfl rfl rfl rfl (put1_c _ b13 (⟨vb,bl⟩:Ls UInt8) (⟨v29, [(nth (x.rows.map ThR.toQ) t).pc]⟩:Ls Int) _ hp33 (by rw [toQ_at (by omega)];exact R64L.one (hk.pc t (by omega))) (by show bl.length+66*([(nth (x.rows.map ThR.toQ) t).pc]).length≤9000000000000;first|omega|(simp only [List.length_cons,List.length_nil];omega)))) (wanted_none rfl _) ?_
  rintro a34 w34 ⟨_,⟨rfl,bs34,hbl34,hs34⟩,hf34⟩
  have hbn34:=congrArg List.length hbl34;rw [List.length_append,by8_len] at hbn34;have hbm34:=putB_len (l:= [(nth (x.rows.map ThR.toQ) t).pc]) (by rw [toQ_at (by omega)];exact R64L.one (hk.pc t (by omega)))
  try dsimp only at hbn34 hbm34
  try simp only [List.length_cons,List.length_nil] at hbm34
  change Sh _ _ _ [.blk b13 204 [bs34.v], .own 5 bs34, .at_ (⟨v29, [(nth (x.rows.map ThR.toQ) t).pc]⟩:Ls Int)] at hs34
  have h34:St _ (fun _=>False) W a34 w34 _ [_,_,_,_,_,_,_,_,_,_,_,_]:=⟨hf34,h32.sh.backI (Lp:= [_,_,_]) hs34⟩
  clear hf34 hs34
  clear h32
  refine gG h34<|nK k28<|?_;clear h34
  have hkr:=hk.rn t (by omega)
  refine gL<|gRn (oM 1 rfl<|ofB fl_189_1 rfl<|olB 3 ti_23 rfl rfl<|.nl)<|fun a36 w36 h36=> ?_
  have h35:=h36.addRd (A:= .at_ ((nth x.rows t).regs)) (rgs_at h36.sh 6 rfl t (by omega)) (fun b hb=>hb) (fun b hb=>⟨_,List.mem_of_getElem? (i:=6) rfl,_,nth_mem _ _ (by omega),hb⟩)
  clear h36
  have h37:=h35.sel (L' := [_,_,_,_,_,_,_,_,_,_,_,_,_]) [1,2,0,3,4,5,6,7,8,9,10,11,12] rfl
  have hp38:=h37.sh.passL (Lp:= [_,_,_])
  refine wl_ex (x_call h37 bd_141 rfl rfl rfl rfl rfl (put1_c _ b13 bs34 ((nth x.rows t).regs) _ hp38 (hk.regs t (by omega)) (by show bs34.l.length+66*((nth x.rows t).regs.l).length≤9000000000000;first|omega|(simp only [List.length_cons,List.length_nil];omega)))) (wanted_none rfl _) ?_
  rintro a39 w39 ⟨_,⟨rfl,bs39,hbl39,hs39⟩,hf39⟩
  have hbn39:=congrArg List.length hbl39;rw [List.length_append,by8_len] at hbn39;have hbm39:=putB_len (l:=(nth x.rows t).regs.l) (hk.regs t (by omega))
  try dsimp only at hbn39 hbm39
  try simp only [List.length_cons,List.length_nil] at hbm39
  change Sh _ _ _ [.blk b13 204 [bs39.v], .own 5 bs39, .at_ ((nth x.rows t).regs)] at hs39
  have h39:St _ (fun _=>False) W a39 w39 _ [_,_,_,_,_,_,_,_,_,_,_,_,_]:=⟨hf39,h37.sh.backI (Lp:= [_,_,_]) hs39⟩
  clear hf39 hs39
  clear h37
  refine gG h39<|nK k24<|gL<|gRn (oadN _ 1 om9 rfl<|oM 1 rfl<|.nl)<|nN<|?_;clear h39
  have hnew:=key_step (by rw [PSD.st_len];omega) hbl hbl34 hbl39 (by rw [(psd_th (by omega)).1,toQ_at (by omega)];rfl) (psd_th (by omega)).2.symm
  intro a40 w40 h40
  refine x_again ⟨_, ?_,(t+1),bs39.l,bs39.v, ?_, ?_, ?_,h40.nrm ⟨rfl,rfl,rfl,rfl,rfl,rfl,trivial⟩ [0,5,6,7,8,9,10,11,12,1] rfl,rfl⟩
  · rw [hm18];first|omega|(simp only [lens9];omega)
  · omega
  · exact hnew
  · first|omega|(simp only [List.length_cons,List.length_nil] at*;omega)
 refine gX<|hK k15<|sK fun _ k41=>gRn (oM 1 rfl<|onf fl_173_0 rfl<|olR 1 ti_97 rfl rfl<|oM 1 rfl<|.nl)<|gO [0,9,5,6,7,8,1,2,3,4] rfl<|fun a47 w47 h47=> ?_
 have hp46:=h47.sh.passL (Lp:= [_,_,_,_,_,_])
 refine wl_ex (x_inv2 h47 rfl rfl rfl rfl rfl (hF.tell _ _ x.i x.words x.owner x.q b13 (⟨vb,bl⟩:Ls UInt8) hp46 hk.wl hk.ol hk.ql hk.q3 hk.Rw hk.Ro hk.Rq (by show bl.length≤_;omega))) (wanted_none rfl _) ?_
 rintro a48 w48 ⟨_,⟨rfl,bs48,hbl48,hbn48,hs48⟩,hf48⟩
 try dsimp only at hbn48
 have h48:St _ (fun _=>False) W a48 w48 _ [_,_,_,_,_,_,_,_,_,_]:=⟨hf48,h47.sh.backI (Lp:= [_,_,_,_,_,_]) hs48⟩
 clear hf48 hs48
 clear h47
 refine gG h48<|nK k41<|sK fun _ k49=>gRn (oM 2 rfl<|onf fl_173_3 rfl<|olR 6 ti_23 rfl rfl<|.nl)<|gO [0,1,9,2,3,4,5,6,7,8] rfl<|fun a55 w55 h55=> ?_;clear h48
 have hp54:=h55.sh.passL (Lp:= [_,_,_])
 refine wl_ex (x_call h55 bd_141 rfl rfl rfl rfl rfl (put1_c _ b13 bs48 x.prints _ hp54 hk.pr (by show bs48.l.length+66*x.prints.l.length≤9000000000000;first|omega|(simp only [List.length_cons,List.length_nil];omega)))) (wanted_none rfl _) ?_
 rintro a56 w56 ⟨_,⟨rfl,bs56,hbl56,hs56⟩,hf56⟩
 have hbn56:=congrArg List.length hbl56;rw [List.length_append,by8_len] at hbn56;have hbm56:=putB_len (l:=x.prints.l) hk.pr
 try dsimp only at hbn56 hbm56
 try simp only [List.length_cons,List.length_nil] at hbm56
 change Sh _ _ _ [.blk b13 204 [bs56.v], .own 5 bs56, .at_ x.prints] at hs56
 have h56:St _ (fun _=>False) W a56 w56 _ [_,_,_,_,_,_,_,_,_,_]:=⟨hf56,h55.sh.backI (Lp:= [_,_,_]) hs56⟩
 clear hf56 hs56
 clear h55
 refine gG h56<|nK k49<|?_;clear h56
 have hke:=key_end (show t=x.rows.length by omega) hbl (psd_wait hql) hbl48 hbl56
 refine sG (olB 0 ti_204 rfl rfl<|oV (r_cvStr (s:=bs56) Tryz.underlying204 Tryz.underlying5 Tryz.underlying9 rfl rfl (fun w h=>(h.own 1 rfl)) (show 0<bs56.l.length from (key_pos hke))) rfl<|oM 1 rfl<|.nl)<|gR<|fun a58 w58 h58=> ?_
 try simp only [Exit.then,Exit.inBlock]
 refine x_ret1 (fn:=Tryz.f101) (t:=2) rfl h58 rfl<|⟨?_,(h58.sh.sel [] rfl)⟩
 rw [show bs56.l=_ from hke];rfl
theorem cloneQ_c (x:Ls ThQ) (W:World) (hx:x.At W) (hl:x.l.length≤100000) (hone:∀r∈x.l,r.rv.oneCell' =true):
    Rets Tryz.prog 154 [x.v] W (fun v w' =>∃s:Ls ThQ,v=s.v∧Sh0 W w' [.own 189 (⟨s.v,x.l⟩:Ls ThQ)]):=by
 refine gen Tryz.func154 Tryz.ntmps154 (Sh0.ext1 hx:Sh (fun _=>False) W W [.at_ x]) rfl fun a10 h10=>gG h10<|sG (oM 1 rfl<|.nl)<|gK fun _ k12=>sG (oM 1 rfl<|oV (r_eqnil (s:=x) sl_171 rfl rfl rfl (fun w h=>(h.at 0 rfl))) rfl<|.nl)<|?_;clear h10
 refine gCb rfl (fun hb14=> ?_) fun hb14=> ?_
 ·skip
  refine sG (oM 1 rfl<|.nl)<|gR<|fun a16 w16 h16=> ?_
  try simp only [Exit.then,Exit.inBlock]
  refine x_ret1 (fn:=Tryz.f154) (t:=2) rfl h16 rfl<|⟨⟨.slice none 0 0, []⟩,rfl, ?_⟩
  rw [nilB_nil hx (by assumption)]
  exact (h16.sh.nil (α:=ThQ) 189).sel (L' := [_]) [0] rfl
 refine gS<|hK k12<|sK fun _ k17=>gE1 (fun _ _ h_=>x_lit0 (α:=ThQ) h_ sl_171 ti_189 rfl rfl rfl) rfl fun v18=>gRn (oM 1 rfl<|.nl)<|gE1 (fun _ _ h_=>x_app1 (r:=0) (rm:=1) (s:=(⟨v18, []⟩:Ls ThQ)) (m:=x) h_ sl_171 ti_189 rfl rfl rfl rfl rfl rfl rfl (fun w h=>(h.at 1 rfl)) (fun b hb=> .inr hb) (fun q hq b hb=> .inr ⟨q,hq,hb⟩) rfl rfl rfl (fun w h q hq j hj=>one_thq hone hq hj) (show (([]).length+x.l.length)*32≤140737488355328∧([]).length+x.l.length≤140737488355328 from om9) rfl rfl) rfl fun v19=>gRn (oM 1 rfl<|.nl)<|nK k17<|gR<|fun a20 w20 h20=> ?_
 try simp only [Exit.then,Exit.inBlock]
 refine x_ret1 (fn:=Tryz.f154) (t:=2) rfl h20 rfl<|⟨⟨v19, []⟩,rfl, ?_⟩
 exact (h20.sh.sel [0] rfl)
theorem sclone_c (F:MemF) (x:PSD F) (W:World) (hF:MemFI Tryz.prog 182 3 204 5 141 F) (hX:x.Rd W) (hk:KeyOK x):
    Rets Tryz.prog 143 [.pointer (some ⟨x.g,0,none⟩)] W (fun v w' =>∃y:PSD F,v= .pointer (some ⟨y.g,0,none⟩)∧y.gp=x.gp∧y.rows.length=x.rows.length∧y.st=x.st∧y.qs=x.qs∧Sh0 W w' y.A):=by
 have hrl:=hk.rl
 have hrl2:(x.rows.map ThR.toQ).length=x.rows.length:=List.length_map _
 have hkp:=hk.pn
 have hone:∀r∈x.rows.map ThR.toQ,r.rv.oneCell' =true:=fun r hr=>by
    obtain ⟨y,hy,rfl⟩:=List.mem_map.1 hr
    exact (hX.row y hy).one
 refine gen Tryz.func143 Tryz.ntmps143 (Sh0.ext (by intro A hA;simp only [List.mem_cons,List.not_mem_nil,or_false] at hA;rcases hA with rfl|rfl|rfl|rfl|rfl|rfl|rfl|rfl;exact hX.blk;exact hX.thr;exact hX.row;exact hX.prints;exact hX.mem.blk;exact hX.mem.wa;exact hX.mem.oa;exact (fun A hA=>by obtain rfl:=List.mem_singleton.1 hA;exact hX.mem.x)) (by intro A hA b hb;simp only [List.mem_cons,List.not_mem_nil,or_false] at hA;rcases hA with rfl|rfl|rfl|rfl|rfl|rfl|rfl|rfl<;>exact hb):Sh (fun _=>False) W W [.rblk x.g 173 [.iface (F.mem x.i).T (.pointer (some (F.mem x.i).u)), .pointer (some ⟨x.gp,0,none⟩),x.vt,x.prints.v, .bool false], .at_ (⟨x.vt,x.rows.map ThR.toQ⟩:Ls ThQ), .rgs x.rows, .at_ x.prints, .rblk (F.mem x.i).g0 182 [x.words.v,x.owner.v], .at_ x.words, .at_ x.owner, .ro [(F.mem x.i).X x.q]]) rfl fun a10 h10=>gG h10<|sG (oM 1 rfl<|.nl)<|sK fun _ k12=>gRn (oM 1 rfl<|onl rfl<|oV (r_ldbwR (vs:= [.iface (F.mem x.i).T (.pointer (some (F.mem x.i).u)), .pointer (some ⟨x.gp,0,none⟩),x.vt,x.prints.v, .bool false]) ti_173 rfl rfl (fun w h=>h.rblk 0 rfl) rfl rfl) rfl<|.nl)<|gal ti_173 rfl fun b13=>gE (fun _ _ h_=>x_stb (i:=0) (vs:= [.iface (F.mem x.i).T (.pointer (some (F.mem x.i).u)), .pointer (some ⟨x.gp,0,none⟩),x.vt,x.prints.v, .bool false]) (cs' := [.iface (F.mem x.i).T (.pointer (some (F.mem x.i).u)), .pointer (some ⟨x.gp,0,none⟩),x.vt,x.prints.v, .bool false]) h_ ti_173 rfl rfl rfl rfl rfl rfl rfl (allOne_cons rfl (allOne_cons rfl (allOne_cons ((h_.sh.at 2 rfl)).one (allOne_cons ((h_.sh.at 4 rfl)).one (allOne_cons rfl allOne_nil))))) (Nat.le_of_ble_eq_true rfl) rfl) rfl<|nK k12<|gK fun _ k15=>gF [0,2,3,5,6,7] rfl<|fun a17 w17 h17=>x_any ((fun Φ Ψ S a w=>(S 4=false∧S 9=false∧S 11=false∧S 13=false∧FrI 45 S Φ Ψ a∧Sh (fun _=>False) W w [.blk b13 173 [.iface (F.mem x.i).T (.pointer (some (F.mem x.i).u)), .pointer (some ⟨x.gp,0,none⟩),x.vt,x.prints.v, .bool false], .rblk x.g 173 [.iface (F.mem x.i).T (.pointer (some (F.mem x.i).u)), .pointer (some ⟨x.gp,0,none⟩),x.vt,x.prints.v, .bool false], .at_ (⟨x.vt,x.rows.map ThR.toQ⟩:Ls ThQ), .rgs x.rows, .at_ x.prints, .rblk (F.mem x.i).g0 182 [x.words.v,x.owner.v], .at_ x.words, .at_ x.owner, .ro [(F.mem x.i).X x.q]])∨(S 4=true∧S 9=false∧S 11=false∧S 13=false∧∃(i7004:F.ι) (mw7004:Ls Int) (mo7004:Ls Int) (q7004:(F.mem i7004).σ),(mw7004.l=x.words.l)∧(mo7004.l=x.owner.l)∧((F.mem i7004).qs q7004=(F.mem x.i).qs x.q)∧FrI 45 S Φ (Ψ++ [(4,12, .iface (F.mem i7004).T (.pointer (some (F.mem i7004).u)))]) a∧Sh (fun _=>False) W w [.blk (F.mem i7004).g0 182 [mw7004.v,mo7004.v], .own 3 mw7004, .own 3 mo7004,(F.mem i7004).X q7004, .blk b13 173 [.iface (F.mem x.i).T (.pointer (some (F.mem x.i).u)), .pointer (some ⟨x.gp,0,none⟩),x.vt,x.prints.v, .bool false], .rblk x.g 173 [.iface (F.mem x.i).T (.pointer (some (F.mem x.i).u)), .pointer (some ⟨x.gp,0,none⟩),x.vt,x.prints.v, .bool false], .at_ (⟨x.vt,x.rows.map ThR.toQ⟩:Ls ThQ), .rgs x.rows, .at_ x.prints, .rblk (F.mem x.i).g0 182 [x.words.v,x.owner.v], .at_ x.words, .at_ x.owner, .ro [(F.mem x.i).X x.q]])∨(S 4=true∧S 9=true∧S 11=false∧S 13=false∧∃(i7004:F.ι) (mw7004:Ls Int) (mo7004:Ls Int) (q7004:(F.mem i7004).σ) (s7009:Ls Int),(mw7004.l=x.words.l)∧(mo7004.l=x.owner.l)∧((F.mem i7004).qs q7004=(F.mem x.i).qs x.q)∧FrI 45 S Φ (Ψ++ [(4,12, .iface (F.mem i7004).T (.pointer (some (F.mem i7004).u))),(9,17,s7009.v),(10,18, .pointer (some ⟨b13,0,none⟩))]) a∧Sh (fun _=>False) W w [.own 3 (⟨s7009.v,x.prints.l⟩:Ls Int), .blk (F.mem i7004).g0 182 [mw7004.v,mo7004.v], .own 3 mw7004, .own 3 mo7004,(F.mem i7004).X q7004, .blk b13 173 [.iface (F.mem x.i).T (.pointer (some (F.mem x.i).u)), .pointer (some ⟨x.gp,0,none⟩),x.vt,x.prints.v, .bool false], .rblk x.g 173 [.iface (F.mem x.i).T (.pointer (some (F.mem x.i).u)), .pointer (some ⟨x.gp,0,none⟩),x.vt,x.prints.v, .bool false], .at_ (⟨x.vt,x.rows.map ThR.toQ⟩:Ls ThQ), .rgs x.rows, .at_ x.prints, .rblk (F.mem x.i).g0 182 [x.words.v,x.owner.v], .at_ x.words, .at_ x.owner, .ro [(F.mem x.i).X x.q]])∨(S 4=true∧S 9=true∧S 11=true∧S 13=false∧∃(i7004:F.ι) (mw7004:Ls Int) (mo7004:Ls Int) (q7004:(F.mem i7004).σ) (s7009:Ls Int),(mw7004.l=x.words.l)∧(mo7004.l=x.owner.l)∧((F.mem i7004).qs q7004=(F.mem x.i).qs x.q)∧FrI 45 S Φ (Ψ++ [(4,12, .iface (F.mem i7004).T (.pointer (some (F.mem i7004).u))),(9,17,s7009.v),(10,18, .pointer (some ⟨b13,0,none⟩)),(12,19, .pointer (some ⟨b13,3,none⟩))]) a∧Sh (fun _=>False) W w [.own 3 (⟨s7009.v,x.prints.l⟩:Ls Int), .blk (F.mem i7004).g0 182 [mw7004.v,mo7004.v], .own 3 mw7004, .own 3 mo7004,(F.mem i7004).X q7004, .blk b13 173 [.iface (F.mem i7004).T (.pointer (some (F.mem i7004).u)), .pointer (some ⟨x.gp,0,none⟩),x.vt,x.prints.v, .bool false], .rblk x.g 173 [.iface (F.mem x.i).T (.pointer (some (F.mem x.i).u)), .pointer (some ⟨x.gp,0,none⟩),x.vt,x.prints.v, .bool false], .at_ (⟨x.vt,x.rows.map ThR.toQ⟩:Ls ThQ), .rgs x.rows, .at_ x.prints, .rblk (F.mem x.i).g0 182 [x.words.v,x.owner.v], .at_ x.words, .at_ x.owner, .ro [(F.mem x.i).X x.q]])∨(S 4=true∧S 9=true∧S 11=true∧S 13=true∧∃(i7004:F.ι) (mw7004:Ls Int) (mo7004:Ls Int) (q7004:(F.mem i7004).σ) (s7009:Ls Int),(mw7004.l=x.words.l)∧(mo7004.l=x.owner.l)∧((F.mem i7004).qs q7004=(F.mem x.i).qs x.q)∧FrI 45 S Φ (Ψ++ [(4,12, .iface (F.mem i7004).T (.pointer (some (F.mem i7004).u))),(9,17,s7009.v),(10,18, .pointer (some ⟨b13,0,none⟩)),(12,19, .pointer (some ⟨b13,3,none⟩))]) a∧Sh (fun _=>False) W w [.own 3 (⟨s7009.v,x.prints.l⟩:Ls Int), .blk (F.mem i7004).g0 182 [mw7004.v,mo7004.v], .own 3 mw7004, .own 3 mo7004,(F.mem i7004).X q7004, .blk b13 173 [.iface (F.mem i7004).T (.pointer (some (F.mem i7004).u)), .pointer (some ⟨x.gp,0,none⟩),x.vt,s7009.v, .bool false], .rblk x.g 173 [.iface (F.mem x.i).T (.pointer (some (F.mem x.i).u)), .pointer (some ⟨x.gp,0,none⟩),x.vt,x.prints.v, .bool false], .at_ (⟨x.vt,x.rows.map ThR.toQ⟩:Ls ThQ), .rgs x.rows, .at_ x.prints, .rblk (F.mem x.i).g0 182 [x.words.v,x.owner.v], .at_ x.words, .at_ x.owner, .ro [(F.mem x.i).X x.q]])) [(0, .pointer (some ⟨x.g,0,none⟩)),(2, .pointer none),(3, .pointer (some ⟨b13,0,none⟩)),(5, .pointer (some ⟨x.g,0,none⟩)),(6, .pointer (some ⟨x.g,0,none⟩)),(7, .agg #[.iface (F.mem x.i).T (.pointer (some (F.mem x.i).u)), .pointer (some ⟨x.gp,0,none⟩),x.vt,x.prints.v, .bool false])] [(0,8, .pointer (some ⟨x.g,0,none⟩)),(1,9, .pointer (some ⟨x.g,0,none⟩)),(2,10, .pointer (some ⟨x.g,0,none⟩)),(3,11, .iface (F.mem x.i).T (.pointer (some (F.mem x.i).u))),(5,13, .pointer (some ⟨x.g,0,none⟩)),(6,14, .pointer (some ⟨x.g,0,none⟩)),(7,15, .pointer (some ⟨x.g,3,none⟩)),(8,16,x.prints.v)]) (by kernel_rfl) (by kernel_rfl) (Or.inl (⟨rfl,rfl,rfl,rfl,FrI.start h17.fr,h17.sh.drew⟩)) ?_ ?_;clear h10
 ·intro S i o ho hSi hcl hdep a w hI
  clear h17
  rcases i with _|_|_|_|_|_|_|_|_|_|_|_|_|_|i
  ·obtain rfl:_=o:=Option.some.inj ho
   rcases hI with ⟨ν4,ν9,ν11,ν13,φ,ς⟩|⟨ν4,_⟩|⟨ν4,_⟩|⟨ν4,_⟩|⟨ν4,_⟩
   ·exact sq φ φ.fr0 ς (r_move rfl rfl) 0 rfl rfl rfl rfl rfl rfl fun a hg=>Or.inl (⟨un rfl ν4,un rfl ν9,un rfl ν11,un rfl ν13,hg,ς⟩)
   ·exact no_way (cA hcl 4 0 rfl ν4) hSi
   ·exact no_way (cA hcl 4 0 rfl ν4) hSi
   ·exact no_way (cA hcl 4 0 rfl ν4) hSi
   ·exact no_way (cA hcl 4 0 rfl ν4) hSi
  ·obtain rfl:_=o:=Option.some.inj ho
   have hd0:S 0=true:=depAt hdep 0 rfl rfl
   rcases hI with ⟨ν4,ν9,ν11,ν13,φ,ς⟩|⟨ν4,_⟩|⟨ν4,_⟩|⟨ν4,_⟩|⟨ν4,_⟩
   ·exact sq φ (Fr.cons φ.fr0 (φ.at_ 0 0 8 _ rfl hd0)) ς (r_nil rfl rfl) 1 rfl rfl rfl rfl rfl rfl fun a hg=>Or.inl (⟨un rfl ν4,un rfl ν9,un rfl ν11,un rfl ν13,hg,ς⟩)
   ·exact no_way (cA hcl 4 1 rfl ν4) hSi
   ·exact no_way (cA hcl 4 1 rfl ν4) hSi
   ·exact no_way (cA hcl 4 1 rfl ν4) hSi
   ·exact no_way (cA hcl 4 1 rfl ν4) hSi
  ·obtain rfl:_=o:=Option.some.inj ho
   have hd1:S 1=true:=depAt hdep 0 rfl rfl
   rcases hI with ⟨ν4,ν9,ν11,ν13,φ,ς⟩|⟨ν4,_⟩|⟨ν4,_⟩|⟨ν4,_⟩|⟨ν4,_⟩
   ·exact sq φ (Fr.cons φ.fr0 (φ.at_ 1 1 9 _ rfl hd1)) ς (r_fieldB (r:=0) fl_173_0 rfl rfl rfl) 2 rfl rfl rfl rfl rfl rfl fun a hg=>Or.inl (⟨un rfl ν4,un rfl ν9,un rfl ν11,un rfl ν13,hg,ς⟩)
   ·exact no_way (cA hcl 4 2 rfl ν4) hSi
   ·exact no_way (cA hcl 4 2 rfl ν4) hSi
   ·exact no_way (cA hcl 4 2 rfl ν4) hSi
   ·exact no_way (cA hcl 4 2 rfl ν4) hSi
  ·obtain rfl:_=o:=Option.some.inj ho
   have hd2:S 2=true:=depAt hdep 0 rfl rfl
   rcases hI with ⟨ν4,ν9,ν11,ν13,φ,ς⟩|⟨ν4,_⟩|⟨ν4,_⟩|⟨ν4,_⟩|⟨ν4,_⟩
   ·exact sq φ (Fr.cons φ.fr0 (φ.at_ 2 2 10 _ rfl hd2)) ς (r_ldbR ti_97 rfl rfl (fun w h=>h.rblk 1 rfl) rfl) 3 rfl rfl rfl rfl rfl rfl fun a hg=>Or.inl (⟨un rfl ν4,un rfl ν9,un rfl ν11,un rfl ν13,hg,ς⟩)
   ·exact no_way (cA hcl 4 3 rfl ν4) hSi
   ·exact no_way (cA hcl 4 3 rfl ν4) hSi
   ·exact no_way (cA hcl 4 3 rfl ν4) hSi
   ·exact no_way (cA hcl 4 3 rfl ν4) hSi
  ·obtain rfl:_=o:=Option.some.inj ho
   have hd3:S 3=true:=depAt hdep 0 rfl rfl
   rcases hI with ⟨ν4,ν9,ν11,ν13,φ,ς⟩|⟨ν4,_⟩|⟨ν4,_⟩|⟨ν4,_⟩|⟨ν4,_⟩
   ·have hs:=St.mk (Fr.cons φ.fr0 (φ.at_ 3 3 11 _ rfl hd3)) ς
    refine step_ex (x_inv2 hs rfl rfl rfl rfl rfl (hF.copy _ x.i x.words x.owner x.q ⟨hs.sh.rblk 5 rfl,hs.sh.at 6 rfl,hs.sh.at 7 rfl,(hs.sh.ok _ (List.mem_of_getElem? (i:=8) rfl)) _ (List.mem_singleton.2 rfl)⟩ hk.wl hk.ol hk.ql hk.q3)) (wanted_none rfl _) ?_
    rintro a23 w23 ⟨_,⟨i23,mw23,mo23,q23,rfl,hmw23,hmo23,hq23,hs23⟩,hf23⟩ ⟨v0,ht23⟩
    have h23:=(⟨hf23,hs.sh.call hs23 (by intro A hA b hb;simp only [memA,List.mem_cons,List.not_mem_nil,or_false] at hA;first|(subst hA;exact Flat.noRd hb)|(rcases hA with rfl|rfl|rfl|rfl<;>first|exact (hb:False).elim|exact Flat.noRd hb|exact ((hF.ok _).xrd _ _ hb).elim))⟩:St 45 (fun _=>False) W a23 w23 _ _)
    clear hf23 hs23
    exact Or.inr (Or.inl (⟨upd_self _ _,un rfl ν9,un rfl ν11,un rfl ν13,i23,mw23,mo23,q23,hmw23,hmo23,hq23,φ.stepW hcl hSi [0,1,2,3,4,5,6,7] (by kernel_rfl) (by kernel_rfl) ht23 h23.fr.defers (h23.fr.at_ 12 _ rfl) 8 rfl rfl rfl rfl,(h23.sh.sel [0,1,2,3,4,5,6,7,8,9,10,11,12] rfl)⟩))
   ·exact no_way ν4 hSi
   ·exact no_way ν4 hSi
   ·exact no_way ν4 hSi
   ·exact no_way ν4 hSi
  ·obtain rfl:_=o:=Option.some.inj ho
   rcases hI with ⟨ν4,ν9,ν11,ν13,φ,ς⟩|⟨ν4,ν9,ν11,ν13,i7004,mw7004,mo7004,q7004,hmw7004,hmo7004,hq7004,φ,ς⟩|⟨_,ν9,_⟩|⟨_,ν9,_⟩|⟨_,ν9,_⟩
   ·exact sq φ φ.fr0 ς (r_move rfl rfl) 4 rfl rfl rfl rfl rfl rfl fun a hg=>Or.inl (⟨un rfl ν4,un rfl ν9,un rfl ν11,un rfl ν13,hg,ς⟩)
   ·exact sq φ φ.fr0 ς (r_move rfl rfl) 4 rfl rfl rfl rfl rfl rfl fun a hg=>Or.inr (Or.inl (⟨un rfl ν4,un rfl ν9,un rfl ν11,un rfl ν13,i7004,mw7004,mo7004,q7004,hmw7004,hmo7004,hq7004,hg,ς⟩))
   ·exact no_way (cA hcl 9 5 rfl ν9) hSi
   ·exact no_way (cA hcl 9 5 rfl ν9) hSi
   ·exact no_way (cA hcl 9 5 rfl ν9) hSi
  ·obtain rfl:_=o:=Option.some.inj ho
   have hd5:S 5=true:=depAt hdep 0 rfl rfl
   rcases hI with ⟨ν4,ν9,ν11,ν13,φ,ς⟩|⟨ν4,ν9,ν11,ν13,i7004,mw7004,mo7004,q7004,hmw7004,hmo7004,hq7004,φ,ς⟩|⟨_,ν9,_⟩|⟨_,ν9,_⟩|⟨_,ν9,_⟩
   ·exact sq φ (Fr.cons φ.fr0 (φ.at_ 4 5 13 _ rfl hd5)) ς (r_nil rfl rfl) 5 rfl rfl rfl rfl rfl rfl fun a hg=>Or.inl (⟨un rfl ν4,un rfl ν9,un rfl ν11,un rfl ν13,hg,ς⟩)
   ·exact sq φ (Fr.cons φ.fr0 (φ.at_ 4 5 13 _ rfl hd5)) ς (r_nil rfl rfl) 5 rfl rfl rfl rfl rfl rfl fun a hg=>Or.inr (Or.inl (⟨un rfl ν4,un rfl ν9,un rfl ν11,un rfl ν13,i7004,mw7004,mo7004,q7004,hmw7004,hmo7004,hq7004,hg,ς⟩))
   ·exact no_way (cA hcl 9 6 rfl ν9) hSi
   ·exact no_way (cA hcl 9 6 rfl ν9) hSi
   ·exact no_way (cA hcl 9 6 rfl ν9) hSi
  ·obtain rfl:_=o:=Option.some.inj ho
   have hd6:S 6=true:=depAt hdep 0 rfl rfl
   rcases hI with ⟨ν4,ν9,ν11,ν13,φ,ς⟩|⟨ν4,ν9,ν11,ν13,i7004,mw7004,mo7004,q7004,hmw7004,hmo7004,hq7004,φ,ς⟩|⟨_,ν9,_⟩|⟨_,ν9,_⟩|⟨_,ν9,_⟩
   ·exact sq φ (Fr.cons φ.fr0 (φ.at_ 5 6 14 _ rfl hd6)) ς (r_fieldB (r:=3) fl_173_3 rfl rfl rfl) 6 rfl rfl rfl rfl rfl rfl fun a hg=>Or.inl (⟨un rfl ν4,un rfl ν9,un rfl ν11,un rfl ν13,hg,ς⟩)
   ·exact sq φ (Fr.cons φ.fr0 (φ.at_ 5 6 14 _ rfl hd6)) ς (r_fieldB (r:=3) fl_173_3 rfl rfl rfl) 6 rfl rfl rfl rfl rfl rfl fun a hg=>Or.inr (Or.inl (⟨un rfl ν4,un rfl ν9,un rfl ν11,un rfl ν13,i7004,mw7004,mo7004,q7004,hmw7004,hmo7004,hq7004,hg,ς⟩))
   ·exact no_way (cA hcl 9 7 rfl ν9) hSi
   ·exact no_way (cA hcl 9 7 rfl ν9) hSi
   ·exact no_way (cA hcl 9 7 rfl ν9) hSi
  ·obtain rfl:_=o:=Option.some.inj ho
   have hd7:S 7=true:=depAt hdep 0 rfl rfl
   rcases hI with ⟨ν4,ν9,ν11,ν13,φ,ς⟩|⟨ν4,ν9,ν11,ν13,i7004,mw7004,mo7004,q7004,hmw7004,hmo7004,hq7004,φ,ς⟩|⟨_,ν9,_⟩|⟨_,ν9,_⟩|⟨_,ν9,_⟩
   ·exact sq φ (Fr.cons φ.fr0 (φ.at_ 6 7 15 _ rfl hd7)) ς (r_ldbR ti_23 rfl rfl (fun w h=>h.rblk 1 rfl) rfl) 7 rfl rfl rfl rfl rfl rfl fun a hg=>Or.inl (⟨un rfl ν4,un rfl ν9,un rfl ν11,un rfl ν13,hg,ς⟩)
   ·exact sq φ (Fr.cons φ.fr0 (φ.at_ 6 7 15 _ rfl hd7)) ς (r_ldbR ti_23 rfl rfl (fun w h=>h.rblk 5 rfl) rfl) 7 rfl rfl rfl rfl rfl rfl fun a hg=>Or.inr (Or.inl (⟨un rfl ν4,un rfl ν9,un rfl ν11,un rfl ν13,i7004,mw7004,mo7004,q7004,hmw7004,hmo7004,hq7004,hg,ς⟩))
   ·exact no_way (cA hcl 9 8 rfl ν9) hSi
   ·exact no_way (cA hcl 9 8 rfl ν9) hSi
   ·exact no_way (cA hcl 9 8 rfl ν9) hSi
  ·obtain rfl:_=o:=Option.some.inj ho
   have hd8:S 8=true:=depAt hdep 0 rfl rfl
   have hd4:S 4=true:=depAt hdep 1 rfl rfl
   rcases hI with ⟨ν4,_⟩|⟨ν4,ν9,ν11,ν13,i7004,mw7004,mo7004,q7004,hmw7004,hmo7004,hq7004,φ,ς⟩|⟨_,ν9,_⟩|⟨_,ν9,_⟩|⟨_,ν9,_⟩
   ·exact no_way hd4 ν4
   ·have hs:=St.mk (Fr.cons φ.fr0 (φ.at_ 7 8 16 _ rfl hd8)) ς
    refine step_ex (x_call hs bd_44 rfl rfl rfl rfl rfl (cloneI_c x.prints _ (hs.sh.at 8 rfl) (by first|omega|(simp only [lens9];omega)))) (wanted_none rfl _) ?_
    rintro a32 w32 ⟨_,⟨s32,rfl,hs32⟩,hf32⟩ ⟨v0,ht32⟩
    have h32:=(⟨hf32,hs.sh.call hs32 (by intro A hA b hb;simp only [memA,List.mem_cons,List.not_mem_nil,or_false] at hA;first|(subst hA;exact Flat.noRd hb)|(rcases hA with rfl|rfl|rfl|rfl<;>first|exact (hb:False).elim|exact Flat.noRd hb|exact ((hF.ok _).xrd _ _ hb).elim))⟩:St 45 (fun _=>False) W a32 w32 _ _)
    clear hf32 hs32
    exact Or.inr (Or.inr (Or.inl (⟨un rfl ν4,upd_self _ _,un rfl ν11,un rfl ν13,i7004,mw7004,mo7004,q7004,s32,hmw7004,hmo7004,hq7004,φ.stepW hcl hSi [0,1,2,3,4,5,6,7,8] (by kernel_rfl) (by kernel_rfl) ht32 h32.fr.defers (h32.fr.at_ 17 _ rfl) 9 rfl rfl rfl rfl,(h32.sh.sel [0,1,2,3,4,5,6,7,8,9,10,11,12,13] rfl)⟩)))
   ·exact no_way ν9 hSi
   ·exact no_way ν9 hSi
   ·exact no_way ν9 hSi
  ·obtain rfl:_=o:=Option.some.inj ho
   have hd4:S 4=true:=depAt hdep 4 rfl rfl
   have hd9:S 9=true:=depAt hdep 9 rfl rfl
   rcases hI with ⟨ν4,_⟩|⟨_,ν9,_⟩|⟨ν4,ν9,ν11,ν13,i7004,mw7004,mo7004,q7004,s7009,hmw7004,hmo7004,hq7004,φ,ς⟩|⟨_,_,ν11,_⟩|⟨_,_,ν11,_⟩
   ·exact no_way hd4 ν4
   ·exact no_way hd9 ν9
   ·exact sq φ φ.fr0 ς (r_fieldB (r:=0) fl_173_0 rfl rfl rfl) 10 rfl rfl rfl rfl rfl rfl fun a hg=>Or.inr (Or.inr (Or.inl (⟨un rfl ν4,un rfl ν9,un rfl ν11,un rfl ν13,i7004,mw7004,mo7004,q7004,s7009,hmw7004,hmo7004,hq7004,hg,ς⟩)))
   ·exact no_way (cA hcl 11 10 rfl ν11) hSi
   ·exact no_way (cA hcl 11 10 rfl ν11) hSi
  ·obtain rfl:_=o:=Option.some.inj ho
   have hd10:S 10=true:=depAt hdep 0 rfl rfl
   have hd4:S 4=true:=depAt hdep 1 rfl rfl
   have hd9:S 9=true:=depAt hdep 2 rfl rfl
   rcases hI with ⟨ν4,_⟩|⟨_,ν9,_⟩|⟨ν4,ν9,ν11,ν13,i7004,mw7004,mo7004,q7004,s7009,hmw7004,hmo7004,hq7004,φ,ς⟩|⟨_,_,ν11,_⟩|⟨_,_,ν11,_⟩
   ·exact no_way hd4 ν4
   ·exact no_way hd9 ν9
   ·have hs:=St.mk (Fr.cons (Fr.cons φ.fr0 (φ.at_ 8 4 12 _ rfl hd4)) (φ.at_ 10 10 18 _ rfl hd10)) ς
    refine step_ex (x_stb (i:=5) (vs:= [.iface (F.mem i7004).T (.pointer (some (F.mem i7004).u))]) (cs' := [.iface (F.mem i7004).T (.pointer (some (F.mem i7004).u)), .pointer (some ⟨x.gp,0,none⟩),x.vt,x.prints.v, .bool false]) hs ti_97 rfl rfl rfl rfl rfl rfl rfl (allOne_cons rfl allOne_nil) (Nat.le_of_ble_eq_true rfl) rfl) (wanted_none rfl _) ?_
    rintro a34 w34 h34 ⟨v0,ht34⟩
    exact Or.inr (Or.inr (Or.inr (Or.inl (⟨un rfl ν4,un rfl ν9,upd_self _ _,un rfl ν13,i7004,mw7004,mo7004,q7004,s7009,hmw7004,hmo7004,hq7004,φ.noneW hcl hSi [0,1,2,3,4,5,6,7,8,9,10] (by kernel_rfl) (by kernel_rfl) ht34 h34.fr.defers rfl,(h34.sh.sel [0,1,2,3,4,5,6,7,8,9,10,11,12,13] rfl)⟩))))
   ·exact no_way ν11 hSi
   ·exact no_way ν11 hSi
  ·obtain rfl:_=o:=Option.some.inj ho
   have hd4:S 4=true:=depAt hdep 4 rfl rfl
   have hd9:S 9=true:=depAt hdep 9 rfl rfl
   have hd11:S 11=true:=depAt hdep 11 rfl rfl
   rcases hI with ⟨ν4,_⟩|⟨_,ν9,_⟩|⟨_,_,ν11,_⟩|⟨ν4,ν9,ν11,ν13,i7004,mw7004,mo7004,q7004,s7009,hmw7004,hmo7004,hq7004,φ,ς⟩|⟨_,_,_,ν13,_⟩
   ·exact no_way hd4 ν4
   ·exact no_way hd9 ν9
   ·exact no_way hd11 ν11
   ·exact sq φ φ.fr0 ς (r_fieldB (r:=3) fl_173_3 rfl rfl rfl) 11 rfl rfl rfl rfl rfl rfl fun a hg=>Or.inr (Or.inr (Or.inr (Or.inl (⟨un rfl ν4,un rfl ν9,un rfl ν11,un rfl ν13,i7004,mw7004,mo7004,q7004,s7009,hmw7004,hmo7004,hq7004,hg,ς⟩))))
   ·exact no_way (cA hcl 13 12 rfl ν13) hSi
  ·obtain rfl:_=o:=Option.some.inj ho
   have hd12:S 12=true:=depAt hdep 0 rfl rfl
   have hd9:S 9=true:=depAt hdep 1 rfl rfl
   have hd11:S 11=true:=depAt hdep 2 rfl rfl
   have hd4:S 4=true:=depAt hdep 7 rfl rfl
   rcases hI with ⟨ν4,_⟩|⟨_,ν9,_⟩|⟨_,_,ν11,_⟩|⟨ν4,ν9,ν11,ν13,i7004,mw7004,mo7004,q7004,s7009,hmw7004,hmo7004,hq7004,φ,ς⟩|⟨_,_,_,ν13,_⟩
   ·exact no_way hd4 ν4
   ·exact no_way hd9 ν9
   ·exact no_way hd11 ν11
   ·have hs:=St.mk (Fr.cons (Fr.cons φ.fr0 (φ.at_ 9 9 17 _ rfl hd9)) (φ.at_ 11 12 19 _ rfl hd12)) ς
    refine step_ex (x_stb (i:=5) (vs:= [s7009.v]) (cs' := [.iface (F.mem i7004).T (.pointer (some (F.mem i7004).u)), .pointer (some ⟨x.gp,0,none⟩),x.vt,s7009.v, .bool false]) hs ti_23 rfl rfl rfl rfl rfl (cells_oneL ((hs.sh.own 0 rfl)).one) rfl (allOne_cons ((hs.sh.own 0 rfl)).one allOne_nil) (Nat.le_of_ble_eq_true rfl) rfl) (wanted_none rfl _) ?_
    rintro a36 w36 h36 ⟨v0,ht36⟩
    exact Or.inr (Or.inr (Or.inr (Or.inr (⟨un rfl ν4,un rfl ν9,un rfl ν11,upd_self _ _,i7004,mw7004,mo7004,q7004,s7009,hmw7004,hmo7004,hq7004,φ.noneW hcl hSi [0,1,2,3,4,5,6,7,8,9,10,11] (by kernel_rfl) (by kernel_rfl) ht36 h36.fr.defers rfl,(h36.sh.sel [0,1,2,3,4,5,6,7,8,9,10,11,12,13] rfl)⟩))))
   ·exact no_way ν13 hSi
  · simp at ho
 intro S hall a w hI
 clear h17
 rcases hI with ⟨ν4,ν9,ν11,ν13,φ,ς⟩|⟨ν4,ν9,ν11,ν13,i7004,mw7004,mo7004,q7004,hmw7004,hmo7004,hq7004,φ,ς⟩|⟨ν4,ν9,ν11,ν13,i7004,mw7004,mo7004,q7004,s7009,hmw7004,hmo7004,hq7004,φ,ς⟩|⟨ν4,ν9,ν11,ν13,i7004,mw7004,mo7004,q7004,s7009,hmw7004,hmo7004,hq7004,φ,ς⟩|⟨ν4,ν9,ν11,ν13,i7004,mw7004,mo7004,q7004,s7009,hmw7004,hmo7004,hq7004,φ,ς⟩
 · exact no_way (hall 4 (by decide)) ν4
 · exact no_way (hall 9 (by decide)) ν9
 · exact no_way (hall 11 (by decide)) ν11
 · exact no_way (hall 13 (by decide)) ν13
 have h37:St 45 (fun _=>False) W a w _ _:=⟨φ.fr0,ς⟩
 clear hall φ ς ν4 ν9 ν11 ν13
 refine gG h37<|hK k15<|sK fun _ k38=>gRn (oM 1 rfl<|onf fl_173_2 rfl<|olR 6 ti_171 rfl rfl<|.nl)<|fun a40 w40 h40=>wl_ex (x_call h40 bd_154 rfl rfl rfl rfl rfl (cloneQ_c (⟨x.vt,x.rows.map ThR.toQ⟩:Ls ThQ) _ (h40.sh.at 7 rfl) (by first|omega|(simp only [lens9];omega)) hone)) (wanted_none rfl _) ?_;clear h37
 rintro a41 w41 ⟨_,⟨s41,rfl,hs41⟩,hf41⟩
 have h41:=(⟨hf41,h40.sh.call hs41 (by intro A hA b hb;simp only [memA,List.mem_cons,List.not_mem_nil,or_false] at hA;first|(subst hA;exact Flat.noRd hb)|(rcases hA with rfl|rfl|rfl|rfl<;>first|exact (hb:False).elim|exact Flat.noRd hb|exact ((hF.ok _).xrd _ _ hb).elim))⟩:St 45 (fun _=>False) W a41 w41 _ _)
 clear hf41 hs41
 clear h40
 refine gG h41<|gRn (ofB fl_173_2 rfl<|.nl)<|gsr 6 ti_171 rfl (aO 0 rfl) rfl<|nK k38<|gK fun _ k43=>sK fun _ k44=>gNl (aO 0 rfl) fun (hl45:(x.rows.map ThR.toQ).length≤140737488355328)=>gRn (ofB fl_173_2 rfl<|olB 6 ti_171 rfl rfl<|oln (n:=(x.rows.map ThR.toQ).length) sl_171 (aO 0 rfl) rfl<|oM 1 rfl<|.nl)<|nK k44<|gB<|fun a48 w48 h48=> ?_;clear h41
 have h47:=h48.bigR0 3
 clear h48
 have h49:=h47.relist (i:=1) (l' :=([]:List ThR).map ThR.toQ++(x.rows.drop 0).map ThR.toQ) rfl (by simp)
 clear h47
 refine x_loop (fun m a w=>∃(t:Nat) (M:List ThR) (vt:Value),(t≤x.rows.length)∧(M.length=t)∧(M.map (fun r=>(r.pc,r.regs.l))=(x.rows.take t).map (fun r=>(r.pc,r.regs.l)))∧St 45 (fun _=>False) W a w [(3, .pointer (some ⟨b13,0,none⟩)),(28, .int .i64 (((x.rows.map ThR.toQ).length:Nat):Int)),(29, .int .i64 ((t:Nat):Int))] [.own 189 (⟨vt,(M.map ThR.toQ++(x.rows.drop t).map ThR.toQ)⟩:Ls ThQ), .own 3 (⟨s7009.v,x.prints.l⟩:Ls Int), .blk (F.mem i7004).g0 182 [mw7004.v,mo7004.v], .own 3 mw7004, .own 3 mo7004,(F.mem i7004).X q7004, .blk b13 173 [.iface (F.mem i7004).T (.pointer (some (F.mem i7004).u)), .pointer (some ⟨x.gp,0,none⟩),vt,s7009.v, .bool false], .rblk x.g 173 [.iface (F.mem x.i).T (.pointer (some (F.mem x.i).u)), .pointer (some ⟨x.gp,0,none⟩),x.vt,x.prints.v, .bool false], .at_ (⟨x.vt,x.rows.map ThR.toQ⟩:Ls ThQ), .rgs x.rows, .at_ x.prints, .rblk (F.mem x.i).g0 182 [x.words.v,x.owner.v], .at_ x.words, .at_ x.owner, .ro [(F.mem x.i).X x.q], .big (regA 3 M)]∧m=x.rows.length-t) ⟨_,0, [],_,(by omega),(rfl),(rfl),h49.nrm ⟨rfl,rfl,rfl,trivial⟩ [1,2,3,4,5,6,7,8,9,10,11,12,13,14,15,0] rfl,rfl⟩ ?_
 clear h49
 rintro m46 a46 w46 ⟨t,M,vt,ht,hMl,hM9,h46,hm46⟩
 have hln:(M.map ThR.toQ++(x.rows.drop t).map ThR.toQ).length=x.rows.length:=by rw [List.length_append,List.length_map,List.length_map,List.length_drop];omega
 refine gG h46<|sG (oltN _ _ rfl<|.nl)<|gK fun _ k51=>gcd rfl (fun hb52 hp52=> ?_) fun hb52 hp52=> ?_;clear h46
 ·skip
  refine gS<|hK k51<|gK fun _ k53=>gB<|sG (oM 2 rfl<|.nl)<|gF [3,4,28,29,30,31] rfl<|fun a56 w56 h56=>x_any ((fun Φ Ψ S a w=>(S 9=false∧S 12=false∧FrI 45 S Φ Ψ a∧Sh (fun _=>False) W w [.own 189 (⟨vt,(M.map ThR.toQ++(x.rows.drop t).map ThR.toQ)⟩:Ls ThQ), .own 3 (⟨s7009.v,x.prints.l⟩:Ls Int), .blk (F.mem i7004).g0 182 [mw7004.v,mo7004.v], .own 3 mw7004, .own 3 mo7004,(F.mem i7004).X q7004, .blk b13 173 [.iface (F.mem i7004).T (.pointer (some (F.mem i7004).u)), .pointer (some ⟨x.gp,0,none⟩),vt,s7009.v, .bool false], .rblk x.g 173 [.iface (F.mem x.i).T (.pointer (some (F.mem x.i).u)), .pointer (some ⟨x.gp,0,none⟩),x.vt,x.prints.v, .bool false], .at_ (⟨x.vt,x.rows.map ThR.toQ⟩:Ls ThQ), .rgs x.rows, .at_ x.prints, .rblk (F.mem x.i).g0 182 [x.words.v,x.owner.v], .at_ x.words, .at_ x.owner, .ro [(F.mem x.i).X x.q], .big (regA 3 M)])∨(S 9=true∧S 12=false∧∃(s7109:Ls Int),FrI 45 S Φ (Ψ++ [(9,41,s7109.v),(10,42, .pointer (some (padr vt 2 t 0))),(11,43, .pointer (some (padr vt 2 t 1)))]) a∧Sh (fun _=>False) W w [.own 3 (⟨s7109.v,(nth x.rows t).regs.l⟩:Ls Int), .own 189 (⟨vt,(M.map ThR.toQ++(x.rows.drop t).map ThR.toQ)⟩:Ls ThQ), .own 3 (⟨s7009.v,x.prints.l⟩:Ls Int), .blk (F.mem i7004).g0 182 [mw7004.v,mo7004.v], .own 3 mw7004, .own 3 mo7004,(F.mem i7004).X q7004, .blk b13 173 [.iface (F.mem i7004).T (.pointer (some (F.mem i7004).u)), .pointer (some ⟨x.gp,0,none⟩),vt,s7009.v, .bool false], .rblk x.g 173 [.iface (F.mem x.i).T (.pointer (some (F.mem x.i).u)), .pointer (some ⟨x.gp,0,none⟩),x.vt,x.prints.v, .bool false], .at_ (⟨x.vt,x.rows.map ThR.toQ⟩:Ls ThQ), .rgs x.rows, .at_ x.prints, .rblk (F.mem x.i).g0 182 [x.words.v,x.owner.v], .at_ x.words, .at_ x.owner, .ro [(F.mem x.i).X x.q], .big (regA 3 M)])∨(S 9=true∧S 12=true∧∃(s7109:Ls Int),FrI 45 S Φ (Ψ++ [(9,41,s7109.v),(10,42, .pointer (some (padr vt 2 t 0))),(11,43, .pointer (some (padr vt 2 t 1)))]) a∧Sh (fun _=>False) W w [.own 3 (⟨s7109.v,(nth x.rows t).regs.l⟩:Ls Int), .own 189 (⟨vt,(M.map ThR.toQ++(x.rows.drop t).map ThR.toQ).set t ({ nth (M.map ThR.toQ++(x.rows.drop t).map ThR.toQ) t with rv:=s7109.v })⟩:Ls ThQ), .own 3 (⟨s7009.v,x.prints.l⟩:Ls Int), .blk (F.mem i7004).g0 182 [mw7004.v,mo7004.v], .own 3 mw7004, .own 3 mo7004,(F.mem i7004).X q7004, .blk b13 173 [.iface (F.mem i7004).T (.pointer (some (F.mem i7004).u)), .pointer (some ⟨x.gp,0,none⟩),vt,s7009.v, .bool false], .rblk x.g 173 [.iface (F.mem x.i).T (.pointer (some (F.mem x.i).u)), .pointer (some ⟨x.gp,0,none⟩),x.vt,x.prints.v, .bool false], .at_ (⟨x.vt,x.rows.map ThR.toQ⟩:Ls ThQ), .rgs x.rows, .at_ x.prints, .rblk (F.mem x.i).g0 182 [x.words.v,x.owner.v], .at_ x.words, .at_ x.owner, .ro [(F.mem x.i).X x.q], .big (regA 3 M)])) [(3, .pointer (some ⟨b13,0,none⟩)),(4, .int .i64 ((t:Nat):Int)),(28, .int .i64 (((x.rows.map ThR.toQ).length:Nat):Int)),(29, .int .i64 ((t:Nat):Int)),(30, .bool (decide (t<(x.rows.map ThR.toQ).length))),(31, .int .i64 ((t:Nat):Int))] [(0,32, .pointer (some ⟨b13,2,none⟩)),(1,33,vt),(2,34, .int .i64 ((t:Nat):Int)),(3,35, .pointer (some ⟨b13,2,none⟩)),(4,36,vt),(5,37, .int .i64 ((t:Nat):Int)),(6,38, .pointer (some (padr vt 2 t 0))),(7,39, .pointer (some (padr vt 2 t 1))),(8,40,(nth x.rows t).regs.v)]) (by kernel_rfl) (by kernel_rfl) (Or.inl (⟨rfl,rfl,FrI.start h56.fr,h56.sh.drew⟩)) ?_ ?_
  ·intro S i o ho hSi hcl hdep a w hI
   clear h56
   rcases i with _|_|_|_|_|_|_|_|_|_|_|_|_|i
   ·obtain rfl:_=o:=Option.some.inj ho
    rcases hI with ⟨ν9,ν12,φ,ς⟩|⟨ν9,ν12,s7109,φ,ς⟩|⟨_,ν12,_⟩
    ·exact sq φ φ.fr0 ς (r_fieldB (r:=2) fl_173_2 rfl rfl rfl) 0 rfl rfl rfl rfl rfl rfl fun a hg=>Or.inl (⟨un rfl ν9,un rfl ν12,hg,ς⟩)
    ·exact sq φ φ.fr0 ς (r_fieldB (r:=2) fl_173_2 rfl rfl rfl) 0 rfl rfl rfl rfl rfl rfl fun a hg=>Or.inr (Or.inl (⟨un rfl ν9,un rfl ν12,s7109,hg,ς⟩))
    ·exact no_way (cA hcl 12 0 rfl ν12) hSi
   ·obtain rfl:_=o:=Option.some.inj ho
    have hd0:S 0=true:=depAt hdep 0 rfl rfl
    rcases hI with ⟨ν9,ν12,φ,ς⟩|⟨ν9,ν12,s7109,φ,ς⟩|⟨_,ν12,_⟩
    ·exact sq φ (Fr.cons φ.fr0 (φ.at_ 0 0 32 _ rfl hd0)) ς (r_ldb (i:=6) ti_171 rfl rfl rfl rfl) 1 rfl rfl rfl rfl rfl rfl fun a hg=>Or.inl (⟨un rfl ν9,un rfl ν12,hg,ς⟩)
    ·exact sq φ (Fr.cons φ.fr0 (φ.at_ 0 0 32 _ rfl hd0)) ς (r_ldb (i:=7) ti_171 rfl rfl rfl rfl) 1 rfl rfl rfl rfl rfl rfl fun a hg=>Or.inr (Or.inl (⟨un rfl ν9,un rfl ν12,s7109,hg,ς⟩))
    ·exact no_way (cA hcl 12 1 rfl ν12) hSi
   ·obtain rfl:_=o:=Option.some.inj ho
    rcases hI with ⟨ν9,ν12,φ,ς⟩|⟨ν9,ν12,s7109,φ,ς⟩|⟨_,ν12,_⟩
    ·exact sq φ φ.fr0 ς (r_move rfl rfl) 2 rfl rfl rfl rfl rfl rfl fun a hg=>Or.inl (⟨un rfl ν9,un rfl ν12,hg,ς⟩)
    ·exact sq φ φ.fr0 ς (r_move rfl rfl) 2 rfl rfl rfl rfl rfl rfl fun a hg=>Or.inr (Or.inl (⟨un rfl ν9,un rfl ν12,s7109,hg,ς⟩))
    ·exact no_way (cA hcl 12 2 rfl ν12) hSi
   ·obtain rfl:_=o:=Option.some.inj ho
    rcases hI with ⟨ν9,ν12,φ,ς⟩|⟨ν9,_⟩|⟨ν9,_⟩
    ·exact sq φ φ.fr0 ς (r_fieldB (r:=2) fl_173_2 rfl rfl rfl) 3 rfl rfl rfl rfl rfl rfl fun a hg=>Or.inl (⟨un rfl ν9,un rfl ν12,hg,ς⟩)
    ·exact no_way (cA hcl 9 3 rfl ν9) hSi
    ·exact no_way (cA hcl 9 3 rfl ν9) hSi
   ·obtain rfl:_=o:=Option.some.inj ho
    have hd3:S 3=true:=depAt hdep 0 rfl rfl
    rcases hI with ⟨ν9,ν12,φ,ς⟩|⟨ν9,_⟩|⟨ν9,_⟩
    ·exact sq φ (Fr.cons φ.fr0 (φ.at_ 3 3 35 _ rfl hd3)) ς (r_ldb (i:=6) ti_171 rfl rfl rfl rfl) 4 rfl rfl rfl rfl rfl rfl fun a hg=>Or.inl (⟨un rfl ν9,un rfl ν12,hg,ς⟩)
    ·exact no_way (cA hcl 9 4 rfl ν9) hSi
    ·exact no_way (cA hcl 9 4 rfl ν9) hSi
   ·obtain rfl:_=o:=Option.some.inj ho
    rcases hI with ⟨ν9,ν12,φ,ς⟩|⟨ν9,_⟩|⟨ν9,_⟩
    ·exact sq φ φ.fr0 ς (r_move rfl rfl) 5 rfl rfl rfl rfl rfl rfl fun a hg=>Or.inl (⟨un rfl ν9,un rfl ν12,hg,ς⟩)
    ·exact no_way (cA hcl 9 5 rfl ν9) hSi
    ·exact no_way (cA hcl 9 5 rfl ν9) hSi
   ·obtain rfl:_=o:=Option.some.inj ho
    have hd4:S 4=true:=depAt hdep 0 rfl rfl
    have hd5:S 5=true:=depAt hdep 1 rfl rfl
    rcases hI with ⟨ν9,ν12,φ,ς⟩|⟨ν9,_⟩|⟨ν9,_⟩
    ·exact sq φ (Fr.cons (Fr.cons φ.fr0 (φ.at_ 4 4 36 _ rfl hd4)) (φ.at_ 5 5 37 _ rfl hd5)) ς (r_ixN (s:=(⟨vt,(M.map ThR.toQ++(x.rows.drop t).map ThR.toQ)⟩:Ls ThQ)) (q:=t) sl_171 ti_189 rfl rfl rfl (fun w h=>(h.own 0 rfl)) (show t<(M.map ThR.toQ++(x.rows.drop t).map ThR.toQ).length from (by first|omega|(simp only [lens9];omega)))) 6 rfl rfl rfl rfl rfl rfl fun a hg=>Or.inl (⟨un rfl ν9,un rfl ν12,hg,ς⟩)
    ·exact no_way (cA hcl 9 6 rfl ν9) hSi
    ·exact no_way (cA hcl 9 6 rfl ν9) hSi
   ·obtain rfl:_=o:=Option.some.inj ho
    have hd6:S 6=true:=depAt hdep 0 rfl rfl
    rcases hI with ⟨ν9,ν12,φ,ς⟩|⟨ν9,_⟩|⟨ν9,_⟩
    ·exact sq φ (Fr.cons φ.fr0 (φ.at_ 6 6 38 _ rfl hd6)) ς (r_fieldE (r:=1) fl_189_1 rfl rfl rfl) 7 rfl rfl rfl rfl rfl rfl fun a hg=>Or.inl (⟨un rfl ν9,un rfl ν12,hg,ς⟩)
    ·exact no_way (cA hcl 9 7 rfl ν9) hSi
    ·exact no_way (cA hcl 9 7 rfl ν9) hSi
   ·obtain rfl:_=o:=Option.some.inj ho
    have hd7:S 7=true:=depAt hdep 0 rfl rfl
    rcases hI with ⟨ν9,ν12,φ,ς⟩|⟨ν9,_⟩|⟨ν9,_⟩
    ·exact sq φ (Fr.cons φ.fr0 (φ.at_ 7 7 39 _ rfl hd7)) ς (Rn.same (r_lde (s:=(⟨vt,(M.map ThR.toQ++(x.rows.drop t).map ThR.toQ)⟩:Ls ThQ)) (i:=t) (v:=((nth (M.map ThR.toQ++(x.rows.drop t).map ThR.toQ) t).rv)) ti_23 rfl rfl rfl (fun w h=>(h.own 0 rfl)) (show t<(M.map ThR.toQ++(x.rows.drop t).map ThR.toQ).length from (by first|omega|(simp only [lens9];omega))) (Nat.le_of_ble_eq_true rfl) rfl) (by rw [clone_nth hMl (by omega)];rfl)) 8 rfl rfl rfl rfl rfl rfl fun a hg=>Or.inl (⟨un rfl ν9,un rfl ν12,hg,ς⟩)
    ·exact no_way (cA hcl 9 8 rfl ν9) hSi
    ·exact no_way (cA hcl 9 8 rfl ν9) hSi
   ·obtain rfl:_=o:=Option.some.inj ho
    have hd8:S 8=true:=depAt hdep 0 rfl rfl
    rcases hI with ⟨ν9,ν12,φ,ς⟩|⟨ν9,_⟩|⟨ν9,_⟩
    ·have hs:=St.mk (Fr.cons φ.fr0 (φ.at_ 8 8 40 _ rfl hd8)) ς
     refine step_ex (x_call hs bd_44 rfl rfl rfl rfl rfl (cloneI_c ((nth x.rows t).regs) _ (rgs_at hs.sh 9 rfl t (show t<x.rows.length from (by omega))) (by have:=hk.rn t (by omega);omega))) (wanted_none rfl _) ?_
     rintro a70 w70 ⟨_,⟨s70,rfl,hs70⟩,hf70⟩ ⟨v0,ht70⟩
     have h70:=(⟨hf70,hs.sh.call hs70 (by intro A hA b hb;simp only [memA,List.mem_cons,List.not_mem_nil,or_false] at hA;first|(subst hA;exact Flat.noRd hb)|(rcases hA with rfl|rfl|rfl|rfl<;>first|exact (hb:False).elim|exact Flat.noRd hb|exact ((hF.ok _).xrd _ _ hb).elim))⟩:St 45 (fun _=>False) W a70 w70 _ _)
     clear hf70 hs70
     exact Or.inr (Or.inl (⟨upd_self _ _,un rfl ν12,s70,φ.stepW hcl hSi [0,1,2,3,4,5,6,7,8] (by kernel_rfl) (by kernel_rfl) ht70 h70.fr.defers (h70.fr.at_ 41 _ rfl) 9 rfl rfl rfl rfl,(h70.sh.sel [0,1,2,3,4,5,6,7,8,9,10,11,12,13,14,15,16] rfl)⟩))
    ·exact no_way ν9 hSi
    ·exact no_way ν9 hSi
   ·obtain rfl:_=o:=Option.some.inj ho
    have hd1:S 1=true:=depAt hdep 0 rfl rfl
    have hd2:S 2=true:=depAt hdep 1 rfl rfl
    have hd9:S 9=true:=depAt hdep 11 rfl rfl
    rcases hI with ⟨ν9,_⟩|⟨ν9,ν12,s7109,φ,ς⟩|⟨_,ν12,_⟩
    ·exact no_way hd9 ν9
    ·exact sq φ (Fr.cons (Fr.cons φ.fr0 (φ.at_ 1 1 33 _ rfl hd1)) (φ.at_ 2 2 34 _ rfl hd2)) ς (r_ixN (s:=(⟨vt,(M.map ThR.toQ++(x.rows.drop t).map ThR.toQ)⟩:Ls ThQ)) (q:=t) sl_171 ti_189 rfl rfl rfl (fun w h=>(h.own 1 rfl)) (show t<(M.map ThR.toQ++(x.rows.drop t).map ThR.toQ).length from (by first|omega|(simp only [lens9];omega)))) 10 rfl rfl rfl rfl rfl rfl fun a hg=>Or.inr (Or.inl (⟨un rfl ν9,un rfl ν12,s7109,hg,ς⟩))
    ·exact no_way (cA hcl 12 10 rfl ν12) hSi
   ·obtain rfl:_=o:=Option.some.inj ho
    have hd10:S 10=true:=depAt hdep 0 rfl rfl
    have hd9:S 9=true:=depAt hdep 10 rfl rfl
    rcases hI with ⟨ν9,_⟩|⟨ν9,ν12,s7109,φ,ς⟩|⟨_,ν12,_⟩
    ·exact no_way hd9 ν9
    ·exact sq φ (Fr.cons φ.fr0 (φ.at_ 10 10 42 _ rfl hd10)) ς (r_fieldE (r:=1) fl_189_1 rfl rfl rfl) 11 rfl rfl rfl rfl rfl rfl fun a hg=>Or.inr (Or.inl (⟨un rfl ν9,un rfl ν12,s7109,hg,ς⟩))
    ·exact no_way (cA hcl 12 11 rfl ν12) hSi
   ·obtain rfl:_=o:=Option.some.inj ho
    have hd11:S 11=true:=depAt hdep 0 rfl rfl
    have hd9:S 9=true:=depAt hdep 1 rfl rfl
    rcases hI with ⟨ν9,_⟩|⟨ν9,ν12,s7109,φ,ς⟩|⟨_,ν12,_⟩
    ·exact no_way hd9 ν9
    ·have hs:=St.mk (Fr.cons (Fr.cons φ.fr0 (φ.at_ 9 9 41 _ rfl hd9)) (φ.at_ 11 11 43 _ rfl hd11)) ς
     refine step_ex (x_ste (r:=1) (i:=t) (j:=1) (x' :=({ nth (M.map ThR.toQ++(x.rows.drop t).map ThR.toQ) t with rv:=s7109.v } :ThQ)) hs ti_23 rfl rfl rfl rfl rfl (show t<(M.map ThR.toQ++(x.rows.drop t).map ThR.toQ).length from (by first|omega|(simp only [lens9];omega))) (Nat.le_of_ble_eq_true rfl) rfl (cells_oneL ((hs.sh.own 0 rfl)).one) ((hs.sh.own 0 rfl)).one (by intro q hq;rcases q with _|_|q<;>first|rfl|omega|exact absurd hq (by show¬(q+2<2);omega)) (fun w h=>Flat.inner _ _) (fun b hb=>(Flat.on _ _ hb).elim)) (wanted_none rfl _) ?_
     rintro a73 w73 h73 ⟨v0,ht73⟩
     exact Or.inr (Or.inr (⟨un rfl ν9,upd_self _ _,s7109,φ.noneW hcl hSi [0,1,2,3,4,5,6,7,8,9,10,11] (by kernel_rfl) (by kernel_rfl) ht73 h73.fr.defers rfl,(h73.sh.sel [0,1,2,3,4,5,6,7,8,9,10,11,12,13,14,15,16] rfl)⟩))
    ·exact no_way ν12 hSi
   · simp at ho
  intro S hall a w hI
  clear h56
  rcases hI with ⟨ν9,ν12,φ,ς⟩|⟨ν9,ν12,s7109,φ,ς⟩|⟨ν9,ν12,s7109,φ,ς⟩
  · exact no_way (hall 9 (by decide)) ν9
  · exact no_way (hall 12 (by decide)) ν12
  have h74:St 45 (fun _=>False) W a w _ _:=⟨φ.fr0,ς⟩
  clear hall φ ς ν9 ν12
  refine gG h74<|hK k53<|gL<|gRn (oadN _ 1 om9 rfl<|oM 1 rfl<|.nl)<|nN<|gO [0,16,1,2,3,4,5,6,7,8,9,10,11,12,13,14,15] rfl<|fun a77 w77 h77=> ?_;clear h74
  have h76:=h77.foldR (x:=(⟨(nth x.rows t).pc,(⟨s7109.v,(nth x.rows t).regs.l⟩:Ls Int)⟩:ThR))
  clear h77
  have h78:=h76.relist (i:=1) (l' :=(M++ [(⟨(nth x.rows t).pc,(⟨s7109.v,(nth x.rows t).regs.l⟩:Ls Int)⟩:ThR)]).map ThR.toQ++(x.rows.drop (t+1)).map ThR.toQ) rfl (clone_set (rows:=x.rows) hMl (by omega) (⟨s7109.v,(nth x.rows t).regs.l⟩:Ls Int))
  clear h76
  refine x_again ⟨_, ?_,(t+1),(M++ [(⟨(nth x.rows t).pc,(⟨s7109.v,(nth x.rows t).regs.l⟩:Ls Int)⟩:ThR)]),vt, ?_, ?_, ?_,h78.nrm ⟨rfl,rfl,rfl,trivial⟩ [1,2,3,4,5,6,7,8,9,10,11,12,13,14,15,0] rfl,rfl⟩
  · rw [hm46];first|omega|(simp only [lens9];omega)
  · omega
  · simp [hMl]
  · rw [take_succ_nth _ _ (by omega),List.map_append,List.map_append,hM9];rfl
 refine gX<|hK k43<|sG (oM 1 rfl<|.nl)<|gR<|fun a80 w80 h80=> ?_
 try simp only [Exit.then,Exit.inBlock]
 refine x_ret1 (fn:=Tryz.f143) (t:=2) rfl h80 rfl ?_
 have h81:=h80.relist (i:=0) (l' :=M.map ThR.toQ) rfl (by rw [show t=x.rows.length by omega,List.drop_length];simp)
 clear h80
 refine ⟨⟨x.gp,i7004,q7004,b13,vt,M,(⟨s7009.v,x.prints.l⟩:Ls Int),mw7004,mo7004⟩,rfl,rfl,by rw [hMl];show t=x.rows.length;omega, ?_,hq7004,(h81.sh.sel [6,0,15,1,2,3,4,5] rfl)⟩
 show mstR M ((F.mem i7004).qs q7004) mw7004.l mo7004.l x.prints.l=mstR x.rows _ _ _ _
 rw [hmw7004,hmo7004,hq7004]
 exact mstR_congr (by rw [hM9,show t=x.rows.length by omega,List.take_length])
end Go.Proofs.YtmjkobhkkjgplaaGreatDoor
