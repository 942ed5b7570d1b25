/- Part 4 of the texts. -/
import Derived.Test.YtmjkobhkkjgplaaGreatDoorQ3
import Derived.Shelf.SlSortCmp.NoneTotal
import Derived.Shelf.SlLaysF0
namespace Go.Proofs.YtmjkobhkkjgplaaGreatDoor
open Go.RowKit
set_option linter.unusedSimpArgs false
set_option linter.unusedVariables false
set_option maxRecDepth 100000
set_option maxHeartbeats 4000000
theorem put_take {l:List Int}{k:Nat}(h:k<l.length){b:List UInt8}{c d:List UInt8}(hb:b=c++by8 ((l.take k).flatMap fun n=>num36 n++ [32]))(hd:d=b++by8 (num36 (nth l k))):d++ [32]=c++by8 ((l.take (k+1)).flatMap fun n=>num36 n++ [32]):=by
 rw [hd,hb,take_succ_nth _ _ h,List.flatMap_append,by8_app]
 simp only [List.flatMap_cons,List.flatMap_nil,List.append_nil,by8_app,List.append_assoc]
 rfl
theorem put_all {l:List Int}{k:Nat}(h:k=l.length){b c:List UInt8}(hb:b=c++by8 ((l.take k).flatMap fun n=>num36 n++ [32])):b++ [59]=c++by8 (putB l):=by
 rw [hb,h,List.take_length,putB,by8_app,List.append_assoc];rfl
theorem R64L.row {x:Wt}{k:Int}(h:R64 x.wh∧R64 x.what)(hk:R64 k):R64L [k,x.wh,x.what]:=fun n hn=>by
 simp only [List.mem_cons,List.not_mem_nil,or_false] at hn
 rcases hn with rfl|rfl|rfl
 ·exact hk
 ·exact h.1
 ·exact h.2
theorem R64L.nil :R64L []:=fun n hn=>by cases hn
theorem by8_len (l:List Nat):(by8 l).length=l.length:=List.length_map _
theorem put1_c (K:Nat→Prop)(gb:Nat)(bs:Ls UInt8)(l:Ls Int)(W:World)(hS:Sh K W W [.blk gb 204 [bs.v], .own 5 bs, .at_ l])(hR:R64L l.l)(hn:bs.l.length+66*l.l.length≤9000000000000):
    Rets Tryz.prog 141 [l.v, .pointer (some ⟨gb,0,none⟩)] W (fun v w' =>v= .tuple #[]∧∃bs' :Ls UInt8,bs'.l=bs.l++by8 (putB l.l)∧Sh K W w' [.blk gb 204 [bs'.v], .own 5 bs', .at_ l]):=by
 refine gen Tryz.func141 Tryz.ntmps141 hS rfl fun a10 h10=>gG h10<|gK fun _ k11=>sK fun _ k12=>gNl (aA 2 rfl) fun hl13=>gRn (oM 1 rfl<|oln sl_23 (aA 2 rfl) rfl<|oM 1 rfl<|.nl)<|nK k12<|gB<|fun a15 w15 h15=>x_loop (fun m a w=>∃(k:Nat) (bl:List UInt8) (vb:Value),(k≤l.l.length)∧(bl=bs.l++by8 ((l.l.take k).flatMap fun n=>num36 n++ [32]))∧(bl.length≤bs.l.length+66*k)∧St 20 K W a w [(1, .pointer (some ⟨gb,0,none⟩)),(5,l.v),(6, .int .i64 ((l.l.length:Nat):Int)),(7, .int .i64 ((k:Nat):Int))] [.blk gb 204 [vb], .own 5 (⟨vb,bl⟩:Ls UInt8), .at_ l]∧m=l.l.length-k) ⟨_,0,bs.l,bs.v,(by omega),(by simp [by8]),(by omega),h15.nf ⟨rfl,rfl,rfl,rfl,trivial⟩,rfl⟩ ?_;clear h10
 clear h15
 rintro m14 a14 w14 ⟨k,bl,vb,hk,hbl,hbn,h14,hm14⟩
 refine gG h14<|sG (oltN _ _ rfl<|.nl)<|gK fun _ k17=>gcd rfl (fun hb18 hp18=> ?_) fun hb18 hp18=> ?_;clear h14
 ·skip
  refine gS<|hK k17<|gK fun _ k19=>gB<|sG (oxN sl_23 ti_3 (aA 2 rfl) _ om9 rfl<|olI ti_3 (aA 2 rfl) om9 rfl<|oM 1 rfl<|.nl)<|?_
  have hrk:=hR _ (nth_mem l.l k (by omega))
  have hnk:=num36_len _ hrk
  refine gL<|gRn (olB 0 ti_204 rfl rfl<|oM 1 rfl<|.nl)<|gO [1,0,2] rfl<|gM 1 rfl (fun _ _ h_=>xCl h_ bd_142 rfl (sappI_c _ (⟨vb,bl⟩:Ls UInt8) (nth l.l k) _ (pKl 1 h_ rfl) hrk (by show bl.length≤_;omega))) rfl<|?_
  rintro _ _ w23 ⟨bs23,rfl,hbl23,hs23⟩
  refine gBk hs23 rfl<|gU<|?_;clear hs23
  have hbx:=hbl23;try dsimp only at hbx
  refine gE1 (fun _ _ h_=>x_lit (n:=1) (cs:= [.int .u8 32]) ([32]:List UInt8) h_ sl_204 ti_5 rfl rfl rfl (by decide) rfl (by kernel_rfl) rfl (fun q hq w h=>Flat.inner _ _) (fun q hq b hb=>(Flat.on _ _ hb).elim) rfl rfl) rfl fun v24=>gE1 (fun _ _ h_=>x_app (r:=1) (rm:=0) (s:=bs23) (m:=(⟨v24, [32]⟩:Ls UInt8)) h_ sl_204 ti_5 rfl rfl rfl rfl rfl rfl rfl (fun w h=>(h.own 0 rfl)) (fun b hb=>own_on (h_.sh.ok _ (List.mem_of_getElem? (i:=0) rfl)) hb) (fun q hq b hb=>⟨q,hq,hb⟩) rfl rfl rfl inferInstance (show (bs23.l.length+([32]).length)*1≤140737488355328∧bs23.l.length+([32]).length≤140737488355328 from (by first|omega|(simp only [List.length_cons,List.length_nil];omega)|(rw [hbx,List.length_append,by8_len];simp only [List.length_cons,List.length_nil];omega))) rfl rfl) rfl fun v25=>gsr 2 ti_204 rfl (aO 1 rfl) rfl<|nK k19<|gL<|gRn (oadN _ 1 om9 rfl<|oM 1 rfl<|.nl)<|nN<|fun a27 w27 h27=>x_again ⟨_, ?_,(k+1),bs23.l++([32]),v25, ?_, ?_, ?_,h27.nrm ⟨rfl,rfl,rfl,rfl,trivial⟩ [2,1,3] rfl,rfl⟩
  · rw [hm14];first|omega|(simp only [lens9];omega)
  · omega
  · exact put_take (by omega) hbl (by assumption)
  · (rw [List.length_append,hbx,List.length_append,by8_len];simp only [List.length_cons,List.length_nil];omega)
 refine gX<|hK k11<|gL<|gRn (olB 0 ti_204 rfl rfl<|.nl)<|gE1 (fun _ _ h_=>x_lit (n:=1) (cs:= [.int .u8 59]) ([59]:List UInt8) h_ sl_204 ti_5 rfl rfl rfl (by decide) rfl (by kernel_rfl) rfl (fun q hq w h=>Flat.inner _ _) (fun q hq b hb=>(Flat.on _ _ hb).elim) rfl rfl) rfl fun v28=>gE1 (fun _ _ h_=>x_app (r:=2) (rm:=0) (s:=(⟨vb,bl⟩:Ls UInt8)) (m:=(⟨v28, [59]⟩:Ls UInt8)) h_ sl_204 ti_5 rfl rfl rfl rfl rfl rfl rfl (fun w h=>(h.own 0 rfl)) (fun b hb=>own_on (h_.sh.ok _ (List.mem_of_getElem? (i:=0) rfl)) hb) (fun q hq b hb=>⟨q,hq,hb⟩) rfl rfl rfl inferInstance (show (bl.length+([59]).length)*1≤140737488355328∧bl.length+([59]).length≤140737488355328 from (by first|omega|(simp only [List.length_cons,List.length_nil];omega)|(rw [hbx,List.length_append,by8_len];simp only [List.length_cons,List.length_nil];omega))) rfl rfl) rfl fun v29=>gsr 1 ti_204 rfl (aO 2 rfl) rfl<|nN<|fun a31 w31 h31=> ?_
 try simp only [Exit.then,Exit.inBlock,if_true]
 refine x_end0 (fn:=Tryz.f141) rfl h31<|⟨rfl,⟨v29,bl++([59])⟩,put_all (by omega) hbl,(h31.sh.sel [1,2,3] rfl)⟩
theorem plTell_c (K:Nat→Prop)(gb:Nat)(bs:Ls UInt8)(g0:Nat)(words owner:Ls Int)(W:World)(hS:Sh K W W [.blk gb 204 [bs.v], .own 5 bs, .rblk g0 182 [words.v,owner.v], .at_ words, .at_ owner])(hwl:words.l.length≤64)(hol:owner.l.length≤4)(hRw:R64L words.l)(hRo:R64L owner.l)(hbn:bs.l.length≤5000000000000):
    Rets Tryz.prog 206 [.pointer (some ⟨g0,0,none⟩), .func (.func 141) #[] #[.pointer (some ⟨gb,0,none⟩)]] W (fun v w' =>v= .tuple #[]∧∃bs' :Ls UInt8,bs'.l=bs.l++by8 ([words.l,owner.l].flatMap putB)∧bs'.l.length≤bs.l.length+5000∧Sh K W w' [.blk gb 204 [bs'.v], .own 5 bs', .rblk g0 182 [words.v,owner.v], .at_ words, .at_ owner]):=by
 refine gen Tryz.func206 Tryz.ntmps206 hS rfl fun a10 h10=>gG h10<|sK fun _ k11=>gRn (oM 2 rfl<|onf fl_182_0 rfl<|olR 2 ti_23 rfl rfl<|.nl)<|gO [0,1,3,2,4] rfl<|fun a17 w17 h17=> ?_;clear h10
 have hp16:=h17.sh.passL (Lp:= [_,_,_])
 refine wl_ex (x_call h17 bd_141 rfl rfl rfl rfl rfl (put1_c _ gb bs words _ hp16 (by assumption) (by show bs.l.length+66*words.l.length≤9000000000000;first|omega|(simp only [List.length_cons,List.length_nil];omega)))) (wanted_none rfl _) ?_
 rintro a18 w18 ⟨_,⟨rfl,bs18,hbl18,hs18⟩,hf18⟩
 have hbn18:=congrArg List.length hbl18;rw [List.length_append,by8_len] at hbn18;have hbm18:=putB_len (l:=words.l) (by assumption)
 try dsimp only at hbn18 hbm18
 try simp only [List.length_cons,List.length_nil] at hbm18
 change Sh _ _ _ [.blk gb 204 [bs18.v], .own 5 bs18, .at_ words] at hs18
 have h18:St _ K W a18 w18 _ [_,_,_,_,_]:=⟨hf18,h17.sh.backI (Lp:= [_,_,_]) hs18⟩
 clear hf18 hs18
 clear h17
 refine gG h18<|nK k11<|gL<|gRn (oM 2 rfl<|onf fl_182_1 rfl<|olR 3 ti_23 rfl rfl<|.nl)<|gO [0,1,4,2,3] rfl<|fun a24 w24 h24=> ?_;clear h18
 have hp23:=h24.sh.passL (Lp:= [_,_,_])
 refine wl_ex (x_call h24 bd_141 rfl rfl rfl rfl rfl (put1_c _ gb bs18 owner _ hp23 (by assumption) (by show bs18.l.length+66*owner.l.length≤9000000000000;first|omega|(simp only [List.length_cons,List.length_nil];omega)))) (wanted_none rfl _) ?_
 rintro a25 w25 ⟨_,⟨rfl,bs25,hbl25,hs25⟩,hf25⟩
 have hbn25:=congrArg List.length hbl25;rw [List.length_append,by8_len] at hbn25;have hbm25:=putB_len (l:=owner.l) (by assumption)
 try dsimp only at hbn25 hbm25
 try simp only [List.length_cons,List.length_nil] at hbm25
 change Sh _ _ _ [.blk gb 204 [bs25.v], .own 5 bs25, .at_ owner] at hs25
 have h25:St _ K W a25 w25 _ [_,_,_,_,_]:=⟨hf25,h24.sh.backI (Lp:= [_,_,_]) hs25⟩
 clear hf25 hs25
 clear h24
 refine gG h25<|nN<|fun a26 w26 h26=> ?_;clear h25
 try simp only [Exit.then,Exit.inBlock,if_true]
 refine x_end0 (fn:=Tryz.f206) rfl h26<|⟨rfl,⟨bs25.v,bs25.l⟩, ?_, ?_,(h26.sh.sel [0,1,4,3,2] rfl)⟩
 ·show bs25.l=_
  rw [hbl25,hbl18];simp only [List.flatMap_cons,List.flatMap_nil,by8_app,List.append_nil,List.append_assoc]
 ·show bs25.l.length≤_
  omega
theorem plCopy_c (g0:Nat)(words owner:Ls Int)(W:World)(hB:Blk W g0 182 #[words.v,owner.v])(hw:words.At W)(ho:owner.At W)(hwl:words.l.length≤64)(hol:owner.l.length≤4):
    Rets Tryz.prog 198 [.pointer (some ⟨g0,0,none⟩)] W (fun v w' =>∃(g:Nat) (words' owner' :Ls Int),v= .iface 123 (.pointer (some ⟨g,0,none⟩))∧words'.l=words.l∧owner'.l=owner.l∧Sh0 W w' [.blk g 182 [words'.v,owner'.v], .own 3 words', .own 3 owner']):=by
 refine gen Tryz.func198 Tryz.ntmps198 (Sh0.ext (by intro A hA;simp only [List.mem_cons,List.not_mem_nil,or_false] at hA;rcases hA with rfl|rfl|rfl;exact hB;exact hw;exact ho) (by intro A hA b hb;simp only [List.mem_cons,List.not_mem_nil,or_false] at hA;rcases hA with rfl|rfl|rfl<;>exact hb):Sh (fun _=>False) W W [.rblk g0 182 [words.v,owner.v], .at_ words, .at_ owner]) rfl fun a10 h10=>gG h10<|sG (oM 1 rfl<|.nl)<|gK fun _ k12=>gF [0] rfl<|rC [4,9,11] rfl<|pR [0,1,2,3,5,6,7,8] rfl (oM 1 rfl<|onf fl_182_0 rfl<|olR 0 ti_23 rfl rfl<|oM 1 rfl<|onf fl_182_1 rfl<|olR 0 ti_23 rfl rfl<|.nl) rfl<|pC (fun _ _ h_=>xCl h_ bd_44 rfl (cloneI_c words _ (h_.sh.at 1 rfl) (by first|omega|(simp only [lens9];omega)))) rfl<|?_;clear h10
 rintro _ _ w13 ⟨s13,rfl,hs13⟩
 refine pWk hs13 rfl<|pR [5,6,7,8] rfl (oM 1 rfl<|onf fl_182_1 rfl<|olR 1 ti_23 rfl rfl<|.nl) rfl<|pC (fun _ _ h_=>xCl h_ bd_44 rfl (cloneI_c owner _ (h_.sh.at 3 rfl) (by first|omega|(simp only [lens9];omega)))) rfl<|?_;clear hs13
 rintro _ _ w14 ⟨s14,rfl,hs14⟩
 refine pWk hs14 rfl<|pR [10] rfl (oV (r_buildS (cs:= [s13.v,s14.v]) rfl rfl (fun w h=>by obtain ⟨A16,n16,c16,(e16:s14.v=_)⟩:=((h.own 0 rfl)).form;rw [e16];obtain ⟨A15,n15,c15,(e15:s13.v=_)⟩:=((h.own 1 rfl)).form;rw [e15];kernel_rfl)) rfl<|.nl) rfl<|pX (fun _ _ h_=>x_box (cs:= [s13.v,s14.v]) h_ rfl rfl rfl rfl rfl) rfl fun b17=>pE [12,13] rfl (oV (Rn.same (r_mkIfP (T:=123) Tryz.underlying123 rfl rfl) rfl) rfl<|oM 1 rfl<|.nl) rfl<|hK k12<|gR<|fun a18 w18 h18=> ?_;clear hs14
 refine x_ret1 (fn:=Tryz.f198) (t:=2) rfl h18 rfl ?_
 exact ⟨b17,⟨s13.v,words.l⟩,⟨s14.v,owner.l⟩,rfl,rfl,rfl,(h18.sh.sel [0,2,1] rfl)⟩
def FP :MemF:=⟨Nat,memP,123,0,fun _=> [],fun q=>∀l∈q,l= [],0,(0:Nat)⟩
theorem FP_ok :MemFI Tryz.prog 182 3 204 5 141 FP where
 ok i:=memP_ok i
 hT _:=rfl
 hm _:=rfl
 tq:=tq0_ok
 qQ i q l hl:=(List.mem_replicate.1 (show l∈List.replicate q [] from hl)).2
 copy w i words owner q h hwl hol _ _:=⟨198,⟨i,0,none⟩,by kernel_rfl,bd_198,by
  refine Rets.mono (plCopy_c i words owner w h.blk h.wa h.oa hwl hol) ?_
  rintro v w' ⟨g',words',owner',rfl,h1,h2,hs⟩
  exact ⟨g',words',owner',q,rfl,h1,h2,rfl,hs.emp.sel (L' := [.blk g' 182 [words'.v,owner'.v], .own 3 words', .own 3 owner',Asn.emp]) [1,2,3,0] rfl⟩⟩
 tell K W i words owner q gb bs hS hwl hol hqc hq3 hRw hRo hRq hbn:=⟨206,⟨i,0,none⟩,by kernel_rfl,bd_206,by
  have h2:Sh K W W ([.blk gb 204 [bs.v], .own 5 bs, .rblk i 182 [words.v,owner.v], .at_ words, .at_ owner]++ [.ro [Asn.emp]]):=hS
  refine Rets.mono (plTell_c _ gb bs i words owner W h2.passL hwl hol hRw hRo (by omega)) ?_
  rintro v w' ⟨rfl,bs',e,hn,hs⟩
  exact ⟨rfl,bs',e,by omega,h2.backL hs (by
   intro C hC b hb
   simp only [List.mem_cons,List.not_mem_nil,or_false] at hC
   rcases hC with rfl|rfl|rfl|rfl|rfl
   ·exact (hb:False).elim
   ·exact Flat.noRd hb
   all_goals exact .inl ⟨_,by simp, .inr hb⟩)⟩⟩
structure KeyOK {F:MemF}(x:PSD F):Prop where
 rl:x.rows.length≤4
 pc:∀t,t<x.rows.length→R64 (nth x.rows t).pc
 regs:∀t,t<x.rows.length→R64L (nth x.rows t).regs.l
 rn:∀t,t<x.rows.length→(nth x.rows t).regs.l.length≤200
 pr:R64L x.prints.l
 pn:x.prints.l.length≤100000
 wl:x.words.l.length≤64
 ol:x.owner.l.length≤4
 ql:x.qs.length≤4
 q3:∀l∈x.qs,l.length≤3
 Rw:R64L x.words.l
 Ro:R64L x.owner.l
 Rq:∀l∈x.qs,R64W l
theorem R64L.one {n:Int}(h:R64 n):R64L [n]:=fun x hx=>by
 obtain rfl:x=n:=by simpa using hx
 exact h
theorem key_step {l:List Th}{t:Nat}{b c d:List UInt8}(h:t<l.length)(hb:b=by8 (((l.take t).flatMap fun y=> [[y.pc],y.regs]).flatMap putB)){p:Int}{r:List Int}(hc:c=b++by8 (putB [p]))(hd:d=c++by8 (putB r))(hp:p=(nth l t).pc)(hr:r=(nth l t).regs):d=by8 (((l.take (t+1)).flatMap fun y=> [[y.pc],y.regs]).flatMap putB):=by
 rw [hd,hc,hb,take_succ_nth _ _ h,hp,hr]
 simp only [List.flatMap_append,by8_app,List.flatMap_cons,List.flatMap_nil,List.append_nil,List.append_assoc]
theorem key_end {F:MemF}{x:PSD F}{t:Nat}{b c d:List UInt8}(ht:t=x.rows.length)(hb:b=by8 (((x.st.ths.take t).flatMap fun y=> [[y.pc],y.regs]).flatMap putB))(hw:x.st.ths.map Th.wait=x.qs)(hc:c=b++by8 ((F.tells x.i x.words x.owner x.q).flatMap putB))(hd:d=c++by8 (putB x.prints.l)):d=by8 (keyB F.tq x.st):=by
 rw [hd,hc,hb,ht,←PSD.st_len,List.take_length]
 unfold keyB keyLL MemF.tells
 rw [hw]
 simp only [List.flatMap_append,by8_app,List.flatMap_cons,List.flatMap_nil,List.append_nil,List.append_assoc,List.nil_append,List.cons_append]
 rfl
theorem key_pos {F:MemF}{s:MSt}{l:List UInt8}(h:l=by8 (keyB F.tq s)):0<l.length:=by
 rw [h,by8_len]
 unfold keyB keyLL
 simp only [List.flatMap_append,List.flatMap_cons,List.flatMap_nil,List.length_append]
 have:0<(putB s.words).length:=by unfold putB;simp
 omega
theorem psd_th {F:MemF}{x:PSD F}{t:Nat}(h:t<x.rows.length):(nth x.st.ths t).pc=(nth x.rows t).pc∧(nth x.st.ths t).regs=(nth x.rows t).regs.l:=by
 unfold PSD.st
 rw [mstR_th h]
 exact ⟨rfl,rfl⟩
theorem psd_wait {F:MemF}{x:PSD F}(h:x.qs.length=x.rows.length):x.st.ths.map Th.wait=x.qs:=by
 unfold PSD.st mstR
 rw [List.map_map]
 refine ext_nth _ _ (by simp [h]) fun i hi=> ?_
 have hi' :i<x.rows.length:=by simpa using hi
 rw [nth_map' _ _ _ (by simpa using hi'),nth_range hi']
 rfl
theorem clone_nth {rows M:List ThR}{t:Nat}(hM:M.length=t)(ht:t<rows.length):nth (M.map ThR.toQ++(rows.drop t).map ThR.toQ) t=(nth rows t).toQ:=by
 have e:rows.drop t=nth rows t::rows.drop (t+1):=by rw [nth_lt _ _ ht];exact List.drop_eq_getElem_cons ht
 rw [e]
 subst hM
 simp [nth,List.getD]
theorem mid_set {α:Type}{l m:List α}{k:Nat}{a b:α}(h:k=l.length):(l++a::m).set k b=l++b::m:=by subst h;simp
theorem clone_set {rows M:List ThR}{t:Nat}(hM:M.length=t)(ht:t<rows.length)(s:Ls Int):(M.map ThR.toQ++(rows.drop t).map ThR.toQ).set t (⟨(nth (M.map ThR.toQ++(rows.drop t).map ThR.toQ) t).pc,s.v⟩:ThQ)=(M++ [(⟨(nth rows t).pc,s⟩:ThR)]).map ThR.toQ++(rows.drop (t+1)).map ThR.toQ:=by
 rw [clone_nth hM ht]
 have e:rows.drop t=nth rows t::rows.drop (t+1):=by rw [nth_lt _ _ ht];exact List.drop_eq_getElem_cons ht
 rw [e,List.map_cons,List.map_append,List.append_assoc]
 rw [show (M.map ThR.toQ++(nth rows t).toQ::(rows.drop (t+1)).map ThR.toQ).set t (⟨(nth rows t).toQ.pc,s.v⟩:ThQ)=M.map ThR.toQ++(⟨(nth rows t).toQ.pc,s.v⟩:ThQ)::(rows.drop (t+1)).map ThR.toQ from mid_set (by simp [hM])]
 rfl
theorem mstR_congr {rows rows' :List ThR}{qs:List (List Wt)}{words owner prints:List Int}(h:rows'.map (fun r=>(r.pc,r.regs.l))=rows.map (fun r=>(r.pc,r.regs.l))):mstR rows' qs words owner prints=mstR rows qs words owner prints:=by
 have hl:rows'.length=rows.length:=by simpa using congrArg List.length h
 unfold mstR
 rw [hl]
 congr 1
 refine List.map_congr_left fun t ht=> ?_
 have ht' :t<rows.length:=by simpa using ht
 have e:∀(l:List ThR),t<l.length→(l.map fun r=>(r.pc,r.regs.l))[t]? =some ((nth l t).pc,(nth l t).regs.l):=fun l h9=>by
  rw [List.getElem?_map,List.getElem?_eq_getElem h9,nth_lt _ _ h9];rfl
 have h2:(rows'.map fun r=>(r.pc,r.regs.l))[t]? =(rows.map fun r=>(r.pc,r.regs.l))[t]? :=by rw [h]
 rw [e _ (by omega),e _ ht'] at h2
 obtain ⟨e1,e2⟩:=Prod.mk.inj (Option.some.inj h2)
 rw [e1,e2]
theorem one_thq {l:List ThQ}(h:∀r∈l,r.rv.oneCell' =true){q:Nat}(hq:q<l.length){j:Nat}(hj:j<Enc.sz ThQ):(Enc.cell (nth l q) j).oneCell' =true:=by
 rcases j with _|_|j
 ·rfl
 ·exact h _ (nth_mem _ _ hq)
 ·exact absurd hj (by show¬(j+1+1<2);omega)
theorem key_c (F:MemF)(x:PSD F)(W:World)(hF:MemFI Tryz.prog 182 3 204 5 141 F)(hX:x.Rd W)(hk:KeyOK x)(hql:x.qs.length=x.rows.length):
    Rets Tryz.prog 101 [.pointer (some ⟨x.g,0,none⟩)] W (fun v w' =>v= .string (keyS F.tq x.st)∧Sh0 W w' []):=by
 have hrl:=hk.rl
 have hrl2:(x.rows.map ThR.toQ).length=x.rows.length:=List.length_map _
 have hkp:=hk.pn
 refine gen Tryz.func101 Tryz.ntmps101 (Sh0.ext (by intro A hA;simp only [List.mem_cons,List.not_mem_nil,or_false] at hA;rcases hA with rfl|rfl|rfl|rfl|rfl|rfl|rfl|rfl;exact hX.blk;exact hX.thr;exact hX.row;exact hX.prints;exact hX.mem.blk;exact hX.mem.wa;exact hX.mem.oa;exact (fun A hA=>by obtain rfl:=List.mem_singleton.1 hA;exact hX.mem.x)) (by intro A hA b hb;simp only [List.mem_cons,List.not_mem_nil,or_false] at hA;rcases hA with rfl|rfl|rfl|rfl|rfl|rfl|rfl|rfl<;>exact hb):Sh (fun _=>False) W W [.rblk x.g 173 [.iface (F.mem x.i).T (.pointer (some (F.mem x.i).u)), .pointer (some ⟨x.gp,0,none⟩),x.vt,x.prints.v, .bool false], .at_ (⟨x.vt,x.rows.map ThR.toQ⟩:Ls ThQ), .rgs x.rows, .at_ x.prints, .rblk (F.mem x.i).g0 182 [x.words.v,x.owner.v], .at_ x.words, .at_ x.owner, .ro [(F.mem x.i).X x.q]]) rfl fun a10 h10=>gG h10<|sG (oM 1 rfl<|.nl)<|sK fun _ k12=>gal ti_204 rfl fun b13=>nK k12<|sG (oV (r_makeFunc rfl rfl rfl) rfl<|oM 1 rfl<|.nl)<|gK fun _ k15=>sK fun _ k16=>gNl (aA 2 rfl) fun (hl17:(x.rows.map ThR.toQ).length≤140737488355328)=>gRn (oM 1 rfl<|onf fl_173_2 rfl<|olR 1 ti_171 rfl rfl<|oln (n:=(x.rows.map ThR.toQ).length) sl_171 (aA 2 rfl) rfl<|oM 1 rfl<|.nl)<|nK k16<|gB<|fun a20 w20 h20=> ?_;clear h10
 have h19:=h20.nil (α:=UInt8) 5
 clear h20
 refine x_loop (fun m a w=>∃(t:Nat) (bl:List UInt8) (vb:Value),(t≤x.rows.length)∧(bl=by8 (((x.st.ths.take t).flatMap fun y=> [[y.pc],y.regs]).flatMap putB))∧(bl.length≤20000*t)∧St 41 (fun _=>False) W a w [(0, .pointer (some ⟨x.g,0,none⟩)),(3, .pointer (some ⟨b13,0,none⟩)),(4, .func (.func 141) #[] #[.pointer (some ⟨b13,0,none⟩)]),(11,x.vt),(12, .int .i64 (((x.rows.map ThR.toQ).length:Nat):Int)),(13, .int .i64 ((t:Nat):Int))] [.blk b13 204 [vb], .rblk x.g 173 [.iface (F.mem x.i).T (.pointer (some (F.mem x.i).u)), .pointer (some ⟨x.gp,0,none⟩),x.vt,x.prints.v, .bool false], .at_ (⟨x.vt,x.rows.map ThR.toQ⟩:Ls ThQ), .rgs x.rows, .at_ x.prints, .rblk (F.mem x.i).g0 182 [x.words.v,x.owner.v], .at_ x.words, .at_ x.owner, .ro [(F.mem x.i).X x.q], .own 5 (⟨vb,bl⟩:Ls UInt8)]∧m=x.rows.length-t) ⟨_,0, [],(.slice none 0 0),(by omega),(rfl),(by simp),h19.nrm ⟨rfl,rfl,rfl,rfl,rfl,rfl,trivial⟩ [1,2,3,4,5,6,7,8,9,0] rfl,rfl⟩ ?_
 clear h19
 rintro m18 a18 w18 ⟨t,bl,vb,ht,hbl,hbn,h18,hm18⟩
 refine gG h18<|sG (oltN _ _ rfl<|.nl)<|gK fun _ k22=>gcd rfl (fun hb23 hp23=> ?_) fun hb23 hp23=> ?_;clear h18
 ·skip
  refine gS<|hK k22<|gK fun _ k24=>gB<|sK fun _ k25=>gRn (oxN sl_171 ti_189 (aA 2 rfl) _ (show t<(x.rows.map ThR.toQ).length from om9) rfl<|oV (Rn.same (r_ldew (s:=(⟨x.vt,x.rows.map ThR.toQ⟩:Ls ThQ)) (i:=t) (vs:= [.int .i64 ((nth (x.rows.map ThR.toQ) t).pc),((nth (x.rows.map ThR.toQ) t).rv)]) ti_189 rfl rfl rfl (fun w h=>(h.at 2 rfl)) (show t<(x.rows.map ThR.toQ).length from om9) (Nat.le_of_ble_eq_true rfl) rfl) (by rw [show ((nth (x.rows.map ThR.toQ) t).rv)=(nth x.rows t).regs.v from (by rw [toQ_at (by omega)];rfl)])) rfl<|.nl)<|gal ti_189 rfl fun b26=>gE (fun _ _ h_=>x_stb (i:=0) (vs:= [.int .i64 ((nth (x.rows.map ThR.toQ) t).pc),(nth x.rows t).regs.v]) (cs' := [.int .i64 ((nth (x.rows.map ThR.toQ) t).pc),(nth x.rows t).regs.v]) h_ ti_189 rfl rfl rfl rfl rfl rfl rfl (allOne_cons rfl (allOne_cons ((rgs_at h_.sh 4 rfl t (show t<x.rows.length from om9))).one allOne_nil)) (Nat.le_of_ble_eq_true rfl) rfl) rfl<|nK k25<|sK fun _ k28=>gRn (oM 1 rfl<|ofB fl_189_0 rfl<|olB 0 ti_3 rfl rfl<|.nl)<|gE1 (fun _ _ h_=>x_lit (n:=1) (cs:= [.int .i64 ((nth (x.rows.map ThR.toQ) t).pc)]) ([(nth (x.rows.map ThR.toQ) t).pc]:List Int) h_ sl_23 ti_3 rfl rfl rfl (by decide) rfl (by kernel_rfl) rfl (fun q hq w h=>Flat.inner _ _) (fun q hq b hb=>(Flat.on _ _ hb).elim) rfl rfl) rfl fun v29=>fun a31 w31 h31=> ?_
  have h30:St _ _ _ _ _ _ _:=⟨h31.fr,h31.sh.share 0 rfl⟩
  clear h31
  have h32:=h30.sel (L' := [_,_,_,_,_,_,_,_,_,_,_,_]) [2,11,0,1,3,4,5,6,7,8,9,10] rfl
  have hp33:=h32.sh.passL (Lp:= [_,_,_])
  refine wl_ex (x_call h32 bd_141 rfl rfl rfl rfl rfl (put1_c _ b13 (⟨vb,bl⟩:Ls UInt8) (⟨v29, [(nth (x.rows.map ThR.toQ) t).pc]⟩:Ls Int) _ hp33 (by rw [toQ_at (by omega)];exact R64L.one (hk.pc t (by omega))) (by show bl.length+66*([(nth (x.rows.map ThR.toQ) t).pc]).length≤9000000000000;first|omega|(simp only [List.length_cons,List.length_nil];omega)))) (wanted_none rfl _) ?_
  rintro a34 w34 ⟨_,⟨rfl,bs34,hbl34,hs34⟩,hf34⟩
  have hbn34:=congrArg List.length hbl34;rw [List.length_append,by8_len] at hbn34;have hbm34:=putB_len (l:= [(nth (x.rows.map ThR.toQ) t).pc]) (by rw [toQ_at (by omega)];exact R64L.one (hk.pc t (by omega)))
  try dsimp only at hbn34 hbm34
  try simp only [List.length_cons,List.length_nil] at hbm34
  change Sh _ _ _ [.blk b13 204 [bs34.v], .own 5 bs34, .at_ (⟨v29, [(nth (x.rows.map ThR.toQ) t).pc]⟩:Ls Int)] at hs34
  have h34:St _ (fun _=>False) W a34 w34 _ [_,_,_,_,_,_,_,_,_,_,_,_]:=⟨hf34,h32.sh.backI (Lp:= [_,_,_]) hs34⟩
  clear hf34 hs34
  clear h32
  refine gG h34<|nK k28<|?_;clear h34
  have hkr:=hk.rn t (by omega)
  refine gL<|gRn (oM 1 rfl<|ofB fl_189_1 rfl<|olB 3 ti_23 rfl rfl<|.nl)<|fun a36 w36 h36=> ?_
  have h35:=h36.addRd (A:= .at_ ((nth x.rows t).regs)) (rgs_at h36.sh 6 rfl t (by omega)) (fun b hb=>hb) (fun b hb=>⟨_,List.mem_of_getElem? (i:=6) rfl,_,nth_mem _ _ (by omega),hb⟩)
  clear h36
  have h37:=h35.sel (L' := [_,_,_,_,_,_,_,_,_,_,_,_,_]) [1,2,0,3,4,5,6,7,8,9,10,11,12] rfl
  have hp38:=h37.sh.passL (Lp:= [_,_,_])
  refine wl_ex (x_call h37 bd_141 rfl rfl rfl rfl rfl (put1_c _ b13 bs34 ((nth x.rows t).regs) _ hp38 (hk.regs t (by omega)) (by show bs34.l.length+66*((nth x.rows t).regs.l).length≤9000000000000;first|omega|(simp only [List.length_cons,List.length_nil];omega)))) (wanted_none rfl _) ?_
  rintro a39 w39 ⟨_,⟨rfl,bs39,hbl39,hs39⟩,hf39⟩
  have hbn39:=congrArg List.length hbl39;rw [List.length_append,by8_len] at hbn39;have hbm39:=putB_len (l:=(nth x.rows t).regs.l) (hk.regs t (by omega))
  try dsimp only at hbn39 hbm39
  try simp only [List.length_cons,List.length_nil] at hbm39
  change Sh _ _ _ [.blk b13 204 [bs39.v], .own 5 bs39, .at_ ((nth x.rows t).regs)] at hs39
  have h39:St _ (fun _=>False) W a39 w39 _ [_,_,_,_,_,_,_,_,_,_,_,_,_]:=⟨hf39,h37.sh.backI (Lp:= [_,_,_]) hs39⟩
  clear hf39 hs39
  clear h37
  refine gG h39<|nK k24<|gL<|gRn (oadN _ 1 om9 rfl<|oM 1 rfl<|.nl)<|nN<|?_;clear h39
  have hnew:=key_step (by rw [PSD.st_len];omega) hbl hbl34 hbl39 (by rw [(psd_th (by omega)).1,toQ_at (by omega)];rfl) (psd_th (by omega)).2.symm
  intro a40 w40 h40
  refine x_again ⟨_, ?_,(t+1),bs39.l,bs39.v, ?_, ?_, ?_,h40.nrm ⟨rfl,rfl,rfl,rfl,rfl,rfl,trivial⟩ [0,5,6,7,8,9,10,11,12,1] rfl,rfl⟩
  · rw [hm18];first|omega|(simp only [lens9];omega)
  · omega
  · exact hnew
  · first|omega|(simp only [List.length_cons,List.length_nil] at*;omega)
 refine gX<|hK k15<|sK fun _ k41=>gRn (oM 1 rfl<|onf fl_173_0 rfl<|olR 1 ti_97 rfl rfl<|oM 1 rfl<|.nl)<|gO [0,9,5,6,7,8,1,2,3,4] rfl<|fun a47 w47 h47=> ?_
 have hp46:=h47.sh.passL (Lp:= [_,_,_,_,_,_])
 refine wl_ex (x_inv2 h47 rfl rfl rfl rfl rfl (hF.tell _ _ x.i x.words x.owner x.q b13 (⟨vb,bl⟩:Ls UInt8) hp46 hk.wl hk.ol hk.ql hk.q3 hk.Rw hk.Ro hk.Rq (by show bl.length≤_;omega))) (wanted_none rfl _) ?_
 rintro a48 w48 ⟨_,⟨rfl,bs48,hbl48,hbn48,hs48⟩,hf48⟩
 try dsimp only at hbn48
 have h48:St _ (fun _=>False) W a48 w48 _ [_,_,_,_,_,_,_,_,_,_]:=⟨hf48,h47.sh.backI (Lp:= [_,_,_,_,_,_]) hs48⟩
 clear hf48 hs48
 clear h47
 refine gG h48<|nK k41<|sK fun _ k49=>gRn (oM 2 rfl<|onf fl_173_3 rfl<|olR 6 ti_23 rfl rfl<|.nl)<|gO [0,1,9,2,3,4,5,6,7,8] rfl<|fun a55 w55 h55=> ?_;clear h48
 have hp54:=h55.sh.passL (Lp:= [_,_,_])
 refine wl_ex (x_call h55 bd_141 rfl rfl rfl rfl rfl (put1_c _ b13 bs48 x.prints _ hp54 hk.pr (by show bs48.l.length+66*x.prints.l.length≤9000000000000;first|omega|(simp only [List.length_cons,List.length_nil];omega)))) (wanted_none rfl _) ?_
 rintro a56 w56 ⟨_,⟨rfl,bs56,hbl56,hs56⟩,hf56⟩
 have hbn56:=congrArg List.length hbl56;rw [List.length_append,by8_len] at hbn56;have hbm56:=putB_len (l:=x.prints.l) hk.pr
 try dsimp only at hbn56 hbm56
 try simp only [List.length_cons,List.length_nil] at hbm56
 change Sh _ _ _ [.blk b13 204 [bs56.v], .own 5 bs56, .at_ x.prints] at hs56
 have h56:St _ (fun _=>False) W a56 w56 _ [_,_,_,_,_,_,_,_,_,_]:=⟨hf56,h55.sh.backI (Lp:= [_,_,_]) hs56⟩
 clear hf56 hs56
 clear h55
 refine gG h56<|nK k49<|?_;clear h56
 have hke:=key_end (show t=x.rows.length by omega) hbl (psd_wait hql) hbl48 hbl56
 refine sG (olB 0 ti_204 rfl rfl<|oV (r_cvStr (s:=bs56) Tryz.underlying204 Tryz.underlying5 Tryz.underlying9 rfl rfl (fun w h=>(h.own 1 rfl)) (show 0<bs56.l.length from (key_pos hke))) rfl<|oM 1 rfl<|.nl)<|gR<|fun a58 w58 h58=>x_ret1 (fn:=Tryz.f101) (t:=2) rfl h58 rfl<|⟨?_,(h58.sh.sel [] rfl)⟩
 rw [show bs56.l=_ from hke];rfl
theorem cloneQ_c (x:Ls ThQ)(W:World)(hx:x.At W)(hl:x.l.length≤100000)(hone:∀r∈x.l,r.rv.oneCell' =true):
    Rets Tryz.prog 154 [x.v] W (fun v w' =>∃s:Ls ThQ,v=s.v∧Sh0 W w' [.own 189 (⟨s.v,x.l⟩:Ls ThQ)]):=by
 refine gen Tryz.func154 Tryz.ntmps154 (Sh0.ext1 hx:Sh (fun _=>False) W W [.at_ x]) rfl fun a10 h10=>gG h10<|sG (oM 1 rfl<|.nl)<|gK fun _ k12=>sG (oM 1 rfl<|oV (r_eqnil (s:=x) sl_171 rfl rfl rfl (fun w h=>(h.at 0 rfl))) rfl<|.nl)<|?_;clear h10
 refine gCb rfl (fun hb14=> ?_) fun hb14=> ?_
 ·skip
  refine sG (oM 1 rfl<|.nl)<|gR<|uT<|fun a16 w16 h16=>x_ret1 (fn:=Tryz.f154) (t:=2) rfl h16 rfl<|⟨⟨.slice none 0 0, []⟩,rfl, ?_⟩
  rw [nilB_nil hx (by assumption)]
  exact (h16.sh.nil (α:=ThQ) 189).sel (L' := [_]) [0] rfl
 refine gS<|hK k12<|sK fun _ k17=>gE1 (fun _ _ h_=>x_lit0 (α:=ThQ) h_ sl_171 ti_189 rfl rfl rfl) rfl fun v18=>gRn (oM 1 rfl<|.nl)<|gE1 (fun _ _ h_=>x_app1 (r:=0) (rm:=1) (s:=(⟨v18, []⟩:Ls ThQ)) (m:=x) h_ sl_171 ti_189 rfl rfl rfl rfl rfl rfl rfl (fun w h=>(h.at 1 rfl)) (fun b hb=> .inr hb) (fun q hq b hb=> .inr ⟨q,hq,hb⟩) rfl rfl rfl (fun w h q hq j hj=>one_thq hone hq hj) (show (([]).length+x.l.length)*32≤140737488355328∧([]).length+x.l.length≤140737488355328 from om9) rfl rfl) rfl fun v19=>gRn (oM 1 rfl<|.nl)<|nK k17<|gR<|fun a20 w20 h20=>x_ret1 (fn:=Tryz.f154) (t:=2) rfl h20 rfl<|⟨⟨v19, []⟩,rfl, ?_⟩
 exact (h20.sh.sel [0] rfl)
theorem sclone_c (F:MemF)(x:PSD F)(W:World)(hF:MemFI Tryz.prog 182 3 204 5 141 F)(hX:x.Rd W)(hk:KeyOK x):
    Rets Tryz.prog 143 [.pointer (some ⟨x.g,0,none⟩)] W (fun v w' =>∃y:PSD F,v= .pointer (some ⟨y.g,0,none⟩)∧y.gp=x.gp∧y.rows.length=x.rows.length∧y.st=x.st∧y.qs=x.qs∧Sh0 W w' y.A):=by
 have hrl:=hk.rl
 have hrl2:(x.rows.map ThR.toQ).length=x.rows.length:=List.length_map _
 have hkp:=hk.pn
 have hone:∀r∈x.rows.map ThR.toQ,r.rv.oneCell' =true:=fun r hr=>by
    obtain ⟨y,hy,rfl⟩:=List.mem_map.1 hr
    exact (hX.row y hy).one
 refine gen Tryz.func143 Tryz.ntmps143 (Sh0.ext (by intro A hA;simp only [List.mem_cons,List.not_mem_nil,or_false] at hA;rcases hA with rfl|rfl|rfl|rfl|rfl|rfl|rfl|rfl;exact hX.blk;exact hX.thr;exact hX.row;exact hX.prints;exact hX.mem.blk;exact hX.mem.wa;exact hX.mem.oa;exact (fun A hA=>by obtain rfl:=List.mem_singleton.1 hA;exact hX.mem.x)) (by intro A hA b hb;simp only [List.mem_cons,List.not_mem_nil,or_false] at hA;rcases hA with rfl|rfl|rfl|rfl|rfl|rfl|rfl|rfl<;>exact hb):Sh (fun _=>False) W W [.rblk x.g 173 [.iface (F.mem x.i).T (.pointer (some (F.mem x.i).u)), .pointer (some ⟨x.gp,0,none⟩),x.vt,x.prints.v, .bool false], .at_ (⟨x.vt,x.rows.map ThR.toQ⟩:Ls ThQ), .rgs x.rows, .at_ x.prints, .rblk (F.mem x.i).g0 182 [x.words.v,x.owner.v], .at_ x.words, .at_ x.owner, .ro [(F.mem x.i).X x.q]]) rfl fun a10 h10=>gG h10<|sG (oM 1 rfl<|.nl)<|sK fun _ k12=>gRn (oM 1 rfl<|onl rfl<|oV (r_ldbwR (vs:= [.iface (F.mem x.i).T (.pointer (some (F.mem x.i).u)), .pointer (some ⟨x.gp,0,none⟩),x.vt,x.prints.v, .bool false]) ti_173 rfl rfl (fun w h=>h.rblk 0 rfl) rfl rfl) rfl<|.nl)<|gal ti_173 rfl fun b13=>gE (fun _ _ h_=>x_stb (i:=0) (vs:= [.iface (F.mem x.i).T (.pointer (some (F.mem x.i).u)), .pointer (some ⟨x.gp,0,none⟩),x.vt,x.prints.v, .bool false]) (cs' := [.iface (F.mem x.i).T (.pointer (some (F.mem x.i).u)), .pointer (some ⟨x.gp,0,none⟩),x.vt,x.prints.v, .bool false]) h_ ti_173 rfl rfl rfl rfl rfl rfl rfl (allOne_cons rfl (allOne_cons rfl (allOne_cons ((h_.sh.at 2 rfl)).one (allOne_cons ((h_.sh.at 4 rfl)).one (allOne_cons rfl allOne_nil))))) (Nat.le_of_ble_eq_true rfl) rfl) rfl<|nK k12<|gK fun _ k15=>gF [0,2,3,5,6,7] rfl<|fun a17 w17 h17=>x_any ((fun Φ Ψ S a w=>(S 4=false∧S 9=false∧S 11=false∧S 13=false∧FrI 45 S Φ Ψ a∧Sh (fun _=>False) W w [.blk b13 173 [.iface (F.mem x.i).T (.pointer (some (F.mem x.i).u)), .pointer (some ⟨x.gp,0,none⟩),x.vt,x.prints.v, .bool false], .rblk x.g 173 [.iface (F.mem x.i).T (.pointer (some (F.mem x.i).u)), .pointer (some ⟨x.gp,0,none⟩),x.vt,x.prints.v, .bool false], .at_ (⟨x.vt,x.rows.map ThR.toQ⟩:Ls ThQ), .rgs x.rows, .at_ x.prints, .rblk (F.mem x.i).g0 182 [x.words.v,x.owner.v], .at_ x.words, .at_ x.owner, .ro [(F.mem x.i).X x.q]])∨(S 4=true∧S 9=false∧S 11=false∧S 13=false∧∃(i7004:F.ι) (mw7004:Ls Int) (mo7004:Ls Int) (q7004:(F.mem i7004).σ),(mw7004.l=x.words.l)∧(mo7004.l=x.owner.l)∧((F.mem i7004).qs q7004=(F.mem x.i).qs x.q)∧FrI 45 S Φ (Ψ++ [(4,12, .iface (F.mem i7004).T (.pointer (some (F.mem i7004).u)))]) a∧Sh (fun _=>False) W w [.blk (F.mem i7004).g0 182 [mw7004.v,mo7004.v], .own 3 mw7004, .own 3 mo7004,(F.mem i7004).X q7004, .blk b13 173 [.iface (F.mem x.i).T (.pointer (some (F.mem x.i).u)), .pointer (some ⟨x.gp,0,none⟩),x.vt,x.prints.v, .bool false], .rblk x.g 173 [.iface (F.mem x.i).T (.pointer (some (F.mem x.i).u)), .pointer (some ⟨x.gp,0,none⟩),x.vt,x.prints.v, .bool false], .at_ (⟨x.vt,x.rows.map ThR.toQ⟩:Ls ThQ), .rgs x.rows, .at_ x.prints, .rblk (F.mem x.i).g0 182 [x.words.v,x.owner.v], .at_ x.words, .at_ x.owner, .ro [(F.mem x.i).X x.q]])∨(S 4=true∧S 9=true∧S 11=false∧S 13=false∧∃(i7004:F.ι) (mw7004:Ls Int) (mo7004:Ls Int) (q7004:(F.mem i7004).σ) (s7009:Ls Int),(mw7004.l=x.words.l)∧(mo7004.l=x.owner.l)∧((F.mem i7004).qs q7004=(F.mem x.i).qs x.q)∧FrI 45 S Φ (Ψ++ [(4,12, .iface (F.mem i7004).T (.pointer (some (F.mem i7004).u))),(9,17,s7009.v),(10,18, .pointer (some ⟨b13,0,none⟩))]) a∧Sh (fun _=>False) W w [.own 3 (⟨s7009.v,x.prints.l⟩:Ls Int), .blk (F.mem i7004).g0 182 [mw7004.v,mo7004.v], .own 3 mw7004, .own 3 mo7004,(F.mem i7004).X q7004, .blk b13 173 [.iface (F.mem x.i).T (.pointer (some (F.mem x.i).u)), .pointer (some ⟨x.gp,0,none⟩),x.vt,x.prints.v, .bool false], .rblk x.g 173 [.iface (F.mem x.i).T (.pointer (some (F.mem x.i).u)), .pointer (some ⟨x.gp,0,none⟩),x.vt,x.prints.v, .bool false], .at_ (⟨x.vt,x.rows.map ThR.toQ⟩:Ls ThQ), .rgs x.rows, .at_ x.prints, .rblk (F.mem x.i).g0 182 [x.words.v,x.owner.v], .at_ x.words, .at_ x.owner, .ro [(F.mem x.i).X x.q]])∨(S 4=true∧S 9=true∧S 11=true∧S 13=false∧∃(i7004:F.ι) (mw7004:Ls Int) (mo7004:Ls Int) (q7004:(F.mem i7004).σ) (s7009:Ls Int),(mw7004.l=x.words.l)∧(mo7004.l=x.owner.l)∧((F.mem i7004).qs q7004=(F.mem x.i).qs x.q)∧FrI 45 S Φ (Ψ++ [(4,12, .iface (F.mem i7004).T (.pointer (some (F.mem i7004).u))),(9,17,s7009.v),(10,18, .pointer (some ⟨b13,0,none⟩)),(12,19, .pointer (some ⟨b13,3,none⟩))]) a∧Sh (fun _=>False) W w [.own 3 (⟨s7009.v,x.prints.l⟩:Ls Int), .blk (F.mem i7004).g0 182 [mw7004.v,mo7004.v], .own 3 mw7004, .own 3 mo7004,(F.mem i7004).X q7004, .blk b13 173 [.iface (F.mem i7004).T (.pointer (some (F.mem i7004).u)), .pointer (some ⟨x.gp,0,none⟩),x.vt,x.prints.v, .bool false], .rblk x.g 173 [.iface (F.mem x.i).T (.pointer (some (F.mem x.i).u)), .pointer (some ⟨x.gp,0,none⟩),x.vt,x.prints.v, .bool false], .at_ (⟨x.vt,x.rows.map ThR.toQ⟩:Ls ThQ), .rgs x.rows, .at_ x.prints, .rblk (F.mem x.i).g0 182 [x.words.v,x.owner.v], .at_ x.words, .at_ x.owner, .ro [(F.mem x.i).X x.q]])∨(S 4=true∧S 9=true∧S 11=true∧S 13=true∧∃(i7004:F.ι) (mw7004:Ls Int) (mo7004:Ls Int) (q7004:(F.mem i7004).σ) (s7009:Ls Int),(mw7004.l=x.words.l)∧(mo7004.l=x.owner.l)∧((F.mem i7004).qs q7004=(F.mem x.i).qs x.q)∧FrI 45 S Φ (Ψ++ [(4,12, .iface (F.mem i7004).T (.pointer (some (F.mem i7004).u))),(9,17,s7009.v),(10,18, .pointer (some ⟨b13,0,none⟩)),(12,19, .pointer (some ⟨b13,3,none⟩))]) a∧Sh (fun _=>False) W w [.own 3 (⟨s7009.v,x.prints.l⟩:Ls Int), .blk (F.mem i7004).g0 182 [mw7004.v,mo7004.v], .own 3 mw7004, .own 3 mo7004,(F.mem i7004).X q7004, .blk b13 173 [.iface (F.mem i7004).T (.pointer (some (F.mem i7004).u)), .pointer (some ⟨x.gp,0,none⟩),x.vt,s7009.v, .bool false], .rblk x.g 173 [.iface (F.mem x.i).T (.pointer (some (F.mem x.i).u)), .pointer (some ⟨x.gp,0,none⟩),x.vt,x.prints.v, .bool false], .at_ (⟨x.vt,x.rows.map ThR.toQ⟩:Ls ThQ), .rgs x.rows, .at_ x.prints, .rblk (F.mem x.i).g0 182 [x.words.v,x.owner.v], .at_ x.words, .at_ x.owner, .ro [(F.mem x.i).X x.q]])) [(0, .pointer (some ⟨x.g,0,none⟩)),(2, .pointer none),(3, .pointer (some ⟨b13,0,none⟩)),(5, .pointer (some ⟨x.g,0,none⟩)),(6, .pointer (some ⟨x.g,0,none⟩)),(7, .agg #[.iface (F.mem x.i).T (.pointer (some (F.mem x.i).u)), .pointer (some ⟨x.gp,0,none⟩),x.vt,x.prints.v, .bool false])] [(0,8, .pointer (some ⟨x.g,0,none⟩)),(1,9, .pointer (some ⟨x.g,0,none⟩)),(2,10, .pointer (some ⟨x.g,0,none⟩)),(3,11, .iface (F.mem x.i).T (.pointer (some (F.mem x.i).u))),(5,13, .pointer (some ⟨x.g,0,none⟩)),(6,14, .pointer (some ⟨x.g,0,none⟩)),(7,15, .pointer (some ⟨x.g,3,none⟩)),(8,16,x.prints.v)]) (by kernel_rfl) (by kernel_rfl) (Or.inl (⟨rfl,rfl,rfl,rfl,FrI.start h17.fr,h17.sh.drew⟩)) ?_ ?_;clear h10
 ·intro S i o ho hSi hcl hdep a w hI
  clear h17
  rcases i with _|_|_|_|_|_|_|_|_|_|_|_|_|_|i
  ·obtain rfl:_=o:=Option.some.inj ho
   rcases hI with ⟨ν4,ν9,ν11,ν13,φ,ς⟩|⟨ν4,_⟩|⟨ν4,_⟩|⟨ν4,_⟩|⟨ν4,_⟩
   ·exact sq φ φ.fr0 ς (r_move rfl rfl) 0 rfl rfl rfl rfl rfl rfl fun a hg=>Or.inl (⟨un rfl ν4,un rfl ν9,un rfl ν11,un rfl ν13,hg,ς⟩)
   ·exact no_way (cA hcl 4 0 rfl ν4) hSi
   ·exact no_way (cA hcl 4 0 rfl ν4) hSi
   ·exact no_way (cA hcl 4 0 rfl ν4) hSi
   ·exact no_way (cA hcl 4 0 rfl ν4) hSi
  ·obtain rfl:_=o:=Option.some.inj ho
   have hd0:S 0=true:=depAt hdep 0 rfl rfl
   rcases hI with ⟨ν4,ν9,ν11,ν13,φ,ς⟩|⟨ν4,_⟩|⟨ν4,_⟩|⟨ν4,_⟩|⟨ν4,_⟩
   ·exact sq φ (Fr.cons φ.fr0 (φ.at_ 0 0 8 _ rfl hd0)) ς (r_nil rfl rfl) 1 rfl rfl rfl rfl rfl rfl fun a hg=>Or.inl (⟨un rfl ν4,un rfl ν9,un rfl ν11,un rfl ν13,hg,ς⟩)
   ·exact no_way (cA hcl 4 1 rfl ν4) hSi
   ·exact no_way (cA hcl 4 1 rfl ν4) hSi
   ·exact no_way (cA hcl 4 1 rfl ν4) hSi
   ·exact no_way (cA hcl 4 1 rfl ν4) hSi
  ·obtain rfl:_=o:=Option.some.inj ho
   have hd1:S 1=true:=depAt hdep 0 rfl rfl
   rcases hI with ⟨ν4,ν9,ν11,ν13,φ,ς⟩|⟨ν4,_⟩|⟨ν4,_⟩|⟨ν4,_⟩|⟨ν4,_⟩
   ·exact sq φ (Fr.cons φ.fr0 (φ.at_ 1 1 9 _ rfl hd1)) ς (r_fieldB (r:=0) fl_173_0 rfl rfl rfl) 2 rfl rfl rfl rfl rfl rfl fun a hg=>Or.inl (⟨un rfl ν4,un rfl ν9,un rfl ν11,un rfl ν13,hg,ς⟩)
   ·exact no_way (cA hcl 4 2 rfl ν4) hSi
   ·exact no_way (cA hcl 4 2 rfl ν4) hSi
   ·exact no_way (cA hcl 4 2 rfl ν4) hSi
   ·exact no_way (cA hcl 4 2 rfl ν4) hSi
  ·obtain rfl:_=o:=Option.some.inj ho
   have hd2:S 2=true:=depAt hdep 0 rfl rfl
   rcases hI with ⟨ν4,ν9,ν11,ν13,φ,ς⟩|⟨ν4,_⟩|⟨ν4,_⟩|⟨ν4,_⟩|⟨ν4,_⟩
   ·exact sq φ (Fr.cons φ.fr0 (φ.at_ 2 2 10 _ rfl hd2)) ς (r_ldbR ti_97 rfl rfl (fun w h=>h.rblk 1 rfl) rfl) 3 rfl rfl rfl rfl rfl rfl fun a hg=>Or.inl (⟨un rfl ν4,un rfl ν9,un rfl ν11,un rfl ν13,hg,ς⟩)
   ·exact no_way (cA hcl 4 3 rfl ν4) hSi
   ·exact no_way (cA hcl 4 3 rfl ν4) hSi
   ·exact no_way (cA hcl 4 3 rfl ν4) hSi
   ·exact no_way (cA hcl 4 3 rfl ν4) hSi
  ·obtain rfl:_=o:=Option.some.inj ho
   have hd3:S 3=true:=depAt hdep 0 rfl rfl
   rcases hI with ⟨ν4,ν9,ν11,ν13,φ,ς⟩|⟨ν4,_⟩|⟨ν4,_⟩|⟨ν4,_⟩|⟨ν4,_⟩
   ·have hs:=St.mk (Fr.cons φ.fr0 (φ.at_ 3 3 11 _ rfl hd3)) ς
    refine step_ex (x_inv2 hs rfl rfl rfl rfl rfl (hF.copy _ x.i x.words x.owner x.q ⟨hs.sh.rblk 5 rfl,hs.sh.at 6 rfl,hs.sh.at 7 rfl,(hs.sh.ok _ (List.mem_of_getElem? (i:=8) rfl)) _ (List.mem_singleton.2 rfl)⟩ hk.wl hk.ol hk.ql hk.q3)) (wanted_none rfl _) ?_
    rintro a23 w23 ⟨_,⟨i23,mw23,mo23,q23,rfl,hmw23,hmo23,hq23,hs23⟩,hf23⟩ ⟨v0,ht23⟩
    have h23:=(⟨hf23,hs.sh.call hs23 (by intro A hA b hb;simp only [memA,List.mem_cons,List.not_mem_nil,or_false] at hA;first|(subst hA;exact Flat.noRd hb)|(rcases hA with rfl|rfl|rfl|rfl<;>first|exact (hb:False).elim|exact Flat.noRd hb|exact ((hF.ok _).xrd _ _ hb).elim))⟩:St 45 (fun _=>False) W a23 w23 _ _)
    clear hf23 hs23
    exact Or.inr (Or.inl (⟨upd_self _ _,un rfl ν9,un rfl ν11,un rfl ν13,i23,mw23,mo23,q23,hmw23,hmo23,hq23,φ.stepW hcl hSi [0,1,2,3,4,5,6,7] (by kernel_rfl) (by kernel_rfl) ht23 h23.fr.defers (h23.fr.at_ 12 _ rfl) 8 rfl rfl rfl rfl,(h23.sh.sel [0,1,2,3,4,5,6,7,8,9,10,11,12] rfl)⟩))
   ·exact no_way ν4 hSi
   ·exact no_way ν4 hSi
   ·exact no_way ν4 hSi
   ·exact no_way ν4 hSi
  ·obtain rfl:_=o:=Option.some.inj ho
   rcases hI with ⟨ν4,ν9,ν11,ν13,φ,ς⟩|⟨ν4,ν9,ν11,ν13,i7004,mw7004,mo7004,q7004,hmw7004,hmo7004,hq7004,φ,ς⟩|⟨_,ν9,_⟩|⟨_,ν9,_⟩|⟨_,ν9,_⟩
   ·exact sq φ φ.fr0 ς (r_move rfl rfl) 4 rfl rfl rfl rfl rfl rfl fun a hg=>Or.inl (⟨un rfl ν4,un rfl ν9,un rfl ν11,un rfl ν13,hg,ς⟩)
   ·exact sq φ φ.fr0 ς (r_move rfl rfl) 4 rfl rfl rfl rfl rfl rfl fun a hg=>Or.inr (Or.inl (⟨un rfl ν4,un rfl ν9,un rfl ν11,un rfl ν13,i7004,mw7004,mo7004,q7004,hmw7004,hmo7004,hq7004,hg,ς⟩))
   ·exact no_way (cA hcl 9 5 rfl ν9) hSi
   ·exact no_way (cA hcl 9 5 rfl ν9) hSi
   ·exact no_way (cA hcl 9 5 rfl ν9) hSi
  ·obtain rfl:_=o:=Option.some.inj ho
   have hd5:S 5=true:=depAt hdep 0 rfl rfl
   rcases hI with ⟨ν4,ν9,ν11,ν13,φ,ς⟩|⟨ν4,ν9,ν11,ν13,i7004,mw7004,mo7004,q7004,hmw7004,hmo7004,hq7004,φ,ς⟩|⟨_,ν9,_⟩|⟨_,ν9,_⟩|⟨_,ν9,_⟩
   ·exact sq φ (Fr.cons φ.fr0 (φ.at_ 4 5 13 _ rfl hd5)) ς (r_nil rfl rfl) 5 rfl rfl rfl rfl rfl rfl fun a hg=>Or.inl (⟨un rfl ν4,un rfl ν9,un rfl ν11,un rfl ν13,hg,ς⟩)
   ·exact sq φ (Fr.cons φ.fr0 (φ.at_ 4 5 13 _ rfl hd5)) ς (r_nil rfl rfl) 5 rfl rfl rfl rfl rfl rfl fun a hg=>Or.inr (Or.inl (⟨un rfl ν4,un rfl ν9,un rfl ν11,un rfl ν13,i7004,mw7004,mo7004,q7004,hmw7004,hmo7004,hq7004,hg,ς⟩))
   ·exact no_way (cA hcl 9 6 rfl ν9) hSi
   ·exact no_way (cA hcl 9 6 rfl ν9) hSi
   ·exact no_way (cA hcl 9 6 rfl ν9) hSi
  ·obtain rfl:_=o:=Option.some.inj ho
   have hd6:S 6=true:=depAt hdep 0 rfl rfl
   rcases hI with ⟨ν4,ν9,ν11,ν13,φ,ς⟩|⟨ν4,ν9,ν11,ν13,i7004,mw7004,mo7004,q7004,hmw7004,hmo7004,hq7004,φ,ς⟩|⟨_,ν9,_⟩|⟨_,ν9,_⟩|⟨_,ν9,_⟩
   ·exact sq φ (Fr.cons φ.fr0 (φ.at_ 5 6 14 _ rfl hd6)) ς (r_fieldB (r:=3) fl_173_3 rfl rfl rfl) 6 rfl rfl rfl rfl rfl rfl fun a hg=>Or.inl (⟨un rfl ν4,un rfl ν9,un rfl ν11,un rfl ν13,hg,ς⟩)
   ·exact sq φ (Fr.cons φ.fr0 (φ.at_ 5 6 14 _ rfl hd6)) ς (r_fieldB (r:=3) fl_173_3 rfl rfl rfl) 6 rfl rfl rfl rfl rfl rfl fun a hg=>Or.inr (Or.inl (⟨un rfl ν4,un rfl ν9,un rfl ν11,un rfl ν13,i7004,mw7004,mo7004,q7004,hmw7004,hmo7004,hq7004,hg,ς⟩))
   ·exact no_way (cA hcl 9 7 rfl ν9) hSi
   ·exact no_way (cA hcl 9 7 rfl ν9) hSi
   ·exact no_way (cA hcl 9 7 rfl ν9) hSi
  ·obtain rfl:_=o:=Option.some.inj ho
   have hd7:S 7=true:=depAt hdep 0 rfl rfl
   rcases hI with ⟨ν4,ν9,ν11,ν13,φ,ς⟩|⟨ν4,ν9,ν11,ν13,i7004,mw7004,mo7004,q7004,hmw7004,hmo7004,hq7004,φ,ς⟩|⟨_,ν9,_⟩|⟨_,ν9,_⟩|⟨_,ν9,_⟩
   ·exact sq φ (Fr.cons φ.fr0 (φ.at_ 6 7 15 _ rfl hd7)) ς (r_ldbR ti_23 rfl rfl (fun w h=>h.rblk 1 rfl) rfl) 7 rfl rfl rfl rfl rfl rfl fun a hg=>Or.inl (⟨un rfl ν4,un rfl ν9,un rfl ν11,un rfl ν13,hg,ς⟩)
   ·exact sq φ (Fr.cons φ.fr0 (φ.at_ 6 7 15 _ rfl hd7)) ς (r_ldbR ti_23 rfl rfl (fun w h=>h.rblk 5 rfl) rfl) 7 rfl rfl rfl rfl rfl rfl fun a hg=>Or.inr (Or.inl (⟨un rfl ν4,un rfl ν9,un rfl ν11,un rfl ν13,i7004,mw7004,mo7004,q7004,hmw7004,hmo7004,hq7004,hg,ς⟩))
   ·exact no_way (cA hcl 9 8 rfl ν9) hSi
   ·exact no_way (cA hcl 9 8 rfl ν9) hSi
   ·exact no_way (cA hcl 9 8 rfl ν9) hSi
  ·obtain rfl:_=o:=Option.some.inj ho
   have hd8:S 8=true:=depAt hdep 0 rfl rfl
   have hd4:S 4=true:=depAt hdep 1 rfl rfl
   rcases hI with ⟨ν4,_⟩|⟨ν4,ν9,ν11,ν13,i7004,mw7004,mo7004,q7004,hmw7004,hmo7004,hq7004,φ,ς⟩|⟨_,ν9,_⟩|⟨_,ν9,_⟩|⟨_,ν9,_⟩
   ·exact no_way hd4 ν4
   ·have hs:=St.mk (Fr.cons φ.fr0 (φ.at_ 7 8 16 _ rfl hd8)) ς
    refine step_ex (x_call hs bd_44 rfl rfl rfl rfl rfl (cloneI_c x.prints _ (hs.sh.at 8 rfl) (by first|omega|(simp only [lens9];omega)))) (wanted_none rfl _) ?_
    rintro a32 w32 ⟨_,⟨s32,rfl,hs32⟩,hf32⟩ ⟨v0,ht32⟩
    have h32:=(⟨hf32,hs.sh.call hs32 (by intro A hA b hb;simp only [memA,List.mem_cons,List.not_mem_nil,or_false] at hA;first|(subst hA;exact Flat.noRd hb)|(rcases hA with rfl|rfl|rfl|rfl<;>first|exact (hb:False).elim|exact Flat.noRd hb|exact ((hF.ok _).xrd _ _ hb).elim))⟩:St 45 (fun _=>False) W a32 w32 _ _)
    clear hf32 hs32
    exact Or.inr (Or.inr (Or.inl (⟨un rfl ν4,upd_self _ _,un rfl ν11,un rfl ν13,i7004,mw7004,mo7004,q7004,s32,hmw7004,hmo7004,hq7004,φ.stepW hcl hSi [0,1,2,3,4,5,6,7,8] (by kernel_rfl) (by kernel_rfl) ht32 h32.fr.defers (h32.fr.at_ 17 _ rfl) 9 rfl rfl rfl rfl,(h32.sh.sel [0,1,2,3,4,5,6,7,8,9,10,11,12,13] rfl)⟩)))
   ·exact no_way ν9 hSi
   ·exact no_way ν9 hSi
   ·exact no_way ν9 hSi
  ·obtain rfl:_=o:=Option.some.inj ho
   have hd4:S 4=true:=depAt hdep 4 rfl rfl
   have hd9:S 9=true:=depAt hdep 9 rfl rfl
   rcases hI with ⟨ν4,_⟩|⟨_,ν9,_⟩|⟨ν4,ν9,ν11,ν13,i7004,mw7004,mo7004,q7004,s7009,hmw7004,hmo7004,hq7004,φ,ς⟩|⟨_,_,ν11,_⟩|⟨_,_,ν11,_⟩
   ·exact no_way hd4 ν4
   ·exact no_way hd9 ν9
   ·exact sq φ φ.fr0 ς (r_fieldB (r:=0) fl_173_0 rfl rfl rfl) 10 rfl rfl rfl rfl rfl rfl fun a hg=>Or.inr (Or.inr (Or.inl (⟨un rfl ν4,un rfl ν9,un rfl ν11,un rfl ν13,i7004,mw7004,mo7004,q7004,s7009,hmw7004,hmo7004,hq7004,hg,ς⟩)))
   ·exact no_way (cA hcl 11 10 rfl ν11) hSi
   ·exact no_way (cA hcl 11 10 rfl ν11) hSi
  ·obtain rfl:_=o:=Option.some.inj ho
   have hd10:S 10=true:=depAt hdep 0 rfl rfl
   have hd4:S 4=true:=depAt hdep 1 rfl rfl
   have hd9:S 9=true:=depAt hdep 2 rfl rfl
   rcases hI with ⟨ν4,_⟩|⟨_,ν9,_⟩|⟨ν4,ν9,ν11,ν13,i7004,mw7004,mo7004,q7004,s7009,hmw7004,hmo7004,hq7004,φ,ς⟩|⟨_,_,ν11,_⟩|⟨_,_,ν11,_⟩
   ·exact no_way hd4 ν4
   ·exact no_way hd9 ν9
   ·have hs:=St.mk (Fr.cons (Fr.cons φ.fr0 (φ.at_ 8 4 12 _ rfl hd4)) (φ.at_ 10 10 18 _ rfl hd10)) ς
    refine step_ex (x_stb (i:=5) (vs:= [.iface (F.mem i7004).T (.pointer (some (F.mem i7004).u))]) (cs' := [.iface (F.mem i7004).T (.pointer (some (F.mem i7004).u)), .pointer (some ⟨x.gp,0,none⟩),x.vt,x.prints.v, .bool false]) hs ti_97 rfl rfl rfl rfl rfl rfl rfl (allOne_cons rfl allOne_nil) (Nat.le_of_ble_eq_true rfl) rfl) (wanted_none rfl _) ?_
    rintro a34 w34 h34 ⟨v0,ht34⟩
    exact Or.inr (Or.inr (Or.inr (Or.inl (⟨un rfl ν4,un rfl ν9,upd_self _ _,un rfl ν13,i7004,mw7004,mo7004,q7004,s7009,hmw7004,hmo7004,hq7004,φ.noneW hcl hSi [0,1,2,3,4,5,6,7,8,9,10] (by kernel_rfl) (by kernel_rfl) ht34 h34.fr.defers rfl,(h34.sh.sel [0,1,2,3,4,5,6,7,8,9,10,11,12,13] rfl)⟩))))
   ·exact no_way ν11 hSi
   ·exact no_way ν11 hSi
  ·obtain rfl:_=o:=Option.some.inj ho
   have hd4:S 4=true:=depAt hdep 4 rfl rfl
   have hd9:S 9=true:=depAt hdep 9 rfl rfl
   have hd11:S 11=true:=depAt hdep 11 rfl rfl
   rcases hI with ⟨ν4,_⟩|⟨_,ν9,_⟩|⟨_,_,ν11,_⟩|⟨ν4,ν9,ν11,ν13,i7004,mw7004,mo7004,q7004,s7009,hmw7004,hmo7004,hq7004,φ,ς⟩|⟨_,_,_,ν13,_⟩
   ·exact no_way hd4 ν4
   ·exact no_way hd9 ν9
   ·exact no_way hd11 ν11
   ·exact sq φ φ.fr0 ς (r_fieldB (r:=3) fl_173_3 rfl rfl rfl) 11 rfl rfl rfl rfl rfl rfl fun a hg=>Or.inr (Or.inr (Or.inr (Or.inl (⟨un rfl ν4,un rfl ν9,un rfl ν11,un rfl ν13,i7004,mw7004,mo7004,q7004,s7009,hmw7004,hmo7004,hq7004,hg,ς⟩))))
   ·exact no_way (cA hcl 13 12 rfl ν13) hSi
  ·obtain rfl:_=o:=Option.some.inj ho
   have hd12:S 12=true:=depAt hdep 0 rfl rfl
   have hd9:S 9=true:=depAt hdep 1 rfl rfl
   have hd11:S 11=true:=depAt hdep 2 rfl rfl
   have hd4:S 4=true:=depAt hdep 7 rfl rfl
   rcases hI with ⟨ν4,_⟩|⟨_,ν9,_⟩|⟨_,_,ν11,_⟩|⟨ν4,ν9,ν11,ν13,i7004,mw7004,mo7004,q7004,s7009,hmw7004,hmo7004,hq7004,φ,ς⟩|⟨_,_,_,ν13,_⟩
   ·exact no_way hd4 ν4
   ·exact no_way hd9 ν9
   ·exact no_way hd11 ν11
   ·have hs:=St.mk (Fr.cons (Fr.cons φ.fr0 (φ.at_ 9 9 17 _ rfl hd9)) (φ.at_ 11 12 19 _ rfl hd12)) ς
    refine step_ex (x_stb (i:=5) (vs:= [s7009.v]) (cs' := [.iface (F.mem i7004).T (.pointer (some (F.mem i7004).u)), .pointer (some ⟨x.gp,0,none⟩),x.vt,s7009.v, .bool false]) hs ti_23 rfl rfl rfl rfl rfl (cells_oneL ((hs.sh.own 0 rfl)).one) rfl (allOne_cons ((hs.sh.own 0 rfl)).one allOne_nil) (Nat.le_of_ble_eq_true rfl) rfl) (wanted_none rfl _) ?_
    rintro a36 w36 h36 ⟨v0,ht36⟩
    exact Or.inr (Or.inr (Or.inr (Or.inr (⟨un rfl ν4,un rfl ν9,un rfl ν11,upd_self _ _,i7004,mw7004,mo7004,q7004,s7009,hmw7004,hmo7004,hq7004,φ.noneW hcl hSi [0,1,2,3,4,5,6,7,8,9,10,11] (by kernel_rfl) (by kernel_rfl) ht36 h36.fr.defers rfl,(h36.sh.sel [0,1,2,3,4,5,6,7,8,9,10,11,12,13] rfl)⟩))))
   ·exact no_way ν13 hSi
  · simp at ho
 intro S hall a w hI
 clear h17
 rcases hI with ⟨ν4,ν9,ν11,ν13,φ,ς⟩|⟨ν4,ν9,ν11,ν13,i7004,mw7004,mo7004,q7004,hmw7004,hmo7004,hq7004,φ,ς⟩|⟨ν4,ν9,ν11,ν13,i7004,mw7004,mo7004,q7004,s7009,hmw7004,hmo7004,hq7004,φ,ς⟩|⟨ν4,ν9,ν11,ν13,i7004,mw7004,mo7004,q7004,s7009,hmw7004,hmo7004,hq7004,φ,ς⟩|⟨ν4,ν9,ν11,ν13,i7004,mw7004,mo7004,q7004,s7009,hmw7004,hmo7004,hq7004,φ,ς⟩
 · exact no_way (hall 4 (by decide)) ν4
 · exact no_way (hall 9 (by decide)) ν9
 · exact no_way (hall 11 (by decide)) ν11
 · exact no_way (hall 13 (by decide)) ν13
 have h37:St 45 (fun _=>False) W a w _ _:=⟨φ.fr0,ς⟩
 clear hall φ ς ν4 ν9 ν11 ν13
 refine gG h37<|hK k15<|sK fun _ k38=>gRn (oM 1 rfl<|onf fl_173_2 rfl<|olR 6 ti_171 rfl rfl<|.nl)<|fun a40 w40 h40=>wl_ex (x_call h40 bd_154 rfl rfl rfl rfl rfl (cloneQ_c (⟨x.vt,x.rows.map ThR.toQ⟩:Ls ThQ) _ (h40.sh.at 7 rfl) (by first|omega|(simp only [lens9];omega)) hone)) (wanted_none rfl _) ?_;clear h37
 rintro a41 w41 ⟨_,⟨s41,rfl,hs41⟩,hf41⟩
 have h41:=(⟨hf41,h40.sh.call hs41 (by intro A hA b hb;simp only [memA,List.mem_cons,List.not_mem_nil,or_false] at hA;first|(subst hA;exact Flat.noRd hb)|(rcases hA with rfl|rfl|rfl|rfl<;>first|exact (hb:False).elim|exact Flat.noRd hb|exact ((hF.ok _).xrd _ _ hb).elim))⟩:St 45 (fun _=>False) W a41 w41 _ _)
 clear hf41 hs41
 clear h40
 refine gG h41<|gRn (ofB fl_173_2 rfl<|.nl)<|gsr 6 ti_171 rfl (aO 0 rfl) rfl<|nK k38<|gK fun _ k43=>sK fun _ k44=>gNl (aO 0 rfl) fun (hl45:(x.rows.map ThR.toQ).length≤140737488355328)=>gRn (ofB fl_173_2 rfl<|olB 6 ti_171 rfl rfl<|oln (n:=(x.rows.map ThR.toQ).length) sl_171 (aO 0 rfl) rfl<|oM 1 rfl<|.nl)<|nK k44<|gB<|fun a48 w48 h48=> ?_;clear h41
 have h47:=h48.bigR0 3
 clear h48
 have h49:=h47.relist (i:=1) (l' :=([]:List ThR).map ThR.toQ++(x.rows.drop 0).map ThR.toQ) rfl (by simp)
 clear h47
 refine x_loop (fun m a w=>∃(t:Nat) (M:List ThR) (vt:Value),(t≤x.rows.length)∧(M.length=t)∧(M.map (fun r=>(r.pc,r.regs.l))=(x.rows.take t).map (fun r=>(r.pc,r.regs.l)))∧St 45 (fun _=>False) W a w [(3, .pointer (some ⟨b13,0,none⟩)),(28, .int .i64 (((x.rows.map ThR.toQ).length:Nat):Int)),(29, .int .i64 ((t:Nat):Int))] [.own 189 (⟨vt,(M.map ThR.toQ++(x.rows.drop t).map ThR.toQ)⟩:Ls ThQ), .own 3 (⟨s7009.v,x.prints.l⟩:Ls Int), .blk (F.mem i7004).g0 182 [mw7004.v,mo7004.v], .own 3 mw7004, .own 3 mo7004,(F.mem i7004).X q7004, .blk b13 173 [.iface (F.mem i7004).T (.pointer (some (F.mem i7004).u)), .pointer (some ⟨x.gp,0,none⟩),vt,s7009.v, .bool false], .rblk x.g 173 [.iface (F.mem x.i).T (.pointer (some (F.mem x.i).u)), .pointer (some ⟨x.gp,0,none⟩),x.vt,x.prints.v, .bool false], .at_ (⟨x.vt,x.rows.map ThR.toQ⟩:Ls ThQ), .rgs x.rows, .at_ x.prints, .rblk (F.mem x.i).g0 182 [x.words.v,x.owner.v], .at_ x.words, .at_ x.owner, .ro [(F.mem x.i).X x.q], .big (regA 3 M)]∧m=x.rows.length-t) ⟨_,0, [],_,(by omega),(rfl),(rfl),h49.nrm ⟨rfl,rfl,rfl,trivial⟩ [1,2,3,4,5,6,7,8,9,10,11,12,13,14,15,0] rfl,rfl⟩ ?_
 clear h49
 rintro m46 a46 w46 ⟨t,M,vt,ht,hMl,hM9,h46,hm46⟩
 have hln:(M.map ThR.toQ++(x.rows.drop t).map ThR.toQ).length=x.rows.length:=by rw [List.length_append,List.length_map,List.length_map,List.length_drop];omega
 refine gG h46<|sG (oltN _ _ rfl<|.nl)<|gK fun _ k51=>gcd rfl (fun hb52 hp52=> ?_) fun hb52 hp52=> ?_;clear h46
 ·skip
  refine gS<|hK k51<|gK fun _ k53=>gB<|sG (oM 2 rfl<|.nl)<|gF [3,4,28,29,30,31] rfl<|fun a56 w56 h56=>x_any ((fun Φ Ψ S a w=>(S 9=false∧S 12=false∧FrI 45 S Φ Ψ a∧Sh (fun _=>False) W w [.own 189 (⟨vt,(M.map ThR.toQ++(x.rows.drop t).map ThR.toQ)⟩:Ls ThQ), .own 3 (⟨s7009.v,x.prints.l⟩:Ls Int), .blk (F.mem i7004).g0 182 [mw7004.v,mo7004.v], .own 3 mw7004, .own 3 mo7004,(F.mem i7004).X q7004, .blk b13 173 [.iface (F.mem i7004).T (.pointer (some (F.mem i7004).u)), .pointer (some ⟨x.gp,0,none⟩),vt,s7009.v, .bool false], .rblk x.g 173 [.iface (F.mem x.i).T (.pointer (some (F.mem x.i).u)), .pointer (some ⟨x.gp,0,none⟩),x.vt,x.prints.v, .bool false], .at_ (⟨x.vt,x.rows.map ThR.toQ⟩:Ls ThQ), .rgs x.rows, .at_ x.prints, .rblk (F.mem x.i).g0 182 [x.words.v,x.owner.v], .at_ x.words, .at_ x.owner, .ro [(F.mem x.i).X x.q], .big (regA 3 M)])∨(S 9=true∧S 12=false∧∃(s7109:Ls Int),FrI 45 S Φ (Ψ++ [(9,41,s7109.v),(10,42, .pointer (some (padr vt 2 t 0))),(11,43, .pointer (some (padr vt 2 t 1)))]) a∧Sh (fun _=>False) W w [.own 3 (⟨s7109.v,(nth x.rows t).regs.l⟩:Ls Int), .own 189 (⟨vt,(M.map ThR.toQ++(x.rows.drop t).map ThR.toQ)⟩:Ls ThQ), .own 3 (⟨s7009.v,x.prints.l⟩:Ls Int), .blk (F.mem i7004).g0 182 [mw7004.v,mo7004.v], .own 3 mw7004, .own 3 mo7004,(F.mem i7004).X q7004, .blk b13 173 [.iface (F.mem i7004).T (.pointer (some (F.mem i7004).u)), .pointer (some ⟨x.gp,0,none⟩),vt,s7009.v, .bool false], .rblk x.g 173 [.iface (F.mem x.i).T (.pointer (some (F.mem x.i).u)), .pointer (some ⟨x.gp,0,none⟩),x.vt,x.prints.v, .bool false], .at_ (⟨x.vt,x.rows.map ThR.toQ⟩:Ls ThQ), .rgs x.rows, .at_ x.prints, .rblk (F.mem x.i).g0 182 [x.words.v,x.owner.v], .at_ x.words, .at_ x.owner, .ro [(F.mem x.i).X x.q], .big (regA 3 M)])∨(S 9=true∧S 12=true∧∃(s7109:Ls Int),FrI 45 S Φ (Ψ++ [(9,41,s7109.v),(10,42, .pointer (some (padr vt 2 t 0))),(11,43, .pointer (some (padr vt 2 t 1)))]) a∧Sh (fun _=>False) W w [.own 3 (⟨s7109.v,(nth x.rows t).regs.l⟩:Ls Int), .own 189 (⟨vt,(M.map ThR.toQ++(x.rows.drop t).map ThR.toQ).set t ({ nth (M.map ThR.toQ++(x.rows.drop t).map ThR.toQ) t with rv:=s7109.v })⟩:Ls ThQ), .own 3 (⟨s7009.v,x.prints.l⟩:Ls Int), .blk (F.mem i7004).g0 182 [mw7004.v,mo7004.v], .own 3 mw7004, .own 3 mo7004,(F.mem i7004).X q7004, .blk b13 173 [.iface (F.mem i7004).T (.pointer (some (F.mem i7004).u)), .pointer (some ⟨x.gp,0,none⟩),vt,s7009.v, .bool false], .rblk x.g 173 [.iface (F.mem x.i).T (.pointer (some (F.mem x.i).u)), .pointer (some ⟨x.gp,0,none⟩),x.vt,x.prints.v, .bool false], .at_ (⟨x.vt,x.rows.map ThR.toQ⟩:Ls ThQ), .rgs x.rows, .at_ x.prints, .rblk (F.mem x.i).g0 182 [x.words.v,x.owner.v], .at_ x.words, .at_ x.owner, .ro [(F.mem x.i).X x.q], .big (regA 3 M)])) [(3, .pointer (some ⟨b13,0,none⟩)),(4, .int .i64 ((t:Nat):Int)),(28, .int .i64 (((x.rows.map ThR.toQ).length:Nat):Int)),(29, .int .i64 ((t:Nat):Int)),(30, .bool (decide (t<(x.rows.map ThR.toQ).length))),(31, .int .i64 ((t:Nat):Int))] [(0,32, .pointer (some ⟨b13,2,none⟩)),(1,33,vt),(2,34, .int .i64 ((t:Nat):Int)),(3,35, .pointer (some ⟨b13,2,none⟩)),(4,36,vt),(5,37, .int .i64 ((t:Nat):Int)),(6,38, .pointer (some (padr vt 2 t 0))),(7,39, .pointer (some (padr vt 2 t 1))),(8,40,(nth x.rows t).regs.v)]) (by kernel_rfl) (by kernel_rfl) (Or.inl (⟨rfl,rfl,FrI.start h56.fr,h56.sh.drew⟩)) ?_ ?_
  ·intro S i o ho hSi hcl hdep a w hI
   clear h56
   rcases i with _|_|_|_|_|_|_|_|_|_|_|_|_|i
   ·obtain rfl:_=o:=Option.some.inj ho
    rcases hI with ⟨ν9,ν12,φ,ς⟩|⟨ν9,ν12,s7109,φ,ς⟩|⟨_,ν12,_⟩
    ·exact sq φ φ.fr0 ς (r_fieldB (r:=2) fl_173_2 rfl rfl rfl) 0 rfl rfl rfl rfl rfl rfl fun a hg=>Or.inl (⟨un rfl ν9,un rfl ν12,hg,ς⟩)
    ·exact sq φ φ.fr0 ς (r_fieldB (r:=2) fl_173_2 rfl rfl rfl) 0 rfl rfl rfl rfl rfl rfl fun a hg=>Or.inr (Or.inl (⟨un rfl ν9,un rfl ν12,s7109,hg,ς⟩))
    ·exact no_way (cA hcl 12 0 rfl ν12) hSi
   ·obtain rfl:_=o:=Option.some.inj ho
    have hd0:S 0=true:=depAt hdep 0 rfl rfl
    rcases hI with ⟨ν9,ν12,φ,ς⟩|⟨ν9,ν12,s7109,φ,ς⟩|⟨_,ν12,_⟩
    ·exact sq φ (Fr.cons φ.fr0 (φ.at_ 0 0 32 _ rfl hd0)) ς (r_ldb (i:=6) ti_171 rfl rfl rfl rfl) 1 rfl rfl rfl rfl rfl rfl fun a hg=>Or.inl (⟨un rfl ν9,un rfl ν12,hg,ς⟩)
    ·exact sq φ (Fr.cons φ.fr0 (φ.at_ 0 0 32 _ rfl hd0)) ς (r_ldb (i:=7) ti_171 rfl rfl rfl rfl) 1 rfl rfl rfl rfl rfl rfl fun a hg=>Or.inr (Or.inl (⟨un rfl ν9,un rfl ν12,s7109,hg,ς⟩))
    ·exact no_way (cA hcl 12 1 rfl ν12) hSi
   ·obtain rfl:_=o:=Option.some.inj ho
    rcases hI with ⟨ν9,ν12,φ,ς⟩|⟨ν9,ν12,s7109,φ,ς⟩|⟨_,ν12,_⟩
    ·exact sq φ φ.fr0 ς (r_move rfl rfl) 2 rfl rfl rfl rfl rfl rfl fun a hg=>Or.inl (⟨un rfl ν9,un rfl ν12,hg,ς⟩)
    ·exact sq φ φ.fr0 ς (r_move rfl rfl) 2 rfl rfl rfl rfl rfl rfl fun a hg=>Or.inr (Or.inl (⟨un rfl ν9,un rfl ν12,s7109,hg,ς⟩))
    ·exact no_way (cA hcl 12 2 rfl ν12) hSi
   ·obtain rfl:_=o:=Option.some.inj ho
    rcases hI with ⟨ν9,ν12,φ,ς⟩|⟨ν9,_⟩|⟨ν9,_⟩
    ·exact sq φ φ.fr0 ς (r_fieldB (r:=2) fl_173_2 rfl rfl rfl) 3 rfl rfl rfl rfl rfl rfl fun a hg=>Or.inl (⟨un rfl ν9,un rfl ν12,hg,ς⟩)
    ·exact no_way (cA hcl 9 3 rfl ν9) hSi
    ·exact no_way (cA hcl 9 3 rfl ν9) hSi
   ·obtain rfl:_=o:=Option.some.inj ho
    have hd3:S 3=true:=depAt hdep 0 rfl rfl
    rcases hI with ⟨ν9,ν12,φ,ς⟩|⟨ν9,_⟩|⟨ν9,_⟩
    ·exact sq φ (Fr.cons φ.fr0 (φ.at_ 3 3 35 _ rfl hd3)) ς (r_ldb (i:=6) ti_171 rfl rfl rfl rfl) 4 rfl rfl rfl rfl rfl rfl fun a hg=>Or.inl (⟨un rfl ν9,un rfl ν12,hg,ς⟩)
    ·exact no_way (cA hcl 9 4 rfl ν9) hSi
    ·exact no_way (cA hcl 9 4 rfl ν9) hSi
   ·obtain rfl:_=o:=Option.some.inj ho
    rcases hI with ⟨ν9,ν12,φ,ς⟩|⟨ν9,_⟩|⟨ν9,_⟩
    ·exact sq φ φ.fr0 ς (r_move rfl rfl) 5 rfl rfl rfl rfl rfl rfl fun a hg=>Or.inl (⟨un rfl ν9,un rfl ν12,hg,ς⟩)
    ·exact no_way (cA hcl 9 5 rfl ν9) hSi
    ·exact no_way (cA hcl 9 5 rfl ν9) hSi
   ·obtain rfl:_=o:=Option.some.inj ho
    have hd4:S 4=true:=depAt hdep 0 rfl rfl
    have hd5:S 5=true:=depAt hdep 1 rfl rfl
    rcases hI with ⟨ν9,ν12,φ,ς⟩|⟨ν9,_⟩|⟨ν9,_⟩
    ·exact sq φ (Fr.cons (Fr.cons φ.fr0 (φ.at_ 4 4 36 _ rfl hd4)) (φ.at_ 5 5 37 _ rfl hd5)) ς (r_ixN (s:=(⟨vt,(M.map ThR.toQ++(x.rows.drop t).map ThR.toQ)⟩:Ls ThQ)) (q:=t) sl_171 ti_189 rfl rfl rfl (fun w h=>(h.own 0 rfl)) (show t<(M.map ThR.toQ++(x.rows.drop t).map ThR.toQ).length from (by first|omega|(simp only [lens9];omega)))) 6 rfl rfl rfl rfl rfl rfl fun a hg=>Or.inl (⟨un rfl ν9,un rfl ν12,hg,ς⟩)
    ·exact no_way (cA hcl 9 6 rfl ν9) hSi
    ·exact no_way (cA hcl 9 6 rfl ν9) hSi
   ·obtain rfl:_=o:=Option.some.inj ho
    have hd6:S 6=true:=depAt hdep 0 rfl rfl
    rcases hI with ⟨ν9,ν12,φ,ς⟩|⟨ν9,_⟩|⟨ν9,_⟩
    ·exact sq φ (Fr.cons φ.fr0 (φ.at_ 6 6 38 _ rfl hd6)) ς (r_fieldE (r:=1) fl_189_1 rfl rfl rfl) 7 rfl rfl rfl rfl rfl rfl fun a hg=>Or.inl (⟨un rfl ν9,un rfl ν12,hg,ς⟩)
    ·exact no_way (cA hcl 9 7 rfl ν9) hSi
    ·exact no_way (cA hcl 9 7 rfl ν9) hSi
   ·obtain rfl:_=o:=Option.some.inj ho
    have hd7:S 7=true:=depAt hdep 0 rfl rfl
    rcases hI with ⟨ν9,ν12,φ,ς⟩|⟨ν9,_⟩|⟨ν9,_⟩
    ·exact sq φ (Fr.cons φ.fr0 (φ.at_ 7 7 39 _ rfl hd7)) ς (Rn.same (r_lde (s:=(⟨vt,(M.map ThR.toQ++(x.rows.drop t).map ThR.toQ)⟩:Ls ThQ)) (i:=t) (v:=((nth (M.map ThR.toQ++(x.rows.drop t).map ThR.toQ) t).rv)) ti_23 rfl rfl rfl (fun w h=>(h.own 0 rfl)) (show t<(M.map ThR.toQ++(x.rows.drop t).map ThR.toQ).length from (by first|omega|(simp only [lens9];omega))) (Nat.le_of_ble_eq_true rfl) rfl) (by rw [clone_nth hMl (by omega)];rfl)) 8 rfl rfl rfl rfl rfl rfl fun a hg=>Or.inl (⟨un rfl ν9,un rfl ν12,hg,ς⟩)
    ·exact no_way (cA hcl 9 8 rfl ν9) hSi
    ·exact no_way (cA hcl 9 8 rfl ν9) hSi
   ·obtain rfl:_=o:=Option.some.inj ho
    have hd8:S 8=true:=depAt hdep 0 rfl rfl
    rcases hI with ⟨ν9,ν12,φ,ς⟩|⟨ν9,_⟩|⟨ν9,_⟩
    ·have hs:=St.mk (Fr.cons φ.fr0 (φ.at_ 8 8 40 _ rfl hd8)) ς
     refine step_ex (x_call hs bd_44 rfl rfl rfl rfl rfl (cloneI_c ((nth x.rows t).regs) _ (rgs_at hs.sh 9 rfl t (show t<x.rows.length from (by omega))) (by have:=hk.rn t (by omega);omega))) (wanted_none rfl _) ?_
     rintro a70 w70 ⟨_,⟨s70,rfl,hs70⟩,hf70⟩ ⟨v0,ht70⟩
     have h70:=(⟨hf70,hs.sh.call hs70 (by intro A hA b hb;simp only [memA,List.mem_cons,List.not_mem_nil,or_false] at hA;first|(subst hA;exact Flat.noRd hb)|(rcases hA with rfl|rfl|rfl|rfl<;>first|exact (hb:False).elim|exact Flat.noRd hb|exact ((hF.ok _).xrd _ _ hb).elim))⟩:St 45 (fun _=>False) W a70 w70 _ _)
     clear hf70 hs70
     exact Or.inr (Or.inl (⟨upd_self _ _,un rfl ν12,s70,φ.stepW hcl hSi [0,1,2,3,4,5,6,7,8] (by kernel_rfl) (by kernel_rfl) ht70 h70.fr.defers (h70.fr.at_ 41 _ rfl) 9 rfl rfl rfl rfl,(h70.sh.sel [0,1,2,3,4,5,6,7,8,9,10,11,12,13,14,15,16] rfl)⟩))
    ·exact no_way ν9 hSi
    ·exact no_way ν9 hSi
   ·obtain rfl:_=o:=Option.some.inj ho
    have hd1:S 1=true:=depAt hdep 0 rfl rfl
    have hd2:S 2=true:=depAt hdep 1 rfl rfl
    have hd9:S 9=true:=depAt hdep 11 rfl rfl
    rcases hI with ⟨ν9,_⟩|⟨ν9,ν12,s7109,φ,ς⟩|⟨_,ν12,_⟩
    ·exact no_way hd9 ν9
    ·exact sq φ (Fr.cons (Fr.cons φ.fr0 (φ.at_ 1 1 33 _ rfl hd1)) (φ.at_ 2 2 34 _ rfl hd2)) ς (r_ixN (s:=(⟨vt,(M.map ThR.toQ++(x.rows.drop t).map ThR.toQ)⟩:Ls ThQ)) (q:=t) sl_171 ti_189 rfl rfl rfl (fun w h=>(h.own 1 rfl)) (show t<(M.map ThR.toQ++(x.rows.drop t).map ThR.toQ).length from (by first|omega|(simp only [lens9];omega)))) 10 rfl rfl rfl rfl rfl rfl fun a hg=>Or.inr (Or.inl (⟨un rfl ν9,un rfl ν12,s7109,hg,ς⟩))
    ·exact no_way (cA hcl 12 10 rfl ν12) hSi
   ·obtain rfl:_=o:=Option.some.inj ho
    have hd10:S 10=true:=depAt hdep 0 rfl rfl
    have hd9:S 9=true:=depAt hdep 10 rfl rfl
    rcases hI with ⟨ν9,_⟩|⟨ν9,ν12,s7109,φ,ς⟩|⟨_,ν12,_⟩
    ·exact no_way hd9 ν9
    ·exact sq φ (Fr.cons φ.fr0 (φ.at_ 10 10 42 _ rfl hd10)) ς (r_fieldE (r:=1) fl_189_1 rfl rfl rfl) 11 rfl rfl rfl rfl rfl rfl fun a hg=>Or.inr (Or.inl (⟨un rfl ν9,un rfl ν12,s7109,hg,ς⟩))
    ·exact no_way (cA hcl 12 11 rfl ν12) hSi
   ·obtain rfl:_=o:=Option.some.inj ho
    have hd11:S 11=true:=depAt hdep 0 rfl rfl
    have hd9:S 9=true:=depAt hdep 1 rfl rfl
    rcases hI with ⟨ν9,_⟩|⟨ν9,ν12,s7109,φ,ς⟩|⟨_,ν12,_⟩
    ·exact no_way hd9 ν9
    ·have hs:=St.mk (Fr.cons (Fr.cons φ.fr0 (φ.at_ 9 9 41 _ rfl hd9)) (φ.at_ 11 11 43 _ rfl hd11)) ς
     refine step_ex (x_ste (r:=1) (i:=t) (j:=1) (x' :=({ nth (M.map ThR.toQ++(x.rows.drop t).map ThR.toQ) t with rv:=s7109.v } :ThQ)) hs ti_23 rfl rfl rfl rfl rfl (show t<(M.map ThR.toQ++(x.rows.drop t).map ThR.toQ).length from (by first|omega|(simp only [lens9];omega))) (Nat.le_of_ble_eq_true rfl) rfl (cells_oneL ((hs.sh.own 0 rfl)).one) ((hs.sh.own 0 rfl)).one (by intro q hq;rcases q with _|_|q<;>first|rfl|omega|exact absurd hq (by show¬(q+2<2);omega)) (fun w h=>Flat.inner _ _) (fun b hb=>(Flat.on _ _ hb).elim)) (wanted_none rfl _) ?_
     rintro a73 w73 h73 ⟨v0,ht73⟩
     exact Or.inr (Or.inr (⟨un rfl ν9,upd_self _ _,s7109,φ.noneW hcl hSi [0,1,2,3,4,5,6,7,8,9,10,11] (by kernel_rfl) (by kernel_rfl) ht73 h73.fr.defers rfl,(h73.sh.sel [0,1,2,3,4,5,6,7,8,9,10,11,12,13,14,15,16] rfl)⟩))
    ·exact no_way ν12 hSi
   · simp at ho
  intro S hall a w hI
  clear h56
  rcases hI with ⟨ν9,ν12,φ,ς⟩|⟨ν9,ν12,s7109,φ,ς⟩|⟨ν9,ν12,s7109,φ,ς⟩
  · exact no_way (hall 9 (by decide)) ν9
  · exact no_way (hall 12 (by decide)) ν12
  have h74:St 45 (fun _=>False) W a w _ _:=⟨φ.fr0,ς⟩
  clear hall φ ς ν9 ν12
  refine gG h74<|hK k53<|gL<|gRn (oadN _ 1 om9 rfl<|oM 1 rfl<|.nl)<|nN<|gO [0,16,1,2,3,4,5,6,7,8,9,10,11,12,13,14,15] rfl<|fun a77 w77 h77=> ?_;clear h74
  have h76:=h77.foldR (x:=(⟨(nth x.rows t).pc,(⟨s7109.v,(nth x.rows t).regs.l⟩:Ls Int)⟩:ThR))
  clear h77
  have h78:=h76.relist (i:=1) (l' :=(M++ [(⟨(nth x.rows t).pc,(⟨s7109.v,(nth x.rows t).regs.l⟩:Ls Int)⟩:ThR)]).map ThR.toQ++(x.rows.drop (t+1)).map ThR.toQ) rfl (clone_set (rows:=x.rows) hMl (by omega) (⟨s7109.v,(nth x.rows t).regs.l⟩:Ls Int))
  clear h76
  refine x_again ⟨_, ?_,(t+1),(M++ [(⟨(nth x.rows t).pc,(⟨s7109.v,(nth x.rows t).regs.l⟩:Ls Int)⟩:ThR)]),vt, ?_, ?_, ?_,h78.nrm ⟨rfl,rfl,rfl,trivial⟩ [1,2,3,4,5,6,7,8,9,10,11,12,13,14,15,0] rfl,rfl⟩
  · rw [hm46];first|omega|(simp only [lens9];omega)
  · omega
  · simp [hMl]
  · rw [take_succ_nth _ _ (by omega),List.map_append,List.map_append,hM9];rfl
 refine gX<|hK k43<|sG (oM 1 rfl<|.nl)<|gR<|fun a80 w80 h80=>x_ret1 (fn:=Tryz.f143) (t:=2) rfl h80 rfl ?_
 have h81:=h80.relist (i:=0) (l' :=M.map ThR.toQ) rfl (by rw [show t=x.rows.length by omega,List.drop_length];simp)
 clear h80
 refine ⟨⟨x.gp,i7004,q7004,b13,vt,M,(⟨s7009.v,x.prints.l⟩:Ls Int),mw7004,mo7004⟩,rfl,rfl,by rw [hMl];show t=x.rows.length;omega, ?_,hq7004,(h81.sh.sel [6,0,15,1,2,3,4,5] rfl)⟩
 show mstR M ((F.mem i7004).qs q7004) mw7004.l mo7004.l x.prints.l=mstR x.rows _ _ _ _
 rw [hmw7004,hmo7004,hq7004]
 exact mstR_congr (by rw [hM9,show t=x.rows.length by omega,List.take_length])
def mvT (p:Pg)(m:Int)(s:MSt)(v:Mv):TS:=stepT p m s v.th.toNat (v.st+1).toNat
def endsV (p:Pg)(m:Int)(s:MSt)(v:Mv):List Outc:=if (mvT p m s v).fell=true then [⟨1, [],(mvT p m s v).prints⟩] else []
def nextV (p:Pg)(m:Int)(s:MSt)(v:Mv):List MSt:=if (mvT p m s v).fell=true then [] else [s.putT v.th.toNat (mvT p m s v)]
def lookE (p:Pg)(m:Int)(s:MSt):List Outc:=
 if ended p s=true then [⟨0,s.words,s.prints⟩] else if (movesV p m s).length=0 then [⟨2,s.words,s.prints⟩] else (movesV p m s).flatMap (endsV p m s)
def lookN (p:Pg)(m:Int)(s:MSt):List MSt:=if ended p s=true then [] else (movesV p m s).flatMap (nextV p m s)
section
variable {p:Pg}{m:Int}{s:MSt}
theorem mem_movesV {v:Mv} :v∈movesV p m s↔∃t k,t<p.code.length∧mvOK m (nth p.code t) (s.view t) k=true∧v=⟨(t:Int),(k:Int)-1⟩:=by
 unfold movesV
 rw [List.mem_flatMap]
 constructor
 ·rintro ⟨t,ht,h⟩
  obtain ⟨k,hk,e⟩:=mem_mvsV h
  exact ⟨t,k,by simpa using ht,hk,e⟩
 ·rintro ⟨t,k,ht,hk,rfl⟩
  refine ⟨t,by simpa using ht, ?_⟩
  unfold mvsV
  rw [List.mem_append]
  rcases mvOK_k hk with ⟨rfl,h1,h2⟩|⟨h1,h2,h3⟩
  ·left
   have:ableV (nth p.code t) (s.view t)=true:=by unfold ableV;simp [h1,h2]
   rw [if_pos this];simp
  ·right
   refine List.mem_map.2 ⟨k-1,List.mem_filter.2 ⟨by simp;omega,h3⟩, ?_⟩
   congr 1
   omega
theorem mvT_of (t k:Nat):mvT p m s ⟨(t:Int),(k:Int)-1⟩=stepT p m s t k:=by
 unfold mvT
 show stepT p m s ((t:Int).toNat) (((k:Int)-1+1).toNat)=_
 rw [Int.toNat_natCast,show (k:Int)-1+1=(k:Int) by omega,Int.toNat_natCast]
theorem movesV_nil :(movesV p m s).length=0↔Stuck_ p m s:=by
 constructor
 ·intro h t k ht
  cases hk:mvOK m (nth p.code t) (s.view t) k with
  |false=>rfl
  |true=>
   have:=mem_movesV.2 ⟨t,k,ht,hk,rfl⟩
   rw [List.eq_nil_of_length_eq_zero h] at this
   cases this
 ·intro h
  rw [List.length_eq_zero_iff,List.eq_nil_iff_forall_not_mem]
  intro v hv
  obtain ⟨t,k,ht,hk,_⟩:=mem_movesV.1 hv
  rw [h t k ht] at hk
  cases hk
theorem look_exp {S:List MSt}{E:List Outc}(hE:∀o∈lookE p m s,o∈E)(hS:∀x∈lookN p m s,x∈S):Expanded p m S E s:=by
 unfold lookE at hE
 unfold lookN at hS
 refine ⟨fun he=> ?_,fun he hs=> ?_,fun t k ht hk=> ?_⟩
 ·rw [if_pos he] at hE;exact hE _ (by simp)
 ·rw [if_neg (by rw [he];decide),if_pos (movesV_nil.2 hs)] at hE;exact hE _ (by simp)
 ·have hv:=mem_movesV.2 ⟨t,k,ht,hk,rfl⟩
  have he:ended p s=false:=by
   cases he:ended p s with
   |false=>rfl
   |true=>rw [ended_no he t k ht] at hk;cases hk
  have hl:¬(movesV p m s).length=0:=fun h=>by rw [List.eq_nil_of_length_eq_zero h] at hv;cases hv
  rw [if_neg (by rw [he];decide),if_neg hl] at hE
  rw [if_neg (by rw [he];decide)] at hS
  unfold Handled
  split
  ·rename_i hf
   refine hE _ (List.mem_flatMap.2 ⟨_,hv, ?_⟩)
   unfold endsV
   rw [mvT_of,if_pos hf]
   simp
  ·rename_i hf
   refine hS _ (List.mem_flatMap.2 ⟨_,hv, ?_⟩)
   unfold nextV
   rw [mvT_of,if_neg hf]
   simp
theorem look_outs (hr:Reach p m s){o:Outc}(ho:o∈lookE p m s):Outs p m o:=by
 unfold lookE at ho
 split at ho
 ·rename_i he
  obtain rfl:o=_:=by simpa using ho
  exact .done hr he
 ·rename_i he
  have he' :ended p s=false:=by simpa using he
  split at ho
  ·rename_i hl
   obtain rfl:o=_:=by simpa using ho
   exact .stuck hr he' (movesV_nil.1 hl)
  ·obtain ⟨v,hv,ho⟩:=List.mem_flatMap.1 ho
   obtain ⟨t,k,ht,hk,rfl⟩:=mem_movesV.1 hv
   unfold endsV at ho
   rw [mvT_of] at ho
   split at ho
   ·rename_i hf
    obtain rfl:o=_:=by simpa using ho
    exact .fell hr ht hk hf
   ·cases ho
theorem look_reach (hr:Reach p m s){x:MSt}(hx:x∈lookN p m s):Reach p m x∧x.prints.length≤s.prints.length+2:=by
 unfold lookN at hx
 split at hx
 ·cases hx
 ·obtain ⟨v,hv,hx⟩:=List.mem_flatMap.1 hx
  obtain ⟨t,k,ht,hk,rfl⟩:=mem_movesV.1 hv
  unfold nextV at hx
  rw [mvT_of] at hx
  split at hx
  ·cases hx
  ·rename_i hf
   obtain rfl:x=_:=by simpa using hx
   have hf' :(stepT p m s t k).fell=false:=by simpa using hf
   refine ⟨.step hr ht hk hf', ?_⟩
   exact doT_prints m t (nth p.code t) k (s.view t)
theorem flatMap_le {α β:Type}{f:α→List β}{c:Nat} :∀ {l:List α},(∀x∈l,(f x).length≤c)→(l.flatMap f).length≤c*l.length
 | [],_=>by simp
 |x::l,h=>by
  have h1:=h x (by simp)
  have h2:=flatMap_le (l:=l) (f:=f) (c:=c) fun y hy=>h y (by simp [hy])
  rw [List.flatMap_cons,List.length_append,List.length_cons,Nat.mul_add]
  omega
theorem endsV_len (v:Mv):(endsV p m s v).length≤1:=by unfold endsV;split<;>simp
theorem nextV_len (v:Mv):(nextV p m s v).length≤1:=by unfold nextV;split<;>simp
structure BI (p:Pg)(m:Int)(S:List MSt)(F:MSt→Prop)(E:List Outc):Prop where
 start:begin_ p∈S
 reach:∀s∈S,Reach p m s
 nd:S.Nodup
 pr:∀s∈S,s.prints.length≤2*S.length
 sound:∀o∈E,Outs p m o
 done:∀s∈S,F s∨Expanded p m S E s
variable {S:List MSt}{F F' :MSt→Prop}{E E' :List Outc}
theorem BI.first (s:MSt)(hs:s=begin_ p):BI p m [s] (fun x=>x=s) []:=by
 subst hs
 refine ⟨by simp,fun x hx=> ?_,by simp,fun x hx=> ?_,fun o ho=>(by cases ho),fun x hx=> .inl (by simpa using hx)⟩
 ·obtain rfl:x=begin_ p:=by simpa using hx
  exact .start
 ·obtain rfl:x=begin_ p:=by simpa using hx
  exact Nat.zero_le _
theorem BI.add (h:BI p m S F E){x:MSt}(hr:Reach p m x)(hx:x∉S)(hp:x.prints.length≤2*(S.length+1)):BI p m (S++ [x]) (fun y=>F y∨y=x) E:=by
 refine ⟨by simp [h.start],fun y hy=> ?_, ?_,fun y hy=> ?_,h.sound,fun y hy=> ?_⟩
 ·rcases List.mem_append.1 hy with hy|hy
  ·exact h.reach y hy
  ·obtain rfl:y=x:=by simpa using hy
   exact hr
 ·rw [List.nodup_append]
  exact ⟨h.nd,by simp,fun y hy z hz e=>by
   obtain rfl:z=x:=by simpa using hz
   exact hx (e▸hy)⟩
 ·rw [List.length_append]
  show _≤2*(S.length+1)
  rcases List.mem_append.1 hy with hy|hy
  ·have:=h.pr y hy;omega
  ·obtain rfl:y=x:=by simpa using hy
   exact hp
 ·rcases List.mem_append.1 hy with hy|hy
  ·rcases h.done y hy with h1|h1
   ·exact .inl (.inl h1)
   ·exact .inr (h1.mono (fun z hz=>by simp [hz]) fun _ h=>h)
  ·exact .inl (.inr (by simpa using hy))
theorem BI.outs (h:BI p m S F E)(hs:∀o∈E',Outs p m o)(hE:∀o∈E,o∈E'):BI p m S F E' :=
 ⟨h.start,h.reach,h.nd,h.pr,hs,fun s hs=>(h.done s hs).imp_right fun h1=>h1.mono (fun _ h=>h) hE⟩
theorem BI.mono (h:BI p m S F E)(hF:∀s∈S,F s→F' s∨Expanded p m S E s):BI p m S F' E:=
 ⟨h.start,h.reach,h.nd,h.pr,h.sound,fun s hs=>(h.done s hs).elim (hF s hs) .inr⟩
theorem BI.states (h:BI p m S F E)(hF:∀s∈S,¬F s):∀s,s∈S↔Reach p m s:=by
 intro s
 refine ⟨h.reach s,fun hs=> ?_⟩
 induction hs with
 |start=>exact h.start
 | @step s t k hr ht hk hf ih=>
  have:=((h.done s ih).resolve_left (hF s ih)).moves t k ht hk
  unfold Handled at this
  rw [if_neg (by rw [hf];decide)] at this
  exact this
theorem BI.all (h:BI p m S F E)(hF:∀s∈S,¬F s):∀o,o∈E↔Outs p m o:=by
 intro o
 refine ⟨h.sound o,fun ho=> ?_⟩
 have hall:=h.states hF
 have hex:∀s,Reach p m s→Expanded p m S E s:=fun s hs=>(h.done s ((hall s).2 hs)).resolve_left (hF s ((hall s).2 hs))
 cases ho with
 |done hr he=>exact (hex _ hr).done he
 |stuck hr he hst=>exact (hex _ hr).stuck he hst
 |fell hr ht hk hf=>
  have:=(hex _ hr).moves _ _ ht hk
  unfold Handled at this
  rwa [if_pos hf] at this
theorem BI.big (h:BI p m S F E)(hl:4000<S.length):Big p m:=⟨S,h.nd,h.reach,hl⟩
theorem BI.small (h:BI p m S F E)(hF:∀s∈S,¬F s)(hl:S.length≤4000):¬Big p m:=by
 rintro ⟨T,h1,h2,h3⟩
 have:=nodup_sub h1 fun s hs=>(h.states hF s).2 (h2 s hs)
 omega
end
set_option maxHeartbeats 8000000
structure PX {F:MemF}(code:Ls (Ls Ins))(words0:Ls Int)(Lk R:Nat)(x:PSD F):Prop where
 reach:Reach (pgN code words0 Lk R) F.m x.st
 rl:x.rows.length=code.l.length
 ql:x.qs.length=code.l.length
 pn:x.prints.l.length≤90000
section
variable {F:MemF}{code:Ls (Ls Ins)}{words0:Ls Int}{Lk R:Nat}{x:PSD F}
theorem psd_view {t:Nat}(h:t<x.rows.length):x.st.view t=⟨(nth x.rows t).pc,(nth x.rows t).regs.l,nth x.qs t,x.words.l,x.owner.l,x.prints.l,false⟩:=mstR_view h
theorem PX.key (hok:OkPg (pgN code words0 Lk R))(hR:PgR (pgN code words0 Lk R))(h:PX code words0 Lk R x):KeyOK x:=by
 obtain ⟨hl1,hcl,hwn,hlk,hR2⟩:=ok_lenP hok
 have hf:=psd_facts hok h.reach h.rl
 have hcln:=ok_clen hok
 have hr:=h.reach.r64 hR (by rw [pgN_len];omega)
 have hv:∀t,t<x.rows.length→TSR ⟨(nth x.rows t).pc,(nth x.rows t).regs.l,nth x.qs t,x.words.l,x.owner.l,x.prints.l,false⟩:=fun t ht=>by
  have:=hr t
  rwa [psd_view ht] at this
 have h0:0<x.rows.length:=by rw [h.rl];omega
 have hq:∀l∈x.qs,∃t,t<x.rows.length∧l=nth x.qs t:=fun l hl=>by
  obtain ⟨t,ht,e⟩:=List.mem_iff_getElem.1 hl
  exact ⟨t,by rw [h.rl,←h.ql];exact ht,by rw [nth_lt _ _ ht];exact e.symm⟩
 refine ⟨by rw [h.rl];exact hcl,fun t ht=> ?_,fun t ht=>(hv t ht).regs,fun t ht=> ?_,(hv 0 h0).prints,by have:=h.pn;omega,by have:=hf.hwl;omega,by have:=hf.hol;omega,by rw [h.ql];exact hcl,fun l hl=> ?_,(hv 0 h0).words,(hv 0 h0).owner,fun l hl=> ?_⟩
 ·have h1:=hf.hpc t (by rw [←h.rl];exact ht)
  have h2:=hcln t (by rw [←h.rl];exact ht)
  rw [toQ_at ht] at h1
  obtain ⟨h3,h4⟩:=h1
  change 0≤(nth x.rows t).pc at h3
  change (nth x.rows t).pc≤_ at h4
  unfold R64
  omega
 ·have:=hf.hreg t (by rw [←h.rl];exact ht)
  omega
 ·obtain ⟨t,ht,rfl⟩:=hq l hl
  exact hf.hw3 t (by rw [←h.rl];exact ht)
 ·obtain ⟨t,ht,rfl⟩:=hq l hl
  exact (hv t ht).wait
end
theorem Sh.ownNew {α:Type}[Enc α][Flat α]{W w:World}{L:List Asn}{E:TypeId}{s:Ls α}(h:Sh (fun _=>False) W w L)(i:Nat)(hi:L[i]? =some (.own E s)):∀b,s.on b→W.heap.size≤b:=fun b hb=>by
 have hm:=List.mem_of_getElem? hi
 rcases own_on (h.ok _ hm) hb with h1|h1
 ·exact (h.mine _ hm b h1).resolve_left id
 ·exact Flat.noRd h1
def PSD.B {F:MemF}(x:PSD F)(fell:Bool):List Asn:=
  [.blk x.g 173 [.iface (F.mem x.i).T (.pointer (some (F.mem x.i).u)), .pointer (some ⟨x.gp,0,none⟩),x.vt,x.prints.v, .bool fell], .own 189 (⟨x.vt,x.rows.map ThR.toQ⟩:Ls ThQ), .big (regA 3 x.rows), .own 3 x.prints,
   .blk (F.mem x.i).g0 182 [x.words.v,x.owner.v], .own 3 x.words, .own 3 x.owner,(F.mem x.i).X x.q]
theorem movesF_len {m:Int}{code:Ls (Ls Ins)}{thr:List ThQ}{qs:List (List Wt)}{owner:List Int}(hw3:∀t,t<code.l.length→(nth qs t).length≤3)(n:Nat)(hn:n≤code.l.length):(movesF m code thr qs owner n).length≤4*n:=by
 induction n with
 |zero=>simp [movesF]
 |succ n ih=>
  rw [movesF_succ,List.length_append]
  have h1:=ih (by omega)
  have h2:=hw3 n (by omega)
  have h3:=movF_len (m:=m) (code:=code) (thr:=thr) (q:=qs) (owner:=owner) (t:=n)
  omega
section
variable {p:Pg}{m:Int}{s:MSt}
theorem look_ended (he:ended p s=true):lookE p m s= [⟨0,s.words,s.prints⟩]∧lookN p m s= []:=by
 unfold lookE lookN
 rw [if_pos he,if_pos he]
 exact ⟨rfl,rfl⟩
theorem look_stuck (he:ended p s=false)(hl:(movesV p m s).length=0):lookE p m s= [⟨2,s.words,s.prints⟩]∧lookN p m s= []:=by
 unfold lookE lookN
 have hn:¬ended p s=true:=by rw [he];decide
 rw [if_neg hn,if_pos hl,if_neg hn,List.eq_nil_of_length_eq_zero hl]
 exact ⟨rfl,rfl⟩
theorem look_go (he:ended p s=false)(hl:¬(movesV p m s).length=0):lookE p m s=(movesV p m s).flatMap (endsV p m s)∧lookN p m s=(movesV p m s).flatMap (nextV p m s):=by
 unfold lookE lookN
 have hn:¬ended p s=true:=by rw [he];decide
 rw [if_neg hn,if_neg hl,if_neg hn]
 exact ⟨rfl,rfl⟩
theorem look_t {l:List Mv}{k t j:Nat}(hk:k<l.length)(e:nth l k=⟨(t:Int),(j:Int)-1⟩)(hf:(stepT p m s t j).fell=true):(l.take (k+1)).flatMap (endsV p m s)=(l.take k).flatMap (endsV p m s)++ [⟨1, [],(stepT p m s t j).prints⟩]∧(l.take (k+1)).flatMap (nextV p m s)=(l.take k).flatMap (nextV p m s):=by
 rw [take_succ_nth _ _ hk,List.flatMap_append,List.flatMap_append,e]
 simp only [List.flatMap_cons,List.flatMap_nil,List.append_nil]
 unfold endsV nextV
 rw [mvT_of,if_pos hf,if_pos hf]
 exact ⟨rfl,List.append_nil _⟩
theorem look_f {l:List Mv}{k t j:Nat}(hk:k<l.length)(e:nth l k=⟨(t:Int),(j:Int)-1⟩)(hf:(stepT p m s t j).fell=false):(l.take (k+1)).flatMap (endsV p m s)=(l.take k).flatMap (endsV p m s)∧(l.take (k+1)).flatMap (nextV p m s)=(l.take k).flatMap (nextV p m s)++ [s.putT t (stepT p m s t j)]:=by
 rw [take_succ_nth _ _ hk,List.flatMap_append,List.flatMap_append,e]
 simp only [List.flatMap_cons,List.flatMap_nil,List.append_nil]
 unfold endsV nextV
 rw [mvT_of,if_neg (by rw [hf];decide),if_neg (by rw [hf];decide)]
 exact ⟨List.append_nil _,by rw [Int.toNat_natCast]⟩
end
theorem nilOnI {b:Nat}(h:(⟨.slice none 0 0, []⟩:Ls Int).on b):False:=by
 rcases h with ⟨h,_⟩|⟨_,h,_⟩<;>exact absurd h (by simp)
theorem xmoves_c {F:MemF}(hF:MemFI Tryz.prog 182 3 204 5 141 F)(x:PSD F)(code:Ls (Ls Ins))(words0:Ls Int)(Lk R:Nat)(pw:Value)(W:World)(hX:x.Rd W)(hP:Blk W x.gp 25 #[code.v,pw, .int .i64 ((Lk:Nat):Int), .int .i64 ((R:Nat):Int)])(hcode:code.At W)(hok:OkPg (pgN code words0 Lk R))(h:PX code words0 Lk R x):
  Rets Tryz.prog 121 [.pointer (some ⟨x.g,0,none⟩)] W (fun v w' =>∃s:Ls Mv,v=s.v∧s.l=movesV (pgN code words0 Lk R) F.m x.st∧s.l.length≤16∧Sh0 W w' [.own 179 s]):=by
 have hf:=psd_facts hok h.reach h.rl
 have hM:=hF.ok x.i
 have hrl:=h.rl
 refine Rets.mono (pmoves_c (F.mem x.i) x.g x.gp code ⟨x.vt,x.rows.map ThR.toQ⟩ x.words x.owner x.q pw x.prints.v Lk R false W hM hX.blk hP hcode hX.thr hX.mem h.ql hf.hw3 (by show (x.rows.map ThR.toQ).length=_;rw [List.length_map];exact hrl) hf.hpc hf.hlk hf.hge (ok_lenP hok).2.1) ?_
 rintro v w' ⟨s,rfl,e,hs⟩
 refine ⟨s,rfl, ?_,(by rw [e];have h9:=movesF_len (m:=(F.mem x.i).m) (thr:=x.rows.map ThR.toQ) (owner:=x.owner.l) hf.hw3 _ (Nat.le_refl _);have h8:=(ok_lenP hok).2.1;have h7:(movesF (F.mem x.i).m code (x.rows.map ThR.toQ) x.qs x.owner.l code.l.length).length≤16:=(by omega);exact h7),hs⟩
 rw [e,hF.hm]
 exact movesF_eq (prints:=x.prints.l) (words:=x.words.l) hrl
theorem xended_c {F:MemF}(hF:MemFI Tryz.prog 182 3 204 5 141 F)(x:PSD F)(code:Ls (Ls Ins))(words0:Ls Int)(Lk R:Nat)(pw:Value)(W:World)(hX:x.Rd W)(hP:Blk W x.gp 25 #[code.v,pw, .int .i64 ((Lk:Nat):Int), .int .i64 ((R:Nat):Int)])(hcode:code.At W)(hok:OkPg (pgN code words0 Lk R))(h:PX code words0 Lk R x):
  Rets Tryz.prog 122 [.pointer (some ⟨x.g,0,none⟩)] W (fun v w' =>v= .bool (ended (pgN code words0 Lk R) x.st)∧Sh0 W w' []):=by
 have hf:=psd_facts hok h.reach h.rl
 have hM:=hF.ok x.i
 have hrl:=h.rl
 refine Rets.mono (pended_c (F.mem x.i) x.g x.gp code ⟨x.vt,x.rows.map ThR.toQ⟩ x.words x.owner x.q pw x.prints.v Lk R false W hM hX.blk hP hcode hX.thr hX.mem h.ql hf.hw3 (by show (x.rows.map ThR.toQ).length=_;rw [List.length_map];exact hrl) hf.hpc (ok_lenP hok).2.1) ?_
 rintro v w' ⟨rfl,hs⟩
 refine ⟨?_,hs⟩
 congr 1
 exact endedF_eq hrl
theorem xwords_c {F:MemF}(hF:MemFI Tryz.prog 182 3 204 5 141 F)(x:PSD F)(code:Ls (Ls Ins))(words0:Ls Int)(Lk R:Nat)(pw:Value)(W:World)(hX:x.Rd W)(hP:Blk W x.gp 25 #[code.v,pw, .int .i64 ((Lk:Nat):Int), .int .i64 ((R:Nat):Int)])(hcode:code.At W)(hok:OkPg (pgN code words0 Lk R))(h:PX code words0 Lk R x):
  Rets Tryz.prog 120 [.pointer (some ⟨x.g,0,none⟩)] W (fun v w' =>∃s:Ls Int,v=s.v∧s.l=x.words.l∧Sh0 W w' [.own 3 s]):=by
 have hf:=psd_facts hok h.reach h.rl
 have h1:=hf.hwl
 have h2:=(ok_lenP hok).2.2.1
 exact pwords_c (F.mem x.i) x.g x.gp code ⟨x.vt,x.rows.map ThR.toQ⟩ x.words x.owner x.q pw x.prints.v Lk R false W (hF.ok x.i) hX.blk hP hcode hX.thr hX.mem (by omega)
theorem xdo_c {F:MemF}(hF:MemFI Tryz.prog 182 3 204 5 141 F)(K:Nat→Prop)(y:PSD F)(code:Ls (Ls Ins))(words0:Ls Int)(Lk R:Nat)(pw:Value)(t k:Nat)(gp:Nat)(W:World)(hg:y.gp=gp)(hS:Sh K W W (y.B false++ [.rblk gp 25 [code.v,pw, .int .i64 ((Lk:Nat):Int), .int .i64 ((R:Nat):Int)], .at_ code]))(hok:OkPg (pgN code words0 Lk R))(h:PX code words0 Lk R y)(ht:t<code.l.length)(hmv:mvOK F.m (nth (pgN code words0 Lk R).code t) (y.st.view t) k=true):
  Rets Tryz.prog 123 [.pointer (some ⟨y.g,0,none⟩), .agg #[.int .i64 ((t:Nat):Int), .int .i64 (((k:Nat):Int)-1)]] W (fun v w' =>v= .tuple #[]∧∃(y' :PSD F) (fell:Bool),y'.g=y.g∧y'.gp=gp∧y'.rows.length=code.l.length∧y'.qs.length=code.l.length∧
   fell=(stepT (pgN code words0 Lk R) F.m y.st t k).fell∧y'.prints.l=(stepT (pgN code words0 Lk R) F.m y.st t k).prints∧y'.st=y.st.putT t (stepT (pgN code words0 Lk R) F.m y.st t k)∧Sh K W w' (y'.B fell++ [.rblk gp 25 [code.v,pw, .int .i64 ((Lk:Nat):Int), .int .i64 ((R:Nat):Int)], .at_ code])):=by
 subst hg
 obtain ⟨hl1,hcl,hwn,hlk0,hR2⟩:=ok_lenP hok
 have hf:=psd_facts hok h.reach h.rl
 have hcln:=ok_clen hok t ht
 have hM:=hF.ok y.i
 have htr:t<y.rows.length:=by rw [h.rl];exact ht
 have htq:t<y.qs.length:=by rw [h.ql];exact ht
 have hpc:=hf.hpc t ht
 rw [toQ_at htr] at hpc
 have hm:=hF.hm y.i
 rw [pgN_code ht,psd_view htr] at hmv
 have hio:k=0→InsR (nth y.rows t).regs.l.length y.words.l.length y.owner.l.length (nextIns (nth code.l t).l (nth y.rows t).pc):=fun hk0=>by
  rw [hf.hreg t ht,hf.hwl,hf.hol]
  exact insR_N hok ht hpc.1 (able_of hmv hk0).1
 have h1:Sh K W W (pstA (F.mem y.i) y.g y.gp [code.v,pw, .int .i64 ((Lk:Nat):Int), .int .i64 ((R:Nat):Int)] y.vt y.rows y.prints y.words y.owner y.q false code):=hS.sel [0,8,1,2,3,4,5,6,7,9] rfl
 refine Rets.mono (pdo_full K (F.mem y.i) y.g y.gp code y.vt y.rows y.prints y.words y.owner y.q pw Lk R false t k W hM h1 htr (by omega) htq (hf.hw3 t ht) (hf.hwh0 t ht) hf.hge ht hpc (by omega) (by rw [hm];exact hmv) (by have:=h.pn;omega) (hf.hwt t ht) hio) ?_
 rintro v w' ⟨rfl,rows',words',owner',prints',q',fell',x,z,hz,rfl,e1,e2,e3,e4,e5,e6,e7,hs⟩
 have hz' :z=stepT (pgN code words0 Lk R) F.m y.st t k:=by
  unfold stepT
  rw [hz,hm,pgN_code ht,psd_view htr]
  rfl
 refine ⟨rfl,⟨y.gp,y.i,q',y.g,y.vt,y.rows.set t x,prints',words',owner'⟩,fell',rfl,rfl,by show (y.rows.set t x).length=_;rw [List.length_set];exact h.rl, ?_,by rw [←hz'];exact e7,by rw [←hz'];exact e6, ?_,hs.sel [0,2,3,4,5,6,7,8,1,9] rfl⟩
 ·show ((F.mem y.i).qs q').length=_
  rw [e3,List.length_set];exact h.ql
 ·rw [←hz']
  show mstR (y.rows.set t x) ((F.mem y.i).qs q') words'.l owner'.l prints'.l=_
  rw [e3,e4,e5,e6]
  exact mstR_put htr htq e1 e2
theorem look_c (F:MemF)(x:PSD F)(code:Ls (Ls Ins))(words0:Ls Int)(Lk R:Nat)(pw:Value)(W:World)(hF:MemFI Tryz.prog 182 3 204 5 141 F)(hX:x.Rd W)(hP:Blk W x.gp 25 #[code.v,pw, .int .i64 ((Lk:Nat):Int), .int .i64 ((R:Nat):Int)])(hcode:code.At W)(hok:OkPg (pgN code words0 Lk R))(hR:PgR (pgN code words0 Lk R))(hx:PX code words0 Lk R x):
    Rets Tryz.prog 102 [.pointer (some ⟨x.g,0,none⟩)] W (fun v w' =>∃(os:Ls OutL) (ns:Ls (PSD F)),v= .agg #[ns.v,os.v]∧os.l.map OutL.out=lookE (pgN code words0 Lk R) F.m x.st∧ns.l.map PSD.st=lookN (pgN code words0 Lk R) F.m x.st∧(∀y∈ns.l,y.gp=x.gp∧y.rows.length=code.l.length∧y.qs.length=code.l.length∧∀b,Enc.on y b→W.heap.size≤b)∧(∀o∈os.l,∀b,Enc.on o b→W.heap.size≤b∨x.prints.on b)∧Sh0 W w' [.own 39 os, .own 85 ns]):=by
 have hk:=hx.key hok hR
 refine gen Tryz.func102 Tryz.ntmps102 (Sh0.ext (by intro A hA;simp only [List.mem_cons,List.not_mem_nil,or_false] at hA;rcases hA with rfl|rfl|rfl|rfl|rfl|rfl|rfl|rfl|rfl|rfl;exact hX.blk;exact hX.thr;exact hX.row;exact hX.prints;exact hX.mem.blk;exact hX.mem.wa;exact hX.mem.oa;exact (fun A hA=>by obtain rfl:=List.mem_singleton.1 hA;exact hX.mem.x);exact hP;exact hcode) (by intro A hA b hb;simp only [List.mem_cons,List.not_mem_nil,or_false] at hA;rcases hA with rfl|rfl|rfl|rfl|rfl|rfl|rfl|rfl|rfl|rfl<;>exact hb):Sh (fun _=>False) W W [.rblk x.g 173 [.iface (F.mem x.i).T (.pointer (some (F.mem x.i).u)), .pointer (some ⟨x.gp,0,none⟩),x.vt,x.prints.v, .bool false], .at_ (⟨x.vt,x.rows.map ThR.toQ⟩:Ls ThQ), .rgs x.rows, .at_ x.prints, .rblk (F.mem x.i).g0 182 [x.words.v,x.owner.v], .at_ x.words, .at_ x.owner, .ro [(F.mem x.i).X x.q], .rblk x.gp 25 [code.v,pw, .int .i64 ((Lk:Nat):Int), .int .i64 ((R:Nat):Int)], .at_ code]) rfl fun a10 h10=>gG h10<|sK fun _ k11=>gal ti_153 rfl fun b12=>nK k11<|sK fun _ k13=>gRn (oM 1 rfl<|.nl)<|fun a15 w15 h15=>wl_ex (x_call h15 bd_121 rfl rfl rfl rfl rfl (xmoves_c hF x code words0 Lk R pw _ ⟨h15.sh.rblk 1 rfl,h15.sh.at 2 rfl,(fun r hr=>(h15.sh.ok (.rgs x.rows) (List.mem_of_getElem? (i:=3) rfl)) r hr),h15.sh.at 4 rfl,⟨h15.sh.rblk 5 rfl,h15.sh.at 6 rfl,h15.sh.at 7 rfl,(h15.sh.ok _ (List.mem_of_getElem? (i:=8) rfl)) _ (List.mem_singleton.2 rfl)⟩⟩ (h15.sh.rblk 9 rfl) (h15.sh.at 10 rfl) hok hx)) (wanted_none rfl _) ?_;clear h10
 rintro a16 w16 ⟨_,⟨ml,rfl,hml,hmll,hs16⟩,hf16⟩
 have h16:=(⟨hf16,h15.sh.call hs16 (by intro A hA b hb;simp only [List.mem_cons,List.not_mem_nil,or_false] at hA;first|(subst hA;exact Flat.noRd hb)|(rcases hA with rfl|rfl|rfl|rfl|rfl|rfl|rfl|rfl<;>first|exact (hb:False).elim|exact Flat.noRd hb|exact regNoRd hb|exact ((hF.ok _).xrd _ _ hb).elim))⟩:St 68 (fun _=>False) W a16 w16 _ _)
 clear hf16 hs16
 clear h15
 refine gG h16<|gRn (oM 1 rfl<|.nl)<|nK k13<|gK fun _ k17=>gB<|sK fun _ k18=>gRn (oM 1 rfl<|.nl)<|fun a20 w20 h20=>wl_ex (x_call h20 bd_122 rfl rfl rfl rfl rfl (xended_c hF x code words0 Lk R pw _ ⟨h20.sh.rblk 2 rfl,h20.sh.at 3 rfl,(fun r hr=>(h20.sh.ok (.rgs x.rows) (List.mem_of_getElem? (i:=4) rfl)) r hr),h20.sh.at 5 rfl,⟨h20.sh.rblk 6 rfl,h20.sh.at 7 rfl,h20.sh.at 8 rfl,(h20.sh.ok _ (List.mem_of_getElem? (i:=9) rfl)) _ (List.mem_singleton.2 rfl)⟩⟩ (h20.sh.rblk 10 rfl) (h20.sh.at 11 rfl) hok hx)) (wanted_none rfl _) ?_;clear h16
 rintro a21 w21 ⟨_,⟨rfl,hs21⟩,hf21⟩
 have h21:St 68 (fun _=>False) W a21 w21 _ _:=⟨hf21,h20.sh.call0 hs21⟩
 clear hf21 hs21
 clear h20
 refine gG h21<|gRn (oM 1 rfl<|.nl)<|nK k18<|?_;clear h21
 refine gCb rfl (fun hb22=> ?_) fun hb22=> ?_
 ·skip
  refine gK fun _ k23=>gF [0,2,3,8,9,10,11,12] rfl<|fun a25 w25 h25=>x_any ((fun Φ Ψ S a w=>(S 1=false∧S 7=false∧S 9=false∧FrI 68 S Φ Ψ a∧Sh (fun _=>False) W w [.own 179 ml, .blk b12 153 [(.slice none 0 0),(.slice none 0 0)], .rblk x.g 173 [.iface (F.mem x.i).T (.pointer (some (F.mem x.i).u)), .pointer (some ⟨x.gp,0,none⟩),x.vt,x.prints.v, .bool false], .at_ (⟨x.vt,x.rows.map ThR.toQ⟩:Ls ThQ), .rgs x.rows, .at_ x.prints, .rblk (F.mem x.i).g0 182 [x.words.v,x.owner.v], .at_ x.words, .at_ x.owner, .ro [(F.mem x.i).X x.q], .rblk x.gp 25 [code.v,pw, .int .i64 ((Lk:Nat):Int), .int .i64 ((R:Nat):Int)], .at_ code])∨(S 1=true∧S 7=false∧S 9=false∧∃(wd7001:Ls Int),(wd7001.l=x.words.l)∧(∀b,wd7001.on b→W.heap.size≤b)∧FrI 68 S Φ (Ψ++ [(1,14,wd7001.v),(6,19, .agg #[.int .i64 0,wd7001.v,x.prints.v])]) a∧Sh (fun _=>False) W w [.own 3 wd7001, .own 179 ml, .blk b12 153 [(.slice none 0 0),(.slice none 0 0)], .rblk x.g 173 [.iface (F.mem x.i).T (.pointer (some (F.mem x.i).u)), .pointer (some ⟨x.gp,0,none⟩),x.vt,x.prints.v, .bool false], .at_ (⟨x.vt,x.rows.map ThR.toQ⟩:Ls ThQ), .rgs x.rows, .at_ x.prints, .rblk (F.mem x.i).g0 182 [x.words.v,x.owner.v], .at_ x.words, .at_ x.owner, .ro [(F.mem x.i).X x.q], .rblk x.gp 25 [code.v,pw, .int .i64 ((Lk:Nat):Int), .int .i64 ((R:Nat):Int)], .at_ code])∨(S 1=true∧S 7=true∧S 9=false∧∃(wd7001:Ls Int) (v7007:Value),(wd7001.l=x.words.l)∧(∀b,wd7001.on b→W.heap.size≤b)∧FrI 68 S Φ (Ψ++ [(1,14,wd7001.v),(6,19, .agg #[.int .i64 0,wd7001.v,x.prints.v]),(7,20,v7007),(8,21, .agg #[(.slice none 0 0),v7007])]) a∧Sh (fun _=>False) W w [.own 39 (⟨v7007, [(⟨0,wd7001,x.prints⟩:OutL)]⟩:Ls OutL), .at_ wd7001, .own 179 ml, .blk b12 153 [(.slice none 0 0),(.slice none 0 0)], .rblk x.g 173 [.iface (F.mem x.i).T (.pointer (some (F.mem x.i).u)), .pointer (some ⟨x.gp,0,none⟩),x.vt,x.prints.v, .bool false], .at_ (⟨x.vt,x.rows.map ThR.toQ⟩:Ls ThQ), .rgs x.rows, .at_ x.prints, .rblk (F.mem x.i).g0 182 [x.words.v,x.owner.v], .at_ x.words, .at_ x.owner, .ro [(F.mem x.i).X x.q], .rblk x.gp 25 [code.v,pw, .int .i64 ((Lk:Nat):Int), .int .i64 ((R:Nat):Int)], .at_ code])∨(S 1=true∧S 7=true∧S 9=true∧∃(wd7001:Ls Int) (v7007:Value),(wd7001.l=x.words.l)∧(∀b,wd7001.on b→W.heap.size≤b)∧FrI 68 S Φ (Ψ++ [(1,14,wd7001.v),(6,19, .agg #[.int .i64 0,wd7001.v,x.prints.v]),(7,20,v7007),(8,21, .agg #[(.slice none 0 0),v7007])]) a∧Sh (fun _=>False) W w [.own 39 (⟨v7007, [(⟨0,wd7001,x.prints⟩:OutL)]⟩:Ls OutL), .at_ wd7001, .own 179 ml, .blk b12 153 [(.slice none 0 0),v7007], .rblk x.g 173 [.iface (F.mem x.i).T (.pointer (some (F.mem x.i).u)), .pointer (some ⟨x.gp,0,none⟩),x.vt,x.prints.v, .bool false], .at_ (⟨x.vt,x.rows.map ThR.toQ⟩:Ls ThQ), .rgs x.rows, .at_ x.prints, .rblk (F.mem x.i).g0 182 [x.words.v,x.owner.v], .at_ x.words, .at_ x.owner, .ro [(F.mem x.i).X x.q], .rblk x.gp 25 [code.v,pw, .int .i64 ((Lk:Nat):Int), .int .i64 ((R:Nat):Int)], .at_ code])) [(0, .pointer (some ⟨x.g,0,none⟩)),(2, .pointer (some ⟨b12,0,none⟩)),(3,ml.v),(8, .pointer (some ⟨x.g,0,none⟩)),(9,ml.v),(10, .bool (ended (pgN code words0 Lk R) x.st)),(11, .pointer (some ⟨x.g,0,none⟩)),(12, .bool (ended (pgN code words0 Lk R) x.st))] [(0,13, .pointer (some ⟨x.g,0,none⟩)),(2,15, .pointer (some ⟨x.g,0,none⟩)),(3,16, .pointer (some ⟨x.g,0,none⟩)),(4,17, .pointer (some ⟨x.g,3,none⟩)),(5,18,x.prints.v)]) (by kernel_rfl) (by kernel_rfl) (Or.inl (⟨rfl,rfl,rfl,FrI.start h25.fr,h25.sh.drew⟩)) ?_ ?_
  ·intro S i o ho hSi hcl hdep a w hI
   clear h25
   rcases i with _|_|_|_|_|_|_|_|_|_|i
   ·obtain rfl:_=o:=Option.some.inj ho
    rcases hI with ⟨ν1,ν7,ν9,φ,ς⟩|⟨ν1,_⟩|⟨ν1,_⟩|⟨ν1,_⟩
    ·exact sq φ φ.fr0 ς (r_move rfl rfl) 0 rfl rfl rfl rfl rfl rfl fun a hg=>Or.inl (⟨un rfl ν1,un rfl ν7,un rfl ν9,hg,ς⟩)
    ·exact no_way (cA hcl 1 0 rfl ν1) hSi
    ·exact no_way (cA hcl 1 0 rfl ν1) hSi
    ·exact no_way (cA hcl 1 0 rfl ν1) hSi
   ·obtain rfl:_=o:=Option.some.inj ho
    have hd0:S 0=true:=depAt hdep 0 rfl rfl
    rcases hI with ⟨ν1,ν7,ν9,φ,ς⟩|⟨ν1,_⟩|⟨ν1,_⟩|⟨ν1,_⟩
    ·have hs:=St.mk (Fr.cons φ.fr0 (φ.at_ 0 0 13 _ rfl hd0)) ς
     refine step_ex (x_call hs bd_120 rfl rfl rfl rfl rfl (xwords_c hF x code words0 Lk R pw _ ⟨hs.sh.rblk 2 rfl,hs.sh.at 3 rfl,(fun r hr=>(hs.sh.ok (.rgs x.rows) (List.mem_of_getElem? (i:=4) rfl)) r hr),hs.sh.at 5 rfl,⟨hs.sh.rblk 6 rfl,hs.sh.at 7 rfl,hs.sh.at 8 rfl,(hs.sh.ok _ (List.mem_of_getElem? (i:=9) rfl)) _ (List.mem_singleton.2 rfl)⟩⟩ (hs.sh.rblk 10 rfl) (hs.sh.at 11 rfl) hok hx)) (wanted_none rfl _) ?_
     rintro a38 w38 ⟨_,⟨wd38,rfl,hwd38,hs38⟩,hf38⟩ ⟨v0,ht38⟩
     have hnw38:∀b,wd38.on b→W.heap.size≤b:=fun b hb=>Nat.le_trans hs.sh.chg.size (hs38.ownNew 0 rfl b hb)
     have h38:=(⟨hf38,hs.sh.call hs38 (by intro A hA b hb;simp only [List.mem_cons,List.not_mem_nil,or_false] at hA;first|(subst hA;exact Flat.noRd hb)|(rcases hA with rfl|rfl|rfl|rfl|rfl|rfl|rfl|rfl<;>first|exact (hb:False).elim|exact Flat.noRd hb|exact regNoRd hb|exact ((hF.ok _).xrd _ _ hb).elim))⟩:St 68 (fun _=>False) W a38 w38 _ _)
     clear hf38 hs38
     exact Or.inr (Or.inl (⟨upd_self _ _,un rfl ν7,un rfl ν9,wd38,hwd38,hnw38,φ.stepW hcl hSi [0,1,2,3,4] (by kernel_rfl) (by kernel_rfl) ht38 h38.fr.defers (h38.fr.at_ 14 _ rfl) 5 rfl rfl rfl rfl,(h38.sh.sel [0,1,2,3,4,5,6,7,8,9,10,11,12] rfl)⟩))
    ·exact no_way ν1 hSi
    ·exact no_way ν1 hSi
    ·exact no_way ν1 hSi
   ·obtain rfl:_=o:=Option.some.inj ho
    rcases hI with ⟨ν1,ν7,ν9,φ,ς⟩|⟨ν1,ν7,ν9,wd7001,hwd7001,hnw7001,φ,ς⟩|⟨_,ν7,_⟩|⟨_,ν7,_⟩
    ·exact sq φ φ.fr0 ς (r_move rfl rfl) 1 rfl rfl rfl rfl rfl rfl fun a hg=>Or.inl (⟨un rfl ν1,un rfl ν7,un rfl ν9,hg,ς⟩)
    ·exact sq φ φ.fr0 ς (r_move rfl rfl) 1 rfl rfl rfl rfl rfl rfl fun a hg=>Or.inr (Or.inl (⟨un rfl ν1,un rfl ν7,un rfl ν9,wd7001,hwd7001,hnw7001,hg,ς⟩))
    ·exact no_way (cA hcl 7 2 rfl ν7) hSi
    ·exact no_way (cA hcl 7 2 rfl ν7) hSi
   ·obtain rfl:_=o:=Option.some.inj ho
    have hd2:S 2=true:=depAt hdep 0 rfl rfl
    rcases hI with ⟨ν1,ν7,ν9,φ,ς⟩|⟨ν1,ν7,ν9,wd7001,hwd7001,hnw7001,φ,ς⟩|⟨_,ν7,_⟩|⟨_,ν7,_⟩
    ·exact sq φ (Fr.cons φ.fr0 (φ.at_ 1 2 15 _ rfl hd2)) ς (r_nil rfl rfl) 2 rfl rfl rfl rfl rfl rfl fun a hg=>Or.inl (⟨un rfl ν1,un rfl ν7,un rfl ν9,hg,ς⟩)
    ·exact sq φ (Fr.cons φ.fr0 (φ.at_ 1 2 15 _ rfl hd2)) ς (r_nil rfl rfl) 2 rfl rfl rfl rfl rfl rfl fun a hg=>Or.inr (Or.inl (⟨un rfl ν1,un rfl ν7,un rfl ν9,wd7001,hwd7001,hnw7001,hg,ς⟩))
    ·exact no_way (cA hcl 7 3 rfl ν7) hSi
    ·exact no_way (cA hcl 7 3 rfl ν7) hSi
   ·obtain rfl:_=o:=Option.some.inj ho
    have hd3:S 3=true:=depAt hdep 0 rfl rfl
    rcases hI with ⟨ν1,ν7,ν9,φ,ς⟩|⟨ν1,ν7,ν9,wd7001,hwd7001,hnw7001,φ,ς⟩|⟨_,ν7,_⟩|⟨_,ν7,_⟩
    ·exact sq φ (Fr.cons φ.fr0 (φ.at_ 2 3 16 _ rfl hd3)) ς (r_fieldB (r:=3) fl_173_3 rfl rfl rfl) 3 rfl rfl rfl rfl rfl rfl fun a hg=>Or.inl (⟨un rfl ν1,un rfl ν7,un rfl ν9,hg,ς⟩)
    ·exact sq φ (Fr.cons φ.fr0 (φ.at_ 2 3 16 _ rfl hd3)) ς (r_fieldB (r:=3) fl_173_3 rfl rfl rfl) 3 rfl rfl rfl rfl rfl rfl fun a hg=>Or.inr (Or.inl (⟨un rfl ν1,un rfl ν7,un rfl ν9,wd7001,hwd7001,hnw7001,hg,ς⟩))
    ·exact no_way (cA hcl 7 4 rfl ν7) hSi
    ·exact no_way (cA hcl 7 4 rfl ν7) hSi
   ·obtain rfl:_=o:=Option.some.inj ho
    have hd4:S 4=true:=depAt hdep 0 rfl rfl
    rcases hI with ⟨ν1,ν7,ν9,φ,ς⟩|⟨ν1,ν7,ν9,wd7001,hwd7001,hnw7001,φ,ς⟩|⟨_,ν7,_⟩|⟨_,ν7,_⟩
    ·exact sq φ (Fr.cons φ.fr0 (φ.at_ 3 4 17 _ rfl hd4)) ς (r_ldbR ti_23 rfl rfl (fun w h=>h.rblk 2 rfl) rfl) 4 rfl rfl rfl rfl rfl rfl fun a hg=>Or.inl (⟨un rfl ν1,un rfl ν7,un rfl ν9,hg,ς⟩)
    ·exact sq φ (Fr.cons φ.fr0 (φ.at_ 3 4 17 _ rfl hd4)) ς (r_ldbR ti_23 rfl rfl (fun w h=>h.rblk 3 rfl) rfl) 4 rfl rfl rfl rfl rfl rfl fun a hg=>Or.inr (Or.inl (⟨un rfl ν1,un rfl ν7,un rfl ν9,wd7001,hwd7001,hnw7001,hg,ς⟩))
    ·exact no_way (cA hcl 7 5 rfl ν7) hSi
    ·exact no_way (cA hcl 7 5 rfl ν7) hSi
   ·obtain rfl:_=o:=Option.some.inj ho
    have hd1:S 1=true:=depAt hdep 0 rfl rfl
    have hd5:S 5=true:=depAt hdep 1 rfl rfl
    rcases hI with ⟨ν1,_⟩|⟨ν1,ν7,ν9,wd7001,hwd7001,hnw7001,φ,ς⟩|⟨_,ν7,_⟩|⟨_,ν7,_⟩
    ·exact no_way hd1 ν1
    ·exact sq φ (Fr.cons (Fr.cons φ.fr0 (φ.at_ 5 1 14 _ rfl hd1)) (φ.at_ 4 5 18 _ rfl hd5)) ς (r_buildS (cs:= [.int .i64 0,wd7001.v,x.prints.v]) rfl rfl (fun w h=>by obtain ⟨A48,n48,c48,(e48:x.prints.v=_)⟩:=((h.at 6 rfl)).form;rw [e48];obtain ⟨A47,n47,c47,(e47:wd7001.v=_)⟩:=((h.own 0 rfl)).form;rw [e47];kernel_rfl)) 6 rfl rfl rfl rfl rfl rfl fun a hg=>Or.inr (Or.inl (⟨un rfl ν1,un rfl ν7,un rfl ν9,wd7001,hwd7001,hnw7001,hg,ς⟩))
    ·exact no_way (cA hcl 7 6 rfl ν7) hSi
    ·exact no_way (cA hcl 7 6 rfl ν7) hSi
   ·obtain rfl:_=o:=Option.some.inj ho
    have hd6:S 6=true:=depAt hdep 0 rfl rfl
    rcases hI with ⟨ν1,_⟩|⟨ν1,ν7,ν9,wd7001,hwd7001,hnw7001,φ,ς⟩|⟨_,ν7,_⟩|⟨_,ν7,_⟩
    ·exact no_way (cA hcl 6 1 rfl hd6) ν1
    ·have hs:=St.mk (Fr.cons φ.fr0 (φ.at_ 6 6 19 _ rfl hd6)) ς
     have h50:St _ _ _ _ _ _ _:=⟨hs.fr,hs.sh.share 0 rfl⟩
     refine step_ex (x_lit (n:=1) (cs:= [.int .i64 0,wd7001.v,x.prints.v]) ([(⟨0,wd7001,x.prints⟩:OutL)]:List OutL) h50 sl_35 ti_39 rfl rfl rfl (by decide) rfl (by kernel_rfl) rfl (fun q hq w h=>by obtain rfl:q=0:=(by simpa using hq);exact ⟨(h.at 0 rfl),(h.at 6 rfl)⟩) (fun q hq b hb=>by obtain rfl:q=0:=(by simpa using hq);rcases hb with hb|hb;exact ⟨_,List.mem_of_getElem? (i:=0) rfl,hb⟩;exact ⟨_,List.mem_of_getElem? (i:=6) rfl,hb⟩) rfl rfl) (wanted_none rfl _) ?_
     rintro a51 w51 ⟨v51,h51⟩ ⟨v0,ht51⟩
     exact Or.inr (Or.inr (Or.inl (⟨un rfl ν1,upd_self _ _,un rfl ν9,wd7001,v51,hwd7001,hnw7001,φ.stepW hcl hSi [0,1,2,3,4,5,6] (by kernel_rfl) (by kernel_rfl) ht51 h51.fr.defers (h51.fr.at_ 20 _ rfl) 7 rfl rfl rfl rfl,(h51.sh.sel [0,1,2,3,4,5,6,7,8,9,10,11,12,13] rfl)⟩)))
    ·exact no_way ν7 hSi
    ·exact no_way ν7 hSi
   ·obtain rfl:_=o:=Option.some.inj ho
    have hd7:S 7=true:=depAt hdep 0 rfl rfl
    rcases hI with ⟨ν1,_⟩|⟨_,ν7,_⟩|⟨ν1,ν7,ν9,wd7001,v7007,hwd7001,hnw7001,φ,ς⟩|⟨_,_,ν9,_⟩
    ·exact no_way (cA hcl 7 1 rfl hd7) ν1
    ·exact no_way hd7 ν7
    ·exact sq φ (Fr.cons φ.fr0 (φ.at_ 7 7 20 _ rfl hd7)) ς (r_buildS (cs:= [(.slice none 0 0),v7007]) rfl rfl (fun w h=>by obtain ⟨A52,n52,c52,(e52:v7007=_)⟩:=((h.own 0 rfl)).form;rw [e52];kernel_rfl)) 8 rfl rfl rfl rfl rfl rfl fun a hg=>Or.inr (Or.inr (Or.inl (⟨un rfl ν1,un rfl ν7,un rfl ν9,wd7001,v7007,hwd7001,hnw7001,hg,ς⟩)))
    ·exact no_way (cA hcl 9 8 rfl ν9) hSi
   ·obtain rfl:_=o:=Option.some.inj ho
    have hd8:S 8=true:=depAt hdep 0 rfl rfl
    have hd1:S 1=true:=depAt hdep 1 rfl rfl
    have hd7:S 7=true:=depAt hdep 9 rfl rfl
    rcases hI with ⟨ν1,_⟩|⟨_,ν7,_⟩|⟨ν1,ν7,ν9,wd7001,v7007,hwd7001,hnw7001,φ,ς⟩|⟨_,_,ν9,_⟩
    ·exact no_way hd1 ν1
    ·exact no_way hd7 ν7
    ·have hs:=St.mk (Fr.cons φ.fr0 (φ.at_ 8 8 21 _ rfl hd8)) ς
     refine step_ex (x_stb (i:=3) (vs:= [(.slice none 0 0),v7007]) (cs' := [(.slice none 0 0),v7007]) hs ti_153 rfl rfl rfl rfl rfl rfl rfl (allOne_cons rfl (allOne_cons ((hs.sh.own 0 rfl)).one allOne_nil)) (Nat.le_of_ble_eq_true rfl) rfl) (wanted_none rfl _) ?_
     rintro a54 w54 h54 ⟨v0,ht54⟩
     exact Or.inr (Or.inr (Or.inr (⟨un rfl ν1,un rfl ν7,upd_self _ _,wd7001,v7007,hwd7001,hnw7001,φ.noneW hcl hSi [0,1,2,3,4,5,6,7,8] (by kernel_rfl) (by kernel_rfl) ht54 h54.fr.defers rfl,(h54.sh.sel [0,1,2,3,4,5,6,7,8,9,10,11,12,13] rfl)⟩)))
    ·exact no_way ν9 hSi
   · simp at ho
  intro S hall a w hI
  clear h25
  rcases hI with ⟨ν1,ν7,ν9,φ,ς⟩|⟨ν1,ν7,ν9,wd7001,hwd7001,hnw7001,φ,ς⟩|⟨ν1,ν7,ν9,wd7001,v7007,hwd7001,hnw7001,φ,ς⟩|⟨ν1,ν7,ν9,wd7001,v7007,hwd7001,hnw7001,φ,ς⟩
  · exact no_way (hall 1 (by decide)) ν1
  · exact no_way (hall 7 (by decide)) ν7
  · exact no_way (hall 9 (by decide)) ν9
  have h55:St 68 (fun _=>False) W a w _ _:=⟨φ.fr0,ς⟩
  clear hall φ ς ν1 ν7 ν9
  refine gG h55<|hK k23<|gR<|uB<|uT<|fun a56 w56 h56=>x_ret1c (fn:=Tryz.f102) (t:=2) (i:=3) ti_153 rfl h56 rfl rfl rfl ?_;clear h55
  have h57:=h56.nil (α:=PSD F) 85
  clear h56
  obtain ⟨hl1_,hl2_⟩:lookE (pgN code words0 Lk R) F.m x.st=_∧lookN (pgN code words0 Lk R) F.m x.st= []:=look_ended hb22
  refine ⟨⟨v7007, [(⟨0,wd7001,x.prints⟩:OutL)]⟩,⟨.slice none 0 0, []⟩,rfl,by rw [hl1_];simp only [List.map_cons,List.map_nil,OutL.out,hwd7001];rfl,by rw [hl2_];rfl,fun y hy=>(by cases hy),fun o ho b hb=> ?_,(h57.sh.sel [1,0] rfl)⟩
  obtain rfl:=List.mem_singleton.1 ho
  exact hb.elim (fun h=> .inl (hnw7001 b h)) (fun h=> .inr h)
 refine sK fun _ k58=>gNl (aO 0 rfl) fun hl59=>gRn (oM 1 rfl<|oln sl_175 (aO 0 rfl) rfl<|oeqN _ 0 rfl<|oM 1 rfl<|.nl)<|nK k58<|gcd rfl (fun hb60 hp60=> ?_) fun hb60 hp60=> ?_
 ·skip
  refine gK fun _ k61=>gF [0,2,3,8,9,10,11,12,22,23,24,25] rfl<|fun a63 w63 h63=>x_any ((fun Φ Ψ S a w=>(S 1=false∧S 7=false∧S 9=false∧FrI 68 S Φ Ψ a∧Sh (fun _=>False) W w [.own 179 ml, .blk b12 153 [(.slice none 0 0),(.slice none 0 0)], .rblk x.g 173 [.iface (F.mem x.i).T (.pointer (some (F.mem x.i).u)), .pointer (some ⟨x.gp,0,none⟩),x.vt,x.prints.v, .bool false], .at_ (⟨x.vt,x.rows.map ThR.toQ⟩:Ls ThQ), .rgs x.rows, .at_ x.prints, .rblk (F.mem x.i).g0 182 [x.words.v,x.owner.v], .at_ x.words, .at_ x.owner, .ro [(F.mem x.i).X x.q], .rblk x.gp 25 [code.v,pw, .int .i64 ((Lk:Nat):Int), .int .i64 ((R:Nat):Int)], .at_ code])∨(S 1=true∧S 7=false∧S 9=false∧∃(wd7101:Ls Int),(wd7101.l=x.words.l)∧(∀b,wd7101.on b→W.heap.size≤b)∧FrI 68 S Φ (Ψ++ [(1,27,wd7101.v),(6,32, .agg #[.int .i64 2,wd7101.v,x.prints.v])]) a∧Sh (fun _=>False) W w [.own 3 wd7101, .own 179 ml, .blk b12 153 [(.slice none 0 0),(.slice none 0 0)], .rblk x.g 173 [.iface (F.mem x.i).T (.pointer (some (F.mem x.i).u)), .pointer (some ⟨x.gp,0,none⟩),x.vt,x.prints.v, .bool false], .at_ (⟨x.vt,x.rows.map ThR.toQ⟩:Ls ThQ), .rgs x.rows, .at_ x.prints, .rblk (F.mem x.i).g0 182 [x.words.v,x.owner.v], .at_ x.words, .at_ x.owner, .ro [(F.mem x.i).X x.q], .rblk x.gp 25 [code.v,pw, .int .i64 ((Lk:Nat):Int), .int .i64 ((R:Nat):Int)], .at_ code])∨(S 1=true∧S 7=true∧S 9=false∧∃(wd7101:Ls Int) (v7107:Value),(wd7101.l=x.words.l)∧(∀b,wd7101.on b→W.heap.size≤b)∧FrI 68 S Φ (Ψ++ [(1,27,wd7101.v),(6,32, .agg #[.int .i64 2,wd7101.v,x.prints.v]),(7,33,v7107),(8,34, .agg #[(.slice none 0 0),v7107])]) a∧Sh (fun _=>False) W w [.own 39 (⟨v7107, [(⟨2,wd7101,x.prints⟩:OutL)]⟩:Ls OutL), .at_ wd7101, .own 179 ml, .blk b12 153 [(.slice none 0 0),(.slice none 0 0)], .rblk x.g 173 [.iface (F.mem x.i).T (.pointer (some (F.mem x.i).u)), .pointer (some ⟨x.gp,0,none⟩),x.vt,x.prints.v, .bool false], .at_ (⟨x.vt,x.rows.map ThR.toQ⟩:Ls ThQ), .rgs x.rows, .at_ x.prints, .rblk (F.mem x.i).g0 182 [x.words.v,x.owner.v], .at_ x.words, .at_ x.owner, .ro [(F.mem x.i).X x.q], .rblk x.gp 25 [code.v,pw, .int .i64 ((Lk:Nat):Int), .int .i64 ((R:Nat):Int)], .at_ code])∨(S 1=true∧S 7=true∧S 9=true∧∃(wd7101:Ls Int) (v7107:Value),(wd7101.l=x.words.l)∧(∀b,wd7101.on b→W.heap.size≤b)∧FrI 68 S Φ (Ψ++ [(1,27,wd7101.v),(6,32, .agg #[.int .i64 2,wd7101.v,x.prints.v]),(7,33,v7107),(8,34, .agg #[(.slice none 0 0),v7107])]) a∧Sh (fun _=>False) W w [.own 39 (⟨v7107, [(⟨2,wd7101,x.prints⟩:OutL)]⟩:Ls OutL), .at_ wd7101, .own 179 ml, .blk b12 153 [(.slice none 0 0),v7107], .rblk x.g 173 [.iface (F.mem x.i).T (.pointer (some (F.mem x.i).u)), .pointer (some ⟨x.gp,0,none⟩),x.vt,x.prints.v, .bool false], .at_ (⟨x.vt,x.rows.map ThR.toQ⟩:Ls ThQ), .rgs x.rows, .at_ x.prints, .rblk (F.mem x.i).g0 182 [x.words.v,x.owner.v], .at_ x.words, .at_ x.owner, .ro [(F.mem x.i).X x.q], .rblk x.gp 25 [code.v,pw, .int .i64 ((Lk:Nat):Int), .int .i64 ((R:Nat):Int)], .at_ code])) [(0, .pointer (some ⟨x.g,0,none⟩)),(2, .pointer (some ⟨b12,0,none⟩)),(3,ml.v),(8, .pointer (some ⟨x.g,0,none⟩)),(9,ml.v),(10, .bool (ended (pgN code words0 Lk R) x.st)),(11, .pointer (some ⟨x.g,0,none⟩)),(12, .bool (ended (pgN code words0 Lk R) x.st)),(22, .bool (decide (ml.l.length=0))),(23,ml.v),(24, .int .i64 ((ml.l.length:Nat):Int)),(25, .bool (decide (ml.l.length=0)))] [(0,26, .pointer (some ⟨x.g,0,none⟩)),(2,28, .pointer (some ⟨x.g,0,none⟩)),(3,29, .pointer (some ⟨x.g,0,none⟩)),(4,30, .pointer (some ⟨x.g,3,none⟩)),(5,31,x.prints.v)]) (by kernel_rfl) (by kernel_rfl) (Or.inl (⟨rfl,rfl,rfl,FrI.start h63.fr,h63.sh.drew⟩)) ?_ ?_
  ·intro S i o ho hSi hcl hdep a w hI
   clear h63
   rcases i with _|_|_|_|_|_|_|_|_|_|i
   ·obtain rfl:_=o:=Option.some.inj ho
    rcases hI with ⟨ν1,ν7,ν9,φ,ς⟩|⟨ν1,_⟩|⟨ν1,_⟩|⟨ν1,_⟩
    ·exact sq φ φ.fr0 ς (r_move rfl rfl) 0 rfl rfl rfl rfl rfl rfl fun a hg=>Or.inl (⟨un rfl ν1,un rfl ν7,un rfl ν9,hg,ς⟩)
    ·exact no_way (cA hcl 1 0 rfl ν1) hSi
    ·exact no_way (cA hcl 1 0 rfl ν1) hSi
    ·exact no_way (cA hcl 1 0 rfl ν1) hSi
   ·obtain rfl:_=o:=Option.some.inj ho
    have hd0:S 0=true:=depAt hdep 0 rfl rfl
    rcases hI with ⟨ν1,ν7,ν9,φ,ς⟩|⟨ν1,_⟩|⟨ν1,_⟩|⟨ν1,_⟩
    ·have hs:=St.mk (Fr.cons φ.fr0 (φ.at_ 0 0 26 _ rfl hd0)) ς
     refine step_ex (x_call hs bd_120 rfl rfl rfl rfl rfl (xwords_c hF x code words0 Lk R pw _ ⟨hs.sh.rblk 2 rfl,hs.sh.at 3 rfl,(fun r hr=>(hs.sh.ok (.rgs x.rows) (List.mem_of_getElem? (i:=4) rfl)) r hr),hs.sh.at 5 rfl,⟨hs.sh.rblk 6 rfl,hs.sh.at 7 rfl,hs.sh.at 8 rfl,(hs.sh.ok _ (List.mem_of_getElem? (i:=9) rfl)) _ (List.mem_singleton.2 rfl)⟩⟩ (hs.sh.rblk 10 rfl) (hs.sh.at 11 rfl) hok hx)) (wanted_none rfl _) ?_
     rintro a76 w76 ⟨_,⟨wd76,rfl,hwd76,hs76⟩,hf76⟩ ⟨v0,ht76⟩
     have hnw76:∀b,wd76.on b→W.heap.size≤b:=fun b hb=>Nat.le_trans hs.sh.chg.size (hs76.ownNew 0 rfl b hb)
     have h76:=(⟨hf76,hs.sh.call hs76 (by intro A hA b hb;simp only [List.mem_cons,List.not_mem_nil,or_false] at hA;first|(subst hA;exact Flat.noRd hb)|(rcases hA with rfl|rfl|rfl|rfl|rfl|rfl|rfl|rfl<;>first|exact (hb:False).elim|exact Flat.noRd hb|exact regNoRd hb|exact ((hF.ok _).xrd _ _ hb).elim))⟩:St 68 (fun _=>False) W a76 w76 _ _)
     clear hf76 hs76
     exact Or.inr (Or.inl (⟨upd_self _ _,un rfl ν7,un rfl ν9,wd76,hwd76,hnw76,φ.stepW hcl hSi [0,1,2,3,4] (by kernel_rfl) (by kernel_rfl) ht76 h76.fr.defers (h76.fr.at_ 27 _ rfl) 5 rfl rfl rfl rfl,(h76.sh.sel [0,1,2,3,4,5,6,7,8,9,10,11,12] rfl)⟩))
    ·exact no_way ν1 hSi
    ·exact no_way ν1 hSi
    ·exact no_way ν1 hSi
   ·obtain rfl:_=o:=Option.some.inj ho
    rcases hI with ⟨ν1,ν7,ν9,φ,ς⟩|⟨ν1,ν7,ν9,wd7101,hwd7101,hnw7101,φ,ς⟩|⟨_,ν7,_⟩|⟨_,ν7,_⟩
    ·exact sq φ φ.fr0 ς (r_move rfl rfl) 1 rfl rfl rfl rfl rfl rfl fun a hg=>Or.inl (⟨un rfl ν1,un rfl ν7,un rfl ν9,hg,ς⟩)
    ·exact sq φ φ.fr0 ς (r_move rfl rfl) 1 rfl rfl rfl rfl rfl rfl fun a hg=>Or.inr (Or.inl (⟨un rfl ν1,un rfl ν7,un rfl ν9,wd7101,hwd7101,hnw7101,hg,ς⟩))
    ·exact no_way (cA hcl 7 2 rfl ν7) hSi
    ·exact no_way (cA hcl 7 2 rfl ν7) hSi
   ·obtain rfl:_=o:=Option.some.inj ho
    have hd2:S 2=true:=depAt hdep 0 rfl rfl
    rcases hI with ⟨ν1,ν7,ν9,φ,ς⟩|⟨ν1,ν7,ν9,wd7101,hwd7101,hnw7101,φ,ς⟩|⟨_,ν7,_⟩|⟨_,ν7,_⟩
    ·exact sq φ (Fr.cons φ.fr0 (φ.at_ 1 2 28 _ rfl hd2)) ς (r_nil rfl rfl) 2 rfl rfl rfl rfl rfl rfl fun a hg=>Or.inl (⟨un rfl ν1,un rfl ν7,un rfl ν9,hg,ς⟩)
    ·exact sq φ (Fr.cons φ.fr0 (φ.at_ 1 2 28 _ rfl hd2)) ς (r_nil rfl rfl) 2 rfl rfl rfl rfl rfl rfl fun a hg=>Or.inr (Or.inl (⟨un rfl ν1,un rfl ν7,un rfl ν9,wd7101,hwd7101,hnw7101,hg,ς⟩))
    ·exact no_way (cA hcl 7 3 rfl ν7) hSi
    ·exact no_way (cA hcl 7 3 rfl ν7) hSi
   ·obtain rfl:_=o:=Option.some.inj ho
    have hd3:S 3=true:=depAt hdep 0 rfl rfl
    rcases hI with ⟨ν1,ν7,ν9,φ,ς⟩|⟨ν1,ν7,ν9,wd7101,hwd7101,hnw7101,φ,ς⟩|⟨_,ν7,_⟩|⟨_,ν7,_⟩
    ·exact sq φ (Fr.cons φ.fr0 (φ.at_ 2 3 29 _ rfl hd3)) ς (r_fieldB (r:=3) fl_173_3 rfl rfl rfl) 3 rfl rfl rfl rfl rfl rfl fun a hg=>Or.inl (⟨un rfl ν1,un rfl ν7,un rfl ν9,hg,ς⟩)
    ·exact sq φ (Fr.cons φ.fr0 (φ.at_ 2 3 29 _ rfl hd3)) ς (r_fieldB (r:=3) fl_173_3 rfl rfl rfl) 3 rfl rfl rfl rfl rfl rfl fun a hg=>Or.inr (Or.inl (⟨un rfl ν1,un rfl ν7,un rfl ν9,wd7101,hwd7101,hnw7101,hg,ς⟩))
    ·exact no_way (cA hcl 7 4 rfl ν7) hSi
    ·exact no_way (cA hcl 7 4 rfl ν7) hSi
   ·obtain rfl:_=o:=Option.some.inj ho
    have hd4:S 4=true:=depAt hdep 0 rfl rfl
    rcases hI with ⟨ν1,ν7,ν9,φ,ς⟩|⟨ν1,ν7,ν9,wd7101,hwd7101,hnw7101,φ,ς⟩|⟨_,ν7,_⟩|⟨_,ν7,_⟩
    ·exact sq φ (Fr.cons φ.fr0 (φ.at_ 3 4 30 _ rfl hd4)) ς (r_ldbR ti_23 rfl rfl (fun w h=>h.rblk 2 rfl) rfl) 4 rfl rfl rfl rfl rfl rfl fun a hg=>Or.inl (⟨un rfl ν1,un rfl ν7,un rfl ν9,hg,ς⟩)
    ·exact sq φ (Fr.cons φ.fr0 (φ.at_ 3 4 30 _ rfl hd4)) ς (r_ldbR ti_23 rfl rfl (fun w h=>h.rblk 3 rfl) rfl) 4 rfl rfl rfl rfl rfl rfl fun a hg=>Or.inr (Or.inl (⟨un rfl ν1,un rfl ν7,un rfl ν9,wd7101,hwd7101,hnw7101,hg,ς⟩))
    ·exact no_way (cA hcl 7 5 rfl ν7) hSi
    ·exact no_way (cA hcl 7 5 rfl ν7) hSi
   ·obtain rfl:_=o:=Option.some.inj ho
    have hd1:S 1=true:=depAt hdep 0 rfl rfl
    have hd5:S 5=true:=depAt hdep 1 rfl rfl
    rcases hI with ⟨ν1,_⟩|⟨ν1,ν7,ν9,wd7101,hwd7101,hnw7101,φ,ς⟩|⟨_,ν7,_⟩|⟨_,ν7,_⟩
    ·exact no_way hd1 ν1
    ·exact sq φ (Fr.cons (Fr.cons φ.fr0 (φ.at_ 5 1 27 _ rfl hd1)) (φ.at_ 4 5 31 _ rfl hd5)) ς (r_buildS (cs:= [.int .i64 2,wd7101.v,x.prints.v]) rfl rfl (fun w h=>by obtain ⟨A86,n86,c86,(e86:x.prints.v=_)⟩:=((h.at 6 rfl)).form;rw [e86];obtain ⟨A85,n85,c85,(e85:wd7101.v=_)⟩:=((h.own 0 rfl)).form;rw [e85];kernel_rfl)) 6 rfl rfl rfl rfl rfl rfl fun a hg=>Or.inr (Or.inl (⟨un rfl ν1,un rfl ν7,un rfl ν9,wd7101,hwd7101,hnw7101,hg,ς⟩))
    ·exact no_way (cA hcl 7 6 rfl ν7) hSi
    ·exact no_way (cA hcl 7 6 rfl ν7) hSi
   ·obtain rfl:_=o:=Option.some.inj ho
    have hd6:S 6=true:=depAt hdep 0 rfl rfl
    rcases hI with ⟨ν1,_⟩|⟨ν1,ν7,ν9,wd7101,hwd7101,hnw7101,φ,ς⟩|⟨_,ν7,_⟩|⟨_,ν7,_⟩
    ·exact no_way (cA hcl 6 1 rfl hd6) ν1
    ·have hs:=St.mk (Fr.cons φ.fr0 (φ.at_ 6 6 32 _ rfl hd6)) ς
     have h88:St _ _ _ _ _ _ _:=⟨hs.fr,hs.sh.share 0 rfl⟩
     refine step_ex (x_lit (n:=1) (cs:= [.int .i64 2,wd7101.v,x.prints.v]) ([(⟨2,wd7101,x.prints⟩:OutL)]:List OutL) h88 sl_35 ti_39 rfl rfl rfl (by decide) rfl (by kernel_rfl) rfl (fun q hq w h=>by obtain rfl:q=0:=(by simpa using hq);exact ⟨(h.at 0 rfl),(h.at 6 rfl)⟩) (fun q hq b hb=>by obtain rfl:q=0:=(by simpa using hq);rcases hb with hb|hb;exact ⟨_,List.mem_of_getElem? (i:=0) rfl,hb⟩;exact ⟨_,List.mem_of_getElem? (i:=6) rfl,hb⟩) rfl rfl) (wanted_none rfl _) ?_
     rintro a89 w89 ⟨v89,h89⟩ ⟨v0,ht89⟩
     exact Or.inr (Or.inr (Or.inl (⟨un rfl ν1,upd_self _ _,un rfl ν9,wd7101,v89,hwd7101,hnw7101,φ.stepW hcl hSi [0,1,2,3,4,5,6] (by kernel_rfl) (by kernel_rfl) ht89 h89.fr.defers (h89.fr.at_ 33 _ rfl) 7 rfl rfl rfl rfl,(h89.sh.sel [0,1,2,3,4,5,6,7,8,9,10,11,12,13] rfl)⟩)))
    ·exact no_way ν7 hSi
    ·exact no_way ν7 hSi
   ·obtain rfl:_=o:=Option.some.inj ho
    have hd7:S 7=true:=depAt hdep 0 rfl rfl
    rcases hI with ⟨ν1,_⟩|⟨_,ν7,_⟩|⟨ν1,ν7,ν9,wd7101,v7107,hwd7101,hnw7101,φ,ς⟩|⟨_,_,ν9,_⟩
    ·exact no_way (cA hcl 7 1 rfl hd7) ν1
    ·exact no_way hd7 ν7
    ·exact sq φ (Fr.cons φ.fr0 (φ.at_ 7 7 33 _ rfl hd7)) ς (r_buildS (cs:= [(.slice none 0 0),v7107]) rfl rfl (fun w h=>by obtain ⟨A90,n90,c90,(e90:v7107=_)⟩:=((h.own 0 rfl)).form;rw [e90];kernel_rfl)) 8 rfl rfl rfl rfl rfl rfl fun a hg=>Or.inr (Or.inr (Or.inl (⟨un rfl ν1,un rfl ν7,un rfl ν9,wd7101,v7107,hwd7101,hnw7101,hg,ς⟩)))
    ·exact no_way (cA hcl 9 8 rfl ν9) hSi
   ·obtain rfl:_=o:=Option.some.inj ho
    have hd8:S 8=true:=depAt hdep 0 rfl rfl
    have hd1:S 1=true:=depAt hdep 1 rfl rfl
    have hd7:S 7=true:=depAt hdep 9 rfl rfl
    rcases hI with ⟨ν1,_⟩|⟨_,ν7,_⟩|⟨ν1,ν7,ν9,wd7101,v7107,hwd7101,hnw7101,φ,ς⟩|⟨_,_,ν9,_⟩
    ·exact no_way hd1 ν1
    ·exact no_way hd7 ν7
    ·have hs:=St.mk (Fr.cons φ.fr0 (φ.at_ 8 8 34 _ rfl hd8)) ς
     refine step_ex (x_stb (i:=3) (vs:= [(.slice none 0 0),v7107]) (cs' := [(.slice none 0 0),v7107]) hs ti_153 rfl rfl rfl rfl rfl rfl rfl (allOne_cons rfl (allOne_cons ((hs.sh.own 0 rfl)).one allOne_nil)) (Nat.le_of_ble_eq_true rfl) rfl) (wanted_none rfl _) ?_
     rintro a92 w92 h92 ⟨v0,ht92⟩
     exact Or.inr (Or.inr (Or.inr (⟨un rfl ν1,un rfl ν7,upd_self _ _,wd7101,v7107,hwd7101,hnw7101,φ.noneW hcl hSi [0,1,2,3,4,5,6,7,8] (by kernel_rfl) (by kernel_rfl) ht92 h92.fr.defers rfl,(h92.sh.sel [0,1,2,3,4,5,6,7,8,9,10,11,12,13] rfl)⟩)))
    ·exact no_way ν9 hSi
   · simp at ho
  intro S hall a w hI
  clear h63
  rcases hI with ⟨ν1,ν7,ν9,φ,ς⟩|⟨ν1,ν7,ν9,wd7101,hwd7101,hnw7101,φ,ς⟩|⟨ν1,ν7,ν9,wd7101,v7107,hwd7101,hnw7101,φ,ς⟩|⟨ν1,ν7,ν9,wd7101,v7107,hwd7101,hnw7101,φ,ς⟩
  · exact no_way (hall 1 (by decide)) ν1
  · exact no_way (hall 7 (by decide)) ν7
  · exact no_way (hall 9 (by decide)) ν9
  have h93:St 68 (fun _=>False) W a w _ _:=⟨φ.fr0,ς⟩
  clear hall φ ς ν1 ν7 ν9
  refine gG h93<|hK k61<|gR<|uB<|uT<|fun a94 w94 h94=>x_ret1c (fn:=Tryz.f102) (t:=2) (i:=3) ti_153 rfl h94 rfl rfl rfl ?_;clear h93
  have h95:=h94.nil (α:=PSD F) 85
  clear h94
  obtain ⟨hl1_,hl2_⟩:lookE (pgN code words0 Lk R) F.m x.st=_∧lookN (pgN code words0 Lk R) F.m x.st= []:=look_stuck hb22 (by rw [←hml];omega)
  refine ⟨⟨v7107, [(⟨2,wd7101,x.prints⟩:OutL)]⟩,⟨.slice none 0 0, []⟩,rfl,by rw [hl1_];simp only [List.map_cons,List.map_nil,OutL.out,hwd7101];rfl,by rw [hl2_];rfl,fun y hy=>(by cases hy),fun o ho b hb=> ?_,(h95.sh.sel [1,0] rfl)⟩
  obtain rfl:=List.mem_singleton.1 ho
  exact hb.elim (fun h=> .inl (hnw7101 b h)) (fun h=> .inr h)
 refine gS<|hK k17<|sK fun _ k96=>gal ti_153 rfl fun b97=>nK k96<|gK fun _ k98=>sG (oM 1 rfl<|oln sl_175 (aO 1 rfl) rfl<|oM 1 rfl<|.nl)<|gB<|fun a102 w102 h102=> ?_
 have h101:=h102.nil (α:=PSD F) 85
 clear h102
 have h103:=h101.nil (α:=OutL) 39
 clear h101
 refine x_loop (fun m a w=>∃(k:Nat) (ns:List (PSD F)) (os:List OutL) (vn vo:Value),(k≤ml.l.length)∧(ns.map PSD.st=(ml.l.take k).flatMap (nextV (pgN code words0 Lk R) F.m x.st))∧(os.map OutL.out=(ml.l.take k).flatMap (endsV (pgN code words0 Lk R) F.m x.st))∧(∀y∈ns,y.gp=x.gp∧y.rows.length=code.l.length∧y.qs.length=code.l.length∧∀b,Enc.on y b→W.heap.size≤b)∧(∀o∈os,∀b,Enc.on o b→W.heap.size≤b)∧(ns.length≤k∧os.length≤k)∧St 68 (fun _=>False) W a w [(0, .pointer (some ⟨x.g,0,none⟩)),(2, .pointer (some ⟨b12,0,none⟩)),(4, .pointer (some ⟨b97,0,none⟩)),(35,ml.v),(36, .int .i64 ((ml.l.length:Nat):Int)),(37, .int .i64 ((k:Nat):Int))] [.blk b97 153 [vn,vo], .own 179 ml, .blk b12 153 [(.slice none 0 0),(.slice none 0 0)], .rblk x.g 173 [.iface (F.mem x.i).T (.pointer (some (F.mem x.i).u)), .pointer (some ⟨x.gp,0,none⟩),x.vt,x.prints.v, .bool false], .at_ (⟨x.vt,x.rows.map ThR.toQ⟩:Ls ThQ), .rgs x.rows, .at_ x.prints, .rblk (F.mem x.i).g0 182 [x.words.v,x.owner.v], .at_ x.words, .at_ x.owner, .ro [(F.mem x.i).X x.q], .rblk x.gp 25 [code.v,pw, .int .i64 ((Lk:Nat):Int), .int .i64 ((R:Nat):Int)], .at_ code, .own 85 (⟨vn,ns⟩:Ls (PSD F)), .own 39 (⟨vo,os⟩:Ls OutL)]∧m=ml.l.length-k) ⟨_,0, [], [],(.slice none 0 0),(.slice none 0 0),(by omega),(rfl),(rfl),(fun y hy=>(by cases hy)),(fun y hy=>(by cases hy)),(⟨Nat.le_refl _,Nat.le_refl _⟩),h103.nrm ⟨rfl,rfl,rfl,rfl,rfl,rfl,trivial⟩ [2,3,4,5,6,7,8,9,10,11,12,13,14,1,0] rfl,rfl⟩ ?_
 clear h103
 rintro m100 a100 w100 ⟨k,ns,os,vn,vo,hk0,hns,hos,hnx,hox,hnl,h100,hm100⟩
 refine gG h100<|sG (oltN _ _ rfl<|.nl)<|gK fun _ k105=>gcd rfl (fun hb106 hp106=> ?_) fun hb106 hp106=> ?_;clear h100
 ·skip
  refine gS<|hK k105<|gK fun _ k107=>gB<|sK fun _ k108=>gRn (oxN sl_175 ti_179 (aO 1 rfl) _ om9 rfl<|olw2 [.int .i64 ((nth ml.l k).th), .int .i64 ((nth ml.l k).st)] ti_179 (aO 1 rfl) om9 rfl<|.nl)<|gal ti_179 rfl fun b109=>gsw 0 ti_179 rfl rfl rfl<|nK k108<|sK fun _ k111=>gRn (oM 1 rfl<|.nl)<|fun a113 w113 h113=>wl_ex (x_call h113 bd_143 rfl rfl rfl rfl rfl (sclone_c F x _ hF ⟨h113.sh.rblk 4 rfl,h113.sh.at 5 rfl,(fun r hr=>(h113.sh.ok (.rgs x.rows) (List.mem_of_getElem? (i:=6) rfl)) r hr),h113.sh.at 7 rfl,⟨h113.sh.rblk 8 rfl,h113.sh.at 9 rfl,h113.sh.at 10 rfl,(h113.sh.ok _ (List.mem_of_getElem? (i:=11) rfl)) _ (List.mem_singleton.2 rfl)⟩⟩ hk)) (wanted_none rfl _) ?_
  rintro a114 w114 ⟨_,⟨y114,rfl,hyg114,hyr114,hys114,hyq114,hs114⟩,hf114⟩
  change Sh0 _ _ [.blk y114.g 173 [.iface (F.mem y114.i).T (.pointer (some (F.mem y114.i).u)), .pointer (some ⟨y114.gp,0,none⟩),y114.vt,y114.prints.v, .bool false], .own 189 (⟨y114.vt,y114.rows.map ThR.toQ⟩:Ls ThQ), .big (regA 3 y114.rows), .own 3 y114.prints, .blk (F.mem y114.i).g0 182 [y114.words.v,y114.owner.v], .own 3 y114.words, .own 3 y114.owner,(F.mem y114.i).X y114.q] at hs114
  have h114:=(⟨hf114,h113.sh.call hs114 (by intro A hA b hb;simp only [List.mem_cons,List.not_mem_nil,or_false] at hA;first|(subst hA;exact Flat.noRd hb)|(rcases hA with rfl|rfl|rfl|rfl|rfl|rfl|rfl|rfl<;>first|exact (hb:False).elim|exact Flat.noRd hb|exact regNoRd hb|exact ((hF.ok _).xrd _ _ hb).elim))⟩:St 68 (fun _=>False) W a114 w114 _ _)
  clear hf114 hs114
  clear h113
  refine gG h114<|gRn (oM 1 rfl<|.nl)<|nK k111<|sK fun _ k115=>gRn (oM 1 rfl<|olw 8 ti_179 rfl rfl<|.nl)<|?_;clear h114
  have hmm:nth ml.l k∈movesV (pgN code words0 Lk R) F.m x.st:=by rw [←hml];exact nth_mem _ _ (by omega)
  obtain ⟨t,j,htt,hmv,hmk⟩:=mem_movesV.1 hmm
  have htt2:=htt
  rw [pgN_len] at htt
  intro a117 w117 h117
  have h116:=h117.same (d:=44) (v' := .agg #[.int .i64 ((t:Nat):Int), .int .i64 (((j:Nat):Int)-1)]) rfl (by rw [hmk])
  clear h117
  have hpy:PX code words0 Lk R y114:=⟨by rw [hys114];exact hx.reach,by rw [hyr114];exact hx.rl,by rw [hyq114];exact hx.ql,by have h9:y114.prints.l=x.prints.l:=congrArg MSt.prints hys114;rw [h9];exact hx.pn⟩
  have h118:=h116.sel (L' := [_,_,_,_,_,_,_,_,_,_,_,_,_,_,_,_,_,_,_,_,_,_,_,_]) [0,1,2,3,4,5,6,7,20,21,8,9,10,11,12,13,14,15,16,17,18,19,22,23] rfl
  have hp119:=h118.sh.passL (Lp:= [_,_,_,_,_,_,_,_,_,_])
  refine wl_ex (x_call h118 bd_123 rfl rfl rfl rfl rfl (xdo_c hF _ y114 code words0 Lk R pw t j x.gp _ hyg114 hp119 hok hpy htt (by rw [hys114];exact hmv))) (wanted_none rfl _) ?_
  rintro a120 w120 ⟨_,⟨rfl,z120,fl120,hzg120,hzp120,hzr120,hzq120,hzf120,hzo120,hzs120,hs120⟩,hf120⟩
  change Sh _ _ _ [.blk z120.g 173 [.iface (F.mem z120.i).T (.pointer (some (F.mem z120.i).u)), .pointer (some ⟨z120.gp,0,none⟩),z120.vt,z120.prints.v, .bool fl120], .own 189 (⟨z120.vt,z120.rows.map ThR.toQ⟩:Ls ThQ), .big (regA 3 z120.rows), .own 3 z120.prints, .blk (F.mem z120.i).g0 182 [z120.words.v,z120.owner.v], .own 3 z120.words, .own 3 z120.owner,(F.mem z120.i).X z120.q, .rblk x.gp 25 [code.v,pw, .int .i64 ((Lk:Nat):Int), .int .i64 ((R:Nat):Int)], .at_ code] at hs120
  have h120:St 68 (fun _=>False) W a120 w120 _ [_,_,_,_,_,_,_,_,_,_,_,_,_,_,_,_,_,_,_,_,_,_,_,_]:=⟨hf120,h118.sh.backL (Lp:= [_,_,_,_,_,_,_,_,_,_]) hs120 (by intro A hA b hb;simp only [List.mem_cons,List.not_mem_nil,or_false] at hA;rcases hA with rfl|rfl|rfl|rfl|rfl|rfl|rfl|rfl|rfl|rfl<;>first|exact (hb:False).elim|exact Flat.noRd hb|exact .inl ⟨_,List.mem_cons_self .., .inr hb⟩|exact ((hF.ok _).xrd _ _ hb).elim|exact regNoRd hb|exact .inl ⟨_,by simp, .inr hb⟩)⟩
  clear hf120 hs120
  clear h118
  refine gG h120<|nK k115<|sK fun _ k121=>fun a123 w123 h123=> ?_;clear h120
  have h122:=h123.same (d:=7) (v' := .pointer (some ⟨z120.g,0,none⟩)) rfl (by rw [hzg120])
  clear h123
  rw [hys114] at hzf120 hzo120 hzs120
  refine gG h122<|gRn (oM 1 rfl<|onfl 0 fl_173_4 ti_4 rfl rfl<|.nl)<|nK k121<|?_;clear h122
  refine gCb rfl (fun hb124=> ?_) fun hb124=> ?_
  ·skip
   obtain ⟨hlt1,hlt2⟩:=look_t (p:=(pgN code words0 Lk R)) (m:=F.m) (s:=x.st) (show k<ml.l.length by omega) hmk (hzf120.symm.trans hb124)
   intro a126 w126 h126
   have hnp:=h126.sh.ownNew 3 rfl
   have h125:St 68 (fun _=>False) W a126 w126 _ _:=⟨h126.fr,h126.sh.share 3 rfl⟩
   clear h126
   have hosN:(os++ [(⟨1,⟨.slice none 0 0, []⟩,z120.prints⟩:OutL)]).map OutL.out=(ml.l.take (k+1)).flatMap (endsV (pgN code words0 Lk R) F.m x.st):=by rw [hlt1,List.map_append,hos,←hzo120];rfl
   have hnsN:ns.map PSD.st=(ml.l.take (k+1)).flatMap (nextV (pgN code words0 Lk R) F.m x.st):=by rw [hlt2];exact hns
   have hnxN:=hnx
   have hoxN:∀o∈os++ [(⟨1,⟨.slice none 0 0, []⟩,z120.prints⟩:OutL)],∀b,Enc.on o b→W.heap.size≤b:=fun o ho b hb=>(List.mem_append.1 ho).elim (fun h=>hox o h b hb) (fun h=>by obtain rfl:=List.mem_singleton.1 h;exact hb.elim (fun h=>(nilOnI h).elim) (fun h=>hnp b h))
   have hnlN:ns.length≤k+1∧(os++ [(⟨1,⟨.slice none 0 0, []⟩,z120.prints⟩:OutL)]).length≤k+1:=⟨by omega,by rw [List.length_append];simp only [List.length_cons,List.length_nil];omega⟩
   refine gG h125<|rC [7,8,10] rfl<|pR [0,1,2,3,4,5,6] rfl (ofB fl_153_1 rfl<|olB 11 ti_35 rfl rfl<|oM 1 rfl<|onfl 0 fl_173_3 ti_23 rfl rfl<|oV (r_buildS (cs:= [.int .i64 1,(.slice none 0 0),z120.prints.v]) rfl rfl (fun w h=>by obtain ⟨A127,n127,c127,(e127:z120.prints.v=_)⟩:=((h.at 3 rfl)).form;rw [e127];kernel_rfl)) rfl<|.nl) rfl<|pX (fun _ _ h_=>x_lit (n:=1) (cs:= [.int .i64 1,(.slice none 0 0),z120.prints.v]) ([(⟨1,(⟨.slice none 0 0, []⟩:Ls Int),z120.prints⟩:OutL)]:List OutL) h_ sl_35 ti_39 rfl rfl rfl (by decide) rfl (by kernel_rfl) rfl (fun q hq w h=>by obtain rfl:q=0:=(by simpa using hq);exact ⟨LsNil _,(h.at 3 rfl)⟩) (fun q hq b hb=>by obtain rfl:q=0:=(by simpa using hq);rcases hb with hb|hb;exact (by rcases hb with ⟨h0,_⟩|⟨_,h0,_⟩<;>first|exact (Nat.not_lt_zero _ h0).elim|exact absurd h0 (by simp));exact ⟨_,List.mem_of_getElem? (i:=3) rfl,hb⟩) rfl rfl) rfl fun v128=>pR [0,1] rfl (ofB fl_153_1 rfl<|olB 12 ti_35 rfl rfl<|.nl) rfl<|pX (fun _ _ h_=>x_app (r:=24) (rm:=0) (s:=(⟨vo,os⟩:Ls OutL)) (m:=(⟨v128, [(⟨1,(⟨.slice none 0 0, []⟩:Ls Int),z120.prints⟩:OutL)]⟩:Ls OutL)) h_ sl_35 ti_39 rfl rfl rfl rfl rfl rfl rfl (fun w h=>(h.own 0 rfl)) (fun b hb=>own_on (h_.sh.ok _ (List.mem_of_getElem? (i:=0) rfl)) hb) (fun q hq b hb=>⟨q,hq,hb⟩) rfl rfl rfl inferInstance (show (os.length+([(⟨1,(⟨.slice none 0 0, []⟩:Ls Int),z120.prints⟩:OutL)]).length)*56≤140737488355328∧os.length+([(⟨1,(⟨.slice none 0 0, []⟩:Ls Int),z120.prints⟩:OutL)]).length≤140737488355328 from om9) rfl rfl) rfl fun v129=>pR [9] rfl (ofB fl_153_1 rfl<|.nl) rfl<|pS (fun _ _ h_=>x_stb (i:=12) (vs:= [v129]) (cs' := [vn,v129]) h_ ti_35 rfl rfl rfl rfl rfl (cells_oneL ((h_.sh.own 24 rfl)).one) rfl (allOne_cons ((h_.sh.own 24 rfl)).one allOne_nil) (Nat.le_of_ble_eq_true rfl) rfl) rfl<|pE [] rfl (.nl) rfl<|hK k107<|gF [0,2,4,35,36,37] rfl<|gL<|gRn (oadN _ 1 om9 rfl<|oM 1 rfl<|.nl)<|nN<|fun a131 w131 h131=>x_again ⟨_, ?_,(k+1),ns,os++([(⟨1,(⟨.slice none 0 0, []⟩:Ls Int),z120.prints⟩:OutL)]),vn,v129, ?_, ?_, ?_, ?_, ?_, ?_,h131.nrm ⟨rfl,rfl,rfl,rfl,rfl,rfl,trivial⟩ [12,13,14,15,16,17,18,19,20,21,22,9,10,23,24] rfl,rfl⟩;clear h125
   · rw [hm100];first|omega|(simp only [lens9];omega)
   · omega
   · exact hnsN
   · exact hosN
   · exact hnxN
   · exact hoxN
   · exact hnlN
  intro a132 w132 h132
  rw [hb124] at h132
  obtain ⟨hlt1,hlt2⟩:=look_f (p:=(pgN code words0 Lk R)) (m:=F.m) (s:=x.st) (show k<ml.l.length by omega) hmk (hzf120.symm.trans hb124)
  have hfz:=PSD.frz (L:= [.rblk x.gp 25 [code.v,pw, .int .i64 ((Lk:Nat):Int), .int .i64 ((R:Nat):Int)], .at_ code, .blk b109 179 [.int .i64 ((nth ml.l k).th), .int .i64 ((nth ml.l k).st)], .blk b97 153 [vn,vo], .own 179 ml, .blk b12 153 [(.slice none 0 0),(.slice none 0 0)], .rblk x.g 173 [.iface (F.mem x.i).T (.pointer (some (F.mem x.i).u)), .pointer (some ⟨x.gp,0,none⟩),x.vt,x.prints.v, .bool false], .at_ (⟨x.vt,x.rows.map ThR.toQ⟩:Ls ThQ), .rgs x.rows, .at_ x.prints, .rblk (F.mem x.i).g0 182 [x.words.v,x.owner.v], .at_ x.words, .at_ x.owner, .ro [(F.mem x.i).X x.q], .own 85 (⟨vn,ns⟩:Ls (PSD F)), .own 39 (⟨vo,os⟩:Ls OutL)]) (fun i q b=>(hF.ok i).xrd q b) z120 h132.sh
  have h133:St 68 (fun _=>False) W a132 w132 _ _:=⟨h132.fr,hfz.1⟩
  clear h132
  have hnsN:(ns++ [z120]).map PSD.st=(ml.l.take (k+1)).flatMap (nextV (pgN code words0 Lk R) F.m x.st):=by rw [hlt2,List.map_append,hns,←hzs120];rfl
  have hosN:os.map OutL.out=(ml.l.take (k+1)).flatMap (endsV (pgN code words0 Lk R) F.m x.st):=by rw [hlt1];exact hos
  have hoxN:=hox
  have hnxN:∀y∈ns++ [z120],y.gp=x.gp∧y.rows.length=code.l.length∧y.qs.length=code.l.length∧∀b,Enc.on y b→W.heap.size≤b:=fun y hy=>(List.mem_append.1 hy).elim (hnx y) (fun h=>by obtain rfl:=List.mem_singleton.1 h;exact ⟨hzp120,hzr120,hzq120,fun b hb=>(hfz.2 b hb).resolve_left id⟩)
  have hnlN:(ns++ [z120]).length≤k+1∧os.length≤k+1:=⟨by rw [List.length_append];simp only [List.length_cons,List.length_nil];omega,by omega⟩
  refine gG h133<|gL<|gRn (ofB fl_153_0 rfl<|olB 4 ti_151 rfl rfl<|oM 1 rfl<|.nl)<|gE1 (fun _ _ h_=>x_lit (n:=1) (cs:= [.pointer (some ⟨z120.g,0,none⟩)]) ([z120]:List (PSD F)) h_ sl_151 ti_85 rfl rfl rfl (by decide) rfl (by kernel_rfl) rfl (fun q hq w h=>by obtain rfl:q=0:=(by simpa using hq);exact h.ok _ (List.mem_of_getElem? (i:=0) rfl)) (fun q hq b hb=>by obtain rfl:q=0:=(by simpa using hq);exact ⟨_,List.mem_of_getElem? (i:=0) rfl,hb⟩) rfl rfl) rfl fun v134=>gE1 (fun _ _ h_=>x_app (r:=16) (rm:=0) (s:=(⟨vn,ns⟩:Ls (PSD F))) (m:=(⟨v134, [z120]⟩:Ls (PSD F))) h_ sl_151 ti_85 rfl rfl rfl rfl rfl rfl rfl (fun w h=>(h.own 0 rfl)) (fun b hb=>own_on (h_.sh.ok _ (List.mem_of_getElem? (i:=0) rfl)) hb) (fun q hq b hb=>⟨q,hq,hb⟩) rfl rfl rfl inferInstance (show (ns.length+([z120]).length)*8≤140737488355328∧ns.length+([z120]).length≤140737488355328 from om9) rfl rfl) rfl fun v135=>gRn (ofB fl_153_0 rfl<|.nl)<|gsr 5 ti_151 rfl (aO 16 rfl) rfl<|nK k107<|gL<|gRn (oadN _ 1 om9 rfl<|oM 1 rfl<|.nl)<|nN<|fun a137 w137 h137=>x_again ⟨_, ?_,(k+1),ns++([z120]),os,v135,vo, ?_, ?_, ?_, ?_, ?_, ?_,h137.nrm ⟨rfl,rfl,rfl,rfl,rfl,rfl,trivial⟩ [5,6,7,8,9,10,11,12,13,14,15,2,3,16,17] rfl,rfl⟩;clear h133
  · rw [hm100];first|omega|(simp only [lens9];omega)
  · omega
  · exact hnsN
  · exact hosN
  · exact hnxN
  · exact hoxN
  · exact hnlN
 refine gX<|hK k98<|sK fun _ k138=>gRn (olw 0 ti_153 rfl rfl<|.nl)<|gE (fun _ _ h_=>x_stb (i:=2) (vs:= [vn,vo]) (cs' := [vn,vo]) h_ ti_153 rfl rfl rfl rfl rfl rfl rfl (allOne_cons ((h_.sh.own 13 rfl)).one (allOne_cons ((h_.sh.own 14 rfl)).one allOne_nil)) (Nat.le_of_ble_eq_true rfl) rfl) rfl<|nK k138<|gR<|fun a140 w140 h140=>x_ret1c (fn:=Tryz.f102) (t:=2) (i:=2) ti_153 rfl h140 rfl rfl rfl ?_
 obtain ⟨hl1_,hl2_⟩:=look_go (p:=(pgN code words0 Lk R)) (m:=F.m) (s:=x.st) hb22 (by rw [←hml];assumption)
 exact ⟨⟨vo,os⟩,⟨vn,ns⟩,rfl,by rw [hl1_,←hml];show os.map OutL.out=_;rw [hos,List.take_of_length_le (by omega)],by rw [hl2_,←hml];show ns.map PSD.st=_;rw [hns,List.take_of_length_le (by omega)],hnx,fun o ho b hb=> .inl (hox o ho b hb),(h140.sh.sel [14,13] rfl)⟩
end Go.Proofs.YtmjkobhkkjgplaaGreatDoor
namespace Go.Proofs.YtmjkobhkkjgplaaGreatDoor.Dr
open Go.RowKit
set_option linter.unusedSimpArgs false
set_option linter.unusedVariables false
structure Chg (X:Nat→Prop)(w w' :World):Prop where
 os:w'.os=w.os
 tape:w'.tape=w.tape
 output:w'.output=w.output
 size:w.heap.size≤w'.heap.size
 same:∀b,b<w.heap.size→¬X b→w'.heap[b]? =w.heap[b]?
 drawn:w.drawn≤w'.drawn
theorem Chg.refl (X:Nat→Prop)(w:World):Chg X w w:=⟨rfl,rfl,rfl,Nat.le_refl _,fun _ _ _=>rfl,Nat.le_refl _⟩
theorem Chg.drew (X:Nat→Prop)(w:World):Chg X w w.drew:=⟨rfl,rfl,rfl,Nat.le_refl _,fun _ _ _=>rfl,Nat.le_succ _⟩
theorem Chg.alloc (X:Nat→Prop)(w:World)(o:Obj):Chg X w (w.alloc o):=⟨rfl,rfl,rfl,by simp,fun b hb _=>Below.heap_alloc w o b hb,Nat.le_refl _⟩
theorem Chg.setCell {X:Nat→Prop}(w:World)(p:Addr)(hp:X p.block)(v:Value):Chg X w (w.setCell p v):=
 ⟨rfl,rfl,rfl,by simp,fun b hb hx=>Below.heap_setCell w p v b (fun e=>hx (e▸hp)),Nat.le_refl _⟩
theorem Chg.mono {X Y:Nat→Prop}{w w' :World}(h:Chg X w w')(hxy:∀b,X b→Y b):Chg Y w w' :=⟨h.os,h.tape,h.output,h.size,fun b hb hy=>h.same b hb fun hx=>hy (hxy b hx),h.drawn⟩
theorem Chg.trans {K X:Nat→Prop}{W w w' :World}(h:Chg K W w)(h' :Chg X w w')(hx:∀b,X b→K b∨W.heap.size≤b):Chg K W w' :=
 ⟨h'.os.trans h.os,h'.tape.trans h.tape,h'.output.trans h.output,Nat.le_trans h.size h'.size,fun b hb hk=>
  (h'.same b (Nat.lt_of_lt_of_le hb h.size) (fun hxb=>(hx b hxb).elim hk (fun hle=>by omega))).trans (h.same b hb hk),Nat.le_trans h.drawn h'.drawn⟩
structure Sh (K:Nat→Prop)(W w:World)(L:List Asn):Prop where
 chg:Chg K W w
 ok:∀A∈L,A.ok w
 mine:∀A∈L,∀b,A.fp b→K b∨W.heap.size≤b
 self:∀A∈L,∀b,A.fp b→¬A.rd b
 apart:L.Pairwise Asn.Apart
abbrev Sh0 :=Sh (fun _=>False)
section
variable {K:Nat→Prop}{W w w' :World}{L:List Asn}
theorem Sh.lt (h:Sh K W w L){A:Asn}(hA:A∈L){b:Nat}(hb:A.fp b∨A.rd b):b<w.heap.size:=A.lt w (h.ok A hA) b hb
theorem Sh.step {Lp Lr L' :List Asn}(h:Sh K W w (Lp++Lr))(hc:Chg (fun b=>∃A∈Lp,A.fp b) w w')
  (hok:∀A∈L',A.ok w')
  (hfp:∀A∈L',∀b,A.fp b→(∃B∈Lp,B.fp b)∨w.heap.size≤b)
  (hrd:∀A∈L',∀b,A.rd b→(∃B∈Lp,B.fp b∨B.rd b)∨(∃B∈Lr,B.rd b)∨w.heap.size≤b)
  (hself:∀A∈L',∀b,A.fp b→¬A.rd b) (hap:L'.Pairwise Asn.Apart):Sh K W w' (L' ++Lr):=by
 have hpr:∀A∈Lp,∀B∈Lr,A.Apart B:=fun A hA B hB=>(List.pairwise_append.1 h.apart).2.2 A hA B hB
 have hrr:Lr.Pairwise Asn.Apart:=(List.pairwise_append.1 h.apart).2.1
 have hrest:∀B∈Lr,∀b,B.fp b∨B.rd b→¬∃A∈Lp,A.fp b:=by
  rintro B hB b hb ⟨A,hA,hAb⟩
  have:=hpr A hA B hB b
  exact hb.elim (this.1 hAb).1 (this.1 hAb).2
 refine ⟨h.chg.trans hc ?_, ?_, ?_, ?_, ?_⟩
 ·rintro b ⟨A,hA,hb⟩
  exact h.mine A (List.mem_append.2 (.inl hA)) b hb
 ·intro A hA
  rcases List.mem_append.1 hA with hA|hA
  ·exact hok A hA
  ·exact A.keep w w' (h.ok A (List.mem_append.2 (.inr hA))) fun b hb=>hc.same b (h.lt (List.mem_append.2 (.inr hA)) hb) (hrest A hA b hb)
 ·intro A hA b hb
  rcases List.mem_append.1 hA with hA|hA
  ·rcases hfp A hA b hb with ⟨B,hB,hBb⟩|hle
   ·exact h.mine B (List.mem_append.2 (.inl hB)) b hBb
   ·exact .inr (Nat.le_trans h.chg.size hle)
  ·exact h.mine A (List.mem_append.2 (.inr hA)) b hb
 ·intro A hA
  rcases List.mem_append.1 hA with hA|hA
  ·exact hself A hA
  ·exact h.self A (List.mem_append.2 (.inr hA))
 ·refine List.pairwise_append.2 ⟨hap,hrr,fun A hA B hB b=>⟨fun ha=> ?_,fun hb ha=> ?_⟩⟩
  ·rcases hfp A hA b ha with ⟨C,hC,hCb⟩|hle
   ·exact (hpr C hC B hB b).1 hCb
   ·exact ⟨fun hb=>by have:=h.lt (List.mem_append.2 (.inr hB)) (.inl hb);omega,fun hb=>by have:=h.lt (List.mem_append.2 (.inr hB)) (.inr hb);omega⟩
  ·rcases hrd A hA b ha with ⟨C,hC,hCb⟩|⟨C,hC,hCb⟩|hle
   ·exact hCb.elim (fun hCb=>((hpr C hC B hB b).1 hCb).1 hb) ((hpr C hC B hB b).2 hb)
   ·by_cases hcb:C=B
    ·subst hcb
     exact h.self C (List.mem_append.2 (.inr hC)) b hb hCb
    ·rcases apart_of_mem hrr hC hB with e|hap
     ·exact hcb e
     ·exact (hap b).2 hb hCb
   ·have:=h.lt (List.mem_append.2 (.inr hB)) (.inl hb);omega
theorem Sh.drew (h:Sh K W w L):Sh K W w.drew L:=by
 have:=Sh.step (Lp:= []) (Lr:=L) (L' := []) (w' :=w.drew) h (Chg.drew _ w) (by simp) (by simp) (by simp) (by simp) .nil
 simpa using this
theorem Sh.sel {L' :List Asn}(h:Sh K W w L)(is:List Nat)(hsel:selB L is=some L'):Sh K W w L' :=by
 obtain ⟨hnd,hs⟩:is.Nodup∧selOK L is L' :=by
  unfold selB at hsel
  split at hsel
  ·rename_i hn;exact ⟨nodB_ok hn,selL9_ok hsel⟩
  ·cases hsel
 have hm:∀A∈L',A∈L:=by
  intro A hA
  obtain ⟨k,hk⟩:=List.getElem?_of_mem hA
  obtain ⟨i,_,hi⟩:=selOK_at hs k A hk
  exact List.mem_of_getElem? hi
 refine ⟨h.chg,fun A hA=>h.ok A (hm A hA),fun A hA=>h.mine A (hm A hA),fun A hA=>h.self A (hm A hA), ?_⟩
 rw [List.pairwise_iff_getElem]
 intro p q hp hq hpq
 obtain ⟨i,hi1,hi2⟩:=selOK_at hs p _ (List.getElem?_eq_getElem hp)
 obtain ⟨j,hj1,hj2⟩:=selOK_at hs q _ (List.getElem?_eq_getElem hq)
 have hij:i≠j:=by
  intro e
  subst e
  obtain ⟨hpi,e1⟩:=List.getElem?_eq_some_iff.1 hi1
  obtain ⟨hqi,e2⟩:=List.getElem?_eq_some_iff.1 hj1
  exact List.pairwise_iff_getElem.1 hnd p q hpi hqi hpq (e1.trans e2.symm)
 obtain ⟨li,e1⟩:=List.getElem?_eq_some_iff.1 hi2
 obtain ⟨lj,e2⟩:=List.getElem?_eq_some_iff.1 hj2
 have hpw:=List.pairwise_iff_getElem.1 h.apart
 rw [←e1,←e2]
 rcases Nat.lt_or_gt_of_ne hij with hlt|hgt
 ·exact hpw i j li lj hlt
 ·exact (hpw j i lj li hgt).symm
theorem Sh.push (h:Sh K W w L){A:Asn}(hc:Chg (fun _=>False) w w')(hok:A.ok w')(hfp:∀b,A.fp b→w.heap.size≤b)(hrd:∀b,A.rd b→(∃B∈L,B.rd b)∨w.heap.size≤b)(hself:∀b,A.fp b→¬A.rd b):Sh K W w' (A::L):=
 Sh.step (Lp:= []) (Lr:=L) (L' := [A]) h (hc.mono fun _ h=>h.elim) (by simpa using hok) (by simpa using fun b hb=>hfp b hb) (by simpa using fun b hb=>hrd b hb) (by simpa using hself) (List.pairwise_singleton _ _)
theorem Sh.put (h:Sh K W w L){i:Nat}{A A' :Asn}(hi:L[i]? =some A)(hc:Chg A.fp w w')(hok:A'.ok w')(hfp:∀b,A'.fp b→A.fp b∨w.heap.size≤b)
  (hrd:∀b,A'.rd b→A.fp b∨A.rd b∨(∃B∈L,B.rd b)∨w.heap.size≤b) (hself:∀b,A'.fp b→¬A'.rd b):Sh K W w' (L.set i A'):=by
 obtain ⟨hlt,rfl⟩:=List.getElem?_eq_some_iff.1 hi
 have h1:Sh K W w ([L[i]]++L.eraseIdx i):=by
  refine ⟨h.chg,fun A hA=>h.ok A ?_,fun A hA=>h.mine A ?_,fun A hA=>h.self A ?_, ?_⟩
  ·simp only [List.singleton_append,List.mem_cons] at hA;exact hA.elim (fun e=>e▸List.getElem_mem _) List.mem_of_mem_eraseIdx
  ·simp only [List.singleton_append,List.mem_cons] at hA;exact hA.elim (fun e=>e▸List.getElem_mem _) List.mem_of_mem_eraseIdx
  ·simp only [List.singleton_append,List.mem_cons] at hA;exact hA.elim (fun e=>e▸List.getElem_mem _) List.mem_of_mem_eraseIdx
  ·refine (List.Perm.pairwise_iff (fun {x y} hxy=>hxy.symm) ?_).1 h.apart
   exact perm_erase L i hlt
 have h2:=Sh.step (L' := [A']) h1 (hc.mono fun b hb=>⟨_,by simp,hb⟩) (by simpa using hok) (by simpa using hfp) (by
  intro A hA b hb
  simp only [List.mem_singleton] at hA
  subst hA
  rcases hrd b hb with hb|hb|⟨B,hB,hb⟩|hb
  ·exact .inl ⟨_,by simp, .inl hb⟩
  ·exact .inl ⟨_,by simp, .inr hb⟩
  ·by_cases e:B=L[i]
   ·subst e;exact .inl ⟨_,by simp, .inr hb⟩
   ·refine .inr (.inl ⟨B, ?_,hb⟩)
    have:=(perm_erase L i hlt).mem_iff.1 hB
    simpa [e] using this
  ·exact .inr (.inr hb)) (by simpa using hself) (List.pairwise_singleton _ _)
 refine ⟨h2.chg,fun A hA=>h2.ok A ?_,fun A hA=>h2.mine A ?_,fun A hA=>h2.self A ?_, ?_⟩
 all_goals try (have hp:=perm_set A' L i hlt;exact hp.mem_iff.1 hA)
 exact (List.Perm.pairwise_iff (fun {x y} hxy=>hxy.symm) (perm_set A' L i hlt).symm).1 h2.apart
end
section
variable {K:Nat→Prop}{W w w' :World}{L:List Asn}{α:Type}[Enc α]
theorem Sh.at (h:Sh K W w L)(i:Nat){s:Ls α}(hi:L[i]? =some (.at_ s)):s.At w:=h.ok _ (List.mem_of_getElem? hi)
theorem Sh.blk (h:Sh K W w L)(i:Nat){g:Nat}{E:TypeId}{cs:List Value}(hi:L[i]? =some (.blk g E cs)):Blk w g E cs.toArray:=h.ok _ (List.mem_of_getElem? hi)
theorem Sh.own (h:Sh K W w L)(i:Nat){E:TypeId}{s:Ls α}(hi:L[i]? =some (.own E s)):s.At w:=own_at (h.ok _ (List.mem_of_getElem? hi))
end
structure St (N:Nat)(K:Nat→Prop)(W:World)(a:Act)(w:World)(F:List (Nat×Value))(L:List Asn):Prop where
 fr:Fr N a F
 sh:Sh K W w L
section
variable {P:Program}{N:Nat}{K:Nat→Prop}{W w:World}{a:Act}{F F' :List (Nat×Value)}{L L' :List Asn}{o:Oper}{ops:Array Oper}{rest:List Oper}{Q:Exit→Act→World→Prop}
theorem St.sub (h:St N K W a w F L)(hs:frOK F F'):St N K W a w F' L:=⟨h.fr.sub hs,h.sh⟩
theorem St.sel (h:St N K W a w F L)(is:List Nat)(hs:selB L is=some L'):St N K W a w F L' :=⟨h.fr,h.sh.sel is hs⟩
theorem St.nf (h:St N K W a w F L)(hs:frOK F F'):St N K W a w F' L:=⟨h.fr.sub hs,h.sh⟩
theorem St.same {d:Nat}{v v' :Value}(h:St N K W a w F L)(hd:lk F d=some v)(e:v=v'):St N K W a w ((d,v')::F) L:=⟨h.fr.same hd e,h.sh⟩
theorem St.drew (h:St N K W a w F L):St N K W a w.drew F L:=⟨h.fr,h.sh.drew⟩
def Ex (P:Program)(o:Oper)(a:Act)(w:World)(R:Act→World→Prop):Prop:=∀(next:Act→World→Prop) (Q:Exit→Act→World→Prop),(∀a' w',R a' w' →next a' w')→o.wp P a w next Q
def Rn (P:Program)(o:Oper)(N:Nat)(K:Nat→Prop)(W:World)(F:List (Nat×Value))(L:List Asn)(v:Value):Prop:=∀a w,St N K W a w F L→(execOp a.eval o).run P w= .ok (.value v) w
theorem Ex.of_run {R:Act→World→Prop}{v:Value}{w' :World}(hr:(execOp a.eval o).run P w= .ok (.value v) w')(h:R (a.put o.dst v) w'):Ex P o a w R:=by
 intro next Q hn
 unfold Oper.wp
 rw [hr]
 exact hn _ _ h
theorem Ex.of_skip {R:Act→World→Prop}{w' :World}(hr:(execOp a.eval o).run P w= .ok .skip w')(h:R (a.put o.dst undef) w'):Ex P o a w R:=by
 intro next Q hn
 unfold Oper.wp
 rw [hr]
 exact hn _ _ h
theorem Ex.mono {R R' :Act→World→Prop}(h:Ex P o a w R)(hr:∀a' w',R a' w' →R' a' w'):Ex P o a w R' :=fun next Q hn=>h next Q fun a' w' x=>hn a' w' (hr a' w' x)
theorem wl_val {d:Nat}{v:Value}(h:St N K W a w F L)(hr:Rn P o N K W F L v)(hw:Region.wanted o (yielded ops a.tmps)=true)(hd:o.dst=some d)(hdN:Nat.blt d N=true)
  (k:∀a',St N K W a' w ((d,v)::F) L→wpList P ops Q rest a' w):wpList P ops Q (o::rest) a w:=by
 unfold wpList
 rw [if_pos hw]
 left
 unfold Oper.wp
 rw [hr a w h]
 exact k _ ⟨by rw [hd];exact h.fr.put d (by simpa [Nat.blt_eq] using hdN) v,h.sh⟩
theorem wv {d:Nat}{v:Value}(h:St N K W a w F L)(hr:Rn P o N K W F L v)(hd:o.dst=some d)(hc:okg o d N=true)
  (k:∀a',St N K W a' w ((d,v)::F) L→wpList P ops Q rest a' w):wpList P ops Q (o::rest) a w:=by
 simp only [okg,Bool.and_eq_true,Option.isNone_iff_eq_none] at hc
 exact wl_val h hr (wanted_none hc.1 _) hd hc.2 k
theorem wl_ex {R:Act→World→Prop}(hx:Ex P o a w R)(hw:Region.wanted o (yielded ops a.tmps)=true)(k:∀a' w',R a' w' →wpList P ops Q rest a' w'):wpList P ops Q (o::rest) a w:=by
 unfold wpList
 rw [if_pos hw]
 exact .inl (hx _ _ k)
theorem wl_skip {d:Nat}(h:St N K W a w F L)(hw:Region.wanted o (yielded ops a.tmps)=false)(hd:o.dst=some d)(hdN:Nat.blt d N=true)(k:∀a',St N K W a' w ((d,undef)::F) L→wpList P ops Q rest a' w):wpList P ops Q (o::rest) a w:=by
 unfold wpList
 rw [if_neg (by simp [hw])]
 exact k _ ⟨by rw [hd];exact h.fr.put d (by simpa [Nat.blt_eq] using hdN) undef,h.sh⟩
theorem wq_val {d:Nat}{v:Value}{Q:Act→Prop}(h:Fr N a F)(hr:Rn P o N K W F L v)(hw:Region.wanted o (yielded ops a.tmps)=true)(hd:o.dst=some d)(hdN:Nat.blt d N=true)
  (k:∀a',Fr N a' ((d,v)::F)→wpQuiet P ops (fun w=>Sh K W w L) Q rest a'):wpQuiet P ops (fun w=>Sh K W w L) Q (o::rest) a:=by
 unfold wpQuiet
 rw [if_pos hw]
 refine ⟨v,fun w hw=> ?_,k _ (by rw [hd];exact h.put d (by simpa [Nat.blt_eq] using hdN) v)⟩
 unfold Oper.quietAt
 rw [hr a w ⟨h,hw⟩]
 exact ⟨rfl,rfl⟩
theorem wq_skip {d:Nat}{Q:Act→Prop}(h:Fr N a F)(hw:Region.wanted o (yielded ops a.tmps)=false)(hd:o.dst=some d)(hdN:Nat.blt d N=true)
  (k:∀a',Fr N a' ((d,undef)::F)→wpQuiet P ops (fun w=>Sh K W w L) Q rest a'):wpQuiet P ops (fun w=>Sh K W w L) Q (o::rest) a:=by
 unfold wpQuiet
 rw [if_neg (by simp [hw])]
 exact k _ (by rw [hd];exact h.put d (by simpa [Nat.blt_eq] using hdN) undef)
theorem Rn.of {v:Value}(h:∀a w,St N K W a w F L→(execOp a.eval o).run P w= .ok (.value v) w):Rn P o N K W F L v:=h
theorem r_move {x:Operand}{v:Value}(ho:o.op= .move x)(hx:ev F x=some v):Rn P o N K W F L v:=fun a w h=>by unfold execOp;simp [ho,h.fr.ev hx]
theorem r_assign {x:Operand}{v:Value}(ho:o.op= .assign x)(hx:ev F x=some v):Rn P o N K W F L v:=fun a w h=>by unfold execOp;simp [ho,h.fr.ev hx]
section
variable {T U:TypeId}{x y:Operand}
theorem r_bin {op:BinOp}{k:IntKind}{p q:Int}{v:Value}(ho:o.op= .binOp op T x y U)(hx:ev F x=some (.int k p))(hy:ev F y=some (.int k q))(hv:∀w,(binOp op T (.int k p) (.int k q)).run P w= .ok v w):Rn P o N K W F L v:=fun a w h=>by
 unfold execOp;simp only [ho,h.fr.ev hx,h.fr.ev hy,eqGuard_at_int,Sem.run_bind,Sem.run_pure,Result.andThen_ok,hv]
theorem r_addW {p q:Int}(ho:o.op= .binOp .add T x y U)(hx:ev F x=some (.int .i64 p))(hy:ev F y=some (.int .i64 q)):Rn P o N K W F L (.int .i64 (wrap64 (p+q))):=r_bin ho hx hy fun w=>by simp [go_sem];exact IntWalk.i64_left _
theorem r_addI {p q:Int}(ho:o.op= .binOp .add T x y U)(hx:ev F x=some (.int .i64 p))(hy:ev F y=some (.int .i64 q))(hb: -9223372036854775808≤p+q∧p+q<9223372036854775808):Rn P o N K W F L (.int .i64 (p+q)):=by
 have:=r_addW (P:=P) (N:=N) (K:=K) (W:=W) (L:=L) ho hx hy;rwa [IntWalk.wrap64_in _ ⟨by omega,by omega⟩] at this
theorem r_addN {p q:Nat}(ho:o.op= .binOp .add T x y U)(hx:ev F x=some (.int .i64 (p:Int)))(hy:ev F y=some (.int .i64 (q:Int)))(hb:p+q<9223372036854775808):Rn P o N K W F L (.int .i64 ((p+q:Nat):Int)):=by
 rw [Int.natCast_add];exact r_addI ho hx hy (by omega)
theorem r_lssI {k:IntKind}{p q:Int}(ho:o.op= .binOp .lss T x y U)(hx:ev F x=some (.int k p))(hy:ev F y=some (.int k q)):Rn P o N K W F L (.bool (decide (p<q))):=r_bin ho hx hy fun w=>by simp [go_sem]
theorem r_gtrI {k:IntKind}{p q:Int}(ho:o.op= .binOp .gtr T x y U)(hx:ev F x=some (.int k p))(hy:ev F y=some (.int k q)):Rn P o N K W F L (.bool (decide (q<p))):=r_bin ho hx hy fun w=>by simp [go_sem]
theorem r_geqI {k:IntKind}{p q:Int}(ho:o.op= .binOp .geq T x y U)(hx:ev F x=some (.int k p))(hy:ev F y=some (.int k q)):Rn P o N K W F L (.bool (decide (q≤p))):=r_bin ho hx hy fun w=>by simp [go_sem]
theorem r_neqI {k:IntKind}{p q:Int}(ho:o.op= .binOp .neq T x y U)(hx:ev F x=some (.int k p))(hy:ev F y=some (.int k q)):Rn P o N K W F L (.bool (decide (p≠q))):=r_bin ho hx hy fun w=>by
 simp [go_sem,bne];rfl
theorem r_lssN {k:IntKind}{p q:Nat}(ho:o.op= .binOp .lss T x y U)(hx:ev F x=some (.int k (p:Int)))(hy:ev F y=some (.int k (q:Int))):Rn P o N K W F L (.bool (decide (p<q))):=by
 have:=r_lssI (P:=P) (N:=N) (K:=K) (W:=W) (L:=L) ho hx hy;simpa using this
theorem r_geqN {k:IntKind}{p q:Nat}(ho:o.op= .binOp .geq T x y U)(hx:ev F x=some (.int k (p:Int)))(hy:ev F y=some (.int k (q:Int))):Rn P o N K W F L (.bool (decide (q≤p))):=by
 have:=r_geqI (P:=P) (N:=N) (K:=K) (W:=W) (L:=L) ho hx hy;simpa using this
end
end
section
variable {P:Program}{N:Nat}{K:Nat→Prop}{W w:World}{a:Act}{F F' :List (Nat×Value)}{L L' :List Asn}{o:Oper}{ops:Array Oper}{rest:List Oper}{Q:Exit→Act→World→Prop}
theorem r_fieldB {T:TypeId}{x:Operand}{f k g q r:Nat}(hT:flI P T f=some k)(ho:o.op= .fieldAddr T x f)(hx:ev F x=some (.pointer (some ⟨g,q,none⟩)))(hr:q+k=r):Rn P o N K W F L (.pointer (some ⟨g,r,none⟩)):=fun a w h=>by
 subst hr
 unfold execOp;simp only [ho,h.fr.ev hx,Sem.run_bind,run_fieldAt hT,Addr.add_lit,Result.andThen_ok,Sem.run_pure]
section
variable {α:Type}[Enc α]
theorem r_ixI {T e:TypeId}{g:Bool}{n by_:Nat}{z:List Value}{s:Ls α}{kd:IntKind}{q:Int}{x y:Operand}(hT:slI P T=some e)(he:tyI P e=some (g,n,by_,z))(ho:o.op= .indexAddr T x y)(hx:ev F x=some s.v)(hy:ev F y=some (.int kd q))(hat:∀w,Sh K W w L→s.At w)
  (hb:0≤q∧q<s.l.length):Rn P o N K W F L (.pointer (some (padr s.v n q.toNat 0))):=fun a w h=>by
 unfold execOp;simp only [ho,h.fr.ev hx,h.fr.ev hy,Sem.run_bind,run_index hT he (hat w h.sh) hb.1 hb.2,Result.andThen_ok,Sem.run_pure]
theorem r_ixN {T e:TypeId}{g:Bool}{n by_:Nat}{z:List Value}{s:Ls α}{kd:IntKind}{q:Nat}{x y:Operand}(hT:slI P T=some e)(he:tyI P e=some (g,n,by_,z))(ho:o.op= .indexAddr T x y)(hx:ev F x=some s.v)(hy:ev F y=some (.int kd (q:Int)))(hat:∀w,Sh K W w L→s.At w)
  (hb:q<s.l.length):Rn P o N K W F L (.pointer (some (padr s.v n q 0))):=by
 simpa using r_ixI (P:=P) (N:=N) (K:=K) (W:=W) (L:=L) hT he ho hx hy hat ⟨by omega,by omega⟩
theorem r_len {T e:TypeId}{s:Ls α}{x:Operand}{n:Nat}(hT:slI P T=some e)(ho:o.op= .call ⟨.builtin .len, #[x], #[T]⟩)(hx:ev F x=some s.v)(hat:∀w,Sh K W w L→s.At w)(hn:s.l.length=n):Rn P o N K W F L (.int .i64 (n:Int)):=fun a w h=>by
 subst hn
 obtain ⟨A,cap,hv,_⟩:=hat w h.sh
 have hu:=slI_parts hT
 have hel:P.elem T=e:=by simp [Program.elem,hu]
 unfold execOp
 have e1:=h.fr.ev hx
 rw [hv] at e1
 simp [ho,resolve,invoke,builtin,e1,run_len_slice _ _ _ _ _ _ (show P.underlying T=some (.slice (P.elem T)) by rw [hel];exact hu),goInt]
theorem r_ldb {T:TypeId}{n by_:Nat}{z:List Value}{x:Operand}{g q i:Nat}{E:TypeId}{cs:List Value}{v:Value}(hT:tyI P T=some (false,n,by_,z))(ho:o.op= .load T x)(hx:ev F x=some (.pointer (some ⟨g,q,none⟩)))
  (hi:L[i]? =some (.blk g E cs)) (hv:cs[q]? =some v):Rn P o N K W F L v:=fun a w h=>by
 have hc:w.cell? ⟨g,q,none⟩=some v:=by rw [(h.sh.blk i hi).cell q];simpa using hv
 unfold execOp;simp only [ho,h.fr.ev hx,Sem.run_bind,run_load1 hT hc,Result.andThen_ok,Sem.run_pure]
theorem r_lde {T:TypeId}{n by_:Nat}{z:List Value}{x:Operand}{i j sz:Nat}{s:Ls α}{v:Value}(hT:tyI P T=some (false,n,by_,z))(ho:o.op= .load T x)(hx:ev F x=some (.pointer (some (padr s.v sz i j))))
  (hsz:Enc.sz α=sz) (hat:∀w,Sh K W w L→s.At w) (hi:i<s.l.length) (hj:j<sz) (hv:Enc.cell (nth s.l i) j=v):Rn P o N K W F L v:=fun a w h=>by
 subst hsz
 have hc:=(hat w h.sh).cell i j hi hj
 rw [hv] at hc
 unfold execOp;simp only [ho,h.fr.ev hx,Sem.run_bind,run_load1 hT hc,Result.andThen_ok,Sem.run_pure]
end
theorem St.push_blk {d g:Nat}{v:Value}{T:TypeId}{cs:List Value}(h:St N K W a w F L)(hd:Nat.blt d N=true):
  St N K W (a.put (some d) (.pointer (some ⟨w.heap.size,0,none⟩))) (w.alloc (.cells cs.toArray T)) ((d, .pointer (some ⟨w.heap.size,0,none⟩))::F) (.blk w.heap.size T cs::L):=
 ⟨h.fr.put d (by simpa [Nat.blt_eq] using hd) _,h.sh.push (Chg.alloc _ w _) (Blk.new w T cs.toArray) (fun b hb=>by rw [show b=w.heap.size from hb];exact Nat.le_refl _) (fun b hb=>hb.elim) (fun b _ hb=>hb)⟩
theorem x_box {d:Nat}{T:TypeId}{x:Operand}{v:Value}{cs:List Value}(h:St N K W a w F L)(ho:o.op= .box T x)(hx:ev F x=some v)(hv:v.cells=cs.toArray)(hd:o.dst=some d)(hdN:Nat.blt d N=true):
  Ex P o a w (fun a' w' =>∃b:Nat,St N K W a' w' ((d, .pointer (some ⟨b,0,none⟩))::F) (.blk b T cs::L)):=by
 refine Ex.of_run (v:= .pointer (some ⟨w.heap.size,0,none⟩)) (w' :=w.alloc (.cells cs.toArray T)) ?_ ⟨w.heap.size, ?_⟩
 ·unfold execOp
  simp only [ho,h.fr.ev hx,Instr.box,newVar,newRow,hv,Sem.run_bind,run_newObj,Result.andThen_ok,Sem.run_pure]
  rfl
 ·rw [hd];exact h.push_blk (g:=0) (v:=undef) hdN
end
section
variable {P:Program}{N:Nat}{K:Nat→Prop}{W w:World}{a:Act}{F F' :List (Nat×Value)}{L L' :List Asn}{o:Oper}{ops:Array Oper}{rest:List Oper}{Q:Exit→Act→World→Prop}
section
variable {α:Type}[Enc α]
theorem x_ste {T:TypeId}{gg:Bool}{by_:Nat}{z:List Value}{x y:Operand}{i j sz r:Nat}{E:TypeId}{s:Ls α}{x' :α}{v:Value}(h:St N K W a w F L)(hT:tyI P T=some (gg,1,by_,z))(ho:o.op= .store T x y)(hd:o.dst=none)
  (hx:ev F x=some (.pointer (some (padr s.v sz i j)))) (hsz:Enc.sz α=sz) (hr:L[r]? =some (.own E s)) (hi:i<s.l.length) (hj:j<sz) (hy:ev F y=some v) (hv:v.cells.toList= [v]) (h1:v.oneCell' =true)
  (hc:∀q,q<sz→Enc.cell x' q=if q=j then v else Enc.cell (nth s.l i) q)
  (hin:∀w,Sh K W w L→Enc.inner x' w) (hon:∀b,Enc.on x' b→s.v.ownBlock≠some b∧∃B∈L,B.rd b):
  Ex P o a w (fun a' w' =>St N K W a' w' F (L.set r (.own E ⟨s.v,s.l.set i x'⟩))):=by
 subst hsz
 obtain ⟨ti,e,zv,hti,he,_,hs,_⟩:=tyI_parts hT
 have hok:=h.sh.ok _ (List.mem_of_getElem? hr)
 obtain ⟨hown,hlen,hinn⟩:=hok
 rcases hown.2 with ⟨_,h0⟩|⟨g,cap,cur,hsv,hb0,hg,hn,hm,hcs,htk⟩
 ·omega
 have hp:padr s.v (Enc.sz α) i j=⟨g,i*Enc.sz α+j,none⟩:=by rw [hsv];simp [padr,vblk,voff]
 have hat:=own_at (h.sh.ok _ (List.mem_of_getElem? hr))
 have hcell:=hat.cell i j hi hj
 rw [hp] at hcell
 have hfz:w.frozen? ⟨g,i*Enc.sz α+j,none⟩=false:=frozen_of_row w g _ cur E hg
 refine Ex.of_skip (w' :=w.setCell ⟨g,i*Enc.sz α+j,none⟩ v) ?_ ?_
 ·unfold execOp
  have hcz:v.cells.size=ti.size:=by rw [hs,←Array.length_toList,hv];rfl
  simp only [ho,h.fr.ev hx,h.fr.ev hy,Instr.storeAt,Instr.sureAddr,storeVar,Sem.run_bind,Sem.run_pure,Result.andThen_ok,run_sizeOf hti,hcz,hp]
  simp [hv,storeCells,run_store P w _ v _ h1,hcell,hfz,Addr.add_zero']
 ·rw [hd]
  have hst:=World.ownsRow.stored (w:=w) (base:=0) (e:=E) (size:=Enc.sz α) (n:=s.l.length) (xs:=encL s.l) (g:=g) (cap:=cap) (by rw [←hsv];exact hown) (i*Enc.sz α+j) v
  have hfp:(Asn.own E s).fp g:=by show s.v.ownBlock=some g;rw [hsv];rfl
  have hse:=h.sh.self _ (List.mem_of_getElem? hr)
  refine ⟨h.fr,h.sh.put hr (Chg.setCell w _ hfp v) ⟨?_,by simpa using hlen,fun q hq=> ?_⟩ (fun b hb=> .inl hb) (fun b hb=> ?_) (fun b hb hb' => ?_)⟩
  ·show World.ownsRow _ 0 E (Enc.sz α) s.v (s.l.set i x').length (encL (s.l.set i x'))
   rw [encL_set s.l i j x' v hi hj hc,List.length_set,hsv]
   exact hst.1
  ·have key:∀y:α,Enc.inner y w→(∀b,Enc.on y b→g≠b)→Enc.inner y (w.setCell ⟨g,i*Enc.sz α+j,none⟩ v):=fun y hy hb=>
    Enc.keep y w _ hy fun b hb' =>Below.heap_setCell w _ v b (fun e=>hb b hb' e.symm)
   have hq' :q<s.l.length:=by simpa using hq
   show Enc.inner (nth (s.l.set i x') q) _
   rw [nth_set]
   split
   ·exact key _ (hin w h.sh) fun b hb e=>(hon b hb).1 (by rw [hsv,e];rfl)
   ·exact key _ (hinn q hq') fun b hb e=>hse g hfp ⟨q,hq',e▸hb⟩
  ·obtain ⟨q,hq,hb⟩:=hb
   simp only [nth_set] at hb
   split at hb
   ·exact .inr (.inr (.inl (hon b hb).2))
   ·exact .inr (.inl ⟨q,by simpa using hq,hb⟩)
  ·obtain ⟨q,hq,hb'⟩:=hb'
   simp only [nth_set] at hb'
   split at hb'
   ·exact (hon b hb').1 hb
   ·exact hse b hb ⟨q,by simpa using hq,hb'⟩
theorem x_lit {d:Nat}{T e:TypeId}{gg:Bool}{sz by_ n:Nat}{z:List Value}{parts:List (Nat×Operand)}{pv:List (Nat×Value)}{cs:List Value}(l:List α)(h:St N K W a w F L)(hT:slI P T=some e)(he:tyI P e=some (gg,sz,by_,z))(ho:o.op= .buildSlice T n parts.toArray)
  (hn:l.length=n) (hsz:Enc.sz α=sz) (hpos:0<n*sz∧n*sz≤1000) (hx:evp F parts=some pv)
  (hf:Instr.fill (fun i=>some (i*sz,sz)) ((Array.range (n*sz)).map (z.toArray[· %z.toArray.size]!)) pv=some cs.toArray) (hcs:cs=encL l)
  (hin:∀q,q<l.length→∀w,Sh K W w L→Enc.inner (nth l q) w) (hon:∀q,q<l.length→∀b,Enc.on (nth l q) b→∃B∈L,B.rd b) (hd:o.dst=some d) (hdN:Nat.blt d N=true):
  Ex P o a w (fun a' w' =>∃v:Value,St N K W a' w' ((d,v)::F) (.own e (⟨v,l⟩:Ls α)::L)):=by
 subst hsz
 subst hn
 obtain ⟨i,ed,zv,hi,hed,_,hsz,hby,hzz,hzc⟩:=tyI_parts he
 have hzv:zv.cells=z.toArray:=by rw [←hzc]
 have hsp:0<Enc.sz α:=Nat.pos_of_ne_zero (by rintro e;simp [e] at hpos)
 have hl1:l.length≤1000:=Nat.le_trans (Nat.le_mul_of_pos_right l.length hsp) hpos.2
 have hrun:=run_buildSlice (P:=P) w T e l.length (parts.toArray.map fun (i,x)=>(i,a.eval x)) cs.toArray i zv (slI_parts hT) hi hzz (by rw [hsz];omega) (by rw [hsz];omega) (by rw [hsz,hzv,h.fr.evp hx];exact hf)
 refine Ex.of_run (v:= .slice (some ⟨w.heap.size,0,none⟩) l.length l.length) (w' :=w.alloc (.cells cs.toArray e)) ?_ ⟨.slice (some ⟨w.heap.size,0,none⟩) l.length l.length, ?_⟩
 ·unfold execOp
  simp only [ho,Sem.run_bind,hrun,Result.andThen_ok,Sem.run_pure]
 ·rw [hd]
  have hold:∀q,q<l.length→∀b,Enc.on (nth l q) b→b<w.heap.size:=fun q hq b hb=>Enc.lt _ w (hin q hq w h.sh) b hb
  refine ⟨h.fr.put d (by simpa [Nat.blt_eq] using hdN) _,h.sh.push (Chg.alloc _ w _) ⟨⟨by rw [length_encL], .inr ⟨w.heap.size,l.length,cs.toArray,rfl,Nat.zero_le _,Go.heap_alloc_new w _,Nat.le_refl _,by unfold maxLen;omega, ?_, ?_⟩⟩,by show l.length≤_;omega,fun q hq=> ?_⟩ (fun b hb=> ?_) (fun b hb=> ?_) (fun b hb hb' => ?_)⟩
  ·simp [hcs,length_encL]
  ·simp only [hcs];rw [List.take_of_length_le (by rw [length_encL];exact Nat.le_refl _)]
  ·exact Enc.keep _ w _ (hin q hq w h.sh) fun b hb=>Below.heap_alloc w _ b (hold q hq b hb)
  ·have:w.heap.size=b:=by simpa [Asn.own,Value.ownBlock] using hb
   omega
  ·obtain ⟨q,hq,hb⟩:=hb
   exact .inl (hon q hq b hb)
  ·have:w.heap.size=b:=by simpa [Asn.own,Value.ownBlock] using hb
   obtain ⟨q,hq,hb'⟩:=hb'
   have:=hold q hq b hb'
   omega
theorem Sh.nil (E:TypeId)(h:Sh K W w L):Sh K W w (.own E (⟨.slice none 0 0, []⟩:Ls α)::L):=
 h.push (Chg.refl _ _) ⟨World.ownsRow_nil w 0 E (Enc.sz α),Nat.zero_le _,fun i hi=>absurd hi (by simp)⟩ (fun b hb=>by simp [Asn.own,Value.ownBlock] at hb) (fun b hb=>by obtain ⟨i,hi,_⟩:=hb;exact absurd hi (by simp)) (fun b hb=>by simp [Asn.own,Value.ownBlock] at hb)
theorem St.nil {α:Type}[Enc α](E:TypeId)(h:St N K W a w F L):St N K W a w F (.own E (⟨.slice none 0 0, []⟩:Ls α)::L):=⟨h.fr,h.sh.nil E⟩
end
theorem call_wp {f:FuncId}{fo:Operand}{xs:List Operand}{tys:Array TypeId}{us vs ws:List Value}{R:Value→World→Prop}(h:Fr N a F)(hb:bodyI P f=true)(ho:o.op= .call ⟨.value fo,xs.toArray,tys⟩)(hf:ev F fo=some (.func (.func f) us.toArray ws.toArray))
  (hx:evs F xs=some vs) (hc:Rets P f (us++vs++ws) w R):Ex P o a w (fun a' w' =>∃v,R v w' ∧a' =a.put o.dst v):=by
 intro next Q hn
 unfold Oper.wp
 have hrun:(execOp a.eval o).run P w= .ok (.enter f (us++vs++ws).toArray) w:=by
  unfold execOp
  simp [ho,resolve,h.ev hf,h.evs hx,Deferred.ofValue,invoke,run_callFunc hb]
 rw [hrun]
 show Calls P f (us++vs++ws).toArray w _
 exact Calls.mono hc fun e w' ⟨v,he,hr⟩=>by subst he;exact hn _ _ ⟨v,hr,rfl⟩
theorem x_call {d f:Nat}{fo:Operand}{xs:List Operand}{tys:Array TypeId}{us vs ws:List Value}{R:Value→World→Prop}(h:St N K W a w F L)(hb:bodyI P f=true)(ho:o.op= .call ⟨.value fo,xs.toArray,tys⟩)(hf:ev F fo=some (.func (.func f) us.toArray ws.toArray))
  (hx:evs F xs=some vs) (hd:o.dst=some d) (hdN:Nat.blt d N=true) (hc:Rets P f (us++vs++ws) w R):Ex P o a w (fun a' w' =>∃v,R v w' ∧Fr N a' ((d,v)::F)):=
 (call_wp h.fr hb ho hf hx hc).mono fun a' w' ⟨v,hr,e⟩=>⟨v,hr,by rw [e,hd];exact h.fr.put d (by simpa [Nat.blt_eq] using hdN) v⟩
theorem Sh.call {w' :World}(h:Sh K W w L)(h' :Sh0 w w' L')(hrd:∀A∈L',∀b,A.rd b→w.heap.size≤b∨∃B∈L,B.rd b):Sh K W w' (L' ++L):=
 Sh.step (Lp:= []) (Lr:=L) (L' :=L') h (h'.chg.mono fun _ h=>h.elim) h'.ok (fun A hA b hb=> .inr ((h'.mine A hA b hb).resolve_left (fun h=>h)))
  (fun A hA b hb=>(hrd A hA b hb).elim (fun h=> .inr (.inr h)) (fun h=> .inr (.inl h))) h'.self h'.apart
theorem Sh.call0 {w' :World}(h:Sh K W w L)(h' :Sh0 w w' []):Sh K W w' L:=h.call h' (by simp)
theorem Sh0.start (w:World):Sh0 w w []:=⟨Chg.refl _ _,by simp,by simp,by simp, .nil⟩
theorem Sh0.ext {w:World}{L:List Asn}(hok:∀A∈L,A.ok w)(hfp:∀A∈L,∀b,¬A.fp b):Sh0 w w L:=by
 refine ⟨Chg.refl _ _,hok,fun A hA b hb=>(hfp A hA b hb).elim,fun A hA b hb=>(hfp A hA b hb).elim, ?_⟩
 rw [List.pairwise_iff_getElem]
 intro i j hi hj _ b
 exact ⟨fun h=>(hfp _ (List.getElem_mem hi) b h).elim,fun h=>(hfp _ (List.getElem_mem hj) b h).elim⟩
section
variable {α β γ δ:Type}[Enc α][Enc β][Enc γ][Enc δ]{s:Ls α}{t:Ls β}{u:Ls γ}{v:Ls δ}{w:World}
theorem Sh0.ext1 (h1:s.At w):Sh0 w w [.at_ s]:=Sh0.ext (by intro A hA;simp at hA;subst hA;exact h1) (by intro A hA b hb;simp at hA;subst hA;exact hb)
theorem Sh0.ext2 (h1:s.At w)(h2:t.At w):Sh0 w w [.at_ s, .at_ t]:=Sh0.ext (by intro A hA;simp at hA;rcases hA with rfl|rfl;exact h1;exact h2) (by intro A hA b hb;simp at hA;rcases hA with rfl|rfl<;>exact hb)
end
theorem x_cond {c:Operand}{x y:Code}{b:Bool}(h:St N K W a w F L)(hc:ev F c=some (.bool b))(ht:b=true→x.wp P Q a w)(hf:b=false→y.wp P Q a w):(Code.cond c x y).wp P Q a w:=wp_cond_split (h.fr.ev hc) ht hf
theorem x_condF {c:Operand}{x y:Code}{b:Bool}(h:St N K W a w F L)(hc:ev F c=some (.bool b))(hb:b=false)(hf:y.wp P Q a w):(Code.cond c x y).wp P Q a w:=by subst hb;exact wp_cond_false (h.fr.ev hc) hf
theorem x_ret1 {fn:Func}{t:Nat}{v:Value}{R:Value→World→Prop}(hs:fn.results= #[.tmp t])(h:St N K W a w F L)(ht:lk F t=some v)(hR:R v w):bodyPost P fn (fun e w' =>∃v,e= .returned v∧R v w') .ret a w:=by
 refine ⟨h.fr.defers,v, ?_,v,rfl,hR⟩
 rw [results_tmp hs]
 have:=h.fr.at_ t v ht
 simp [Array.getD_eq_getD_getElem?,this]
end
section
variable {P:Program}{N:Nat}{K:Nat→Prop}{W w:World}{a:Act}{F F' :List (Nat×Value)}{L L' :List Asn}{o:Oper}{Q:Exit→Act→World→Prop}
end
section
variable {P:Program}{N:Nat}{K:Nat→Prop}{W w:World}{a:Act}{F F' :List (Nat×Value)}{L L' B:List Asn}{o:Oper}{ops:Array Oper}{rest:List Oper}{Q:Exit→Act→World→Prop}
theorem Sh.back {w' :World}{A:Asn}(h:Sh K W w (A::L))(h' :Sh A.fp w w' L')(hrd:∀C∈L',∀b,C.rd b→(A.fp b∨A.rd b)∨(∃D∈L,D.rd b)∨w.heap.size≤b):Sh K W w' (L' ++L):=
 Sh.step (Lp:= [A]) (Lr:=L) (L' :=L') h (h'.chg.mono fun b hb=>⟨A,by simp,hb⟩) h'.ok (fun C hC b hb=>(h'.mine C hC b hb).imp (fun h=>⟨A,by simp,h⟩) (fun h=>h))
  (fun C hC b hb=>(hrd C hC b hb).imp (fun h=>⟨A,by simp,h⟩) (fun h=>h)) h'.self h'.apart
end
structure ThV where
 pc:Int
 rv:Value
 wv:Value
def ThV.cell (x:ThV):Nat→Value
 |0=> .int .i64 x.pc
 |1=>x.rv
 |_=>x.wv
section
variable {P:Program}{Q:Exit→Act→World→Prop}
variable {N:Nat}{K:Nat→Prop}{W w:World}{a:Act}{F:List (Nat×Value)}{L:List Asn}
theorem x_tail {id:Nat}{l:List Oper}(m:Nat)(ps:List Nat)(hm:P.follows .mixedOrders=true)(hB:tailB l m ps=true)(h:St N K W a w F L)
  (k:∀Z:Act→Prop,(∀a',(∀w',Sh K W w' L→wpList P l.toArray (fun e a w=>match e with| .normal=>Q .normal a w|_=>False) (l.drop m) a' w')→Z a')→wpQuiet P l.toArray (fun w' =>Sh K W w' L) Z (opsAt l.toArray ps++opsAt l.toArray (quietIs m ps)) a):(Code.region id l.toArray true).wp P Q a w:=by
 simp only [tailB,Bool.and_eq_true,Nat.ble_eq] at hB
 obtain ⟨h1,h2,h3,h4,h5,h6,h7⟩:=hB
 have hpm:∀p∈ps,p<m:=fun p hp=>by simpa using (List.all_eq_true.1 h5) p hp
 refine Code.wp_mono (Q:=fun e a w=>match e with| .normal=>Q .normal a w|_=>False) (fun e a w he=>by cases e<;>first|exact he|exact he.elim) ?_
 refine wp_region_any hm ?_
 split at h7
 ·rename_i lp hlp
  have hq:=k _ (fun _ h=>h)
  have hcl0:ClosedB l (fun j=>(Array.replicate l.length false).getD j false):=by
   intro i o _ hS;simp only [Array.getD_eq_getD_getElem?,Array.getElem?_replicate] at hS;split at hS<;>cases hS
  obtain ⟨c1,c2,c3,c4,c5⟩:=pureIs_spec ps _ lp hlp hcl0
  have hsz:lp.size=l.length:=by simpa using c2
  have hlen:l.toArray.size=((quietIs m ps).length+(l.length-m))+ps.length:=by
   have:=Nat.eq_of_beq_eq_true h6
   simp;omega
  rw [hlen]
  rw [show Array.replicate ((quietIs m ps).length+(l.length-m)+ps.length) false=Array.replicate l.length false by rw [←hlen];simp]
  refine any_pure (C:=fun w' =>Sh K W w' L) h4 (fun c a w h=>h) ps _ _ lp a w.drew h.sh.drew hlp hq fun a' hq' => ?_
  have h8:=anyQ_is (P:=P) h4 (quietIs m ps) _ a' h7 hq'
  have hot:∀j,j<l.length→(orTail lp m).getD j false=(lp.getD j false||Nat.ble m j):=by
   intro j hj
   simp [orTail,Array.getD_eq_getD_getElem?,hsz,hj]
  refine any_tail (C:=fun w' =>Sh K W w' L) hpm h1 h2 h3 _ lp (orTail lp m) a' w.drew h.sh.drew (c4 (by simp)) c1 hsz (by simp [orTail,hsz]) (fun j hj=> ?_) (fun j hj hj2=> ?_) h8
  ·rw [hot j (by omega)]
   cases hb:Nat.ble m j
   ·simp
   ·rw [Nat.ble_eq] at hb;omega
  ·refine ⟨?_,by rw [hot j hj2,show Nat.ble m j=true by rw [Nat.ble_eq];exact hj];simp⟩
   rw [c5 j (fun hp=>by have:=hpm j hp;omega)]
   simp [Array.getD_eq_getD_getElem?,Array.getElem?_replicate,hj2]
 ·cases h7
end
section
variable {P:Program}{o:Oper}{N:Nat}{K:Nat→Prop}{W w:World}{a:Act}{F:List (Nat×Value)}{L:List Asn}{α:Type}[Enc α]
theorem Rn.same {v v' :Value}(h:Rn P o N K W F L v)(e:v=v'):Rn P o N K W F L v' :=by subst e;exact h
theorem wq_call {ops:Array Oper}{rest:List Oper}{Q:Act→Prop}{d f:Nat}{fo:Operand}{xs:List Operand}{tys:Array TypeId}{us vs ws:List Value}{v:Value}(h:Fr N a F)(hb:bodyI P f=true)(ho:o.op= .call ⟨.value fo,xs.toArray,tys⟩)(hf:ev F fo=some (.func (.func f) us.toArray ws.toArray))
  (hx:evs F xs=some vs) (hw:Region.wanted o (yielded ops a.tmps)=true) (hd:o.dst=some d) (hdN:Nat.blt d N=true) (hc:∀w,Sh K W w L→Rets P f (us++vs++ws) w (fun v' w' =>v' =v∧Sh0 w w' []))
  (k:∀a',Fr N a' ((d,v)::F)→wpQuiet P ops (fun w=>Sh K W w L) Q rest a'):wpQuiet P ops (fun w=>Sh K W w L) Q (o::rest) a:=by
 unfold wpQuiet
 rw [if_pos hw]
 refine ⟨v,fun w hw=> ?_,k _ (by rw [hd];exact h.put d (by simpa [Nat.blt_eq] using hdN) v)⟩
 unfold Oper.quietAt
 have hrun:(execOp a.eval o).run P w= .ok (.enter f (us++vs++ws).toArray) w:=by
  unfold execOp
  simp [ho,resolve,h.ev hf,h.evs hx,Deferred.ofValue,invoke,run_callFunc hb]
 rw [hrun]
 refine ⟨rfl,Calls.mono (hc w hw) fun e w' ⟨v',he,hv',hr⟩=> ?_⟩
 subst hv'
 exact ⟨he,hw.call0 hr⟩
end
inductive Runs (P:Program)(ops:Array Oper)(N:Nat)(K:Nat→Prop)(W:World)(L:List Asn):List Oper→List (Nat×Value)→List Oper→List (Nat×Value)→Prop
 |nl {l:List Oper} {F:List (Nat×Value)} :Runs P ops N K W L l F l F
 |cn {o:Oper} {l l' :List Oper} {F F' :List (Nat×Value)} {d:Nat} {v:Value} (hr:Rn P o N K W F L v) (hw:∀a,Fr N a F→Region.wanted o (yielded ops a.tmps)=true) (hd:o.dst=some d) (hN:Nat.blt d N=true) (k:Runs P ops N K W L l ((d,v)::F) l' F'):Runs P ops N K W L (o::l) F l' F'
 |sk {o:Oper} {l l' :List Oper} {F F' :List (Nat×Value)} {d:Nat} (hw:∀a,Fr N a F→Region.wanted o (yielded ops a.tmps)=false) (hd:o.dst=some d) (hN:Nat.blt d N=true) (k:Runs P ops N K W L l ((d,undef)::F) l' F'):Runs P ops N K W L (o::l) F l' F'
section
variable {P:Program}{N:Nat}{K:Nat→Prop}{W w:World}{a:Act}{F F' F2:List (Nat×Value)}{L L' :List Asn}{o:Oper}{ops:Array Oper}{l l' l2 rest:List Oper}{Q:Exit→Act→World→Prop}{c c' :Code}{R:Act→World→Prop}
theorem Runs.go (r:Runs P ops N K W L l F l' F'):∀ {a:Act},St N K W a w F L→(∀a,St N K W a w F' L→wpList P ops Q l' a w)→wpList P ops Q l a w:=by
 induction r with
 |nl=>exact fun h k=>k _ h
 |cn hr hw hd hN _ ih=>exact fun h k=>wl_val h hr (hw _ h.fr) hd hN fun a h=>ih h k
 |sk hw hd hN _ ih=>exact fun h k=>wl_skip h (hw _ h.fr) hd hN fun a h=>ih h k
theorem Runs.goQ {Z:Act→Prop}(r:Runs P ops N K W L l F l' F'):∀ {a:Act},Fr N a F→(∀a,Fr N a F' →wpQuiet P ops (fun w=>Sh K W w L) Z l' a)→wpQuiet P ops (fun w=>Sh K W w L) Z l a:=by
 induction r with
 |nl=>exact fun h k=>k _ h
 |cn hr hw hd hN _ ih=>exact fun h k=>wq_val h hr (hw _ h) hd hN fun a h=>ih h k
 |sk hw hd hN _ ih=>exact fun h k=>wq_skip h (hw _ h) hd hN fun a h=>ih h k
theorem gG (h:St N K W a w F L)(k:∀a w,St N K W a w F L→R a w):R a w:=k a w h
theorem gRn (r:Runs P ops N K W L l F l' F')(k:∀a w,St N K W a w F' L→wpList P ops Q l' a w):∀a w,St N K W a w F L→wpList P ops Q l a w:=fun _ w h=>r.go h fun a h=>k a w h
theorem sG {id:Nat}(r:Runs P l.toArray N K W L l F [] F')(k:∀a w,St N K W a w F' L→c.wp P Q a w):∀a w,St N K W a w F L→(Code.seq (.region id l.toArray false) c).wp P Q a w:=
 fun _ w h=>wp_seq_k fun _ hK=>wp_region_lit (r.go h fun a h=>wpList_nil (hK _ _ (k a w h)))
theorem sK {id:Nat}(k:∀R:Act→World→Prop,(∀a w,c.wp P Q a w→R a w)→∀a w,St N K W a w F L→wpList P l.toArray (Exit.then R Q) l a w):∀a w,St N K W a w F L→(Code.seq (.region id l.toArray false) c).wp P Q a w:=
 fun _ w h=>wp_seq_k fun R hK=>wp_region_lit (k R hK _ w h)
theorem nK {Q0:Exit→Act→World→Prop}(hk:∀a w,c.wp P Q a w→Q0 .normal a w)(k:∀a w,St N K W a w F L→c.wp P Q a w):∀a w,St N K W a w F L→wpList P ops Q0 [] a w:=fun _ w h=>wpList_nil (hk _ _ (k _ w h))
theorem hK {X:Act→World→Prop}(hk:∀a w,c.wp P Q a w→X a w)(k:∀a w,St N K W a w F L→c.wp P Q a w):∀a w,St N K W a w F L→X a w:=fun _ w h=>hk _ _ (k _ w h)
theorem gK (k:∀R:Act→World→Prop,(∀a w,c'.wp P Q a w→R a w)→∀a w,St N K W a w F L→c.wp P (Exit.then R Q) a w):∀a w,St N K W a w F L→(Code.seq c c').wp P Q a w:=
 fun _ w h=>wp_seq_k fun R hK=>k R hK _ w h
theorem gL {id:Nat}(k:∀a w,St N K W a w F L→wpList P l.toArray Q l a w):∀a w,St N K W a w F L→(Code.region id l.toArray false).wp P Q a w:=fun _ w h=>wp_region_lit (k _ w h)
theorem nN (k:∀a w,St N K W a w F L→Q .normal a w):∀a w,St N K W a w F L→wpList P ops Q [] a w:=fun _ w h=>wpList_nil (k _ w h)
theorem gCb {x:Operand}{b:Bool}(hc:ev F x=some (.bool b))(ht:b=true→∀a w,St N K W a w F L→c.wp P Q a w)(hf:b=false→∀a w,St N K W a w F L→c'.wp P Q a w):∀a w,St N K W a w F L→(Code.cond x c c').wp P Q a w:=
 fun _ w h=>x_cond h hc (fun hb=>ht hb _ w h) (fun hb=>hf hb _ w h)
theorem gcd {x:Operand}{p:Prop}[Decidable p](hc:ev F x=some (.bool (decide p)))(ht:decide p=true→p→∀a w,St N K W a w F L→c.wp P Q a w)(hf:decide p=false→¬p→∀a w,St N K W a w F L→c'.wp P Q a w):∀a w,St N K W a w F L→(Code.cond x c c').wp P Q a w:=
 gCb hc (fun hb=>ht hb (of_decide_eq_true hb)) fun hb=>hf hb (of_decide_eq_false hb)
theorem gcF {x:Operand}{b:Bool}(hc:ev F x=some (.bool b))(hb:b=false)(k:∀a w,St N K W a w F L→c'.wp P Q a w):∀a w,St N K W a w F L→(Code.cond x c c').wp P Q a w:=fun _ w h=>x_condF h hc hb (k _ w h)
theorem gB {id:Nat}(k:∀a w,St N K W a w F L→c.wp P (Exit.inBlock id Q) a w):∀a w,St N K W a w F L→(Code.block id c).wp P Q a w:=fun _ w h=>wp_block (k _ w h)
theorem gS (k:∀a w,St N K W a w F L→Q .normal a w):∀a w,St N K W a w F L→Code.skip.wp P Q a w:=fun _ w h=>wp_skip (k _ w h)
theorem gX {id:Nat}(k:∀a w,St N K W a w F L→Q (.exit id) a w):∀a w,St N K W a w F L→(Code.exit id).wp P Q a w:=fun _ w h=>wp_exit (k _ w h)
theorem gR (k:∀a w,St N K W a w F L→Q .ret a w):∀a w,St N K W a w F L→Code.ret.wp P Q a w:=fun _ w h=>wp_ret (k _ w h)
theorem gen {f:FuncId}{fn:Func}{vs:List Value}{X:Value→World→Prop}(hf:P.funcs[f]? =some fn)(hN:fn.ntmps=N)(hS:Sh K W W L)(e:(fn.body,argF vs,Nat.ble vs.length N)=(some c,some F,true))(k:∀a,St N K W a W F L→c.wp P (bodyPost P fn fun e w' =>∃v,e= .returned v∧X v w') a W):Rets P f vs W X:=by
 simp only [Prod.mk.injEq] at e
 exact x_enter hf e.1 hN (Nat.le_of_ble_eq_true e.2.2) fun a h=>k a ⟨by rw [argF_eq e.2.1] at h;exact h,hS⟩
theorem uT {X:Act→World→Prop}(k:∀a w,St N K W a w F L→Q .ret a w):∀a w,St N K W a w F L→Exit.then X Q .ret a w:=k
theorem uB {id:Nat}(k:∀a w,St N K W a w F L→Q .ret a w):∀a w,St N K W a w F L→Exit.inBlock id Q .ret a w:=k
theorem gNl {α:Type}[Enc α]{s:Ls α}(hat:∀w,Sh K W w L→s.At w)(k:s.l.length≤140737488355328→∀a w,St N K W a w F L→R a w):∀a w,St N K W a w F L→R a w:=fun a w h=>k (hat w h.sh).len a w h
theorem gE1 {α:Sort 1}{F2:α→List (Nat×Value)}{L2:α→List Asn}(hx:∀a w,St N K W a w F L→Ex P o a w (fun a' w' =>∃b:α,St N K W a' w' (F2 b) (L2 b)))(hg:o.guard=none)(k:∀b a w,St N K W a w (F2 b) (L2 b)→wpList P ops Q rest a w):∀a w,St N K W a w F L→wpList P ops Q (o::rest) a w:=
 fun _ w h=>wl_ex (hx _ w h) (wanted_none hg _) fun a w ⟨b,h⟩=>k b a w h
theorem gF (ts:List Nat)(e:pickF F ts=some F')(k:∀a w,St N K W a w F' L→R a w):∀a w,St N K W a w F L→R a w:=fun a w h=>k a w (h.nf (pickF_ok e))
theorem qRn {Z:Act→Prop}(r:Runs P ops N K W L l F l' F')(k:∀a,Fr N a F' →wpQuiet P ops (fun w=>Sh K W w L) Z l' a):∀a,Fr N a F→wpQuiet P ops (fun w=>Sh K W w L) Z l a:=fun _ h=>r.goQ h k
theorem qN {Z:Act→Prop}(z:∀a,(∀w,Sh K W w L→R a w)→Z a)(k:∀a w,St N K W a w F L→R a w):∀a,Fr N a F→wpQuiet P ops (fun w=>Sh K W w L) Z [] a:=fun a h=>wpQuiet_nil (z a fun w hw=>k a w ⟨h,hw⟩)
section
variable {d g k q r j n by_ sz i2:Nat}{T E e:TypeId}{x y:Operand}{v:Value}{z cs vs:List Value}
theorem oM (n:Nat)(e:mvN N n l F=some (l2,F2))(k:Runs P ops N K W L l2 F2 l' F'):Runs P ops N K W L l F l' F' :=by
 induction n generalizing l F with
 |zero=>cases e;exact k
 |succ n ih=>
  cases l with
  |nil=>cases e
  |cons o l=>
   unfold mvN at e
   split at e
   ·rename_i d x hg hd ho
    split at e
    ·rename_i v hv
     cases hb:Nat.blt d N with
     |false=>rw [hb] at e;cases e
     |true=>rw [hb] at e;exact .cn (r_move ho hv) (wn hg) hd hb (ih e)
    ·cases e
   ·rename_i d x hg hd ho
    split at e
    ·rename_i v hv
     cases hb:Nat.blt d N with
     |false=>rw [hb] at e;cases e
     |true=>rw [hb] at e;exact .cn (r_assign ho hv) (wn hg) hd hb (ih e)
    ·cases e
   ·cases e
theorem ofB {f:Nat}(hT:flI P T f=some k)(e:(o.dst,o.op,ev F x,okg o d N)=(some d, .fieldAddr T x f,some (.pointer (some ⟨g,0,none⟩)),true))(kk:Runs P ops N K W L l ((d, .pointer (some ⟨g,k,none⟩))::F) l' F'):Runs P ops N K W L (o::l) F l' F' :=by
 simp only [Prod.mk.injEq,okg,Bool.and_eq_true,Option.isNone_iff_eq_none] at e
 exact .cn (r_fieldB hT e.2.1 e.2.2.1 (Nat.zero_add k)) (wn e.2.2.2.1) e.1 e.2.2.2.2 kk
theorem olB (i:Nat)(hT:tyI P T=some (false,n,by_,z))(hi:L[i]? =some (.blk g E cs))(e:(o.dst,o.op,ev F x,okg o d N,cs[q]?)=(some d, .load T x,some (.pointer (some ⟨g,q,none⟩)),true,some v))(k:Runs P ops N K W L l ((d,v)::F) l' F'):Runs P ops N K W L (o::l) F l' F' :=by
 simp only [Prod.mk.injEq,okg,Bool.and_eq_true,Option.isNone_iff_eq_none] at e
 exact .cn (r_ldb hT e.2.1 e.2.2.1 hi e.2.2.2.2) (wn e.2.2.2.1.1) e.1 e.2.2.2.1.2 k
section
variable {α:Type}[Enc α]{s:Ls α}{gb:Bool}
theorem oxN {kd:IntKind}(hT:slI P T=some e)(he:tyI P e=some (gb,n,by_,z))(hat:∀w,Sh K W w L→s.At w)(q:Nat)(hb:q<s.l.length)(e' :(o.dst,o.op,ev F x,ev F y,okg o d N)=(some d, .indexAddr T x y,some s.v,some (.int kd (q:Int)),true))
  (k:Runs P ops N K W L l ((d, .pointer (some (padr s.v n q 0)))::F) l' F'):Runs P ops N K W L (o::l) F l' F' :=by
 simp only [Prod.mk.injEq,okg,Bool.and_eq_true,Option.isNone_iff_eq_none] at e'
 exact .cn (r_ixN hT he e'.2.1 e'.2.2.1 e'.2.2.2.1 hat hb) (wn e'.2.2.2.2.1) e'.1 e'.2.2.2.2.2 k
theorem olE {i:Nat}(v:Value)(hT:tyI P T=some (false,n,by_,z))(hat:∀w,Sh K W w L→s.At w)(hi:i<s.l.length)(e:(o.dst,o.op,ev F x,okg o d N,Enc.sz α,Nat.blt j sz,Enc.cell (nth s.l i) j)=(some d, .load T x,some (.pointer (some (padr s.v sz i j))),true,sz,true,v))(k:Runs P ops N K W L l ((d,v)::F) l' F'):Runs P ops N K W L (o::l) F l' F' :=by
 simp only [Prod.mk.injEq,okg,Bool.and_eq_true,Option.isNone_iff_eq_none] at e
 exact .cn (r_lde hT e.2.1 e.2.2.1 e.2.2.2.2.1 hat hi (by simpa [Nat.blt_eq] using e.2.2.2.2.2.1) e.2.2.2.2.2.2) (wn e.2.2.2.1.1) e.1 e.2.2.2.1.2 k
theorem olI {i:Nat}{kd:IntKind}{u:Int}(hT:tyI P T=some (false,n,by_,z))(hat:∀w,Sh K W w L→s.At w)(hi:i<s.l.length)(e:(o.dst,o.op,ev F x,okg o d N,Enc.sz α,Nat.blt j sz,Enc.cell (nth s.l i) j)=(some d, .load T x,some (.pointer (some (padr s.v sz i j))),true,sz,true, .int kd u))(k:Runs P ops N K W L l ((d, .int kd u)::F) l' F'):Runs P ops N K W L (o::l) F l' F' :=olE (.int kd u) hT hat hi e k
theorem oln {n:Nat}(hT:slI P T=some e)(hat:∀w,Sh K W w L→s.At w)(e' :(o.dst,o.op,ev F x,okg o d N,s.l.length)=(some d, .call ⟨.builtin .len, #[x], #[T]⟩,some s.v,true,n))(k:Runs P ops N K W L l ((d, .int .i64 (n:Int))::F) l' F'):Runs P ops N K W L (o::l) F l' F' :=by
 simp only [Prod.mk.injEq,okg,Bool.and_eq_true,Option.isNone_iff_eq_none] at e'
 exact .cn (r_len hT e'.2.1 e'.2.2.1 hat e'.2.2.2.2) (wn e'.2.2.2.1.1) e'.1 e'.2.2.2.1.2 k
end
section
variable {U:TypeId}{kd:IntKind}
theorem oltN (p q:Nat)(e:(o.dst,o.op,ev F x,ev F y,okg o d N)=(some d, .binOp .lss T x y U,some (.int kd (p:Int)),some (.int kd (q:Int)),true))(k:Runs P ops N K W L l ((d, .bool (decide (p<q)))::F) l' F'):Runs P ops N K W L (o::l) F l' F' :=by
 simp only [Prod.mk.injEq,okg,Bool.and_eq_true,Option.isNone_iff_eq_none] at e
 exact .cn (r_lssN e.2.1 e.2.2.1 e.2.2.2.1) (wn e.2.2.2.2.1) e.1 e.2.2.2.2.2 k
theorem oltI (p q:Int)(e:(o.dst,o.op,ev F x,ev F y,okg o d N)=(some d, .binOp .lss T x y U,some (.int kd p),some (.int kd q),true))(k:Runs P ops N K W L l ((d, .bool (decide (p<q)))::F) l' F'):Runs P ops N K W L (o::l) F l' F' :=by
 simp only [Prod.mk.injEq,okg,Bool.and_eq_true,Option.isNone_iff_eq_none] at e
 exact .cn (r_lssI e.2.1 e.2.2.1 e.2.2.2.1) (wn e.2.2.2.2.1) e.1 e.2.2.2.2.2 k
theorem ogtI (p q:Int)(e:(o.dst,o.op,ev F x,ev F y,okg o d N)=(some d, .binOp .gtr T x y U,some (.int kd p),some (.int kd q),true))(k:Runs P ops N K W L l ((d, .bool (decide (q<p)))::F) l' F'):Runs P ops N K W L (o::l) F l' F' :=by
 simp only [Prod.mk.injEq,okg,Bool.and_eq_true,Option.isNone_iff_eq_none] at e
 exact .cn (r_gtrI e.2.1 e.2.2.1 e.2.2.2.1) (wn e.2.2.2.2.1) e.1 e.2.2.2.2.2 k
theorem ogeN (p q:Nat)(e:(o.dst,o.op,ev F x,ev F y,okg o d N)=(some d, .binOp .geq T x y U,some (.int kd (p:Int)),some (.int kd (q:Int)),true))(k:Runs P ops N K W L l ((d, .bool (decide (q≤p)))::F) l' F'):Runs P ops N K W L (o::l) F l' F' :=by
 simp only [Prod.mk.injEq,okg,Bool.and_eq_true,Option.isNone_iff_eq_none] at e
 exact .cn (r_geqN e.2.1 e.2.2.1 e.2.2.2.1) (wn e.2.2.2.2.1) e.1 e.2.2.2.2.2 k
theorem oneI (p q:Int)(e:(o.dst,o.op,ev F x,ev F y,okg o d N)=(some d, .binOp .neq T x y U,some (.int kd p),some (.int kd q),true))(k:Runs P ops N K W L l ((d, .bool (decide (p≠q)))::F) l' F'):Runs P ops N K W L (o::l) F l' F' :=by
 simp only [Prod.mk.injEq,okg,Bool.and_eq_true,Option.isNone_iff_eq_none] at e
 exact .cn (r_neqI e.2.1 e.2.2.1 e.2.2.2.1) (wn e.2.2.2.2.1) e.1 e.2.2.2.2.2 k
theorem oadN (p q:Nat)(hb:p+q<9223372036854775808)(e:(o.dst,o.op,ev F x,ev F y,okg o d N)=(some d, .binOp .add T x y U,some (.int .i64 (p:Int)),some (.int .i64 (q:Int)),true))(k:Runs P ops N K W L l ((d, .int .i64 ((p+q:Nat):Int))::F) l' F'):Runs P ops N K W L (o::l) F l' F' :=by
 simp only [Prod.mk.injEq,okg,Bool.and_eq_true,Option.isNone_iff_eq_none] at e
 exact .cn (r_addN e.2.1 e.2.2.1 e.2.2.2.1 hb) (wn e.2.2.2.2.1) e.1 e.2.2.2.2.2 k
end
theorem gbx (e:(o.op,o.dst,o.guard,ev F x,Nat.blt d N)=(.box T x,some d,none,some v,true))(hv:v.cells=cs.toArray)(k:∀(b:Nat) (a:Act) (w:World),St N K W a w ((d, .pointer (some ⟨b,0,none⟩))::F) (.blk b T cs::L)→wpList P ops Q rest a w):∀a w,St N K W a w F L→wpList P ops Q (o::rest) a w:=by
 simp only [Prod.mk.injEq] at e
 intro a w h
 exact wl_ex (x_box h e.1 e.2.2.2.1 hv e.2.1 e.2.2.2.2) (wanted_none e.2.2.1 _) fun a w ⟨b,h⟩=>k b a w h
theorem gte {α:Type}[Enc α][Flat α]{s:Ls α}{i j:Nat}{gg:Bool}{L2:List Asn}(r:Nat)(x' :α)(hT:tyI P T=some (gg,1,by_,z))(hi:i<s.l.length)(e:(o.op,o.dst,o.guard,L[r]?,ev F x,ev F y,Enc.sz α,Nat.blt j sz,putO L r (.own E ⟨s.v,s.l.set i x'⟩))=(.store T x y,none,none,some (.own E s),some (.pointer (some (padr s.v sz i j))),some v,sz,true,some L2))(h1:v.oneCell' =true)
  (k:∀a w,St N K W a w F L2→wpList P ops Q rest a w) (hx:∀q,q<sz→Enc.cell x' q=if q=j then v else Enc.cell (nth s.l i) q:=by intro q hq;rcases q with _|_|_|_|q<;>first|rfl|omega):∀a w,St N K W a w F L→wpList P ops Q (o::rest) a w:=by
 simp only [Prod.mk.injEq] at e
 obtain ⟨e1,e2,e3,e4,e5,e6,e7,e8,e9⟩:=e
 intro a w h
 refine wl_ex (x_ste h hT e1 e2 e5 e7 e4 hi (by simpa [Nat.blt_eq] using e8) e6 (cells_oneL h1) h1 hx (fun w h=>Flat.inner _ _) (fun b hb=>(Flat.on _ _ hb).elim)) (wanted_none e3 _) fun a' w' h' => ?_
 rw [putO_eq e9] at h'
 exact k _ _ h'
theorem gtr {α β:Type}[Enc α][Flat α][Enc β]{s:Ls α}{u:Ls β}{i j:Nat}{gg:Bool}{L2:List Asn}(r:Nat)(x' :α)(hT:tyI P T=some (gg,1,by_,z))(hi:i<s.l.length)(hat:∀w,Sh K W w L→u.At w)(e:(o.op,o.dst,o.guard,L[r]?,ev F x,ev F y,Enc.sz α,Nat.blt j sz,putO L r (.own E ⟨s.v,s.l.set i x'⟩))=(.store T x y,none,none,some (.own E s),some (.pointer (some (padr s.v sz i j))),some u.v,sz,true,some L2))
  (k:∀a w,St N K W a w F L2→wpList P ops Q rest a w) (hx:∀q,q<sz→Enc.cell x' q=if q=j then u.v else Enc.cell (nth s.l i) q:=by intro q hq;rcases q with _|_|_|_|q<;>first|rfl|omega):∀a w,St N K W a w F L→wpList P ops Q (o::rest) a w:=fun a w h=>gte r x' hT hi e (hat w h.sh).one k hx a w h
theorem xCl {f:Nat}{fo:Operand}{xs:List Operand}{tys:Array TypeId}{us vs ws:List Value}{R:Value→World→Prop}(h:St N K W a w F L)(hb:bodyI P f=true)(e:(o.op,o.dst,Nat.blt d N,ev F fo,evs F xs)=(.call ⟨.value fo,xs.toArray,tys⟩,some d,true,some (.func (.func f) us.toArray ws.toArray),some vs))(hc:Rets P f (us++vs++ws) w R):Ex P o a w (fun a' w' =>∃v,R v w' ∧Fr N a' ((d,v)::F)):=by
 simp only [Prod.mk.injEq] at e
 exact x_call h hb e.1 e.2.2.2.1 e.2.2.2.2 e.2.1 e.2.2.1 hc
theorem gP (hx:∀a w,St N K W a w F L→Ex P o a w (fun a' w' =>∃u,(u=v∧Sh0 w w' [])∧Fr N a' ((d,u)::F)))(hg:o.guard=none)(k:∀a w,St N K W a w ((d,v)::F) L→wpList P ops Q rest a w):∀a w,St N K W a w F L→wpList P ops Q (o::rest) a w:=
 fun _ w h=>wl_ex (hx _ w h) (wanted_none hg _) fun a w' ⟨u,⟨hu,hs⟩,hf⟩=>by subst hu;exact k a w' ⟨hf,h.sh.call0 hs⟩
theorem qP {Z:Act→Prop}{f:Nat}{fo:Operand}{xs:List Operand}{tys:Array TypeId}{us vs ws:List Value}(hb:bodyI P f=true)(e:(o.op,o.guard,o.dst,Nat.blt d N,ev F fo,evs F xs)=(.call ⟨.value fo,xs.toArray,tys⟩,none,some d,true,some (.func (.func f) us.toArray ws.toArray),some vs))(hc:∀w,Sh K W w L→Rets P f (us++vs++ws) w (fun v' w' =>v' =v∧Sh0 w w' []))
  (k:∀a,Fr N a ((d,v)::F)→wpQuiet P ops (fun w=>Sh K W w L) Z rest a):∀a,Fr N a F→wpQuiet P ops (fun w=>Sh K W w L) Z (o::rest) a:=by
 simp only [Prod.mk.injEq] at e
 exact fun a h=>wq_call h hb e.1 e.2.2.2.2.1 e.2.2.2.2.2 (wanted_none e.2.1 _) e.2.2.1 e.2.2.2.1 hc k
end
theorem aA {α:Type}[Enc α]{s:Ls α}(i:Nat)(hi:L[i]? =some (.at_ s)):∀w,Sh K W w L→s.At w:=fun w h=>h.at i hi
end
end Go.Proofs.YtmjkobhkkjgplaaGreatDoor.Dr
namespace Go.Proofs.YtmjkobhkkjgplaaGreatDoor
open Go.RowKit Go.Sort Go.Shelf
set_option linter.unusedSimpArgs false
set_option linter.unusedVariables false
theorem grown_of {w w' :World}(h:Dr.Chg (fun _=>False) w w'):∃q os,w' =grow (w.drewN q) os:=by
 obtain ⟨h1,h2,h3,h4,h5,h6⟩:=h
 refine ⟨w'.drawn-w.drawn,w'.heap.extract w.heap.size w'.heap.size, ?_⟩
 obtain ⟨heap,tape,drawn,os,output⟩:=w
 obtain ⟨heap',tape',drawn',os',output'⟩:=w'
 simp only at h1 h2 h3 h4 h5 h6
 subst h1 h2 h3
 have e1:heap' =heap++heap'.extract heap.size heap'.size:=by
  apply Array.ext_getElem?
  intro b
  rw [Array.getElem?_append]
  by_cases hb:b<heap.size
  ·rw [if_pos hb];exact h5 b hb (fun h=>h)
  ·rw [if_neg hb,Array.getElem?_extract]
   by_cases hb' :b<heap'.size
   ·rw [if_pos (by omega)];congr 1;omega
   ·rw [if_neg (by omega),Array.getElem?_eq_none (by omega)]
 have e2:drawn' =drawn+(drawn' -drawn):=by omega
 unfold grow World.drewN
 show World.mk heap' tape' drawn' os' output' =World.mk (heap++_) tape' (drawn+_) os' output'
 rw [←e1,←e2]
section
variable {α:Type}[Enc α]
theorem cellsOf_whole (h:Enc.agg α=true)(x:α):(Enc.whole x:Value)= .agg (cellsOf x).toArray:=Enc.many h x
theorem flat_encL {β:Type}[Inhabited β](f:β→α)(k:Nat)(hk:Enc.sz α=k)(h0:0<k)(d:Array β):(flatK (fun x=>cellsOf (f x)) k d).toList=encL (d.toList.map f):=by
 apply List.ext_getElem?
 intro t
 have hl:(encL (d.toList.map f)).length=d.size*k:=by rw [length_encL,List.length_map,hk];simp
 by_cases ht:t<d.size*k
 ·have hq:t/k<d.size:=(Nat.div_lt_iff_lt_mul h0).2 ht
  have hr:t%k<k:=Nat.mod_lt _ h0
  have e1:=encL_at (d.toList.map f) (t/k) (t%k) (by simpa using hq) (by rw [hk];exact hr)
  rw [hk,show t/k*k+t%k=t by rw [Nat.mul_comm];exact Nat.div_add_mod t k] at e1
  rw [e1]
  have e2:nth (d.toList.map f) (t/k)=f d[t/k]! :=by
   rw [nth_lt _ _ (by simpa using hq),List.getElem_map,getElem!_pos d _ hq]
   simp
  rw [e2]
  have hs:t<(flatK (fun x=>cellsOf (f x)) k d).toList.length:=by simp [flatK,ht]
  rw [List.getElem?_eq_getElem hs]
  congr 1
  simp only [flatK,Array.getElem_toList,Array.getElem_map,Array.getElem_range]
  have hc:t%k<(cellsOf (f d[t/k]!)).length:=by rw [length_cellsOf,hk];exact hr
  rw [getElem!_pos (cellsOf (f d[t/k]!)) (t%k) hc]
  simp [cellsOf]
 ·rw [List.getElem?_eq_none (by simp [flatK];omega),List.getElem?_eq_none (by omega)]
theorem putCells_list (F c:Array Value)(h:F.size≤c.size):(putCells id 0 F c).toList.take F.size=F.toList:=by
 apply List.ext_getElem?
 intro t
 rw [List.getElem?_take]
 by_cases ht:t<F.size
 ·rw [if_pos ht,Array.getElem?_toList,Array.getElem?_toList]
  simp only [putCells,Array.getElem?_mapIdx]
  rw [Array.getElem?_eq_getElem (show t<c.size by omega),Array.getElem?_eq_getElem ht,Option.map_some,if_pos ⟨by omega,by omega⟩]
  simp [getElem!_pos,ht]
 ·rw [if_neg ht,List.getElem?_eq_none (by simpa using ht)]
theorem size_putCells (F c:Array Value):(putCells id 0 F c).size=c.size:=by simp [putCells]
variable {β:Type}[Inhabited β]
theorem size_flatK' (enc:β→List Value)(k:Nat)(d:Array β):(flatK enc k d).size=d.size*k:=by simp [flatK]
theorem sortWorld_block (enc:β→List Value)(k:Nat)(w:World)(b n:Nat)(d:Array β)(os:Array Obj){E:TypeId}{cur:Array Value}(hb:w.heap[b]? =some (.cells cur E (0,0))):
  (sortWorldK enc k w b 0 n d os).heap[b]? =some (.cells (putCells id 0 (flatK enc k d) cur) E (0,0)):=by
 have hlt:b<w.heap.size:=(Array.getElem?_eq_some_iff.1 hb).1
 show ((w.heap.modify b _)++os)[b]? =_
 rw [Array.getElem?_append,if_pos (by simpa using hlt),Array.getElem?_modify,if_pos rfl,hb]
 rfl
theorem sortWorld_chg (enc:β→List Value)(k:Nat)(w:World)(b n:Nat)(d:Array β)(os:Array Obj):Chg (fun c=>c=b) w (sortWorldK enc k w b 0 n d os):=by
 refine ⟨rfl,rfl,rfl, ?_,fun c hc hne=> ?_⟩
 ·show _≤((w.heap.modify b _)++os).size
  simp
 ·show ((w.heap.modify b _)++os)[c]? =_
  rw [Array.getElem?_append,if_pos (by simpa using hc),Array.getElem?_modify,if_neg (fun e=>hne e.symm)]
theorem sort_c {P:Program}{ρ:Ren}(L6:SlLaysF0.n6 P ρ){k:Nat}(aE:∀w,(isAgg (ρ.t 24)).run P w= .ok true w)(zE:∀w,(Go.sizeOf (ρ.t 24)).run P w= .ok k w)[One α](hag:Enc.agg α=true)(hk:Enc.sz α=k)(h0:0<k)
  (cf:α→α→Int) (hO1:∀x,¬cf x x<0) (hO2:∀x y z,cf x y<0→cf y z<0→cf x z<0) (hO3:∀x y z,¬cf x y<0→¬cf y z<0→¬cf x z<0) (g:FuncId) (eg:∀args w,(callFunc g args).run P w= .ok (.enter g args) w) {K:Nat→Prop} {W:World} {E:TypeId} {s:Ls α} (hS:Sh K W W [.own E s])
  (hc:∀x∈s.l,∀y∈s.l,∀W',Enc.inner x W' →Enc.inner y W' →Calls P g #[Enc.whole x,Enc.whole y] W' fun e w' =>e= .returned (.int .i64 (cf x y))∧Dr.Chg (fun _=>False) W' w'):
  Rets P (ρ.f 6) [s.v, .func (.func g) #[] #[]] W (fun v w' =>v= .tuple #[]∧∃l' :List α,l'.Perm s.l∧l'.Pairwise (fun a b=>¬cf b a<0)∧Sh K W w' [.own E (⟨s.v,l'⟩:Ls α)]):=by
 have hnil:∀(p:Option Addr) (cap:Nat),s.v= .slice p 0 cap→s.l= []→Rets P (ρ.f 6) [s.v, .func (.func g) #[] #[]] W (fun v w' =>v= .tuple #[]∧∃l' :List α,l'.Perm s.l∧l'.Pairwise (fun a b=>¬cf b a<0)∧Sh K W w' [.own E (⟨s.v,l'⟩:Ls α)]):=by
  intro p cap hv hn
  rw [hv]
  refine Calls.mono (AnyF.slices_SortFunc_none L6 p cap (.func (.func g) #[] #[]) W) ?_
  rintro e w' ⟨rfl,rfl⟩
  refine ⟨_,rfl,rfl,s.l,List.Perm.refl _,by rw [hn];exact .nil, ?_⟩
  rw [←hv];exact hS
 obtain ⟨⟨hlen,hcase⟩,hl,hin⟩:=hS.ok _ (List.mem_singleton.2 rfl)
 rcases hcase with ⟨hv,hn⟩|⟨b,cap,cur,hv,_,hb,hle,hcm,hcs,htk⟩
 ·exact hnil none 0 hv (List.eq_nil_of_length_eq_zero hn)
 by_cases hn:s.l= []
 ·exact hnil (some ⟨b,0,none⟩) cap (by rw [hv,hn];rfl) hn
 obtain ⟨x0,hx0⟩:=List.exists_mem_of_ne_nil _ hn
 have hself:∀x∈s.l,¬Enc.on x b:=by
  intro x hx hon
  refine hS.self _ (List.mem_singleton.2 rfl) b (by show s.v.ownBlock=_;rw [hv];rfl) ?_
  obtain ⟨i,hi⟩:=List.getElem?_of_mem hx
  obtain ⟨hlt,e⟩:=List.getElem?_eq_some_iff.1 hi
  exact ⟨i,hlt,by rw [nth_lt _ _ hlt,e];exact hon⟩
 have hinx:∀x∈s.l,Enc.inner x W:=by
  intro x hx
  obtain ⟨i,hi⟩:=List.getElem?_of_mem hx
  obtain ⟨hlt,e⟩:=List.getElem?_eq_some_iff.1 hi
  have:=hin i hlt
  rwa [nth_lt _ _ hlt,e] at this
 have hblk:b<W.heap.size:=(Array.getElem?_eq_some_iff.1 hb).1
 letI:Inhabited {x//x∈s.l} :=⟨⟨x0,hx0⟩⟩
 have hds:s.l.attach.toArray.size=s.l.length:=by simp
 have hdl:s.l.attach.toArray.toList.map Subtype.val=s.l:=by simp
 have hfl:=flat_encL (Subtype.val: {x//x∈s.l}→α) k hk h0 s.l.attach.toArray
 rw [hdl] at hfl
 have hnk:s.l.length*k≤cap*k:=Nat.mul_le_mul_right _ hle
 have hH:HoldsK (fun x: {x//x∈s.l} =>cellsOf x.1) k W b 0 s.l.attach.toArray:=by
  intro j hj
  have hj' :j<s.l.length*k:=by rw [size_flatK',hds] at hj;exact hj
  have hB:Blk W b E cur:=hb
  refine ⟨?_,hB.frozen _⟩
  rw [Nat.zero_add,hB.cell j]
  have e1:(encL s.l)[j]? =cur[j]? :=by
   rw [←htk,List.getElem?_take,if_pos (by rw [hk];exact hj'),Array.getElem?_toList]
  rw [←e1,←hfl,Array.getElem?_toList,Array.getElem?_eq_getElem hj,getElem!_pos _ j hj]
  rfl
 have hkeep:∀(m:Nat) (os:Array Obj) (dk:Array {x//x∈s.l}) (x: {x//x∈s.l}),Enc.inner x.1 (sortWorldK (fun x: {x//x∈s.l} =>cellsOf x.1) k W b 0 m dk os):=by
  intro m os dk x
  refine Enc.keep _ W _ (hinx _ x.2) fun c hcb=> ?_
  exact (sortWorld_chg _ k W b m dk os).same c (Enc.lt _ W (hinx _ x.2) c hcb) (fun e=>hself _ x.2 (e▸hcb))
 have hcon:=AnyQ.slices_SortFunc L6 k aE zE (fun x: {x//x∈s.l} =>cellsOf x.1) (fun x=>by rw [length_cellsOf,hk]) (fun x v hvx=>by
   obtain ⟨q,hq,rfl⟩:=List.mem_map.1 hvx
   exact One.one x.1 W (hinx _ x.2) q (by simpa using hq)) (fun x y=>cf x.1 y.1)
  ⟨fun x=>by simpa [ltOf] using hO1 x.1,fun x y z h1 h2=>by simp only [ltOf,decide_eq_true_eq] at*;exact hO2 _ _ _ h1 h2,fun x y z h1 h2=>by simp only [ltOf,decide_eq_false_iff_not] at*;exact hO3 _ _ _ h1 h2⟩
  g #[] b 0 cap s.l.attach.toArray W eg (fun m os dk _ x y=>by
   have h9:=hc x.1 x.2 y.1 y.2 _ (hkeep m os dk x) (hkeep m os dk y)
   rw [cellsOf_whole hag,cellsOf_whole hag] at h9
   refine Calls.mono h9 ?_
   rintro e w' ⟨he,hch⟩
   exact ⟨he,grown_of hch⟩) hH hblk (by rw [hds];omega)
 rw [hds] at hcon
 rw [hv]
 refine Calls.mono hcon ?_
 rintro e w' ⟨rfl,d',n,os,hp,hs,rfl⟩
 have hd' :d'.size=s.l.length:=by rw [hp.1,hds]
 have hperm:(d'.toList.map Subtype.val).Perm s.l:=by
  have h9:=hp.2.2
  have e1:(d'.extract 0 s.l.length).toList=d'.toList:=by rw [←hd'];simp
  have e2:(s.l.attach.toArray.extract 0 s.l.length).toList=s.l.attach:=by simp;exact List.take_of_length_le (by simp)
  rw [e1,e2] at h9
  have:=h9.map Subtype.val
  rwa [List.attach_map_subtype_val] at this
 have hl' :(d'.toList.map Subtype.val).length=s.l.length:=by simp [hd']
 refine ⟨_,rfl,rfl,d'.toList.map Subtype.val,hperm, ?_, ?_⟩
 ·rw [List.pairwise_map,List.pairwise_iff_getElem]
  intro i j hi hj hij
  have h9:=hs i j (Nat.zero_le _) hij (by rw [←hd'];simpa using hj)
  simp only [ltOf,decide_eq_false_iff_not] at h9
  rw [getElem!_pos d' j (by simpa using hj),getElem!_pos d' i (by simpa using hi)] at h9
  simpa using h9
 ·have hfl' :=flat_encL (Subtype.val: {x//x∈s.l}→α) k hk h0 d'
  have hfs:(flatK (fun x: {x//x∈s.l} =>cellsOf x.1) k d').size=s.l.length*k:=by rw [size_flatK',hd']
  refine hS.put (i:=0) rfl ((sortWorld_chg _ k W b n d' os).mono fun c hcb=>by show s.v.ownBlock=_;rw [hv,hcb];rfl) ⟨⟨?_, .inr ⟨b,cap,_, ?_,Nat.zero_le _,sortWorld_block _ k W b n d' os hb, ?_,hcm, ?_, ?_⟩⟩, ?_,fun i hi=> ?_⟩ (fun c hcb=> .inl (by show s.v.ownBlock=some c;rw [hv];exact hcb)) (fun c hcb=> ?_) (fun c hcb hrd=> ?_)
  ·rw [length_encL]
  ·show Value.slice _ s.l.length cap= .slice _ (d'.toList.map Subtype.val).length cap
   rw [hl']
  ·show (d'.toList.map Subtype.val).length≤cap
   rw [hl'];exact hle
  ·rw [size_putCells];exact hcs
  ·show List.take ((d'.toList.map Subtype.val).length*Enc.sz α) _=encL _
   rw [hl',hk,←hfs,putCells_list _ _ (by rw [hfs,hcs,hk];exact hnk)]
   exact hfl'
  ·show (d'.toList.map Subtype.val).length≤_
   rw [hl'];exact hl
  ·have hi' :i<d'.toList.length:=by simpa using hi
   show Enc.inner (nth (d'.toList.map Subtype.val) i) _
   rw [nth_lt _ _ hi,List.getElem_map]
   exact hkeep n os d' _
  ·obtain ⟨i,hi,hon⟩:=hcb
   have hm:nth (d'.toList.map Subtype.val) i∈s.l:=hperm.subset (nth_mem _ _ hi)
   obtain ⟨j,hj⟩:=List.getElem?_of_mem hm
   obtain ⟨hlt,e⟩:=List.getElem?_eq_some_iff.1 hj
   exact .inr (.inl ⟨j,hlt,by rw [nth_lt _ _ hlt,e];exact hon⟩)
  ·obtain ⟨i,hi,hon⟩:=hrd
   have hm:nth (d'.toList.map Subtype.val) i∈s.l:=hperm.subset (nth_mem _ _ hi)
   have hcb' :c=b:=by
    have:(Value.slice (some ⟨b,0,none⟩) s.l.length cap).ownBlock=some c:=hcb
    exact (Option.some.inj this).symm
   exact hself _ hm (hcb' ▸hon)
end
end Go.Proofs.YtmjkobhkkjgplaaGreatDoor
namespace Go.Proofs.YtmjkobhkkjgplaaGreatDoor.Dr
open Go.RowKit
set_option linter.unusedSimpArgs false
set_option linter.unusedVariables false
set_option maxRecDepth 100000
set_option maxHeartbeats 2000000
def cmpI (a b:Int):Int:=if a<b then-1 else if b<a then 1 else 0
def cmpL :List Int→List Int→Int
 | [], []=>0
 | [],_::_=> -1
 |_::_, []=>1
 |a::l,b::m=>if cmpI a b≠0 then cmpI a b else cmpL l m
def orL :List Int→Int
 | []=>0
 |a::l=>if a≠0 then a else orL l
theorem drop_nth {l:List Int}{i:Nat}(h:i<l.length):l.drop i=nth l i::l.drop (i+1):=by rw [nth_lt _ _ h];exact List.drop_eq_getElem_cons h
theorem orL_yes {l:List Int}{i:Nat}(h:i<l.length)(hi:orL (l.drop i)=orL l)(hn:¬nth l i=0):nth l i=orL l:=by rw [←hi,drop_nth h,orL,if_pos hn]
theorem orL_no {l:List Int}{i:Nat}(h:i<l.length)(hi:orL (l.drop i)=orL l)(hn:nth l i=0):orL (l.drop (i+1))=orL l:=by rw [←hi,drop_nth h,orL,if_neg (by simpa using hn)]
theorem orL_end {l:List Int}{i:Nat}(h:i=l.length)(hi:orL (l.drop i)=orL l):0=orL l:=by rw [←hi,h,List.drop_length];rfl
theorem cmpL_yes {x y:List Int}{i:Nat}(h:i<x.length)(h2:i<y.length)(hi:cmpL (x.drop i) (y.drop i)=cmpL x y)(hn:¬cmpI (nth x i) (nth y i)=0):cmpI (nth x i) (nth y i)=cmpL x y:=by rw [←hi,drop_nth h,drop_nth h2,cmpL,if_pos hn]
theorem cmpL_no {x y:List Int}{i:Nat}(h:i<x.length)(h2:i<y.length)(hi:cmpL (x.drop i) (y.drop i)=cmpL x y)(hn:cmpI (nth x i) (nth y i)=0):cmpL (x.drop (i+1)) (y.drop (i+1))=cmpL x y:=by rw [←hi,drop_nth h,drop_nth h2,cmpL,if_neg (by simpa using hn)]
theorem cmpL_long {x y:List Int}{i:Nat}(h:i<x.length)(h2:y.length≤i)(hi:cmpL (x.drop i) (y.drop i)=cmpL x y):1=cmpL x y:=by rw [←hi,drop_nth h,List.drop_of_length_le h2];rfl
theorem cmpL_end {x y:List Int}{i:Nat}(h:i=x.length)(hi:cmpL (x.drop i) (y.drop i)=cmpL x y):(if i<y.length then-1 else 0)=cmpL x y:=by
 rw [←hi,h,List.drop_length]
 by_cases h2:x.length<y.length
 ·rw [if_pos h2,drop_nth h2];rfl
 ·rw [if_neg h2,List.drop_of_length_le (by omega)];rfl
def ordO (a b:OutL):Int:=orL [cmpI a.st b.st,cmpL a.words.l b.words.l,cmpL a.prints.l b.prints.l]
theorem nan_c (a:Int)(W:World):
    Rets Tryz.prog 95 [.int .i64 a] W (fun v w' =>v= .bool false∧Sh0 W w' []):=by
 refine gen Tryz.func95 Tryz.ntmps95 (Sh0.start _:Sh (fun _=>False) W W []) rfl fun a10 h10=>gG h10<|sG (oM 1 rfl<|.nl)<|sG (oM 2 rfl<|oneI _ _ rfl<|oM 1 rfl<|.nl)<|gR<|fun a13 w13 h13=>x_ret1 (fn:=Tryz.f95) (t:=2) rfl h13 rfl<|⟨?_,(h13.sh.sel [] rfl)⟩;clear h10
 simp
theorem cmpI_c (a b:Int)(W:World):
    Rets Tryz.prog 55 [.int .i64 a, .int .i64 b] W (fun v w' =>v= .int .i64 (cmpI a b)∧Sh0 W w' []):=by
 refine gen Tryz.func55 Tryz.ntmps55 (Sh0.start _:Sh (fun _=>False) W W []) rfl fun a10 h10=>gG h10<|sG (oM 1 rfl<|.nl)<|sK fun _ k12=>gRn (oM 1 rfl<|.nl)<|gP (fun _ _ h_=>xCl h_ bd_95 rfl (nan_c a _)) rfl<|gRn (oM 1 rfl<|.nl)<|nK k12<|sK fun _ k14=>gRn (oM 1 rfl<|.nl)<|gP (fun _ _ h_=>xCl h_ bd_95 rfl (nan_c b _)) rfl<|gRn (oM 1 rfl<|.nl)<|nK k14<|gK fun _ k16=>sG (oM 1 rfl<|.nl)<|gcF rfl rfl<|gS<|hK k16<|gK fun _ k18=>sG (oM 1 rfl<|.nl)<|gcF rfl rfl<|gS<|hK k18<|gK fun _ k20=>sG (oM 2 rfl<|oltI _ _ rfl<|.nl)<|?_;clear h10
 refine gcd rfl (fun hb22 hp22=> ?_) fun hb22 hp22=> ?_
 ·skip
  refine sG (oM 1 rfl<|.nl)<|gR<|uT<|fun a24 w24 h24=>x_ret1 (fn:=Tryz.f55) (t:=4) rfl h24 rfl<|⟨?_,(h24.sh.sel [] rfl)⟩
  unfold cmpI
  first|(rw [if_pos (by omega)];done)|(rw [if_neg (by omega),if_pos (by omega)];done)|(rw [if_neg (by omega),if_neg (by omega)])
 refine gS<|hK k20<|gK fun _ k25=>sG (oM 2 rfl<|ogtI _ _ rfl<|.nl)<|gcd rfl (fun hb27 hp27=> ?_) fun hb27 hp27=> ?_
 ·skip
  refine sG (oM 1 rfl<|.nl)<|gR<|uT<|fun a29 w29 h29=>x_ret1 (fn:=Tryz.f55) (t:=4) rfl h29 rfl<|⟨?_,(h29.sh.sel [] rfl)⟩
  unfold cmpI
  first|(rw [if_pos (by omega)];done)|(rw [if_neg (by omega),if_pos (by omega)];done)|(rw [if_neg (by omega),if_neg (by omega)])
 refine gS<|hK k25<|sG (oM 1 rfl<|.nl)<|gR<|fun a31 w31 h31=>x_ret1 (fn:=Tryz.f55) (t:=4) rfl h31 rfl<|⟨?_,(h31.sh.sel [] rfl)⟩
 unfold cmpI
 first|(rw [if_pos (by omega)];done)|(rw [if_neg (by omega),if_pos (by omega)];done)|(rw [if_neg (by omega),if_neg (by omega)])
theorem orL_c (x:Ls Int)(W:World)(hx:x.At W):
    Rets Tryz.prog 54 [x.v] W (fun v w' =>v= .int .i64 (orL x.l)∧Sh0 W w' []):=by
 refine gen Tryz.func54 Tryz.ntmps54 (Sh0.ext1 hx:Sh (fun _=>False) W W [.at_ x]) rfl fun a10 h10=>gG h10<|sG (oM 1 rfl<|.nl)<|sG (oM 1 rfl<|.nl)<|gK fun _ k13=>sK fun _ k14=>gNl (aA 0 rfl) fun hl15=>gRn (oM 1 rfl<|oln sl_23 (aA 0 rfl) rfl<|oM 1 rfl<|.nl)<|nK k14<|gB<|fun a17 w17 h17=>x_loop (fun m a w=>∃(i:Nat),(i≤x.l.length)∧(orL (x.l.drop i)=orL x.l)∧St 18 (fun _=>False) W a w [(3, .int .i64 0),(6,x.v),(7, .int .i64 ((x.l.length:Nat):Int)),(8, .int .i64 ((i:Nat):Int))] [.at_ x]∧m=x.l.length-i) ⟨_,0,(by omega),(rfl),h17.nf ⟨rfl,rfl,rfl,rfl,trivial⟩,rfl⟩ ?_;clear h10
 clear h17
 rintro m16 a16 w16 ⟨i,hi,hor,h16,hm16⟩
 refine gG h16<|sG (oltN _ _ rfl<|.nl)<|gK fun _ k19=>gcd rfl (fun hb20 hp20=> ?_) fun hb20 hp20=> ?_;clear h16
 ·skip
  refine gS<|hK k19<|gK fun _ k21=>gB<|sG (oxN sl_23 ti_3 (aA 0 rfl) _ om9 rfl<|olI ti_3 (aA 0 rfl) om9 rfl<|oM 1 rfl<|.nl)<|sG (oM 2 rfl<|oneI _ _ rfl<|.nl)<|gcd rfl (fun hb24 hp24=> ?_) fun hb24 hp24=> ?_
  ·skip
   refine sG (oM 2 rfl<|.nl)<|gR<|uB<|uT<|uT<|uB<|uT<|fun a26 w26 h26=>x_ret1 (fn:=Tryz.f54) (t:=2) rfl h26 rfl<|⟨?_,(h26.sh.sel [] rfl)⟩
   congr 1
   first|exact orL_yes (by omega) hor (by omega)|exact orL_end (by omega) hor
  refine gS<|hK k21<|gL<|gRn (oadN _ 1 om9 rfl<|oM 1 rfl<|.nl)<|nN<|fun a27 w27 h27=>x_again ⟨_, ?_,i+1, ?_, ?_,h27.nf ⟨rfl,rfl,rfl,rfl,trivial⟩,rfl⟩
  · rw [hm16];first|omega|(simp only [lens9];omega)
  · omega
  · exact orL_no (by omega) hor (by omega)
 refine gX<|hK k13<|sG (oM 2 rfl<|.nl)<|gR<|fun a29 w29 h29=>x_ret1 (fn:=Tryz.f54) (t:=2) rfl h29 rfl<|⟨?_,(h29.sh.sel [] rfl)⟩
 congr 1
 first|exact orL_yes (by omega) hor (by omega)|exact orL_end (by omega) hor
theorem cmpL_c (x y:Ls Int)(W:World)(hx:x.At W)(hy:y.At W):
    Rets Tryz.prog 140 [x.v,y.v] W (fun v w' =>v= .int .i64 (cmpL x.l y.l)∧Sh0 W w' []):=by
 refine gen Tryz.func140 Tryz.ntmps140 (Sh0.ext2 hx hy:Sh (fun _=>False) W W [.at_ x, .at_ y]) rfl fun a10 h10=>gG h10<|sG (oM 1 rfl<|.nl)<|gK fun _ k12=>sK fun _ k13=>gNl (aA 0 rfl) fun hl14=>gRn (oM 1 rfl<|oln sl_23 (aA 0 rfl) rfl<|oM 1 rfl<|.nl)<|nK k13<|gB<|fun a16 w16 h16=>x_loop (fun m a w=>∃(i:Nat),(i≤x.l.length)∧(cmpL (x.l.drop i) (y.l.drop i)=cmpL x.l y.l)∧(i≤y.l.length)∧St 36 (fun _=>False) W a w [(0,x.v),(1,y.v),(9,x.v),(10, .int .i64 ((x.l.length:Nat):Int)),(11, .int .i64 ((i:Nat):Int))] [.at_ x, .at_ y]∧m=x.l.length-i) ⟨_,0,(by omega),(rfl),(by omega),h16.nf ⟨rfl,rfl,rfl,rfl,rfl,trivial⟩,rfl⟩ ?_;clear h10
 clear h16
 rintro m15 a15 w15 ⟨i,hi,hcm,hiy,h15,hm15⟩
 refine gG h15<|sG (oltN _ _ rfl<|.nl)<|gK fun _ k18=>gcd rfl (fun hb19 hp19=> ?_) fun hb19 hp19=> ?_;clear h15
 ·skip
  refine gS<|hK k18<|gK fun _ k20=>gB<|sG (oM 1 rfl<|oxN sl_23 ti_3 (aA 0 rfl) _ om9 rfl<|olI ti_3 (aA 0 rfl) om9 rfl<|oM 2 rfl<|.nl)<|gK fun _ k22=>sK fun _ k23=>gNl (aA 1 rfl) fun hl24=>gRn (oM 2 rfl<|oln sl_23 (aA 1 rfl) rfl<|ogeN _ _ rfl<|.nl)<|nK k23<|gcd rfl (fun hb25 hp25=> ?_) fun hb25 hp25=> ?_
  ·skip
   refine sG (oM 1 rfl<|.nl)<|gR<|uT<|uB<|uT<|uT<|uB<|uT<|fun a27 w27 h27=>x_ret1 (fn:=Tryz.f140) (t:=4) rfl h27 rfl<|⟨?_,(h27.sh.sel [] rfl)⟩
   congr 1
   first|exact cmpL_yes (by omega) (by omega) hcm (by omega)|exact cmpL_long (by omega) (by omega) hcm|(rw [←cmpL_end (show i=x.l.length by omega) hcm,if_pos (by omega)];done)|(rw [←cmpL_end (show i=x.l.length by omega) hcm,if_neg (by omega)])
  refine gS<|hK k22<|sG (oM 2 rfl<|oxN sl_23 ti_3 (aA 1 rfl) _ om9 rfl<|olI ti_3 (aA 1 rfl) om9 rfl<|oM 1 rfl<|.nl)<|sK fun _ k29=>gRn (oM 2 rfl<|.nl)<|gP (fun _ _ h_=>xCl h_ bd_55 rfl (cmpI_c (nth x.l i) (nth y.l i) _)) rfl<|gRn (oM 1 rfl<|.nl)<|nK k29<|sG (oM 1 rfl<|oneI _ _ rfl<|.nl)<|gcd rfl (fun hb32 hp32=> ?_) fun hb32 hp32=> ?_
  ·skip
   refine sG (oM 2 rfl<|.nl)<|gF [4] rfl<|gR<|uB<|uT<|uT<|uB<|uT<|fun a34 w34 h34=>x_ret1 (fn:=Tryz.f140) (t:=4) rfl h34 rfl<|⟨?_,(h34.sh.sel [] rfl)⟩
   congr 1
   first|exact cmpL_yes (by omega) (by omega) hcm (by omega)|exact cmpL_long (by omega) (by omega) hcm|(rw [←cmpL_end (show i=x.l.length by omega) hcm,if_pos (by omega)];done)|(rw [←cmpL_end (show i=x.l.length by omega) hcm,if_neg (by omega)])
  refine gS<|hK k20<|gL<|gRn (oadN _ 1 om9 rfl<|oM 1 rfl<|.nl)<|nN<|fun a35 w35 h35=>x_again ⟨_, ?_,i+1, ?_, ?_, ?_,h35.nf ⟨rfl,rfl,rfl,rfl,rfl,trivial⟩,rfl⟩
  · rw [hm15];first|omega|(simp only [lens9];omega)
  · omega
  · exact cmpL_no (by omega) (by omega) hcm (by omega)
  · omega
 refine gX<|hK k12<|gK fun _ k36=>sK fun _ k37=>gNl (aA 1 rfl) fun hl38=>gRn (oM 1 rfl<|oln sl_23 (aA 0 rfl) rfl<|oM 1 rfl<|oln sl_23 (aA 1 rfl) rfl<|oltN _ _ rfl<|.nl)<|nK k37<|gcd rfl (fun hb39 hp39=> ?_) fun hb39 hp39=> ?_
 ·skip
  refine sG (oM 1 rfl<|.nl)<|gR<|uT<|fun a41 w41 h41=>x_ret1 (fn:=Tryz.f140) (t:=4) rfl h41 rfl<|⟨?_,(h41.sh.sel [] rfl)⟩
  congr 1
  first|exact cmpL_yes (by omega) (by omega) hcm (by omega)|exact cmpL_long (by omega) (by omega) hcm|(rw [←cmpL_end (show i=x.l.length by omega) hcm,if_pos (by omega)];done)|(rw [←cmpL_end (show i=x.l.length by omega) hcm,if_neg (by omega)])
 refine gS<|hK k36<|sG (oM 1 rfl<|.nl)<|gR<|fun a43 w43 h43=>x_ret1 (fn:=Tryz.f140) (t:=4) rfl h43 rfl<|⟨?_,(h43.sh.sel [] rfl)⟩
 congr 1
 first|exact cmpL_yes (by omega) (by omega) hcm (by omega)|exact cmpL_long (by omega) (by omega) hcm|(rw [←cmpL_end (show i=x.l.length by omega) hcm,if_pos (by omega)];done)|(rw [←cmpL_end (show i=x.l.length by omega) hcm,if_neg (by omega)])
theorem order_c (o1 o2:OutL)(W:World)(ha:Enc.inner o1 W)(hb:Enc.inner o2 W):
    Rets Tryz.prog 98 [.agg #[.int .i64 o1.st,o1.words.v,o1.prints.v], .agg #[.int .i64 o2.st,o2.words.v,o2.prints.v]] W (fun v w' =>v= .int .i64 (ordO o1 o2)∧Sh0 W w' []):=by
 refine gen Tryz.func98 Tryz.ntmps98 (Sh0.ext (by intro A hA;simp only [List.mem_cons,List.not_mem_nil,or_false] at hA;rcases hA with rfl|rfl|rfl|rfl;exact ha.1;exact ha.2;exact hb.1;exact hb.2) (by intro A hA b hb9;simp only [List.mem_cons,List.not_mem_nil,or_false] at hA;rcases hA with rfl|rfl|rfl|rfl<;>exact hb9):Sh (fun _=>False) W W [.at_ o1.words, .at_ o1.prints, .at_ o2.words, .at_ o2.prints]) rfl fun a10 h10=>gG h10<|sK fun _ k11=>gbx rfl rfl fun b12=>gbx rfl rfl fun b13=>gRn (oM 1 rfl<|.nl)<|nK k11<|gK fun _ k14=>fun a15 w15 h15=>x_tail 15 [] (by kernel_rfl) (by kernel_rfl) h15 fun _ z16=>qQ h15.fr<|qRn (ofB fl_39_0 rfl<|olB 1 ti_3 rfl rfl<|ofB fl_39_0 rfl<|olB 0 ti_3 rfl rfl<|.nl)<|qP bd_55 rfl (fun w h=>(cmpI_c o1.st o2.st _))<|qRn (ofB fl_39_1 rfl<|olB 1 ti_23 rfl rfl<|ofB fl_39_1 rfl<|olB 0 ti_23 rfl rfl<|.nl)<|qP bd_140 rfl (fun w h=>(cmpL_c o1.words o2.words _ (h.at 2 rfl) (h.at 4 rfl)))<|qRn (ofB fl_39_2 rfl<|olB 1 ti_23 rfl rfl<|ofB fl_39_2 rfl<|olB 0 ti_23 rfl rfl<|.nl)<|qP bd_140 rfl (fun w h=>(cmpL_c o1.prints o2.prints _ (h.at 3 rfl) (h.at 5 rfl)))<|qN z16<|gE1 (fun _ _ h_=>x_lit (n:=3) (cs:= [.int .i64 (cmpI o1.st o2.st), .int .i64 (cmpL o1.words.l o2.words.l), .int .i64 (cmpL o1.prints.l o2.prints.l)]) ([cmpI o1.st o2.st,cmpL o1.words.l o2.words.l,cmpL o1.prints.l o2.prints.l]:List Int) h_ sl_23 ti_3 rfl rfl rfl (by decide) rfl (by kernel_rfl) rfl (fun q hq w h=>Flat.inner _ _) (fun q hq b hb=>(Flat.on _ _ hb).elim) rfl rfl) rfl fun v17=>gP (fun _ _ h_=>xCl h_ bd_54 rfl (orL_c (⟨v17, [cmpI o1.st o2.st,cmpL o1.words.l o2.words.l,cmpL o1.prints.l o2.prints.l]⟩:Ls Int) _ (h_.sh.own 0 rfl))) rfl<|gRn (oM 1 rfl<|.nl)<|nK k14<|gR<|fun a19 w19 h19=>x_ret1 (fn:=Tryz.f98) (t:=4) rfl h19 rfl ?_;clear h10 h15
 exact ⟨rfl,(h19.sh.sel [] rfl)⟩
end Go.Proofs.YtmjkobhkkjgplaaGreatDoor.Dr
namespace Go.Proofs.YtmjkobhkkjgplaaGreatDoor
open Go.Shelf
def sortOut_ren :Go.Shelf.Ren:=⟨fun|6=>103|15=>94|14=>144|28=>138|29=>139|20=>155|21=>156|22=>157|23=>158|24=>159|25=>160|26=>161|27=>162|46=>168|47=>149|48=>150|49=>169|50=>170|57=>175|n=>n,fun|22=>35|24=>39|25=>145|3=>3|39=>143|0=>0|53=>200|55=>202|4=>4|46=>193|45=>192|50=>197|5=>5|9=>9|66=>216|70=>220|76=>234|77=>235|n=>n,fun|n=>n⟩
theorem sortOut :Go.Proofs.SlLaysF0.n6 Tryz.prog sortOut_ren:= {
 mixed:=by kernel_rfl
 f6:=⟨Tryz.f103.name,by decide,Tryz.func103.trans (congrArg some (by kernel_rfl))⟩
 f14:=⟨Tryz.f144.name,by decide,Tryz.func144.trans (congrArg some (by kernel_rfl))⟩
 f15:=Tryz.func94.trans (congrArg some (by kernel_rfl))
 f20:=⟨Tryz.f155.name,by decide,Tryz.func155.trans (congrArg some (by kernel_rfl))⟩
 f21:=⟨Tryz.f156.name,by decide,Tryz.func156.trans (congrArg some (by kernel_rfl))⟩
 f22:=⟨Tryz.f157.name,by decide,Tryz.func157.trans (congrArg some (by kernel_rfl))⟩
 f23:=⟨Tryz.f158.name,by decide,Tryz.func158.trans (congrArg some (by kernel_rfl))⟩
 f24:=⟨Tryz.f159.name,by decide,Tryz.func159.trans (congrArg some (by kernel_rfl))⟩
 f25:=⟨Tryz.f160.name,by decide,Tryz.func160.trans (congrArg some (by kernel_rfl))⟩
 f26:=⟨Tryz.f161.name,by decide,Tryz.func161.trans (congrArg some (by kernel_rfl))⟩
 f27:=⟨Tryz.f162.name,by decide,Tryz.func162.trans (congrArg some (by kernel_rfl))⟩
 f28:=Tryz.func138.trans (congrArg some (by kernel_rfl))
 f29:=Tryz.func139.trans (congrArg some (by kernel_rfl))
 f46:=⟨Tryz.f168.name,by decide,Tryz.func168.trans (congrArg some (by kernel_rfl))⟩
 f47:=Tryz.func149.trans (congrArg some (by kernel_rfl))
 f48:=Tryz.func150.trans (congrArg some (by kernel_rfl))
 f49:=⟨Tryz.f169.name,by decide,Tryz.func169.trans (congrArg some (by kernel_rfl))⟩
 f50:=⟨Tryz.f170.name,by decide,Tryz.func170.trans (congrArg some (by kernel_rfl))⟩
 f57:=⟨Tryz.f175.name,by decide,Tryz.func175.trans (congrArg some (by kernel_rfl))⟩
 t0:=Tryz.underlying0
 a0:=Tryz.isAgg0
 z0:=Tryz.sizeOf0
 v0:=Tryz.zeroValue0
 t3:=Tryz.underlying3
 a3:=Tryz.isAgg3
 z3:=Tryz.sizeOf3
 v3:=Tryz.zeroValue3
 t4:=Tryz.underlying4
 a4:=Tryz.isAgg4
 z4:=Tryz.sizeOf4
 v4:=Tryz.zeroValue4
 t5:=Tryz.underlying5
 a5:=Tryz.isAgg5
 z5:=Tryz.sizeOf5
 v5:=Tryz.zeroValue5
 t9:=Tryz.underlying9
 a9:=Tryz.isAgg9
 z9:=Tryz.sizeOf9
 v9:=Tryz.zeroValue9
 t22:=Tryz.underlying35
 a22:=Tryz.isAgg35
 z22:=Tryz.sizeOf35
 v22:=Tryz.zeroValue35
 t25:=Tryz.underlying145
 a25:=Tryz.isAgg145
 z25:=Tryz.sizeOf145
 v25:=Tryz.zeroValue145
 t39:=Tryz.underlying143
 a39:=Tryz.isAgg143
 z39:=Tryz.sizeOf143
 v39:=Tryz.zeroValue143
 t45:=Tryz.underlying192
 a45:=Tryz.isAgg192
 z45:=Tryz.sizeOf192
 v45:=Tryz.zeroValue192
 t46:=Tryz.underlying193
 a46:=Tryz.isAgg193
 z46:=Tryz.sizeOf193
 v46:=Tryz.zeroValue193
 t50:=Tryz.underlying197
 a50:=Tryz.isAgg197
 z50:=Tryz.sizeOf197
 v50:=Tryz.zeroValue197
 t53:=Tryz.underlying200
 a53:=Tryz.isAgg200
 z53:=Tryz.sizeOf200
 v53:=Tryz.zeroValue200
 t55:=Tryz.underlying202
 a55:=Tryz.isAgg202
 z55:=Tryz.sizeOf202
 v55:=Tryz.zeroValue202
 t66:=Tryz.underlying216
 a66:=Tryz.isAgg216
 z66:=Tryz.sizeOf216
 v66:=Tryz.zeroValue216
 t70:=Tryz.underlying220
 a70:=Tryz.isAgg220
 z70:=Tryz.sizeOf220
 v70:=Tryz.zeroValue220
 t76:=Tryz.underlying234
 a76:=Tryz.isAgg234
 z76:=Tryz.sizeOf234
 v76:=Tryz.zeroValue234
 t77:=Tryz.underlying235
 a77:=Tryz.isAgg235
 z77:=Tryz.sizeOf235
 v77:=Tryz.zeroValue235 }
end Go.Proofs.YtmjkobhkkjgplaaGreatDoor
namespace Go.Proofs.YtmjkobhkkjgplaaGreatDoor
open Go.RowKit
set_option linter.unusedSimpArgs false
set_option linter.unusedVariables false
section
variable {P:Program}{o:Oper}{N:Nat}{K:Nat→Prop}{W w:World}{a:Act}{F:List (Nat×Value)}{L:List Asn}{α:Type}[Enc α]
theorem St.truncN (r:Nat){E:TypeId}{s:Ls α}(h:St N K W a w F L)(hi:L[r]? =some (.own E s))(j:Nat)(hj:j≤s.l.length)(h0:0<s.l.length):St N K W a w F (L.set r (.own E (⟨vtake s.v j,s.l.take j⟩:Ls α))):=by
 obtain ⟨⟨h1,h2⟩,h3,h4⟩:=h.sh.ok _ (List.mem_of_getElem? hi)
 have hse:=h.sh.self _ (List.mem_of_getElem? hi)
 have ht:(s.l.take j).length=j:=by rw [List.length_take];omega
 rcases h2 with ⟨_,hn⟩|⟨g,cap,cur,hv,hb,hg,hc,hm,hs,he⟩
 ·omega
 ·have hv2:vtake s.v j= .slice (some ⟨g,0,none⟩) j cap:=by rw [hv];rfl
  have hle:j*Enc.sz α≤s.l.length*Enc.sz α:=Nat.mul_le_mul_right _ hj
  have hnt:∀i,i<(s.l.take j).length→i<s.l.length∧nth (s.l.take j) i=nth s.l i:=fun i hi9=>by
   have h9:i<j:=by omega
   exact ⟨by omega,by rw [nth_lt _ _ hi9,nth_lt _ _ (show i<s.l.length by omega),List.getElem_take]⟩
  refine ⟨h.fr,h.sh.put hi (Chg.refl _ _) ⟨⟨?_, .inr ⟨g,cap,cur, ?_,hb,hg, ?_,hm,hs, ?_⟩⟩, ?_, ?_⟩ ?_ (fun b hb=> ?_) (fun b hb1 hb=> ?_)⟩
  ·show (encL (s.l.take j)).length=(s.l.take j).length*_
   rw [encL_take,List.length_take,h1,ht]
   omega
  ·show vtake s.v j= .slice _ (s.l.take j).length cap
   rw [hv2,ht]
  ·show (s.l.take j).length≤cap
   omega
  ·show cur.toList.take ((s.l.take j).length*_)=encL (s.l.take j)
   rw [ht,encL_take,←he,List.take_take,Nat.min_eq_left hle]
  ·show (s.l.take j).length≤_
   omega
  ·intro i hi
   rw [(hnt i hi).2]
   exact h4 i (hnt i hi).1
  ·intro b hb
   left
   have hb' :(vtake s.v j).ownBlock=some b:=hb
   rw [hv2] at hb'
   show s.v.ownBlock=some b
   rw [hv]
   exact hb'
  ·obtain ⟨i,hi,hb⟩:=hb
   rw [(hnt i hi).2] at hb
   exact .inr (.inl ⟨i,(hnt i hi).1,hb⟩)
  ·obtain ⟨i,hi,hb⟩:=hb
   rw [(hnt i hi).2] at hb
   refine hse b ?_ ⟨i,(hnt i hi).1,hb⟩
   have hb' :(vtake s.v j).ownBlock=some b:=hb1
   rw [hv2] at hb'
   show s.v.ownBlock=some b
   rw [hv]
   exact hb'
theorem r_slHv {T e:TypeId}{g:Bool}{n by_:Nat}{z:List Value}{x y:Operand}{v:Value}{j:Nat}(hT:slI P T=some e)(he:tyI P e=some (g,n,by_,z))(ho:o.op= .slice T x none (some y) none)(hx:ev F x=some v)(hy:ev F y=some (.int .i64 (j:Int)))
  (hv:∃b m cap,v= .slice (some ⟨b,0,none⟩) m cap∧m≤cap∧j≤m∧0<m):Rn P o N K W F L (vtake v j):=fun a w h=>by
 obtain ⟨blk,m,cap,rfl,hle,hj,hpos⟩:=hv
 obtain ⟨i,d,zv,hi,hd,_,rfl,_⟩:=tyI_parts he
 have hu:=slI_parts hT
 have hel:P.elem T=e:=by simp [Program.elem,hu]
 have hu' :P.underlying T=some (.slice (P.elem T)):=by rw [hel];exact hu
 have hc0:¬cap=0:=by omega
 have e1:=run_sliceAt_slice (P:=P) w T (.slice (some ⟨blk,0,none⟩) m cap) none (some (.int .i64 (j:Int))) none hu'
 have e2:=run_slice_h (P:=P) w T (some ⟨blk,0,none⟩) m cap hu' .i64 (j:Int) (by omega) (by omega)
 rw [hel,run_sizeOf hi,Result.andThen_ok] at e2
 rw [e2] at e1
 unfold execOp
 simp only [ho,h.fr.ev hx,h.fr.ev hy,Option.map_some,Option.map_none,Sem.run_bind,e1,Result.andThen_ok,Sem.run_pure,sliced,vtake]
 simp [Addr.add_lit,hc0]
theorem own_form {E:TypeId}{s:Ls α}{w:World}(h:(Asn.own E s).ok w)(h0:0<s.l.length):∃b cap,s.v= .slice (some ⟨b,0,none⟩) s.l.length cap∧s.l.length≤cap:=by
 obtain ⟨⟨h1,h2⟩,h3,h4⟩:=h
 rcases h2 with ⟨_,hn⟩|⟨g,cap,cur,hv,hb,hg,hc,hm,hs,he⟩
 ·omega
 ·exact ⟨g,cap,hv,hc⟩
theorem vsub_take {v:Value}{b n cap sz i:Nat}(hv:v= .slice (some ⟨b,0,none⟩) n cap):vsub (vtake v i) sz i n=vdrop v sz i:=by subst hv;rfl
theorem padr_drop {v:Value}{b n cap sz lo q j:Nat}(hv:v= .slice (some ⟨b,0,none⟩) n cap)(hlo:lo<cap):padr (vdrop v sz lo) sz q j=padr v sz (lo+q) j:=by
 subst hv
 simp [padr,vdrop,vblk,voff,show¬cap=lo by omega,Addr.add_lit,Nat.add_mul]
theorem vcap_take {v:Value}{i:Nat} :vcap (vtake v i)=vcap v:=by cases v<;>rfl
theorem cells3 (x:OutL):cellsOf x= [.int .i64 x.st,x.words.v,x.prints.v]:=rfl
theorem encL_setO (x:OutL):∀(m:List OutL) (i:Nat),i<m.length→encL (m.set i x)=splice (encL m) (i*3) (cellsOf x)
 | [],_,h=>by simp at h
 |y::m,0,_=>by
  have hy:∀(z:OutL) (m:List OutL),encL (z::m)=cellsOf z++encL m:=fun z m=>by simp [encL]
  rw [List.set_cons_zero,hy,hy]
  simp [splice,cells3]
 |y::m,i+1,h=>by
  have hy:∀(z:OutL) (m:List OutL),encL (z::m)=cellsOf z++encL m:=fun z m=>by simp [encL]
  rw [List.set_cons_succ,hy,hy,encL_setO x m i (by simpa using h)]
  have e3:(i+1)*3=3+i*3:=by omega
  have hc:∀z:OutL,(cellsOf z).length=3:=fun z=>rfl
  simp only [splice,e3,List.take_append,List.drop_append,hc]
  rw [List.take_of_length_le (l:=cellsOf y) (by rw [hc];omega),List.drop_of_length_le (l:=cellsOf y) (by rw [hc];omega)]
  have e4:3+i*3-3=i*3:=by omega
  have e5:3+i*3+3-3=i*3+3:=by omega
  rw [e4,e5]
  simp
theorem x_stewO {T:TypeId}{gg:Bool}{by_:Nat}{z:List Value}{x y:Operand}{i j r:Nat}{E:TypeId}{s:Ls OutL}(h:St N K W a w F L)(hT:tyI P T=some (gg,3,by_,z))(ho:o.op= .store T x y)(hd:o.dst=none)
  (hx:ev F x=some (.pointer (some (padr s.v 3 i 0)))) (hr:L[r]? =some (.own E s)) (hi:i<s.l.length) (hj:j<s.l.length) (hy:ev F y=some (.agg #[.int .i64 (nth s.l j).st,(nth s.l j).words.v,(nth s.l j).prints.v])):
  Ex P o a w (fun a' w' =>St N K W a' w' F (L.set r (.own E ⟨s.v,s.l.set i (nth s.l j)⟩))):=by
 obtain ⟨ti,e,zv,hti,he,_,hs,_⟩:=tyI_parts hT
 have hok:=h.sh.ok _ (List.mem_of_getElem? hr)
 have hse:=h.sh.self _ (List.mem_of_getElem? hr)
 obtain ⟨hown,hlen,hinn⟩:=hok
 rcases hown.2 with ⟨_,h0⟩|⟨g,cap,cur,hsv,hb0,hg,hn,hm,hcs,htk⟩
 ·omega
 have hsz:Enc.sz OutL=3:=rfl
 rw [hsz] at hcs htk
 have hp:padr s.v 3 i 0=⟨g,i*3,none⟩:=by rw [hsv];simp [padr,vblk,voff]
 have hB:Blk w g E cur:=hg
 have h4:i*3+3≤cur.size:=by rw [hcs];omega
 have hix:=hinn j hj
 obtain ⟨x',hx'⟩:∃x',x' =nth s.l j:=⟨_,rfl⟩
 rw [←hx'] at hy hix⊢
 have hrun:=run_storeCells_at P g (i*3) E (cellsOf x') 0 cur w hB (by rw [cells3];simp;omega) (fun u hu=>by
  rw [cells3] at hu
  simp only [List.mem_cons,List.not_mem_nil,or_false] at hu
  rcases hu with rfl|rfl|rfl
  ·rfl
  ·exact Ls.At.one (s:=x'.words) hix.1
  ·exact Ls.At.one (s:=x'.prints) hix.2)
 have hcl:cur.toList.length=cap*3:=by simpa using hcs
 have hcur:(splice cur.toList (i*3) (cellsOf x')).take (s.l.length*3)=encL (s.l.set i x'):=by
  rw [encL_setO x' s.l i hi,←htk]
  have hvl:(cellsOf x').length=3:=rfl
  simp only [splice,hvl]
  apply List.ext_getElem?
  intro k
  simp only [List.getElem?_take,List.getElem?_append,List.getElem?_drop,List.length_take,List.length_append,hvl,List.length_drop,hcl]
  have e6:min (i*3) (cap*3)=i*3:=by omega
  have e7:min (i*3) (min (s.l.length*3) (cap*3))=i*3:=by omega
  simp only [e6,e7]
  repeat' split
  all_goals first|rfl|(exfalso;omega)|(congr 1;omega)
 have hmem:∀q,q<(s.l.set i x').length→∃p,p<s.l.length∧nth (s.l.set i x') q=nth s.l p:=fun q hq=>by
  have hq' :q<s.l.length:=by simpa using hq
  rw [nth_set]
  split
  ·exact ⟨j,hj,hx'⟩
  ·exact ⟨q,hq',rfl⟩
 refine Ex.of_skip (w' :=w.setRow g (splice cur.toList (i*3) (cellsOf x')).toArray) ?_ ?_
 ·unfold execOp
  have hsz2:(Value.agg #[.int .i64 x'.st,x'.words.v,x'.prints.v]).cells.size=ti.size:=by simp [Value.cells,hs]
  have hce:(Value.agg #[.int .i64 x'.st,x'.words.v,x'.prints.v]).cells.toList=cellsOf x' :=by simp [Value.cells,cells3]
  simp only [ho,h.fr.ev hx,h.fr.ev hy,Instr.storeAt,Instr.sureAddr,storeVar,Sem.run_bind,Sem.run_pure,Result.andThen_ok,run_sizeOf hti]
  simp only [hsz2,ne_eq,not_true_eq_false,if_false,hce,Nat.add_zero,hp] at hrun⊢
  rw [hrun]
  simp [splice]
 ·rw [hd]
  have hfp:(Asn.own E s).fp g:=by show s.v.ownBlock=some g;rw [hsv];rfl
  have hch:Chg (fun b=>(Asn.own E s).fp b) w (w.setRow g (splice cur.toList (i*3) (cellsOf x')).toArray):=⟨rfl,rfl,rfl,by simp [World.setRow],fun b hb hne=>setRow_other w g b _ (fun e=>hne (by rw [e];exact hfp))⟩
  refine ⟨h.fr,h.sh.put hr hch ⟨⟨?_, .inr ⟨g,cap,_, ?_,hb0,setRow_heap w g _ _ E (0,0) hB,by simpa using hn,hm, ?_, ?_⟩⟩,by simpa using hlen,fun q hq=> ?_⟩ (fun b hb=> .inl hb) (fun b hb=> ?_) (fun b hb hb' => ?_)⟩
  ·rw [length_encL]
  ·show s.v=_
   rw [hsv,List.length_set]
  ·rw [hsz]
   have hvl:(cellsOf x').length=3:=rfl
   simp only [splice]
   rw [List.size_toArray,List.length_append,List.length_append,List.length_take,List.length_drop,hvl,hcl]
   omega
  ·rw [hsz,List.length_set]
   simpa using hcur
  ·obtain ⟨p,hp9,e9⟩:=hmem q hq
   rw [e9]
   refine Enc.keep _ w _ (hinn p hp9) fun b hb=>hch.same b (Enc.lt _ w (hinn p hp9) b hb) fun hf=>hse b hf ⟨p,hp9,hb⟩
  ·obtain ⟨q,hq,hb⟩:=hb
   obtain ⟨p,hp9,e9⟩:=hmem q hq
   rw [e9] at hb
   exact .inr (.inl ⟨p,hp9,hb⟩)
  ·obtain ⟨q,hq,hb2⟩:=hb'
   obtain ⟨p,hp9,e9⟩:=hmem q hq
   rw [e9] at hb2
   exact hse b hb ⟨p,hp9,hb2⟩
end
section
variable {α:Type}[Inhabited α]
def keepI (eq:α→α→Bool)(l:List α)(i:Nat):Bool:=decide (i=0)|| !eq (nth l i) (nth l (i-1))
def keepL (eq:α→α→Bool)(l:List α)(m:Nat):List α:=((List.range m).filter (keepI eq l)).map (nth l)
theorem keepL_yes {eq:α→α→Bool}{l:List α}{m:Nat}(h:keepI eq l m=true):keepL eq l (m+1)=keepL eq l m++ [nth l m]:=by
 unfold keepL;rw [List.range_succ,List.filter_append,List.map_append];simp [h]
theorem keepL_no {eq:α→α→Bool}{l:List α}{m:Nat}(h:keepI eq l m=false):keepL eq l (m+1)=keepL eq l m:=by
 unfold keepL;rw [List.range_succ,List.filter_append,List.map_append];simp [h]
theorem keepL_le (eq:α→α→Bool)(l:List α)(m:Nat):(keepL eq l m).length≤m:=by
 unfold keepL;rw [List.length_map];exact Nat.le_trans (List.length_filter_le _ _) (by simp)
theorem keepL_all {eq:α→α→Bool}{l:List α}{m:Nat}(hm:m≤l.length)(h:∀i,0<i→i<m→eq (nth l i) (nth l (i-1))=false):keepL eq l m=l.take m:=by
 induction m with
 |zero=>simp [keepL]
 |succ m ih=>
  have hk:keepI eq l m=true:=by
   unfold keepI
   rcases Nat.eq_zero_or_pos m with rfl|h0
   ·rfl
   ·rw [h m h0 (Nat.lt_succ_self m)];simp
  rw [keepL_yes hk,ih (by omega) (fun i h1 h2=>h i h1 (by omega)),take_succ_nth _ _ (by omega)]
end
theorem keep_sorted {l:List Outc}{eq:Outc→Outc→Bool}(he:∀a b,eq a b=true↔a=b)(hs:l.Pairwise fun a b=>aheadB b a=false):Sorted_ (keepL eq l l.length)∧∀o,o∈keepL eq l l.length↔o∈l:=by
 have key:∀m,m≤l.length→Sorted_ (keepL eq l m)∧(∀o,o∈keepL eq l m↔o∈l.take m):=by
  intro m
  induction m with
  |zero=>intro _;exact ⟨List.Pairwise.nil,fun o=>by simp [keepL]⟩
  |succ m ih=>
   intro hm
   obtain ⟨h1,h2⟩:=ih (by omega)
   have hlt:m<l.length:=by omega
   have hle:∀o∈l.take m,aheadB (nth l m) o=false:=by
    intro o ho
    obtain ⟨i,hi⟩:=List.getElem?_of_mem ho
    obtain ⟨hi1,e⟩:=List.getElem?_eq_some_iff.1 hi
    have hi2:i<m:=by simp at hi1;omega
    have h9:=List.pairwise_iff_getElem.1 hs i m (by omega) hlt hi2
    rw [nth_lt _ _ hlt,←e,List.getElem_take]
    exact h9
   cases hk:keepI eq l m with
   |true=>
    rw [keepL_yes hk,take_succ_nth _ _ hlt]
    refine ⟨?_,fun o=>by rw [List.mem_append,List.mem_append,h2 o]⟩
    refine List.pairwise_append.2 ⟨h1,List.pairwise_singleton _ _,fun a ha b hb=> ?_⟩
    obtain rfl:b=nth l m:=by simpa using hb
    have ha' :=(h2 a).1 ha
    have h3:=hle a ha'
    cases h4:aheadB a (nth l m) with
    |true=>rfl
    |false=>
     exfalso
     have e:=aheadB_tri h4 h3
     obtain ⟨i,hi⟩:=List.getElem?_of_mem ha'
     obtain ⟨hi1,e1⟩:=List.getElem?_eq_some_iff.1 hi
     have hi2:i<m:=by simp at hi1;omega
     have hm0:0<m:=by omega
     have e2:l[i]'(by omega)=l[m]:=by
      have:(l.take m)[i]=l[i]'(by omega):=List.getElem_take
      rw [←this,e1,e,nth_lt _ _ hlt]
     have e3:nth l (m-1)=nth l m:=by
      rw [nth_lt _ _ (show m-1<l.length by omega),nth_lt _ _ hlt]
      rcases Nat.lt_or_ge i (m-1) with h5|h5
      ·have q1:=List.pairwise_iff_getElem.1 hs i (m-1) (by omega) (by omega) h5
       have q2:=List.pairwise_iff_getElem.1 hs (m-1) m (by omega) hlt (by omega)
       rw [e2] at q1
       exact aheadB_tri q1 q2
      ·have:i=m-1:=by omega
       subst this
       exact e2
     unfold keepI at hk
     rw [decide_eq_false (by omega),Bool.false_or,e3] at hk
     have:=(he (nth l m) (nth l m)).2 rfl
     rw [this] at hk
     cases hk
   |false=>
    rw [keepL_no hk,take_succ_nth _ _ hlt]
    refine ⟨h1,fun o=> ?_⟩
    rw [h2 o,List.mem_append,List.mem_singleton]
    refine ⟨.inl,fun ho=>ho.elim id fun e=> ?_⟩
    unfold keepI at hk
    have hm0:0<m:=by
     rcases Nat.eq_zero_or_pos m with rfl|h0
     ·rw [decide_eq_true rfl,Bool.true_or] at hk;cases hk
     ·exact h0
    rw [decide_eq_false (by omega),Bool.false_or] at hk
    have e4:nth l m=nth l (m-1):=(he _ _).1 (by simpa using hk)
    rw [e,e4,nth_lt _ _ (show m-1<l.length by omega)]
    exact List.mem_of_getElem? (i:=m-1) (by rw [List.getElem?_take,if_pos (by omega),List.getElem?_eq_getElem])
 obtain ⟨h1,h2⟩:=key l.length (Nat.le_refl _)
 exact ⟨h1,fun o=>by rw [h2 o,List.take_length]⟩
set_option maxRecDepth 100000
set_option maxHeartbeats 4000000
theorem cmpI_lt (a b:Int):Dr.cmpI a b<0↔a<b:=by unfold Dr.cmpI;split<;>(try split)<;>omega
theorem cmpI_eq (a b:Int):Dr.cmpI a b=0↔a=b:=by unfold Dr.cmpI;split<;>(try split)<;>omega
theorem cmpL_eq :∀(l m:List Int),Dr.cmpL l m=0↔l=m
 | [], []=>by simp [Dr.cmpL]
 | [],_::_=>by simp [Dr.cmpL]
 |_::_, []=>by simp [Dr.cmpL]
 |a::l,b::m=>by
  unfold Dr.cmpL
  by_cases h:Dr.cmpI a b=0
  ·rw [if_neg (by simpa using h),cmpL_eq l m,(cmpI_eq a b).1 h];simp
  ·rw [if_pos h]
   constructor
   ·intro h2;exact absurd h2 h
   ·intro h2;exact absurd ((cmpI_eq a b).2 (List.cons.inj h2).1) h
theorem cmpL_lt :∀(l m:List Int),Dr.cmpL l m<0↔lessB l m=true
 | [], []=>by simp [Dr.cmpL,lessB]
 | [],_::_=>by simp [Dr.cmpL,lessB]
 |_::_, []=>by simp [Dr.cmpL,lessB]
 |a::l,b::m=>by
  unfold Dr.cmpL lessB
  by_cases h:a=b
  ·rw [if_neg (by simpa using (cmpI_eq a b).2 h),if_pos h,cmpL_lt l m]
  ·rw [if_pos (fun h2=>h ((cmpI_eq a b).1 h2)),if_neg h,cmpI_lt];simp
theorem ordO_eq (a b:OutL):Dr.ordO a b=0↔a.out=b.out:=by
 unfold Dr.ordO OutL.out
 have h1:=cmpI_eq a.st b.st
 have h2:=cmpL_eq a.words.l b.words.l
 have h3:=cmpL_eq a.prints.l b.prints.l
 simp only [Dr.orL,Outc.mk.injEq]
 by_cases e1:Dr.cmpI a.st b.st=0
 ·rw [if_neg (by simpa using e1)]
  by_cases e2:Dr.cmpL a.words.l b.words.l=0
  ·rw [if_neg (by simpa using e2)]
   by_cases e3:Dr.cmpL a.prints.l b.prints.l=0
   ·rw [if_neg (by simpa using e3)];exact ⟨fun _=>⟨h1.1 e1,h2.1 e2,h3.1 e3⟩,fun _=>rfl⟩
   ·rw [if_pos e3];exact ⟨fun h=>absurd h e3,fun h=>absurd (h3.2 h.2.2) e3⟩
  ·rw [if_pos e2];exact ⟨fun h=>absurd h e2,fun h=>absurd (h2.2 h.2.1) e2⟩
 ·rw [if_pos e1];exact ⟨fun h=>absurd h e1,fun h=>absurd (h1.2 h.1) e1⟩
theorem ordO_lt (a b:OutL):Dr.ordO a b<0↔aheadB a.out b.out=true:=by
 unfold Dr.ordO aheadB
 have h1:=cmpI_eq a.st b.st
 have h2:=cmpL_eq a.words.l b.words.l
 show _↔(if a.st=b.st then (if a.words.l=b.words.l then lessB a.prints.l b.prints.l else lessB a.words.l b.words.l) else decide (a.st<b.st))=true
 simp only [Dr.orL]
 by_cases e1:Dr.cmpI a.st b.st=0
 ·rw [if_neg (by simpa using e1),if_pos (h1.1 e1)]
  by_cases e2:Dr.cmpL a.words.l b.words.l=0
  ·rw [if_neg (by simpa using e2),if_pos (h2.1 e2),←cmpL_lt]
   by_cases e3:Dr.cmpL a.prints.l b.prints.l=0
   ·rw [if_neg (by simpa using e3),e3]
   ·rw [if_pos e3]
  ·rw [if_pos e2,if_neg (fun h=>e2 (h2.2 h)),cmpL_lt]
 ·rw [if_pos e1,if_neg (fun h=>e1 (h1.2 h)),cmpI_lt];simp
def eqO (a b:OutL):Bool:=decide (a.out=b.out)
theorem order_p (o1 o2:OutL)(W:World)(ha:Enc.inner o1 W)(hb:Enc.inner o2 W):
  Rets Tryz.prog 98 [Enc.whole o1,Enc.whole o2] W (fun v w' =>v= .int .i64 (Dr.ordO o1 o2)∧Sh0 W w' []):=by
 refine Rets.mono (Dr.order_c o1 o2 W ha hb) ?_
 rintro v w' ⟨rfl,hs⟩
 have hc:=hs.chg
 exact ⟨rfl,⟨⟨hc.os,hc.tape,hc.output,hc.size,hc.same⟩,fun A hA=>(by cases hA),fun A hA=>(by cases hA),fun A hA=>(by cases hA), .nil⟩⟩
theorem sortOut_c (K:Nat→Prop)(s:Ls OutL)(W:World)(hS:Sh K W W [.own 39 s]):
  Rets Tryz.prog 103 [s.v, .func (.func 98) #[] #[]] W (fun v w' =>v= .tuple #[]∧∃l' :List OutL,l'.Perm s.l∧(l'.map OutL.out).Pairwise (fun a b=>aheadB b a=false)∧Sh K W w' [.own 39 (⟨s.v,l'⟩:Ls OutL)]):=by
 have eg:∀args w,(callFunc 98 args).run Tryz.prog w= .ok (.enter 98 args) w:=enters_of Tryz.func98 (by kernel_rfl) rfl
 have hc:=sort_c (P:=Tryz.prog) (ρ:=sortOut_ren) sortOut (k:=3) Tryz.isAgg39 Tryz.sizeOf39 rfl rfl (by decide) Dr.ordO (fun x h=>by rw [ordO_lt,aheadB_irr] at h;cases h) (fun x y z h1 h2=>by rw [ordO_lt] at*;exact aheadB_trans h1 h2)
  (fun x y z h1 h2 h3=>by
   rw [ordO_lt] at*
   cases e1:aheadB z.out y.out with
   |true=>have h4:=aheadB_trans h3 e1;exact h1 h4
   |false=>
    have h5:aheadB y.out z.out=false:=by simpa using h2
    have h6:=aheadB_tri h5 e1
    rw [←h6] at h3
    exact h1 h3) 98 eg hS
  (fun x _ y _ W' hx hy=>by
   refine Calls.mono (Dr.order_c x y W' hx hy) ?_
   rintro e w' ⟨v,he,hv,hs⟩
   exact ⟨by rw [he,hv],hs.chg⟩)
 refine Rets.mono hc ?_
 rintro v w' ⟨rfl,l',hp,hs,hsh⟩
 refine ⟨rfl,l',hp, ?_,hsh⟩
 rw [List.pairwise_map]
 refine hs.imp ?_
 intro a b h
 cases h2:aheadB b.out a.out with
 |false=>rfl
 |true=>exact absurd ((ordO_lt b a).2 h2) h
theorem keep_start {l:List OutL}{i:Nat}(hi:0<i∧i<l.length)(ha:∀j,0<j→j<i→eqO (nth l j) (nth l (j-1))=false)(he:eqO (nth l i) (nth l (i-1))=true):l.take i=keepL eqO l (i+1):=by
 rw [keepL_no (by unfold keepI;rw [he];simp;omega),keepL_all (by omega) ha]
theorem keep_yes {l m:List OutL}{p q:Nat}(hm:m.take p=keepL eqO l q)(hp:p<m.length)(h0:0<q)(he:eqO (nth l q) (nth l (q-1))=false):(m.set p (nth l q)).take (p+1)=keepL eqO l (q+1):=by
 rw [keepL_yes (by unfold keepI;rw [he];simp),←hm,take_succ_nth _ _ (by simpa using hp)]
 congr 1
 ·rw [List.take_set_of_le (by omega)]
 ·rw [nth_set,if_pos ⟨rfl,hp⟩]
theorem keep_no {l:List OutL}{k:List OutL}{q:Nat}(hm:k=keepL eqO l q)(h0:0<q)(he:eqO (nth l q) (nth l (q-1))=true):k=keepL eqO l (q+1):=by
 rw [keepL_no (by unfold keepI;rw [he];simp;omega),hm]
theorem same_c (o1 o2:OutL)(W:World)(ha:Enc.inner o1 W)(hb:Enc.inner o2 W):
    Rets Tryz.prog 105 [.agg #[.int .i64 o1.st,o1.words.v,o1.prints.v], .agg #[.int .i64 o2.st,o2.words.v,o2.prints.v]] W (fun v w' =>v= .bool (eqO o1 o2)∧Sh0 W w' []):=by
 refine gen Tryz.func105 Tryz.ntmps105 (Sh0.ext (by intro A hA;simp only [List.mem_cons,List.not_mem_nil,or_false] at hA;rcases hA with rfl|rfl|rfl|rfl;exact ha.1;exact ha.2;exact hb.1;exact hb.2) (by intro A hA b hb9;simp only [List.mem_cons,List.not_mem_nil,or_false] at hA;rcases hA with rfl|rfl|rfl|rfl<;>exact hb9):Sh (fun _=>False) W W [.at_ o1.words, .at_ o1.prints, .at_ o2.words, .at_ o2.prints]) rfl fun a10 h10=>gG h10<|sK fun _ k11=>gbx rfl rfl fun b12=>gbx rfl rfl fun b13=>gRn (oM 1 rfl<|.nl)<|nK k11<|sK fun _ k14=>gRn (olw 1 ti_39 rfl rfl<|olw 0 ti_39 rfl rfl<|.nl)<|gP (fun _ _ h_=>xCl h_ bd_98 rfl (order_p o1 o2 _ ⟨h_.sh.at 2 rfl,h_.sh.at 3 rfl⟩ ⟨h_.sh.at 4 rfl,h_.sh.at 5 rfl⟩)) rfl<|gRn (oeqI _ _ rfl<|oM 1 rfl<|.nl)<|nK k14<|gR<|fun a16 w16 h16=>x_ret1 (fn:=Tryz.f105) (t:=4) rfl h16 rfl<|⟨?_,(h16.sh.sel [] rfl)⟩;clear h10
 congr 1
 unfold eqO
 exact decide_eq_decide.2 (ordO_eq o1 o2)
theorem snocE {l:List OutL}{i:Nat}(h:∀j,0<j→j<i→eqO (nth l j) (nth l (j-1))=false)(h2:eqO (nth l i) (nth l (i-1))=false):∀j,0<j→j<i+1→eqO (nth l j) (nth l (j-1))=false:=fun j h3 h4=>by
 rcases Nat.lt_or_ge j i with h5|h5
 ·exact h j h3 h5
 ·obtain rfl:j=i:=by omega
  exact h2
theorem compact_c (K:Nat→Prop)(s:Ls OutL)(W:World)(hS:Sh K W W [.own 39 s])(hn:s.l.length≤1000000000):
    Rets Tryz.prog 104 [s.v, .func (.func 105) #[] #[]] W (fun v w' =>∃u:Ls OutL,v=u.v∧u.l=keepL eqO s.l s.l.length∧Sh K W w' [.own 39 u]):=by
 refine gen Tryz.func104 Tryz.ntmps104 hS rfl fun a10 h10=>gG h10<|sG (oM 1 rfl<|.nl)<|gK fun _ k12=>sK fun _ k13=>gNl (aO 0 rfl) fun hl14=>gRn (oM 1 rfl<|oln sl_35 (aO 0 rfl) rfl<|oltN _ 2 rfl<|.nl)<|nK k13<|?_;clear h10
 refine gcd rfl (fun hb15 hp15=> ?_) fun hb15 hp15=> ?_
 ·skip
  refine sG (oM 2 rfl<|.nl)<|gR<|uT<|fun a17 w17 h17=>x_ret1 (fn:=Tryz.f104) (t:=4) rfl h17 rfl ?_
  first|exact ⟨s,rfl,(by rw [keepL_all (Nat.le_refl _) (fun j h1 h2=>by omega),List.take_length]),h17.sh⟩|exact ⟨s,rfl,(by rw [keepL_all (Nat.le_refl _) (fun j h1 h2=>hall j h1 (by omega)),List.take_length]),h17.sh⟩
 refine gS<|hK k12<|?_
 obtain ⟨gb,cap,hsv,hcap⟩:=own_form (hS.ok _ (List.mem_cons_self ..)) (show 0<s.l.length by omega)
 refine gK fun _ k18=>sG (oM 1 rfl<|.nl)<|gB<|fun a21 w21 h21=>x_loop (fun m a w=>∃(i:Nat),(1≤i∧i≤s.l.length)∧(∀j,0<j→j<i→eqO (nth s.l j) (nth s.l (j-1))=false)∧St 66 K W a w [(0,s.v),(1, .func (.func 105) #[] #[]),(5, .int .i64 ((i:Nat):Int))] [.own 39 s]∧m=s.l.length-i) ⟨_,1,(by omega),(fun j h1 h2=>absurd h2 (by omega)),h21.nf ⟨rfl,rfl,rfl,trivial⟩,rfl⟩ ?_
 clear h21
 rintro m20 a20 w20 ⟨i,hi,hall,h20,hm20⟩
 refine gG h20<|gK fun _ k22=>sG (oM 2 rfl<|oln sl_35 (aO 0 rfl) rfl<|oltN _ _ rfl<|.nl)<|?_;clear h20
 refine gcd rfl (fun hb24 hp24=> ?_) fun hb24 hp24=> ?_
 ·skip
  refine gS<|hK k22<|gK fun _ k25=>gB<|gK fun _ k26=>rT 10 [] (oM 3 rfl<|oxN sl_35 ti_39 (aO 0 rfl) _ om9 rfl<|olw2 [.int .i64 ((nth s.l i).st),((nth s.l i).words).v,((nth s.l i).prints).v] ti_39 (aO 0 rfl) om9 rfl<|oM 2 rfl<|osbN _ 1 om9 rfl<|oxN sl_35 ti_39 (aO 0 rfl) _ om9 rfl<|olw2 [.int .i64 ((nth s.l (i-1)).st),((nth s.l (i-1)).words).v,((nth s.l (i-1)).prints).v] ti_39 (aO 0 rfl) om9 rfl<|.nl)<|gP (fun _ _ h_=>xCl h_ bd_105 rfl (same_c (nth s.l i) (nth s.l (i-1)) _ ((h_.sh.own 0 rfl).inner i (show i<s.l.length from (by omega))) ((h_.sh.own 0 rfl).inner (i-1) (show (i-1)<s.l.length from (by omega))))) rfl<|nK k26<|gCb rfl (fun hb28=> ?_) fun hb28=> ?_
  ·skip
   refine sG (oM 2 rfl<|oV (r_slL (s:=s) (k:=i) sl_35 ti_39 rfl rfl rfl (fun w h=>(h.own 0 rfl)) (show i≤s.l.length from om9)) rfl<|oM 1 rfl<|.nl)<|gK fun _ k30=>sG (oM 1 rfl<|.nl)<|gB<|fun a33 w33 h33=>x_loop (fun m a w=>∃(p k:Nat) (l:List OutL),(1≤k∧i+k≤s.l.length)∧(1≤p∧p+1≤i+k)∧(l.length=s.l.length)∧(l.take p=keepL eqO s.l (i+k))∧(∀j,i+k≤j+1→j<s.l.length→nth l j=nth s.l j)∧St 66 K W a w [(0,s.v),(1, .func (.func 105) #[] #[]),(5, .int .i64 ((p:Nat):Int)),(6,(vdrop s.v 3 i)),(7, .int .i64 ((k:Nat):Int))] [.own 39 (⟨s.v,l⟩:Ls OutL)]∧m=s.l.length-i-k) ⟨_,i,1,s.l,(by omega),(by omega),(rfl),(keep_start (by omega) hall (by assumption)),(fun j _ _=>rfl),h33.nf ⟨rfl,rfl,rfl,rfl,rfl,trivial⟩,rfl⟩ ?_
   clear h33
   rintro m32 a32 w32 ⟨p,k,l,hk,hp,hll,hkp,hsm,h32,hm32⟩
   refine gG h32<|gK fun _ k34=>sG (oM 2 rfl<|oV (r_len (s:=(⟨(vdrop s.v 3 i),l.drop i⟩:Ls OutL)) (n:=l.length-i) sl_35 rfl rfl (fun w h=>(drop_at (h.own 0 rfl) (show i≤l.length from om9))) List.length_drop) rfl<|oltN _ _ rfl<|.nl)<|?_;clear h32
   refine gcd rfl (fun hb36 hp36=> ?_) fun hb36 hp36=> ?_
   ·skip
    refine gS<|hK k34<|gK fun _ k37=>gB<|gK fun _ k38=>rT 10 [] (oM 3 rfl<|oV (Rn.same (v' := .pointer (some (padr s.v 3 (i+k) 0))) (r_ixN (s:=(⟨(vdrop s.v 3 i),l.drop i⟩:Ls OutL)) (q:=k) sl_35 ti_39 rfl rfl rfl (fun w h=>(drop_at (h.own 0 rfl) (show i≤l.length from om9))) (by rw [List.length_drop];exact (show k<l.length-i from om9))) (by rw [padr_drop hsv (by omega)])) rfl<|olw2 [.int .i64 ((nth l (i+k)).st),((nth l (i+k)).words).v,((nth l (i+k)).prints).v] ti_39 (aO 0 rfl) om9 rfl<|oM 2 rfl<|osbN _ 1 om9 rfl<|oV (Rn.same (v' := .pointer (some (padr s.v 3 (i+(k-1)) 0))) (r_ixN (s:=(⟨(vdrop s.v 3 i),l.drop i⟩:Ls OutL)) (q:=k-1) sl_35 ti_39 rfl rfl rfl (fun w h=>(drop_at (h.own 0 rfl) (show i≤l.length from om9))) (by rw [List.length_drop];exact (show k-1<l.length-i from om9))) (by rw [padr_drop hsv (by omega)])) rfl<|olw2 [.int .i64 ((nth l (i+(k-1))).st),((nth l (i+(k-1))).words).v,((nth l (i+(k-1))).prints).v] ti_39 (aO 0 rfl) om9 rfl<|.nl)<|gP (fun _ _ h_=>xCl h_ bd_105 rfl (same_c (nth l (i+k)) (nth l (i+(k-1))) _ ((h_.sh.own 0 rfl).inner (i+k) (show (i+k)<l.length from (by omega))) ((h_.sh.own 0 rfl).inner (i+(k-1)) (show (i+(k-1))<l.length from (by omega))))) rfl<|gRn (ont rfl<|.nl)<|nK k38<|gCb rfl (fun hb40=> ?_) fun hb40=> ?_
    ·have hn40:eqO (nth l (i+k)) (nth l (i+(k-1)))=false:=(Bool.not_eq_true' _).mp hb40
     have he1:=hsm (i+k) (by omega) (by omega);have he2:=hsm (i+(k-1)) (by omega) (by omega);rw [show i+(k-1)=i+k-1 by omega] at he2
     have hkpY:=keep_yes hkp (by omega) (show 0<i+k by omega) (by have h9:=hn40;rw [he1,show i+(k-1)=i+k-1 by omega,he2] at h9;first|exact h9|simpa using h9)
     rw [←he1] at hkpY
     refine sK fun _ k41=>gNl (aO 0 rfl) fun (hl42:l.length≤140737488355328)=>gRn (oM 4 rfl<|oV (Rn.same (v' := .pointer (some (padr s.v 3 (i+k) 0))) (r_ixN (s:=(⟨(vdrop s.v 3 i),l.drop i⟩:Ls OutL)) (q:=k) sl_35 ti_39 rfl rfl rfl (fun w h=>(drop_at (h.own 0 rfl) (show i≤l.length from om9))) (by rw [List.length_drop];exact (show k<l.length-i from om9))) (by rw [padr_drop hsv (by omega)])) rfl<|olw2 [.int .i64 ((nth l (i+k)).st),((nth l (i+k)).words).v,((nth l (i+k)).prints).v] ti_39 (aO 0 rfl) om9 rfl<|oxN sl_35 ti_39 (aO 0 rfl) _ om9 rfl<|.nl)<|gE (fun _ _ h_=>x_stewO (r:=0) (i:=p) (j:=(i+k)) (s:=(⟨s.v,l⟩:Ls OutL)) h_ ti_39 rfl rfl rfl rfl (show p<l.length from om9) (show (i+k)<l.length from om9) rfl) rfl<|nK k41<|gF [0,1,5,6,7] rfl<|gL<|gRn (oM 1 rfl<|oadN _ 1 om9 rfl<|oM 1 rfl<|.nl)<|nK k37<|gL<|gRn (oM 1 rfl<|oadN _ 1 om9 rfl<|oM 1 rfl<|.nl)<|nN<|fun a44 w44 h44=> ?_
     refine x_again ⟨_, ?_,p+1,(k+1),l.set p (nth l (i+k)), ?_, ?_, ?_, ?_, ?_,h44.nf ⟨rfl,rfl,rfl,rfl,rfl,trivial⟩,rfl⟩
     · rw [hm32];first|omega|(simp only [lens9];omega)
     · omega
     · omega
     · simpa using hll
     · first|exact hkpY|exact hkpN
     · intro j h1 h2;first|exact hsm j (by omega) h2|(rw [nth_set,if_neg (by omega)];exact hsm j (by omega) h2)
    have hn40:eqO (nth l (i+k)) (nth l (i+(k-1)))=true:=(Bool.not_eq_false' _).mp hb40
    have he1:=hsm (i+k) (by omega) (by omega);have he2:=hsm (i+(k-1)) (by omega) (by omega);rw [show i+(k-1)=i+k-1 by omega] at he2
    have hkpN:=keep_no hkp (show 0<i+k by omega) (by have h9:=hn40;rw [he1,show i+(k-1)=i+k-1 by omega,he2] at h9;first|exact h9|simpa using h9)
    refine gS<|hK k37<|gL<|gRn (oM 1 rfl<|oadN _ 1 om9 rfl<|oM 1 rfl<|.nl)<|nN<|fun a45 w45 h45=>x_again ⟨_, ?_,p,(k+1),l, ?_, ?_, ?_, ?_, ?_,h45.nf ⟨rfl,rfl,rfl,rfl,rfl,trivial⟩,rfl⟩
    · rw [hm32];first|omega|(simp only [lens9];omega)
    · omega
    · omega
    · simpa using hll
    · first|exact hkpY|exact hkpN
    · intro j h1 h2;first|exact hsm j (by omega) h2|(rw [nth_set,if_neg (by omega)];exact hsm j (by omega) h2)
   refine gX<|hK k30<|sK fun _ k46=>gNl (aO 0 rfl) fun (hl47:l.length≤140737488355328)=>gRn (oM 2 rfl<|oV (r_slL (s:=(⟨s.v,l⟩:Ls OutL)) (k:=p) sl_35 ti_39 rfl rfl rfl (fun w h=>(h.own 0 rfl)) (show p≤l.length from om9)) rfl<|.nl)<|fun a49 w49 h49=> ?_
   have h48:=h49.truncN 0 rfl p (show p≤l.length from by omega) (show 0<l.length from by omega)
   clear h49
   have hpl:(l.take p).length=p:=by rw [List.length_take];omega
   have h50:=h48.same (d:=61) (v' :=vsub (vtake s.v p) 3 (l.take p).length s.l.length) rfl (by rw [hpl,vsub_take hsv])
   clear h48
   refine gG h50<|gE (fun _ _ h_=>x_clearT (r:=0) (hi:=s.l.length) (s:=(⟨(vtake s.v p),(l.take p)⟩:Ls OutL)) h_ sl_35 ti_39 rfl rfl rfl rfl rfl rfl (show (l.take p).length<s.l.length∧s.l.length≤vcap (vtake s.v p) from (by rw [hpl,vcap_take,hsv];exact ⟨by omega,hcap⟩)) rfl) rfl<|nK k46<|sG (oM 2 rfl<|oV (r_slHv (v:=s.v) (j:=p) sl_35 ti_39 rfl rfl rfl ⟨gb,_,cap,hsv,hcap,by omega,by omega⟩) rfl<|oM 1 rfl<|.nl)<|gR<|uB<|uT<|uT<|uB<|uT<|fun a53 w53 h53=> ?_;clear h50
   refine x_ret1 (fn:=Tryz.f104) (t:=4) rfl h53 rfl ?_
   exact ⟨⟨vtake s.v p,l.take p⟩,rfl,(by show l.take p=_;rw [hkp,show i+k=s.l.length by omega]),h53.sh⟩
  refine gS<|hK k25<|gL<|gRn (oM 1 rfl<|oadN _ 1 om9 rfl<|oM 1 rfl<|.nl)<|nN<|fun a54 w54 h54=>x_again ⟨_, ?_,i+1, ?_, ?_,h54.nf ⟨rfl,rfl,rfl,trivial⟩,rfl⟩
  · rw [hm20];first|omega|(simp only [lens9];omega)
  · omega
  · exact snocE hall (by assumption)
 refine gX<|hK k18<|sG (oM 2 rfl<|.nl)<|gR<|fun a56 w56 h56=>x_ret1 (fn:=Tryz.f104) (t:=4) rfl h56 rfl ?_
 first|exact ⟨s,rfl,(by rw [keepL_all (Nat.le_refl _) (fun j h1 h2=>by omega),List.take_length]),h56.sh⟩|exact ⟨s,rfl,(by rw [keepL_all (Nat.le_refl _) (fun j h1 h2=>hall j h1 (by omega)),List.take_length]),h56.sh⟩
set_option maxHeartbeats 20000000
theorem mstr_150 :MapTStr Tryz.prog 150 9 4:=⟨Tryz.underlying150,Tryz.underlying9,Tryz.zeroValue4⟩
section
variable {F:MemF}{code:Ls (Ls Ins)}{words0:Ls Int}{Lk R:Nat}
theorem begin_eq {rows:List ThR}{qs:List (List Wt)}{words owner:List Int}(hr:rows.map ThR.th=List.replicate code.l.length ⟨0,List.replicate R 0, []⟩)(hq:qs=List.replicate code.l.length [])(hw:words=words0.l)(ho:owner=List.replicate Lk (-1)):rows.length=code.l.length∧mstR rows qs words owner []=begin_ (pgN code words0 Lk R):=by
 have hl:rows.length=code.l.length:=by simpa using congrArg List.length hr
 refine ⟨hl, ?_⟩
 unfold mstR begin_
 have h1:((List.range rows.length).map fun t=>(⟨(nth rows t).pc,(nth rows t).regs.l,nth qs t⟩:Th))=(pgN code words0 Lk R).code.map fun _=>⟨0,List.replicate (pgN code words0 Lk R).regs.toNat 0, []⟩:=by
  refine ext_nth _ _ (by simp [hl,pgN,pgOf]) fun i hi=> ?_
  have hi' :i<rows.length:=by simpa using hi
  have h2:=congrArg (fun l=>nth l i) hr
  simp only [nth_map' ThR.th _ _ hi',nth_replicate _ _ _ (show i<code.l.length by omega)] at h2
  rw [nth_map' _ _ _ (by simpa using hi'),nth_range hi',nth_map' _ _ _ (by rw [pgN_len];omega),hq,nth_replicate _ _ _ (by omega)]
  have h3:=congrArg Th.pc h2
  have h4:=congrArg Th.regs h2
  simp only [ThR.th] at h3 h4
  rw [h3,h4]
  simp [pgN,pgOf]
 rw [h1,hw,ho]
 simp [pgN,pgOf]
structure PL (K:Nat→Prop)(W:World)(code:Ls (Ls Ins))(gp:Nat)(l:List (PSD F)):Prop where
 gp:∀y∈l,y.gp=gp
 rl:∀y∈l,y.rows.length=code.l.length
 ql:∀y∈l,y.qs.length=code.l.length
 nw:∀y∈l,∀b,Enc.on y b→K b∨W.heap.size≤b
theorem PL.nil {K:Nat→Prop}{W:World}{gp:Nat} :PL (F:=F) K W code gp []:=⟨fun y h=>(by cases h),fun y h=>(by cases h),fun y h=>(by cases h),fun y h=>(by cases h)⟩
theorem PL.snoc {K:Nat→Prop}{W:World}{gp:Nat}{l:List (PSD F)}{x:PSD F}(h:PL K W code gp l)(h1:x.gp=gp)(h2:x.rows.length=code.l.length)(h3:x.qs.length=code.l.length)(h4:∀b,Enc.on x b→K b∨W.heap.size≤b):PL K W code gp (l++ [x]):=by
 have key:∀y∈l++ [x],y∈l∨y=x:=fun y hy=>by simpa using hy
 exact ⟨fun y hy=>(key y hy).elim (h.gp y) (fun e=>e▸h1),fun y hy=>(key y hy).elim (h.rl y) (fun e=>e▸h2),fun y hy=>(key y hy).elim (h.ql y) (fun e=>e▸h3),fun y hy=>(key y hy).elim (h.nw y) (fun e=>e▸h4)⟩
theorem PL.px {K:Nat→Prop}{W:World}{gp:Nat}{l:List (PSD F)}{S:List MSt}{Fp:MSt→Prop}{E:List Outc}(h:PL K W code gp l)(hb:BI (pgN code words0 Lk R) F.m S Fp E)(hs:∀y∈l,y.st∈S)(hn:S.length≤40000){y:PSD F}(hy:y∈l):PX code words0 Lk R y:=
 ⟨hb.reach _ (hs y hy),h.rl y hy,h.ql y hy,by have h9:y.prints.l.length≤2*S.length:=hb.pr _ (hs y hy);omega⟩
theorem psd_prints {x:PSD F}{w:World}(h:Enc.inner x w){b:Nat}(hb:x.prints.on b):Enc.on x b:=by
 have h9:∀A∈x.A,A.ok w:=h
 exact ⟨.own 3 x.prints,List.mem_of_getElem? (i:=3) rfl,own_on (h9 _ (List.mem_of_getElem? (i:=3) rfl)) hb⟩
theorem key_mem (hok:OkPg (pgN code words0 Lk R))(ht:TqOK F.tq F.Q)(hQ:∀i q,F.Q ((F.mem i).qs q)){S:List MSt}{y:PSD F}(hy:Reach (pgN code words0 Lk R) F.m y.st)(hS:∀s∈S,Reach (pgN code words0 Lk R) F.m s)(hw:y.st.ths.map Th.wait=y.qs)(hSw:∀s∈S,F.Q (s.ths.map Th.wait)):keyS F.tq y.st∈S.map (keyS F.tq)↔y.st∈S:=by
 constructor
 ·intro h
  obtain ⟨s,hs,e⟩:=List.mem_map.1 h
  have:=keyS_inj ht ((hS s hs).wf hok) (hy.wf hok) (hSw s hs) (by rw [hw];exact hQ _ _) e
  exact this▸hs
 ·intro h;exact List.mem_map.2 ⟨_,h,rfl⟩
theorem keepL_map {l:List OutL} :∀n,n≤l.length→(keepL eqO l n).map OutL.out=keepL (fun a b=>decide (a=b)) (l.map OutL.out) n
 |0,_=>rfl
 |n+1,h=>by
  have ih:=keepL_map (l:=l) n (by omega)
  have e:keepI eqO l n=keepI (fun a b=>decide (a=b)) (l.map OutL.out) n:=by
   unfold keepI eqO
   rw [nth_map' _ _ _ (by omega),nth_map' _ _ _ (by omega)]
  cases hk:keepI eqO l n with
  |true=>rw [keepL_yes hk,keepL_yes (e▸hk),List.map_append,ih,nth_map' _ _ _ (by omega)];rfl
  |false=>rw [keepL_no hk,keepL_no (e▸hk),ih]
theorem keepL_mem {l:List OutL}{n:Nat}(hn:n≤l.length):∀o∈keepL eqO l n,o∈l:=fun o ho=>by
 unfold keepL at ho
 obtain ⟨i,hi,rfl⟩:=List.mem_map.1 ho
 have:=(List.mem_filter.1 hi).1
 exact nth_mem _ _ (by have:=List.mem_range.1 this;omega)
theorem drop_map {l:List (PSD F)}{i:Nat}(h:i<l.length):(l.map PSD.st).drop i=(nth l i).st::(l.map PSD.st).drop (i+1):=by
 rw [←nth_map' PSD.st l i h,nth_lt _ _ (by simpa using h)]
 exact List.drop_eq_getElem_cons (by simpa using h)
theorem movesV_len16 (hok:OkPg (pgN code words0 Lk R)){x:PSD F}(h:PX code words0 Lk R x):(movesV (pgN code words0 Lk R) F.m x.st).length≤16:=by
 have hf:=psd_facts hok h.reach h.rl
 have h8:=(ok_lenP hok).2.1
 have h9:=movesF_len (m:=F.m) (thr:=x.rows.map ThR.toQ) (owner:=x.owner.l) hf.hw3 _ (Nat.le_refl _)
 have e:movesF F.m code (x.rows.map ThR.toQ) x.qs x.owner.l code.l.length=movesV (pgN code words0 Lk R) F.m x.st:=movesF_eq (prints:=x.prints.l) (words:=x.words.l) h.rl
 rw [←e];omega
theorem lookE_len {p:Pg}{m:Int}{s:MSt}(h:(movesV p m s).length≤16):(lookE p m s).length≤17∧(lookN p m s).length≤16:=by
 have h1:=flatMap_le (f:=endsV p m s) (c:=1) (l:=movesV p m s) fun v _=>endsV_len v
 have h2:=flatMap_le (f:=nextV p m s) (c:=1) (l:=movesV p m s) fun v _=>nextV_len v
 unfold lookE lookN
 by_cases he:ended p s=true
 ·rw [if_pos he,if_pos he];simp
 ·rw [if_neg he,if_neg he]
  split
  ·exact ⟨by simp,by omega⟩
  ·exact ⟨by omega,by omega⟩
end
theorem from_c (K:Nat→Prop)(F:MemF)(ζ:Type)(env:ζ→Asn)(stepE:ζ→MSt→ζ)(z0:ζ)(fe:FuncId)(us ws:List Value)(i0:F.ι)(q0:(F.mem i0).σ)(code:Ls (Ls Ins))(words0 words owner:Ls Int)(pw:Value)(Lk R:Nat)(W:World)(hF:MemFI Tryz.prog 182 3 204 5 141 F)(hS:Sh K W W [.blk (F.mem i0).g0 182 [words.v,owner.v], .own 3 words, .own 3 owner,(F.mem i0).X q0, .at_ code,env z0])(hok:OkPg (pgN code words0 Lk R))(hR:PgR (pgN code words0 Lk R))(hq0:(F.mem i0).qs q0=List.replicate code.l.length [])(hw0:words.l=words0.l)(ho0:owner.l=List.replicate Lk (-1))(hbe:bodyI Tryz.prog fe=true)(hEr:∀z b,¬(env z).rd b)(hE:∀(K' :Nat→Prop) (W' :World) (gp:Nat) (x:PSD F) (z:ζ),PX code words0 Lk R x→x.gp=gp→Sh K' W' W' [env z, .rd1 x, .rblk gp 25 [code.v,pw, .int .i64 ((Lk:Nat):Int), .int .i64 ((R:Nat):Int)], .at_ code]→Rets Tryz.prog fe (us++ [.pointer (some ⟨x.g,0,none⟩)]++ws) W' (fun v w' =>v= .tuple #[]∧Sh K' W' w' [env (stepE z x.st), .rd1 x, .rblk gp 25 [code.v,pw, .int .i64 ((Lk:Nat):Int), .int .i64 ((R:Nat):Int)], .at_ code])):
    Rets Tryz.prog 61 [.agg #[code.v,pw, .int .i64 ((Lk:Nat):Int), .int .i64 ((R:Nat):Int)], .iface (F.mem i0).T (.pointer (some (F.mem i0).u)), .func (.func fe) us.toArray ws.toArray] W (fun v w' =>∃(z:ζ),(v= .tuple #[.slice none 0 0, .bool false]∧Big (pgN code words0 Lk R) F.m∧Sh K W w' [env z])∨(∃(u:Ls OutL) (S:List MSt),v= .tuple #[u.v, .bool true]∧Sorted_ (u.l.map OutL.out)∧(∀o,o∈u.l.map OutL.out↔Outs (pgN code words0 Lk R) F.m o)∧¬Big (pgN code words0 Lk R) F.m∧z=S.foldl stepE z0∧S.Nodup∧(∀s,s∈S↔Reach (pgN code words0 Lk R) F.m s)∧(∀o∈u.l,∀b,Enc.on o b→K b∨W.heap.size≤b)∧u.l.length≤100000∧Sh K W w' [.own 39 u,env z])):=by
 obtain ⟨hl1,hcl,hwn,hlk0,hR2⟩:=ok_lenP hok
 refine gen Tryz.func61 Tryz.ntmps61 hS rfl fun a10 h10=>gG h10<|sK fun _ k11=>gbx rfl rfl fun b12=>gRn (oM 2 rfl<|.nl)<|nK k11<|fun a14 w14 h14=> ?_;clear h10
 have h13:=h14.toR 0 rfl
 clear h14
 refine gG h13<|sK fun _ k15=>gRn (oM 1 rfl<|.nl)<|fun a17 w17 h17=>wl_ex (x_call h17 bd_100 rfl rfl rfl rfl rfl (pbegin_c (F.mem i0) b12 code _ Lk R _ (h17.sh.rblk 0 rfl) (h17.sh.at 5 rfl) hcl hR2)) (wanted_none rfl _) ?_;clear h13
 rintro a18 w18 ⟨_,⟨g18,rows18,vt18,rfl,hrw18,hs18⟩,hf18⟩
 have h18:=(⟨hf18,h17.sh.call hs18 (by intro A hA b hb;simp only [List.mem_cons,List.not_mem_nil,or_false] at hA;first|(rcases hA with rfl|rfl|rfl|rfl<;>first|exact (hb:False).elim|exact Flat.noRd hb|exact regNoRd hb)|(rcases hA with rfl|rfl;(obtain ⟨i9,hi9,hb9⟩:=hb;exact (hosr _ (nth_mem _ _ hi9) b hb9).imp id (fun h=>⟨_,List.mem_cons_self ..,h⟩));(obtain ⟨i9,hi9,hb9⟩:=hb;exact .inl ((hnsx _ (nth_mem _ _ hi9)).2.2.2 b hb9))))⟩:St 83 K W a18 w18 _ _)
 clear hf18 hs18
 clear h17
 refine gG h18<|gRn (oM 1 rfl<|.nl)<|nK k15<|gO [0,1,2,3,5,6,7,8,4,9,10] rfl<|?_;clear h18
 obtain ⟨x0,hx0⟩:∃x,x=(⟨b12,i0,q0,g18,vt18,rows18,⟨.slice none 0 0, []⟩,words,owner⟩:PSD F):=⟨_,rfl⟩
 intro a21 w21 h21
 have hfz:=PSD.frz (L:= [.rblk b12 25 [code.v,pw, .int .i64 ((Lk:Nat):Int), .int .i64 ((R:Nat):Int)], .at_ code,env z0]) (fun i q b=>(hF.ok i).xrd q b) (⟨b12,i0,q0,g18,vt18,rows18,⟨.slice none 0 0, []⟩,words,owner⟩:PSD F) h21.sh
 rw [←hx0] at hfz
 have h20:St 83 K W a21 w21 _ _:=⟨h21.fr,hfz.1⟩
 clear h21
 have h100020:=h20.same (d:=8) (v' := .pointer (some ⟨x0.g,0,none⟩)) rfl (by rw [hx0])
 clear h20
 obtain ⟨hrl0,hst0⟩:=begin_eq (words0:=words0) (Lk:=Lk) hrw18 hq0 hw0 ho0
 have hst0:x0.st=begin_ (pgN code words0 Lk R):=by rw [hx0];exact hst0
 have hrl0:x0.rows.length=code.l.length:=by rw [hx0];exact hrl0
 have hql0:x0.qs.length=code.l.length:=by rw [hx0];show ((F.mem i0).qs q0).length=_;rw [hq0,List.length_replicate]
 have hgp0:x0.gp=b12:=by rw [hx0]
 have hb0:BI (pgN code words0 Lk R) F.m [x0.st] (fun y=>y=x0.st) []:=BI.first _ hst0
 have hpl0:PL K W code b12 [x0]:=PL.nil.snoc hgp0 hrl0 hql0 hfz.2
 have hpx0:PX code words0 Lk R x0:=hpl0.px hb0 (fun y hy=>by obtain rfl:=List.mem_singleton.1 hy;simp) (by simp) (by simp)
 refine gG h100020<|sK fun _ k22=>gE1 (fun _ _ h_=>x_makeStr (T:=150) h_ rfl rfl rfl) rfl fun g23=>gRn (oM 1 rfl<|.nl)<|gP (fun _ _ h_=>xCl h_ bd_101 rfl (key_c F x0 _ hF (PSD.rd (h_.sh.ok (.rd1 x0) (List.mem_of_getElem? (i:=1) rfl))) (hpx0.key hok hR) (by rw [hql0,hrl0]))) rfl<|gE (fun _ _ h_=>x_updStrI (i:=0) (k:=(keyS F.tq (x0).st)) h_ mstr_150 rfl rfl rfl rfl rfl rfl (by first|exact hnm|simp)) rfl<|gRn (oM 2 rfl<|.nl)<|nK k22<|sG (oM 1 rfl<|.nl)<|gK fun _ k27=>sK fun _ k28=>gRn (oM 1 rfl<|.nl)<|gE1 (fun _ _ h_=>x_lit (n:=1) (cs:= [.pointer (some ⟨x0.g,0,none⟩)]) ([x0]:List (PSD F)) h_ sl_151 ti_85 rfl rfl rfl (by decide) rfl (by kernel_rfl) rfl (fun q hq w h=>by obtain rfl:q=0:=(by simpa using hq);exact h.ok _ (List.mem_of_getElem? (i:=1) rfl)) (fun q hq b hb=>by obtain rfl:q=0:=(by simpa using hq);exact ⟨_,List.mem_of_getElem? (i:=1) rfl,hb⟩) rfl rfl) rfl fun v29=>gRn (oM 1 rfl<|.nl)<|nK k28<|gB<|fun a32 w32 h32=> ?_;clear h100020
 have h31:=h32.nil (α:=OutL) 39
 clear h32
 refine x_loop (fun m a w=>∃(S0:List MSt) (layer:List (PSD F)) (es:List OutL) (z:ζ) (ks:List ByteArray) (vl ve:Value),(BI (pgN code words0 Lk R) F.m (S0++layer.map PSD.st) (fun y=>y∈layer.map PSD.st) (es.map OutL.out))∧(ks=(S0++layer.map PSD.st).map (keyS F.tq))∧(PL K W code b12 layer)∧(∀s∈S0++layer.map PSD.st,F.Q (s.ths.map Th.wait))∧(S0.length+layer.length≤4000)∧(∀o∈es,∀b,Enc.on o b→K b∨W.heap.size≤b)∧(es.length≤17*S0.length)∧(z=S0.foldl stepE z0)∧St 83 K W a w [(2, .func (.func fe) us.toArray ws.toArray),(9, .map (some g23)),(10,ve),(11,vl)] [.own 85 (⟨vl,layer⟩:Ls (PSD F)), .strO g23 ks, .rd1 x0, .rblk b12 25 [code.v,pw, .int .i64 ((Lk:Nat):Int), .int .i64 ((R:Nat):Int)], .at_ code,env z, .own 39 (⟨ve,es⟩:Ls OutL)]∧m=4001-S0.length) ⟨_, [], [x0], [],z0,([])++ [(keyS F.tq (x0).st)],v29,(.slice none 0 0),(hb0.mono (fun s hs h=> .inl (by rw [h];simp))),(rfl),(hpl0),((fun s hs=>by obtain rfl:s=x0.st:=(by simpa using hs);rw [psd_wait (by rw [hql0,hrl0])];exact hF.qQ _ _)),(by simp),(fun o ho=>(by cases ho)),(by simp),(rfl),h31.nrm ⟨rfl,rfl,rfl,rfl,trivial⟩ [1,2,3,4,5,6,0] rfl,rfl⟩ ?_
 clear h31
 rintro m30 a30 w30 ⟨S0,layer,es,z,ks,vl,ve,hbi,hks,hlx,hqw,hsn,hen,hel,hz,h30,hm30⟩
 refine gG h30<|gK fun _ k33=>sK fun _ k34=>gNl (aO 0 rfl) fun (hl35:layer.length≤140737488355328)=>gRn (oM 1 rfl<|oln (n:=layer.length) sl_151 (aO 0 rfl) rfl<|ogtN _ 0 rfl<|.nl)<|nK k34<|?_;clear h30
 refine gcd rfl (fun hb36 hp36=> ?_) fun hb36 hp36=> ?_
 ·skip
  refine gS<|hK k33<|gB<|gK fun _ k37=>sG (oM 1 rfl<|oln (n:=layer.length) sl_151 (aO 0 rfl) rfl<|oM 1 rfl<|.nl)<|gB<|fun a40 w40 h40=>x_loop (fun m a w=>∃(q:Nat) (z1:ζ),(q≤layer.length)∧(z1=((layer.map PSD.st).take q).foldl stepE z)∧St 83 K W a w [(2, .func (.func fe) us.toArray ws.toArray),(9, .map (some g23)),(10,ve),(11,vl),(32,vl),(33, .int .i64 ((layer.length:Nat):Int)),(34, .int .i64 ((q:Nat):Int))] [.own 85 (⟨vl,layer⟩:Ls (PSD F)), .strO g23 ks, .rd1 x0, .rblk b12 25 [code.v,pw, .int .i64 ((Lk:Nat):Int), .int .i64 ((R:Nat):Int)], .at_ code,env z1, .own 39 (⟨ve,es⟩:Ls OutL)]∧m=layer.length-q) ⟨_,0,z,(by omega),(rfl),h40.nf ⟨rfl,rfl,rfl,rfl,rfl,rfl,rfl,trivial⟩,rfl⟩ ?_
  clear h40
  rintro m39 a39 w39 ⟨q,z1,hq,hz1,h39,hm39⟩
  refine gG h39<|sG (oltN _ _ rfl<|.nl)<|gK fun _ k42=>gcd rfl (fun hb43 hp43=> ?_) fun hb43 hp43=> ?_;clear h39
  ·skip
   refine gS<|hK k42<|gK fun _ k44=>gB<|sG (oxN sl_151 ti_85 (aO 0 rfl) _ om9 rfl<|olE (.pointer (some ⟨(nth layer q).g,0,none⟩)) ti_85 (aO 0 rfl) om9 rfl<|oM 1 rfl<|.nl)<|?_
   have hil:q<layer.length:=by omega
   have hmi:=nth_mem layer q hil
   have hpxi:PX code words0 Lk R (nth layer q):=hlx.px hbi (fun y hy=>List.mem_append.2 (.inr (List.mem_map.2 ⟨y,hy,rfl⟩))) (by rw [List.length_append,List.length_map];omega) hmi
   have hgpi:(nth layer q).gp=b12:=hlx.gp _ hmi
   intro a47 w47 h47
   have h46:=h47.addRd (A:= .rd1 (nth layer q)) ((h47.sh.own 0 rfl).inner q (by omega)) (fun b hb=>hb) (fun b hb=>⟨.own 85 (⟨vl,layer⟩:Ls (PSD F)),List.mem_of_getElem? (i:=0) rfl,q,(by show q<layer.length;omega),hb⟩)
   clear h47
   refine gG h46<|gL<|gRn (oM 2 rfl<|.nl)<|gO [6,0,4,5,1,2,3,7] rfl<|fun a53 w53 h53=> ?_;clear h46
   have hp52:=h53.sh.passL (Lp:= [_,_,_,_])
   refine wl_ex (x_call h53 hbe rfl rfl rfl rfl rfl (hE _ _ b12 (nth layer q) z1 hpxi hgpi hp52)) (wanted_none rfl _) ?_
   rintro a54 w54 ⟨_,⟨rfl,hs54⟩,hf54⟩
   have h54:St 83 K W a54 w54 _ [_,_,_,_,_,_,_,_]:=⟨hf54,h53.sh.backL (Lp:= [_,_,_,_]) hs54 (by intro A hA b hb;simp only [List.mem_cons,List.not_mem_nil,or_false] at hA;rcases hA with rfl|rfl|rfl|rfl<;>first|exact (hb:False).elim|exact Flat.noRd hb|exact .inl ⟨_,List.mem_cons_self .., .inr hb⟩|exact (hEr _ _ hb).elim|exact .inl ⟨_,List.mem_of_getElem? (i:=1) rfl, .inr hb⟩|exact .inl ⟨_,List.mem_of_getElem? (i:=2) rfl, .inr hb⟩|exact .inl ⟨_,List.mem_of_getElem? (i:=3) rfl, .inr hb⟩|exact .inl ⟨_,by simp, .inr hb⟩)⟩
   clear hf54 hs54
   clear h53
   refine gG h54<|nK k44<|gL<|gRn (oadN _ 1 om9 rfl<|oM 1 rfl<|.nl)<|nN<|fun a55 w55 h55=>x_again ⟨_, ?_,(q+1),(stepE z1 (nth layer q).st), ?_, ?_,h55.nrm ⟨rfl,rfl,rfl,rfl,rfl,rfl,rfl,trivial⟩ [4,5,6,2,3,0,7] rfl,rfl⟩;clear h54
   · rw [hm39];first|omega|(simp only [lens9];omega)
   · omega
   · rw [take_succ_nth _ _ (by simpa using hil),List.foldl_append,←hz1,nth_map' _ _ _ hil];rfl
  refine gX<|hK k37<|sG (oM 1 rfl<|.nl)<|gK fun _ k57=>sG (oM 1 rfl<|oln (n:=layer.length) sl_151 (aO 0 rfl) rfl<|oM 1 rfl<|.nl)<|gB<|fun a61 w61 h61=> ?_
  have h60:=h61.nil (α:=PSD F) 85
  clear h61
  refine x_loop (fun m a w=>∃(i:Nat) (nx:List (PSD F)) (es2:List OutL) (ks2:List ByteArray) (vn ve2:Value),(i≤layer.length)∧(BI (pgN code words0 Lk R) F.m (S0++layer.map PSD.st++nx.map PSD.st) (fun y=>y∈(layer.map PSD.st).drop i∨y∈nx.map PSD.st) (es2.map OutL.out))∧(ks2=(S0++layer.map PSD.st++nx.map PSD.st).map (keyS F.tq))∧(PL K W code b12 nx)∧(∀s∈S0++layer.map PSD.st++nx.map PSD.st,F.Q (s.ths.map Th.wait))∧(∀o∈es2,∀b,Enc.on o b→K b∨W.heap.size≤b)∧(es2.length≤17*(S0.length+i))∧(nx.length≤16*i)∧St 83 K W a w [(2, .func (.func fe) us.toArray ws.toArray),(9, .map (some g23)),(10,ve2),(14,vn),(42,vl),(43, .int .i64 ((layer.length:Nat):Int)),(44, .int .i64 ((i:Nat):Int))] [.own 85 (⟨vl,layer⟩:Ls (PSD F)), .strO g23 ks2, .rd1 x0, .rblk b12 25 [code.v,pw, .int .i64 ((Lk:Nat):Int), .int .i64 ((R:Nat):Int)], .at_ code,env z1, .own 39 (⟨ve2,es2⟩:Ls OutL), .own 85 (⟨vn,nx⟩:Ls (PSD F))]∧m=layer.length-i) ⟨_,0, [],es,ks,(.slice none 0 0),ve,(by omega),((by have h9:=hbi.mono (F' :=fun y=>y∈(layer.map PSD.st).drop 0∨y∈([]:List (PSD F)).map PSD.st) (fun s hs h=> .inl (.inl h));simpa using h9)),(by simpa using hks),(PL.nil),(by simpa using hqw),(hen),(hel),(by simp),h60.nrm ⟨rfl,rfl,rfl,rfl,rfl,rfl,rfl,trivial⟩ [1,2,3,4,5,6,7,0] rfl,rfl⟩ ?_
  clear h60
  rintro m59 a59 w59 ⟨i,nx,es2,ks2,vn,ve2,hi,hb2,hks2,hnx,hqw2,hen2,hel2,hnl2,h59,hm59⟩
  refine gG h59<|sG (oltN _ _ rfl<|.nl)<|gK fun _ k63=>gcd rfl (fun hb64 hp64=> ?_) fun hb64 hp64=> ?_;clear h59
  ·skip
   refine gS<|hK k63<|gK fun _ k65=>gB<|sG (oxN sl_151 ti_85 (aO 0 rfl) _ om9 rfl<|olE (.pointer (some ⟨(nth layer i).g,0,none⟩)) ti_85 (aO 0 rfl) om9 rfl<|oM 1 rfl<|.nl)<|?_
   have hil:i<layer.length:=by omega
   have hmi:=nth_mem layer i hil
   have hpxi:PX code words0 Lk R (nth layer i):=hlx.px hbi (fun y hy=>List.mem_append.2 (.inr (List.mem_map.2 ⟨y,hy,rfl⟩))) (by rw [List.length_append,List.length_map];omega) hmi
   have hgpi:(nth layer i).gp=b12:=hlx.gp _ hmi
   intro a68 w68 h68
   have h67:=h68.addRd (A:= .rd1 (nth layer i)) ((h68.sh.own 0 rfl).inner i (by omega)) (fun b hb=>hb) (fun b hb=>⟨.own 85 (⟨vl,layer⟩:Ls (PSD F)),List.mem_of_getElem? (i:=0) rfl,i,(by show i<layer.length;omega),hb⟩)
   clear h68
   refine gG h67<|sK fun _ k69=>gRn (oM 1 rfl<|.nl)<|fun a71 w71 h71=>wl_ex (x_call h71 bd_102 rfl rfl rfl rfl rfl (look_c F (nth layer i) code words0 Lk R pw _ hF (PSD.rd (h71.sh.ok (.rd1 (nth layer i)) (List.mem_of_getElem? (i:=0) rfl))) (by rw [hgpi];exact h71.sh.rblk 4 rfl) (h71.sh.at 5 rfl) hok hR hpxi)) (wanted_none rfl _) ?_;clear h67
   rintro a72 w72 ⟨_,⟨os,ns,rfl,hosl,hnsl,hnsx,hosx,hs72⟩,hf72⟩
   have hsz:=h71.sh.chg.size
   have hosn:∀o∈os.l,∀b,Enc.on o b→K b∨W.heap.size≤b:=fun o ho b hb=>(hosx o ho b hb).elim (fun h=> .inr (Nat.le_trans hsz h)) (fun h=>hlx.nw _ hmi b (psd_prints (h71.sh.ok (.rd1 (nth layer i)) (List.mem_of_getElem? (i:=0) rfl)) h))
   have hosr:∀o∈os.l,∀b,Enc.on o b→_∨Enc.on (nth layer i) b:=fun o ho b hb=>(hosx o ho b hb).imp id (fun h=>psd_prints (h71.sh.ok (.rd1 (nth layer i)) (List.mem_of_getElem? (i:=0) rfl)) h)
   have h72:=(⟨hf72,h71.sh.call hs72 (by intro A hA b hb;simp only [List.mem_cons,List.not_mem_nil,or_false] at hA;first|(rcases hA with rfl|rfl|rfl|rfl<;>first|exact (hb:False).elim|exact Flat.noRd hb|exact regNoRd hb)|(rcases hA with rfl|rfl;(obtain ⟨i9,hi9,hb9⟩:=hb;exact (hosr _ (nth_mem _ _ hi9) b hb9).imp id (fun h=>⟨_,List.mem_cons_self ..,h⟩));(obtain ⟨i9,hi9,hb9⟩:=hb;exact .inl ((hnsx _ (nth_mem _ _ hi9)).2.2.2 b hb9))))⟩:St 83 K W a72 w72 _ _)
   clear hf72 hs72
   clear h71
   refine gG h72<|gal ti_153 rfl fun b73=>gE (fun _ _ h_=>x_stb (i:=0) (vs:= [ns.v,os.v]) (cs' := [ns.v,os.v]) h_ ti_153 rfl rfl rfl rfl rfl rfl rfl (allOne_cons ((h_.sh.own 2 rfl)).one (allOne_cons ((h_.sh.own 1 rfl)).one allOne_nil)) (Nat.le_of_ble_eq_true rfl) rfl) rfl<|nK k69<|?_;clear h72
   have hmv16:(movesV (pgN code words0 Lk R) F.m (nth layer i).st).length≤16:=movesV_len16 hok hpxi
   obtain ⟨hol17,hnl16⟩:=lookE_len hmv16
   have hosn17:os.l.length≤17:=by rw [←hosl,List.length_map] at hol17;exact hol17
   have hnsn16:ns.l.length≤16:=by rw [←hnsl,List.length_map] at hnl16;exact hnl16
   have hrx:=hbi.reach _ (List.mem_append.2 (.inr (List.mem_map.2 ⟨_,hmi,rfl⟩)))
   have hprx:=hbi.pr _ (List.mem_append.2 (.inr (List.mem_map.2 ⟨_,hmi,rfl⟩)))
   rw [List.length_append,List.length_map] at hprx
   have hnsr:∀y∈ns.l,Reach (pgN code words0 Lk R) F.m y.st∧y.st.prints.length≤(nth layer i).st.prints.length+2:=fun y hy=>look_reach hrx (by rw [←hnsl];exact List.mem_map.2 ⟨y,hy,rfl⟩)
   refine sK fun _ k75=>gRn (oM 1 rfl<|ofB fl_153_1 rfl<|olB 0 ti_35 rfl rfl<|.nl)<|gE1 (fun _ _ h_=>x_app (r:=10) (rm:=1) (s:=(⟨ve2,es2⟩:Ls OutL)) (m:=os) h_ sl_35 ti_39 rfl rfl rfl rfl rfl rfl rfl (fun w h=>(h.own 1 rfl)) (fun b hb=>own_on (h_.sh.ok _ (List.mem_of_getElem? (i:=1) rfl)) hb) (fun q hq b hb=>⟨q,hq,hb⟩) rfl rfl rfl inferInstance (show (es2.length+os.l.length)*56≤140737488355328∧es2.length+os.l.length≤140737488355328 from om9) rfl rfl) rfl fun v76=>gRn (oM 1 rfl<|.nl)<|nK k75<|sK fun _ k77=>gNl (aO 2 rfl) fun hl78=>gRn (ofB fl_153_0 rfl<|olB 0 ti_151 rfl rfl<|oln sl_151 (aO 2 rfl) rfl<|oM 1 rfl<|.nl)<|nK k77<|gB<|fun a80 w80 h80=>x_loop (fun m a w=>∃(j:Nat) (nx3:List (PSD F)) (ks3:List ByteArray) (vn3:Value),(j≤ns.l.length)∧(BI (pgN code words0 Lk R) F.m (S0++layer.map PSD.st++nx3.map PSD.st) (fun y=>y∈(layer.map PSD.st).drop i∨y∈nx3.map PSD.st) ((es2++os.l).map OutL.out))∧(ks3=(S0++layer.map PSD.st++nx3.map PSD.st).map (keyS F.tq))∧(PL K W code b12 nx3)∧(∀s∈S0++layer.map PSD.st++nx3.map PSD.st,F.Q (s.ths.map Th.wait))∧(∀k,k<j→(nth ns.l k).st∈S0++layer.map PSD.st++nx3.map PSD.st)∧(nx3.length≤16*i+j)∧St 83 K W a w [(2, .func (.func fe) us.toArray ws.toArray),(9, .map (some g23)),(10,v76),(14,vn3),(42,vl),(43, .int .i64 ((layer.length:Nat):Int)),(44, .int .i64 ((i:Nat):Int)),(55,ns.v),(56, .int .i64 ((ns.l.length:Nat):Int)),(57, .int .i64 ((j:Nat):Int))] [.own 39 os, .own 85 ns, .rd1 (nth layer i), .own 85 (⟨vl,layer⟩:Ls (PSD F)), .strO g23 ks3, .rd1 x0, .rblk b12 25 [code.v,pw, .int .i64 ((Lk:Nat):Int), .int .i64 ((R:Nat):Int)], .at_ code,env z1, .own 39 (⟨v76,es2++os.l⟩:Ls OutL), .own 85 (⟨vn3,nx3⟩:Ls (PSD F))]∧m=ns.l.length-j) ⟨_,0,nx,ks2,vn,(by omega),((hb2.outs (E' :=(es2++os.l).map OutL.out) (fun o ho=>by rw [List.map_append] at ho;exact (List.mem_append.1 ho).elim (hb2.sound o) (fun h=>look_outs hrx (by rw [←hosl];exact h))) (fun o ho=>by rw [List.map_append];exact List.mem_append.2 (.inl ho)))),(hks2),(hnx),(hqw2),(fun k hk=>absurd hk (by omega)),(by omega),h80.nrm ⟨rfl,rfl,rfl,rfl,rfl,rfl,rfl,rfl,rfl,rfl,trivial⟩ [1,2,3,4,5,6,7,8,9,10,11] rfl,rfl⟩ ?_
   clear h80
   rintro m79 a79 w79 ⟨j,nx3,ks3,vn3,hj,hb3,hks3,hnx3,hqw3,hdn,hnl3,h79,hm79⟩
   refine gG h79<|sG (oltN _ _ rfl<|.nl)<|gK fun _ k82=>gcd rfl (fun hb83 hp83=> ?_) fun hb83 hp83=> ?_;clear h79
   ·skip
    refine gS<|hK k82<|gK fun _ k84=>gB<|sG (oxN sl_151 ti_85 (aO 1 rfl) _ om9 rfl<|olE (.pointer (some ⟨(nth ns.l j).g,0,none⟩)) ti_85 (aO 1 rfl) om9 rfl<|oM 1 rfl<|.nl)<|?_
    have hmj:=nth_mem ns.l j (by omega)
    obtain ⟨hyg,hyr,hyq,hyn⟩:=hnsx _ hmj
    obtain ⟨hyre,hypr⟩:=hnsr _ hmj
    have hpxj:PX code words0 Lk R (nth ns.l j):=⟨hyre,hyr,hyq,by have h9:(nth ns.l j).prints.l.length≤_:=hypr;have h8:=hprx;omega⟩
    have hkm:=key_mem hok hF.tq hF.qQ (y:=nth ns.l j) hyre (fun s hs=>hb3.reach s hs) (psd_wait (by rw [hyq,hyr])) hqw3
    rw [←hks3] at hkm
    intro a87 w87 h87
    have h86:=h87.addRd (A:= .rd1 (nth ns.l j)) ((h87.sh.own 1 rfl).inner j (by omega)) (fun b hb=>hb) (fun b hb=>⟨.own 85 ns,List.mem_of_getElem? (i:=1) rfl,j,(by show j<ns.l.length;omega),hb⟩)
    clear h87
    refine gG h86<|sK fun _ k88=>gRn (oM 1 rfl<|.nl)<|gP (fun _ _ h_=>xCl h_ bd_101 rfl (key_c F (nth ns.l j) _ hF (PSD.rd (h_.sh.ok (.rd1 (nth ns.l j)) (List.mem_of_getElem? (i:=0) rfl))) (hpxj.key hok hR) (by rw [hyq,hyr]))) rfl<|gRn (oM 1 rfl<|.nl)<|nK k88<|sG (oM 2 rfl<|oV (r_lookStr (i:=5) (k:=(keyS F.tq (nth ns.l j).st)) (l:=ks3) mstr_150 rfl rfl rfl rfl) rfl<|ont rfl<|.nl)<|?_;clear h86
    refine gCb rfl (fun hb91=> ?_) fun hb91=> ?_
    ·have hp91:¬((keyS F.tq (nth ns.l j).st)∈ks3):=by simpa using hb91
     have hnm:¬keyS F.tq (nth ns.l j).st∈ks3:=by simpa using hb91
     have hnS:=fun h=>hnm (hkm.2 h)
     have hSl:(S0++layer.map PSD.st++nx3.map PSD.st).length=S0.length+layer.length+nx3.length:=by simp [Nat.add_assoc]
     have hypr9:(nth ns.l j).st.prints.length≤2*((S0++layer.map PSD.st++nx3.map PSD.st).length+1):=by rw [hSl];omega
     have hb3a:=(hb3.add hyre hnS hypr9).mono (F' :=fun z=>z∈(layer.map PSD.st).drop i∨z∈(nx3++ [(nth ns.l j)]).map PSD.st) (fun s hs h=> .inl (by rw [List.map_append];rcases h with (h|h)|h;exact .inl h;exact .inr (List.mem_append.2 (.inl h));exact .inr (List.mem_append.2 (.inr (by rw [h];exact List.mem_singleton.2 rfl)))))
     have heS:S0++layer.map PSD.st++(nx3++ [(nth ns.l j)]).map PSD.st=(S0++layer.map PSD.st++nx3.map PSD.st)++ [(nth ns.l j).st]:=by rw [List.map_append,←List.append_assoc];rfl
     have hb3N:BI (pgN code words0 Lk R) F.m (S0++layer.map PSD.st++(nx3++ [(nth ns.l j)]).map PSD.st) (fun z=>z∈(layer.map PSD.st).drop i∨z∈(nx3++ [(nth ns.l j)]).map PSD.st) ((es2++os.l).map OutL.out):=by rw [heS];exact hb3a
     have hks3N:ks3++ [keyS F.tq (nth ns.l j).st]=(S0++layer.map PSD.st++(nx3++ [(nth ns.l j)]).map PSD.st).map (keyS F.tq):=by rw [heS,List.map_append,←hks3];rfl
     have hnx3N:=hnx3.snoc (hyg.trans hgpi) hyr hyq (fun b hb=> .inr (Nat.le_trans hsz (hyn b hb)))
     have hqw3N:∀s∈S0++layer.map PSD.st++(nx3++ [(nth ns.l j)]).map PSD.st,F.Q (s.ths.map Th.wait):=by rw [heS];exact fun s hs=>(List.mem_append.1 hs).elim (hqw3 s) (fun h=>by obtain rfl:=List.mem_singleton.1 h;rw [psd_wait (by rw [hyq,hyr])];exact hF.qQ _ _)
     have hdnN:∀k,k<j+1→(nth ns.l k).st∈S0++layer.map PSD.st++(nx3++ [(nth ns.l j)]).map PSD.st:=by rw [heS];exact fun k hk=>List.mem_append.2 ((Nat.lt_or_ge k j).imp (hdn k) (fun h=>by obtain rfl:k=j:=(by omega);exact List.mem_singleton.2 rfl))
     have hnl3N:(nx3++ [(nth ns.l j)]).length≤16*i+(j+1):=by rw [List.length_append];simp only [List.length_cons,List.length_nil];omega
     refine sK fun _ k92=>gRn (oM 2 rfl<|.nl)<|gE (fun _ _ h_=>x_updStr (i:=5) (k:=(keyS F.tq (nth ns.l j).st)) h_ mstr_150 rfl rfl rfl rfl rfl rfl (by first|exact hnm|simp)) rfl<|nK k92<|gL<|gRn (oM 2 rfl<|.nl)<|gE1 (fun _ _ h_=>x_lit (n:=1) (cs:= [.pointer (some ⟨(nth ns.l j).g,0,none⟩)]) ([nth ns.l j]:List (PSD F)) h_ sl_151 ti_85 rfl rfl rfl (by decide) rfl (by kernel_rfl) rfl (fun q hq w h=>by obtain rfl:q=0:=(by simpa using hq);exact h.ok _ (List.mem_of_getElem? (i:=0) rfl)) (fun q hq b hb=>by obtain rfl:q=0:=(by simpa using hq);exact ⟨_,List.mem_of_getElem? (i:=0) rfl,hb⟩) rfl rfl) rfl fun v94=>gE1 (fun _ _ h_=>x_app (r:=12) (rm:=0) (s:=(⟨vn3,nx3⟩:Ls (PSD F))) (m:=(⟨v94, [nth ns.l j]⟩:Ls (PSD F))) h_ sl_151 ti_85 rfl rfl rfl rfl rfl rfl rfl (fun w h=>(h.own 0 rfl)) (fun b hb=>own_on (h_.sh.ok _ (List.mem_of_getElem? (i:=0) rfl)) hb) (fun q hq b hb=>⟨q,hq,hb⟩) rfl rfl rfl inferInstance (show (nx3.length+([nth ns.l j]).length)*8≤140737488355328∧nx3.length+([nth ns.l j]).length≤140737488355328 from om9) rfl rfl) rfl fun v95=>gRn (oM 1 rfl<|.nl)<|nK k84<|gL<|gRn (oadN _ 1 om9 rfl<|oM 1 rfl<|.nl)<|nN<|fun a96 w96 h96=>x_again ⟨_, ?_,(j+1),nx3++([nth ns.l j]),ks3++ [(keyS F.tq (nth ns.l j).st)],v95, ?_, ?_, ?_, ?_, ?_, ?_, ?_,h96.nrm ⟨rfl,rfl,rfl,rfl,rfl,rfl,rfl,rfl,rfl,rfl,trivial⟩ [2,3,4,5,6,7,8,9,10,11,12] rfl,rfl⟩
     · rw [hm79];first|omega|(simp only [lens9];omega)
     · omega
     · exact hb3N
     · exact hks3N
     · exact hnx3N
     · exact hqw3N
     · exact hdnN
     · exact hnl3N
    have hp91:(keyS F.tq (nth ns.l j).st)∈ks3:=by simpa using hb91
    have hyS:=hkm.1 (by simpa using hb91)
    have hb3N:=hb3;have hks3N:=hks3;have hnx3N:=hnx3;have hqw3N:=hqw3
    have hdnN:∀k,k<j+1→(nth ns.l k).st∈S0++layer.map PSD.st++nx3.map PSD.st:=fun k hk=>by rcases Nat.lt_or_ge k j with h|h;exact hdn k h;obtain rfl:k=j:=(by omega);exact hyS
    have hnl3N:nx3.length≤16*i+(j+1):=by omega
    refine gS<|hK k84<|gL<|gRn (oadN _ 1 om9 rfl<|oM 1 rfl<|.nl)<|nN<|fun a97 w97 h97=>x_again ⟨_, ?_,(j+1),nx3,ks3,vn3, ?_, ?_, ?_, ?_, ?_, ?_, ?_,h97.nrm ⟨rfl,rfl,rfl,rfl,rfl,rfl,rfl,rfl,rfl,rfl,trivial⟩ [1,2,3,4,5,6,7,8,9,10,11] rfl,rfl⟩
    · rw [hm79];first|omega|(simp only [lens9];omega)
    · omega
    · exact hb3N
    · exact hks3N
    · exact hnx3N
    · exact hqw3N
    · exact hdnN
    · exact hnl3N
   refine gX<|hK k65<|gL<|gRn (oadN _ 1 om9 rfl<|oM 1 rfl<|.nl)<|nN<|?_
   have hlN:∀z∈lookN (pgN code words0 Lk R) F.m (nth layer i).st,z∈S0++layer.map PSD.st++nx3.map PSD.st:=fun z hz=>by rw [←hnsl] at hz;obtain ⟨y,hy,rfl⟩:=List.mem_map.1 hz;obtain ⟨k,hk,rfl⟩:=List.mem_iff_getElem.1 hy;have h9:=hdn k (by omega);rwa [nth_lt _ _ hk] at h9
   have hexp:=look_exp (p:=(pgN code words0 Lk R)) (m:=F.m) (s:=(nth layer i).st) (E:=(es2++os.l).map OutL.out) (fun o ho=>by rw [List.map_append];exact List.mem_append.2 (.inr (by rw [hosl];exact ho))) hlN
   have hb4:=hb3.mono (F' :=fun y=>y∈(layer.map PSD.st).drop (i+1)∨y∈nx3.map PSD.st) (fun s hs h=>by rcases h with h|h;rw [drop_map hil] at h;rcases List.mem_cons.1 h with rfl|h;exact .inr hexp;exact .inl (.inl h);exact .inl (.inr h))
   have hen3:∀o∈es2++os.l,∀b,Enc.on o b→K b∨W.heap.size≤b:=fun o ho=>(List.mem_append.1 ho).elim (hen2 o) (hosn o)
   have hel3:(es2++os.l).length≤17*(S0.length+(i+1)):=by rw [List.length_append];omega
   intro a98 w98 h98
   refine x_again ⟨_, ?_,(i+1),nx3,es2++os.l,ks3,vn3,v76, ?_, ?_, ?_, ?_, ?_, ?_, ?_, ?_,h98.nrm ⟨rfl,rfl,rfl,rfl,rfl,rfl,rfl,trivial⟩ [3,4,5,6,7,8,9,10] rfl,rfl⟩
   · rw [hm59];first|omega|(simp only [lens9];omega)
   · omega
   · exact hb4
   · exact hks3
   · exact hnx3
   · exact hqw3
   · exact hen3
   · exact hel3
   · omega
  refine gX<|hK k57<|gK fun _ k99=>sG (oM 1 rfl<|oV (r_lenStrO (i:=1) (l:=ks2) mstr_150 rfl rfl rfl) rfl<|ogtN _ 4000 rfl<|.nl)<|gcd rfl (fun hb101 hp101=> ?_) fun hb101 hp101=> ?_
  ·skip
   have hksl:ks2.length=S0.length+layer.length+nx.length:=by rw [hks2,List.length_map,List.length_append,List.length_append,List.length_map,List.length_map]
   have hbig:=hb2.big (by rw [List.length_append,List.length_append,List.length_map,List.length_map];omega)
   refine sG (oM 2 rfl<|.nl)<|gR<|uT<|uB<|uT<|uB<|uT<|fun a103 w103 h103=>x_ret2 (fn:=Tryz.f61) (t:=6) (u:=7) rfl h103 rfl rfl ?_
   exact ⟨z1, .inl ⟨rfl,hbig,(h103.sh.sel [5] rfl)⟩⟩
  refine gS<|hK k99<|gL<|gRn (oM 2 rfl<|.nl)<|nN<|fun a104 w104 h104=> ?_
  change∃_m,_m<_∧_
  have hbiN:=hb2.mono (F' :=fun y=>y∈nx.map PSD.st) (fun s hs h=> .inl (h.elim (fun h=>by rw [List.drop_of_length_le (by simp;omega)] at h;cases h) id))
  have hksl:ks2.length=S0.length+layer.length+nx.length:=by rw [hks2,List.length_map,List.length_append,List.length_append,List.length_map,List.length_map]
  refine ⟨_, ?_,(S0++layer.map PSD.st),nx,es2,z1,ks2,vn,ve2, ?_, ?_, ?_, ?_, ?_, ?_, ?_, ?_,h104.nrm ⟨rfl,rfl,rfl,rfl,trivial⟩ [7,1,2,3,4,5,6] rfl,rfl⟩
  · rw [hm30];(rw [List.length_append,List.length_map];omega)
  · exact hbiN
  · exact hks2
  · exact hnx
  · exact hqw2
  · (rw [List.length_append,List.length_map];omega)
  · exact hen2
  · (rw [List.length_append,List.length_map];omega)
  · rw [hz1,hz,List.foldl_append,List.take_of_length_le (by simp;omega)]
 refine gX<|hK k27<|sK fun _ k105=>gRn (oM 1 rfl<|.nl)<|gO [6,0,1,2,3,4,5] rfl<|fun a111 w111 h111=> ?_
 have hp110:=h111.sh.passL (Lp:= [_])
 refine wl_ex (x_call h111 bd_103 rfl rfl rfl rfl rfl (sortOut_c _ (⟨ve,es⟩:Ls OutL) _ hp110)) (wanted_none rfl _) ?_
 rintro a112 w112 ⟨_,⟨rfl,l9,hperm,hsort,hs112⟩,hf112⟩
 have h112:St 83 K W a112 w112 _ [_,_,_,_,_,_,_]:=⟨hf112,h111.sh.backL (Lp:= [_]) hs112 (by intro A hA b hb;simp only [List.mem_cons,List.not_mem_nil,or_false] at hA;rcases hA with rfl<;>first|exact (hb:False).elim|exact Flat.noRd hb|exact .inl ⟨_,List.mem_cons_self .., .inr hb⟩|(obtain ⟨i9,hi9,hb9⟩:=hb;have hm9:=hperm.subset (nth_mem _ _ hi9);obtain ⟨k9,hk9,e9⟩:=List.mem_iff_getElem.1 hm9;exact .inl ⟨_,List.mem_cons_self .., .inr ⟨k9,hk9,by rw [nth_lt _ _ hk9,e9];exact hb9⟩⟩)|exact .inl ⟨_,by simp, .inr hb⟩)⟩
 clear hf112 hs112
 clear h111
 refine gG h112<|nK k105<|sK fun _ k113=>gRn (oM 1 rfl<|.nl)<|fun a117 w117 h117=> ?_;clear h112
 have hp116:=h117.sh.passL (Lp:= [_])
 refine wl_ex (x_call h117 bd_104 rfl rfl rfl rfl rfl (compact_c _ (⟨ve,l9⟩:Ls OutL) _ hp116 (by show l9.length≤_;rw [hperm.length_eq];show es.length≤_;omega))) (wanted_none rfl _) ?_
 rintro a118 w118 ⟨_,⟨u9,rfl,hu9,hs118⟩,hf118⟩
 have h118:St 83 K W a118 w118 _ [_,_,_,_,_,_,_]:=⟨hf118,h117.sh.backL (Lp:= [_]) hs118 (by intro A hA b hb;simp only [List.mem_cons,List.not_mem_nil,or_false] at hA;rcases hA with rfl<;>first|exact (hb:False).elim|exact Flat.noRd hb|exact .inl ⟨_,List.mem_cons_self .., .inr hb⟩|(obtain ⟨i9,hi9,hb9⟩:=hb;have hm8:nth u9.l i9∈keepL eqO l9 l9.length:=(by rw [←show u9.l=keepL eqO l9 l9.length from hu9];exact nth_mem _ _ hi9);have hm9:=keepL_mem (Nat.le_refl _) _ hm8;obtain ⟨k9,hk9,e9⟩:=List.mem_iff_getElem.1 hm9;exact .inl ⟨.own 39 (⟨ve,l9⟩:Ls OutL),List.mem_cons_self .., .inr ⟨k9,hk9,by rw [nth_lt _ _ hk9,e9];exact hb9⟩⟩)|exact .inl ⟨_,by simp, .inr hb⟩)⟩
 clear hf118 hs118
 clear h117
 refine gG h118<|gRn (oM 2 rfl<|.nl)<|nK k113<|gR<|fun a119 w119 h119=>x_ret2 (fn:=Tryz.f61) (t:=6) (u:=7) rfl h119 rfl rfl ?_;clear h118
 have hle0:layer= []:=List.eq_nil_of_length_eq_zero (by omega)
 have hFf:∀s∈S0++layer.map PSD.st,¬s∈layer.map PSD.st:=by rw [hle0];intro s _ h;cases h
 have hks:=keep_sorted (l:=l9.map OutL.out) (eq:=fun a b=>decide (a=b)) (fun a b=>decide_eq_true_iff) hsort
 have hue:u9.l.map OutL.out=keepL (fun a b=>decide (a=b)) (l9.map OutL.out) (l9.map OutL.out).length:=by rw [hu9,List.length_map];exact keepL_map _ (Nat.le_refl _)
 refine ⟨z, .inr ⟨u9,S0++layer.map PSD.st,rfl,by rw [hue];exact hks.1,fun o=> ?_,hbi.small hFf (by rw [List.length_append,List.length_map];omega),by rw [hle0];show z=(S0++ []).foldl stepE z0;rw [List.append_nil];exact hz,hbi.nd,hbi.states hFf,fun o ho b hb=>hen o (hperm.subset (keepL_mem (Nat.le_refl _) _ (hu9▸ho))) b hb, ?_,(h119.sh.sel [0,6] rfl)⟩⟩
 · rw [hue,hks.2 o,(hperm.map OutL.out).mem_iff];exact hbi.all hFf o
 · rw [hu9];have h9:=keepL_le eqO l9 l9.length;have h8:=hperm.length_eq;have h7:l9.length≤17*S0.length:=(by rw [h8];exact hel);show (keepL eqO l9 l9.length).length≤_;omega
theorem Sh.mineL {K:Nat→Prop}{W w:World}{Lp Lr:List Asn}(h:Sh K W w (Lp++Lr)){b:Nat}(hb:(∃A∈Lp,A.fp b)∨w.heap.size≤b):K b∨W.heap.size≤b:=
 hb.elim (fun ⟨A,hA,hf⟩=>h.mine A (List.mem_append.2 (.inl hA)) b hf) (fun h9=> .inr (Nat.le_trans h.chg.size h9))
structure FRes (p:Pg)(m:Int){ζ:Type}(stepE:ζ→MSt→ζ)(z0:ζ)(K:Nat→Prop)(W:World)(ok:Bool)(u:Ls OutL)(z:ζ):Prop where
 big:ok=false→Big p m∧u.l= []
 good:ok=true→¬Big p m∧Sorted_ (u.l.map OutL.out)∧(∀o,o∈u.l.map OutL.out↔Outs p m o)∧∃S:List MSt,z=S.foldl stepE z0∧S.Nodup∧∀s,s∈S↔Reach p m s
 nw:∀o∈u.l,∀b,Enc.on o b→K b∨W.heap.size≤b
 len:u.l.length≤100000
theorem FRes.up {p:Pg}{m:Int}{ζ:Type}{stepE:ζ→MSt→ζ}{z0:ζ}{K K' :Nat→Prop}{W W' :World}{ok:Bool}{u:Ls OutL}{z:ζ}(h:FRes p m stepE z0 K W ok u z)(hb:∀b,K b∨W.heap.size≤b→K' b∨W'.heap.size≤b):FRes p m stepE z0 K' W' ok u z:=⟨h.big,h.good,fun o ho b h9=>hb b (h.nw o ho b h9),h.len⟩
theorem from_c2 (K:Nat→Prop)(F:MemF)(ζ:Type)(env:ζ→Asn)(stepE:ζ→MSt→ζ)(z0:ζ)(fe:FuncId)(us ws:List Value)(i0:F.ι)(q0:(F.mem i0).σ)(code:Ls (Ls Ins))(words0 words owner:Ls Int)(pw:Value)(Lk R:Nat)(W:World)(hF:MemFI Tryz.prog 182 3 204 5 141 F)
  (hS:Sh K W W [.blk (F.mem i0).g0 182 [words.v,owner.v], .own 3 words, .own 3 owner,(F.mem i0).X q0, .at_ code,env z0]) (hok:OkPg (pgN code words0 Lk R)) (hR:PgR (pgN code words0 Lk R)) (hq0:(F.mem i0).qs q0=List.replicate code.l.length []) (hw0:words.l=words0.l) (ho0:owner.l=List.replicate Lk (-1)) (hbe:bodyI Tryz.prog fe=true) (hEr:∀z b,¬(env z).rd b)
  (hE:∀(K' :Nat→Prop) (W' :World) (gp:Nat) (x:PSD F) (z:ζ),PX code words0 Lk R x→x.gp=gp→Sh K' W' W' [env z, .rd1 x, .rblk gp 25 [code.v,pw, .int .i64 ((Lk:Nat):Int), .int .i64 ((R:Nat):Int)], .at_ code]→Rets Tryz.prog fe (us++ [.pointer (some ⟨x.g,0,none⟩)]++ws) W' (fun v w' =>v= .tuple #[]∧Sh K' W' w' [env (stepE z x.st), .rd1 x, .rblk gp 25 [code.v,pw, .int .i64 ((Lk:Nat):Int), .int .i64 ((R:Nat):Int)], .at_ code])):
  Rets Tryz.prog 61 [.agg #[code.v,pw, .int .i64 ((Lk:Nat):Int), .int .i64 ((R:Nat):Int)], .iface (F.mem i0).T (.pointer (some (F.mem i0).u)), .func (.func fe) us.toArray ws.toArray] W (fun v w' =>∃(u:Ls OutL) (ok:Bool) (z:ζ),v= .tuple #[u.v, .bool ok]∧FRes (pgN code words0 Lk R) F.m stepE z0 K W ok u z∧Sh K W w' [.own 39 u,env z]):=by
 refine Rets.mono (from_c K F ζ env stepE z0 fe us ws i0 q0 code words0 words owner pw Lk R W hF hS hok hR hq0 hw0 ho0 hbe hEr hE) ?_
 rintro v w' ⟨z,⟨rfl,hb,hs⟩|⟨u,S,rfl,h1,h2,h3,h4,h5,h6,h7,h8,hs⟩⟩
 ·exact ⟨⟨.slice none 0 0, []⟩,false,z,rfl,⟨fun _=>⟨hb,rfl⟩,fun h=>(by cases h),fun o ho=>(by cases ho),Nat.zero_le _⟩,hs.nil 39⟩
 ·exact ⟨u,true,z,rfl,⟨fun h=>(by cases h),fun _=>⟨h3,h1,h2,S,h4,h5,h6⟩,h7,h8⟩,hs⟩
theorem walks_c (K:Nat→Prop)(ζ:Type)(env:ζ→Asn)(stepE:ζ→MSt→ζ)(z0:ζ)(fe:FuncId)(us ws:List Value)(code:Ls (Ls Ins))(words0:Ls Int)(Lk R:Nat)(W:World)(hS:Sh K W W [.at_ code, .at_ words0,env z0])(hok:OkPg (pgN code words0 Lk R))(hR:PgR (pgN code words0 Lk R))(hbe:bodyI Tryz.prog fe=true)(hEr:∀z b,¬(env z).rd b)(hE:∀(K' :Nat→Prop) (W' :World) (gp:Nat) (x:PSD FP) (z:ζ),PX code words0 Lk R x→x.gp=gp→Sh K' W' W' [env z, .rd1 x, .rblk gp 25 [code.v,words0.v, .int .i64 ((Lk:Nat):Int), .int .i64 ((R:Nat):Int)], .at_ code]→Rets Tryz.prog fe (us++ [.pointer (some ⟨x.g,0,none⟩)]++ws) W' (fun v w' =>v= .tuple #[]∧Sh K' W' w' [env (stepE z x.st), .rd1 x, .rblk gp 25 [code.v,words0.v, .int .i64 ((Lk:Nat):Int), .int .i64 ((R:Nat):Int)], .at_ code])):
    Rets Tryz.prog 49 [.agg #[code.v,words0.v, .int .i64 ((Lk:Nat):Int), .int .i64 ((R:Nat):Int)], .bool false, .func (.func fe) us.toArray ws.toArray] W (fun v w' =>∃(u:Ls OutL) (ok:Bool) (z:ζ),v= .tuple #[u.v, .bool ok]∧FRes (pgN code words0 Lk R) 0 stepE z0 K W ok u z∧Sh K W w' [.own 39 u,env z]):=by
 obtain ⟨hl1,hcl,hwn,hlk,hR2⟩:=ok_lenP hok
 refine gen Tryz.func49 Tryz.ntmps49 hS rfl fun a10 h10=>gG h10<|sK fun _ k11=>gbx rfl rfl fun b12=>gRn (oM 2 rfl<|.nl)<|nK k11<|gK fun _ k13=>sG (oM 1 rfl<|.nl)<|gcF rfl rfl<|gS<|hK k13<|gK fun _ k15=>gF [0,1,2,3,8] rfl<|fun a17 w17 h17=>x_any ((fun Φ Ψ S a w=>(S 2=false∧S 5=false∧FrI 25 S Φ Ψ a∧Sh K W w [.blk b12 25 [code.v,words0.v, .int .i64 ((Lk:Nat):Int), .int .i64 ((R:Nat):Int)], .at_ code, .at_ words0,env z0])∨(S 2=true∧S 5=false∧∃(g7002:Nat) (mw7002:Ls Int) (mo7002:Ls Int),(mw7002.l=words0.l)∧(mo7002.l=List.replicate Lk (-1))∧FrI 25 S Φ (Ψ++ [(2,19, .pointer (some ⟨g7002,0,none⟩)),(3,20, .iface (memP g7002).T (.pointer (some (memP g7002).u)))]) a∧Sh K W w [.blk g7002 182 [mw7002.v,mo7002.v], .own 3 mw7002, .own 3 mo7002,(memP g7002).X code.l.length, .blk b12 25 [code.v,words0.v, .int .i64 ((Lk:Nat):Int), .int .i64 ((R:Nat):Int)], .at_ code, .at_ words0,env z0])∨(S 2=true∧S 5=true∧∃(g7002:Nat) (mw7002:Ls Int) (mo7002:Ls Int) (u7005:Ls OutL) (ok7005:Bool) (z7005:ζ),(mw7002.l=words0.l)∧(mo7002.l=List.replicate Lk (-1))∧(FRes (pgN code words0 Lk R) 0 stepE z0 K W ok7005 u7005 z7005)∧FrI 25 S Φ (Ψ++ [(2,19, .pointer (some ⟨g7002,0,none⟩)),(3,20, .iface (memP g7002).T (.pointer (some (memP g7002).u))),(5,22, .tuple #[u7005.v, .bool ok7005]),(6,23,u7005.v),(7,24, .bool ok7005),(8,6,u7005.v),(9,7, .bool ok7005)]) a∧Sh K W w [.own 39 u7005,env z7005, .blk b12 25 [code.v,words0.v, .int .i64 ((Lk:Nat):Int), .int .i64 ((R:Nat):Int)], .at_ words0])) [(0, .agg #[code.v,words0.v, .int .i64 ((Lk:Nat):Int), .int .i64 ((R:Nat):Int)]),(1, .bool false),(2, .func (.func fe) us.toArray ws.toArray),(3, .pointer (some ⟨b12,0,none⟩)),(8, .bool false)] [(0,17, .agg #[code.v,words0.v, .int .i64 ((Lk:Nat):Int), .int .i64 ((R:Nat):Int)]),(1,18, .agg #[code.v,words0.v, .int .i64 ((Lk:Nat):Int), .int .i64 ((R:Nat):Int)]),(4,21, .func (.func fe) us.toArray ws.toArray)]) (by kernel_rfl) (by kernel_rfl) (Or.inl (⟨rfl,rfl,FrI.start h17.fr,h17.sh.drew⟩)) ?_ ?_;clear h10
 ·intro S i o ho hSi hcl hdep a w hI
  clear h17
  rcases i with _|_|_|_|_|_|_|_|_|_|i
  ·obtain rfl:_=o:=Option.some.inj ho
   rcases hI with ⟨ν2,ν5,φ,ς⟩|⟨ν2,ν5,g7002,mw7002,mo7002,hmw7002,hmo7002,φ,ς⟩|⟨_,ν5,_⟩
   ·exact sq φ φ.fr0 ς (r_ldbw (i:=0) (vs:= [code.v,words0.v, .int .i64 ((Lk:Nat):Int), .int .i64 ((R:Nat):Int)]) ti_25 rfl rfl rfl rfl rfl) 0 rfl rfl rfl rfl rfl rfl fun a hg=>Or.inl (⟨un rfl ν2,un rfl ν5,hg,ς⟩)
   ·exact sq φ φ.fr0 ς (r_ldbw (i:=4) (vs:= [code.v,words0.v, .int .i64 ((Lk:Nat):Int), .int .i64 ((R:Nat):Int)]) ti_25 rfl rfl rfl rfl rfl) 0 rfl rfl rfl rfl rfl rfl fun a hg=>Or.inr (Or.inl (⟨un rfl ν2,un rfl ν5,g7002,mw7002,mo7002,hmw7002,hmo7002,hg,ς⟩))
   ·exact no_way (cA hcl 5 0 rfl ν5) hSi
  ·obtain rfl:_=o:=Option.some.inj ho
   rcases hI with ⟨ν2,ν5,φ,ς⟩|⟨ν2,_⟩|⟨ν2,_⟩
   ·exact sq φ φ.fr0 ς (r_ldbw (i:=0) (vs:= [code.v,words0.v, .int .i64 ((Lk:Nat):Int), .int .i64 ((R:Nat):Int)]) ti_25 rfl rfl rfl rfl rfl) 1 rfl rfl rfl rfl rfl rfl fun a hg=>Or.inl (⟨un rfl ν2,un rfl ν5,hg,ς⟩)
   ·exact no_way (cA hcl 2 1 rfl ν2) hSi
   ·exact no_way (cA hcl 2 1 rfl ν2) hSi
  ·obtain rfl:_=o:=Option.some.inj ho
   have hd1:S 1=true:=depAt hdep 0 rfl rfl
   rcases hI with ⟨ν2,ν5,φ,ς⟩|⟨ν2,_⟩|⟨ν2,_⟩
   ·have hs:=St.mk (Fr.cons φ.fr0 (φ.at_ 1 1 18 _ rfl hd1)) ς
    refine step_ex (x_call hs bd_81 rfl rfl rfl rfl rfl (pnewP_c words0 Lk code.l.length code.v ((R:Nat):Int) _ (hs.sh.at 2 rfl) hwn hlk)) (wanted_none rfl _) ?_
    rintro a24 w24 ⟨_,⟨g24,mw24,mo24,rfl,hmw24,hmo24,hs24⟩,hf24⟩ ⟨v0,ht24⟩
    have h24:=(⟨hf24,hs.sh.call hs24 (by intro A hA b hb;simp only [memA,List.mem_cons,List.not_mem_nil,or_false] at hA;first|(subst hA;exact Flat.noRd hb)|(rcases hA with rfl|rfl|rfl|rfl<;>first|exact (hb:False).elim|exact Flat.noRd hb))⟩:St 25 K W a24 w24 _ _)
    clear hf24 hs24
    exact Or.inr (Or.inl (⟨upd_self _ _,un rfl ν5,g24,mw24,mo24,hmw24,hmo24,φ.stepW hcl hSi [0,1,2] (by kernel_rfl) (by kernel_rfl) ht24 h24.fr.defers (h24.fr.at_ 19 _ rfl) 3 rfl rfl rfl rfl,(h24.sh.sel [0,1,2,3,4,5,6,7] rfl)⟩))
   ·exact no_way ν2 hSi
   ·exact no_way ν2 hSi
  ·obtain rfl:_=o:=Option.some.inj ho
   have hd2:S 2=true:=depAt hdep 0 rfl rfl
   rcases hI with ⟨ν2,_⟩|⟨ν2,ν5,g7002,mw7002,mo7002,hmw7002,hmo7002,φ,ς⟩|⟨_,ν5,_⟩
   ·exact no_way hd2 ν2
   ·exact sq φ (Fr.cons φ.fr0 (φ.at_ 3 2 19 _ rfl hd2)) ς (Rn.same (r_mkIfP (T:=123) Tryz.underlying123 rfl rfl) rfl) 4 rfl rfl rfl rfl rfl rfl fun a hg=>Or.inr (Or.inl (⟨un rfl ν2,un rfl ν5,g7002,mw7002,mo7002,hmw7002,hmo7002,hg,ς⟩))
   ·exact no_way (cA hcl 5 3 rfl ν5) hSi
  ·obtain rfl:_=o:=Option.some.inj ho
   rcases hI with ⟨ν2,ν5,φ,ς⟩|⟨ν2,ν5,g7002,mw7002,mo7002,hmw7002,hmo7002,φ,ς⟩|⟨_,ν5,_⟩
   ·exact sq φ φ.fr0 ς (r_move rfl rfl) 2 rfl rfl rfl rfl rfl rfl fun a hg=>Or.inl (⟨un rfl ν2,un rfl ν5,hg,ς⟩)
   ·exact sq φ φ.fr0 ς (r_move rfl rfl) 2 rfl rfl rfl rfl rfl rfl fun a hg=>Or.inr (Or.inl (⟨un rfl ν2,un rfl ν5,g7002,mw7002,mo7002,hmw7002,hmo7002,hg,ς⟩))
   ·exact no_way (cA hcl 5 4 rfl ν5) hSi
  ·obtain rfl:_=o:=Option.some.inj ho
   have hd0:S 0=true:=depAt hdep 0 rfl rfl
   have hd3:S 3=true:=depAt hdep 1 rfl rfl
   have hd4:S 4=true:=depAt hdep 2 rfl rfl
   have hd2:S 2=true:=depAt hdep 3 rfl rfl
   rcases hI with ⟨ν2,_⟩|⟨ν2,ν5,g7002,mw7002,mo7002,hmw7002,hmo7002,φ,ς⟩|⟨_,ν5,_⟩
   ·exact no_way hd2 ν2
   ·have hs:=St.mk (Fr.cons (Fr.cons (Fr.cons φ.fr0 (φ.at_ 0 0 17 _ rfl hd0)) (φ.at_ 4 3 20 _ rfl hd3)) (φ.at_ 2 4 21 _ rfl hd4)) ς
    have h28:=hs.sel (L' := [_,_,_,_,_,_,_,_]) [0,1,2,3,5,7,4,6] rfl
    have hp29:=h28.sh.passL (Lp:= [_,_,_,_,_,_])
    refine step_ex (x_call h28 bd_61 rfl rfl rfl rfl rfl (from_c2 _ FP ζ env stepE z0 fe us ws g7002 code.l.length code words0 mw7002 mo7002 _ Lk R _ FP_ok hp29 hok hR rfl hmw7002 hmo7002 hbe hEr hE)) (wanted_none rfl _) ?_
    rintro a30 w30 ⟨_,⟨u30,ok30,z30,rfl,hfq30,hs30⟩,hf30⟩ ⟨v0,ht30⟩
    have hfr30:=hfq30.up (K' :=K) (W' :=W) (fun b hb=>h28.sh.mineL (Lp:= [.blk g7002 182 [mw7002.v,mo7002.v], .own 3 mw7002, .own 3 mo7002,(memP g7002).X code.l.length, .at_ code,env z0]) hb)
    have h30:St 25 K W a30 w30 _ [_,_,_,_]:=⟨hf30,h28.sh.backL (Lp:= [_,_,_,_,_,_]) hs30 (by intro A hA b hb;simp only [List.mem_cons,List.not_mem_nil,or_false] at hA;rcases hA with rfl|rfl<;>first|exact (hb:False).elim|exact Flat.noRd hb|exact .inl ⟨_,List.mem_cons_self .., .inr hb⟩|exact (hEr _ _ hb).elim|(obtain ⟨i9,hi9,hb9⟩:=hb;exact (hfq30.nw _ (nth_mem _ _ hi9) _ hb9).elim (fun ⟨A9,hA9,hf9⟩=> .inl ⟨A9,hA9, .inl hf9⟩) (fun h9=> .inr (.inr h9)))|exact .inl ⟨_,by simp, .inr hb⟩)⟩
    clear hf30 hs30
    exact Or.inr (Or.inr (⟨un rfl ν2,upd_self _ _,g7002,mw7002,mo7002,u30,ok30,z30,hmw7002,hmo7002,hfr30,φ.stepW hcl hSi [0,1,2,3,4] (by kernel_rfl) (by kernel_rfl) ht30 h30.fr.defers (h30.fr.at_ 22 _ rfl) 5 rfl rfl rfl rfl,(h30.sh.sel [0,1,2,3] rfl)⟩))
   ·exact no_way ν5 hSi
  ·obtain rfl:_=o:=Option.some.inj ho
   have hd5:S 5=true:=depAt hdep 0 rfl rfl
   rcases hI with ⟨ν2,_⟩|⟨_,ν5,_⟩|⟨ν2,ν5,g7002,mw7002,mo7002,u7005,ok7005,z7005,hmw7002,hmo7002,hfr7005,φ,ς⟩
   ·exact no_way (cA hcl 5 2 rfl hd5) ν2
   ·exact no_way hd5 ν5
   ·exact sq φ (Fr.cons φ.fr0 (φ.at_ 5 5 22 _ rfl hd5)) ς (r_extract rfl rfl rfl) 6 rfl rfl rfl rfl rfl rfl fun a hg=>Or.inr (Or.inr (⟨un rfl ν2,un rfl ν5,g7002,mw7002,mo7002,u7005,ok7005,z7005,hmw7002,hmo7002,hfr7005,hg,ς⟩))
  ·obtain rfl:_=o:=Option.some.inj ho
   have hd5:S 5=true:=depAt hdep 0 rfl rfl
   rcases hI with ⟨ν2,_⟩|⟨_,ν5,_⟩|⟨ν2,ν5,g7002,mw7002,mo7002,u7005,ok7005,z7005,hmw7002,hmo7002,hfr7005,φ,ς⟩
   ·exact no_way (cA hcl 5 2 rfl hd5) ν2
   ·exact no_way hd5 ν5
   ·exact sq φ (Fr.cons φ.fr0 (φ.at_ 5 5 22 _ rfl hd5)) ς (r_extract rfl rfl rfl) 7 rfl rfl rfl rfl rfl rfl fun a hg=>Or.inr (Or.inr (⟨un rfl ν2,un rfl ν5,g7002,mw7002,mo7002,u7005,ok7005,z7005,hmw7002,hmo7002,hfr7005,hg,ς⟩))
  ·obtain rfl:_=o:=Option.some.inj ho
   have hd6:S 6=true:=depAt hdep 0 rfl rfl
   have hd5:S 5=true:=depAt hdep 1 rfl rfl
   have hd2:S 2=true:=depAt hdep 4 rfl rfl
   rcases hI with ⟨ν2,_⟩|⟨_,ν5,_⟩|⟨ν2,ν5,g7002,mw7002,mo7002,u7005,ok7005,z7005,hmw7002,hmo7002,hfr7005,φ,ς⟩
   ·exact no_way hd2 ν2
   ·exact no_way hd5 ν5
   ·exact sq φ (Fr.cons φ.fr0 (φ.at_ 6 6 23 _ rfl hd6)) ς (r_assign rfl rfl) 8 rfl rfl rfl rfl rfl rfl fun a hg=>Or.inr (Or.inr (⟨un rfl ν2,un rfl ν5,g7002,mw7002,mo7002,u7005,ok7005,z7005,hmw7002,hmo7002,hfr7005,hg,ς⟩))
  ·obtain rfl:_=o:=Option.some.inj ho
   have hd7:S 7=true:=depAt hdep 0 rfl rfl
   have hd2:S 2=true:=depAt hdep 4 rfl rfl
   have hd5:S 5=true:=depAt hdep 7 rfl rfl
   rcases hI with ⟨ν2,_⟩|⟨_,ν5,_⟩|⟨ν2,ν5,g7002,mw7002,mo7002,u7005,ok7005,z7005,hmw7002,hmo7002,hfr7005,φ,ς⟩
   ·exact no_way hd2 ν2
   ·exact no_way hd5 ν5
   ·exact sq φ (Fr.cons φ.fr0 (φ.at_ 7 7 24 _ rfl hd7)) ς (r_assign rfl rfl) 9 rfl rfl rfl rfl rfl rfl fun a hg=>Or.inr (Or.inr (⟨un rfl ν2,un rfl ν5,g7002,mw7002,mo7002,u7005,ok7005,z7005,hmw7002,hmo7002,hfr7005,hg,ς⟩))
  · simp at ho
 intro S hall a w hI
 clear h17
 rcases hI with ⟨ν2,ν5,φ,ς⟩|⟨ν2,ν5,g7002,mw7002,mo7002,hmw7002,hmo7002,φ,ς⟩|⟨ν2,ν5,g7002,mw7002,mo7002,u7005,ok7005,z7005,hmw7002,hmo7002,hfr7005,φ,ς⟩
 · exact no_way (hall 2 (by decide)) ν2
 · exact no_way (hall 5 (by decide)) ν5
 have h35:St 25 K W a w _ _:=⟨(Fr.cons (Fr.cons φ.fr0 (φ.at_ 8 8 6 _ rfl (hall 8 (by decide)))) (φ.at_ 9 9 7 _ rfl (hall 9 (by decide)))),ς⟩
 clear hall φ ς ν2 ν5
 refine gG h35<|hK k15<|gR<|fun a36 w36 h36=>x_ret2 (fn:=Tryz.f49) (t:=6) (u:=7) rfl h36 rfl rfl ?_;clear h35
 exact ⟨u7005,ok7005,z7005,rfl,hfr7005,(h36.sh.sel [0,1] rfl)⟩
end Go.Proofs.YtmjkobhkkjgplaaGreatDoor
