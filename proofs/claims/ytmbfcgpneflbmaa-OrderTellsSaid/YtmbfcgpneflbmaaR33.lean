/- OrderTells: for every program the program tells which locks threads may hold, in which order they take them, and whether that is safe. -/
import Derived.Test.YtmbfcgpneflbmaaQ2
import Derived.ProofKit
import Derived.OpenShut
import Derived.Deep.Slices
import Derived.Carry
import Derived.SizedLaws
namespace Go.Proofs.Ytmbfcgpneflbmaa
open Go.RowKit
set_option linter.unusedSimpArgs false
set_option linter.unusedVariables false
set_option maxRecDepth 100000
set_option maxHeartbeats 8000000
theorem ar_90 :arI Try.prog 90=some (4,89):=by kernel_rfl
theorem oedges_k (code:Ls (Ls Ins))(words:Ls Int)(locks regs:Int)(W:World)(hcode:code.At W)(hwords:words.At W)(hok:OkPg (pgOf code words locks regs)):
    Rets Try.prog 19 [.agg #[code.v,words.v, .int .i64 locks, .int .i64 regs]] W (fun v w' =>∃u:Ls P2,v= .tuple #[u.v, .agg #[.int .i64 0, .int .i64 0, .int .i64 0]]∧u.l.Pairwise (fun a b=>lessP a b=true)∧(∀e,e∈u.l↔EdgesT code.l code.l.length e)∧Sh0 W w' [.own 57 u]):=by
 have hz:=checkG_ok hok
 obtain ⟨hl1,hl2,hl3,hl4',hl5,hl6,hl7⟩:=ok_len hok
 refine gen Try.func19 Try.ntmps19 (Sh0.ext2 hcode hwords:Sh (fun _=>False) W W [.at_ code, .at_ words]) rfl fun a10 h10=>gG h10<|sK fun _ k11=>gbx rfl rfl fun b12=>gRn (oM 1 rfl<|.nl)<|gal ti_30 rfl fun b13=>nK k11<|gK fun _ k14=>sK fun _ k15=>gRn (olw 1 ti_25 rfl rfl<|.nl)<|fun a17 w17 h17=>wl_ex (x_call h17 bd_27 rfl rfl rfl rfl rfl (asmCheck_c (code:=code) (words:=words) (locks:=locks) (regs:=regs) (h17.sh.at 2 rfl) (h17.sh.at 3 rfl))) (wanted_none rfl _) ?_;clear h10
 rintro a18 w18 ⟨_,⟨rfl,hs18⟩,hf18⟩
 have h18:St 14 (fun _=>False) W a18 w18 _ _:=⟨hf18,h17.sh.call0 hs18⟩
 clear hf18 hs18
 clear h17
 refine gG h18<|gal ti_30 rfl fun b19=>gsw 0 ti_30 rfl rfl rfl<|nK k15<|sG (ofB fl_30_0 rfl<|olB 0 ti_28 rfl rfl<|oneI _ _ rfl<|.nl)<|gcF rfl (by rw [hz];rfl)<|gS<|hK k14<|sK fun _ k22=>gRn (olw 2 ti_25 rfl rfl<|.nl)<|fun a24 w24 h24=>wl_ex (x_call h24 bd_43 rfl rfl rfl rfl rfl (edges_c code words locks regs _ (h24.sh.at 3 rfl) (h24.sh.at 4 rfl) hok)) (wanted_none rfl _) ?_;clear h18
 rintro a25 w25 ⟨_,⟨u25,rfl,huo25,hum25,hs25⟩,hf25⟩
 have h25:=(⟨hf25,h24.sh.call hs25 (by intro A hA b hb;first|(simp at hA;done)|(simp at hA;subst hA;first|exact Flat.noRd hb|exact barr_noRd hb|exact (hb:False).elim))⟩:St 14 (fun _=>False) W a25 w25 _ _)
 clear hf25 hs25
 clear h24
 refine gG h25<|gRn (oV (r_build (cs:= [.int .i64 0, .int .i64 0, .int .i64 0]) rfl rfl (by kernel_rfl)) rfl<|oM 1 rfl<|.nl)<|gsw 2 ti_30 rfl rfl rfl<|nK k22<|gR<|fun a27 w27 h27=>x_rettc (fn:=Try.f19) (t:=3) (u:=2) (i:=2) ti_30 rfl h27 rfl rfl rfl rfl ?_;clear h25
 exact ⟨u25,rfl,huo25,hum25,(h27.sh.sel [0] rfl)⟩
theorem oedges_b (code:Ls (Ls Ins))(words:Ls Int)(locks regs:Int)(W:World)(hcode:code.At W)(hwords:words.At W)(hz:(checkG (pgOf code words locks regs)).code≠0):
    Rets Try.prog 19 [.agg #[code.v,words.v, .int .i64 locks, .int .i64 regs]] W (fun v w' =>v= .tuple #[.slice none 0 0,(checkG (pgOf code words locks regs)).val]∧Sh0 W w' []):=by
 refine gen Try.func19 Try.ntmps19 (Sh0.ext2 hcode hwords:Sh (fun _=>False) W W [.at_ code, .at_ words]) rfl fun a10 h10=>gG h10<|sK fun _ k11=>gbx rfl rfl fun b12=>gRn (oM 1 rfl<|.nl)<|gal ti_30 rfl fun b13=>nK k11<|gK fun _ k14=>sK fun _ k15=>gRn (olw 1 ti_25 rfl rfl<|.nl)<|gC (fun _ _ h_=>xCl h_ bd_27 rfl (asmCheck_c (code:=code) (words:=words) (locks:=locks) (regs:=regs) (h_.sh.at 2 rfl) (h_.sh.at 3 rfl))) rfl<|?_;clear h10
 rintro _ _ w16 ⟨rfl,hs16⟩
 refine gWk hs16 rfl<|gU<|gal ti_30 rfl fun b17=>gsw 0 ti_30 rfl rfl rfl<|nK k15<|sG (ofB fl_30_0 rfl<|olB 0 ti_28 rfl rfl<|oneI _ _ rfl<|.nl)<|gcT rfl (decide_eq_true hz)<|gK fun _ k20=>rT 2 [] (olw 0 ti_30 rfl rfl<|oM 1 rfl<|.nl)<|gsw 1 ti_30 rfl rfl rfl<|nK k20<|gR<|uT<|fun a22 w22 h22=> ?_;clear hs16
 refine x_rettc (fn:=Try.f19) (t:=3) (u:=2) (i:=1) ti_30 rfl h22 rfl rfl rfl rfl ?_
 exact ⟨rfl,(h22.sh.sel [] rfl)⟩
theorem oheld_k (code:Ls (Ls Ins))(words:Ls Int)(locks regs:Int)(W:World)(hcode:code.At W)(hwords:words.At W)(hok:OkPg (pgOf code words locks regs)):
    Rets Try.prog 21 [.agg #[code.v,words.v, .int .i64 locks, .int .i64 regs]] W (fun v w' =>∃s:Ls (Ls (Ls Int)),v= .tuple #[s.v, .agg #[.int .i64 0, .int .i64 0, .int .i64 0]]∧s.l.length=code.l.length∧(∀u,u<code.l.length→(nth s.l u).l.length=(nth code.l u).l.length+1∧∀i,i<(nth code.l u).l.length+1→∃b:List Bool,b.length=4∧(nth (nth s.l u).l i).l=listB b∧∀k,k<4→(nth b k=true↔HeldI (nth code.l u).l k i))∧Sh0 W w' [.deep 26 s]):=by
 have hz:=checkG_ok hok
 obtain ⟨hl1,hl2,hl3,hl4',hl5,hl6,hl7⟩:=ok_len hok
 refine gen Try.func21 Try.ntmps21 (Sh0.ext2 hcode hwords:Sh (fun _=>False) W W [.at_ code, .at_ words]) rfl fun a10 h10=>gG h10<|sK fun _ k11=>gbx rfl rfl fun b12=>gRn (oM 1 rfl<|.nl)<|gal ti_30 rfl fun b13=>nK k11<|gK fun _ k14=>sK fun _ k15=>gRn (olw 1 ti_25 rfl rfl<|.nl)<|fun a17 w17 h17=>wl_ex (x_call h17 bd_27 rfl rfl rfl rfl rfl (asmCheck_c (code:=code) (words:=words) (locks:=locks) (regs:=regs) (h17.sh.at 2 rfl) (h17.sh.at 3 rfl))) (wanted_none rfl _) ?_;clear h10
 rintro a18 w18 ⟨_,⟨rfl,hs18⟩,hf18⟩
 have h18:St 50 (fun _=>False) W a18 w18 _ _:=⟨hf18,h17.sh.call0 hs18⟩
 clear hf18 hs18
 clear h17
 refine gG h18<|gal ti_30 rfl fun b19=>gsw 0 ti_30 rfl rfl rfl<|nK k15<|sG (ofB fl_30_0 rfl<|olB 0 ti_28 rfl rfl<|oneI _ _ rfl<|.nl)<|gcF rfl (by rw [hz];rfl)<|gS<|hK k14<|sG (oM 1 rfl<|.nl)<|gK fun _ k23=>sK fun _ k24=>gNl (aA 3 rfl) fun hl25=>gRn (ofB fl_25_0 rfl<|olB 2 ti_22 rfl rfl<|oln sl_22 (aA 3 rfl) rfl<|oM 1 rfl<|.nl)<|nK k24<|gB<|fun a28 w28 h28=> ?_;clear h18
 have h27:=h28.nilDeep (α:=Ls (Ls Int)) 26
 clear h28
 refine x_loop (fun m a w=>∃(t:Nat) (os:List (Ls (Ls Int))) (vo:Value),(t≤code.l.length)∧(os.length=t)∧(∀u,u<t→(nth os u).l.length=(nth code.l u).l.length+1∧∀i,i<(nth code.l u).l.length+1→∃b:List Bool,b.length=4∧(nth (nth os u).l i).l=listB b∧∀k,k<4→(nth b k=true↔HeldI (nth code.l u).l k i))∧St 50 (fun _=>False) W a w [(3, .pointer (some ⟨b13,0,none⟩)),(5,vo),(20,code.v),(21, .int .i64 ((code.l.length:Nat):Int)),(22, .int .i64 ((t:Nat):Int))] [.blk b19 30 [.int .i64 ((checkG (pgOf code words locks regs)).code), .int .i64 ((checkG (pgOf code words locks regs)).thread), .int .i64 ((checkG (pgOf code words locks regs)).at_)], .blk b13 30 [.int .i64 0, .int .i64 0, .int .i64 0], .blk b12 25 [code.v,words.v, .int .i64 locks, .int .i64 regs], .at_ code, .at_ words, .deep 26 (⟨vo,os⟩:Ls (Ls (Ls Int)))]∧m=code.l.length-t) ⟨_,0, [],(.slice none 0 0),(by omega),(rfl),(fun u hu=>absurd hu (by omega)),h27.nrm ⟨rfl,rfl,rfl,rfl,rfl,trivial⟩ [1,2,3,4,5,0] rfl,rfl⟩ ?_
 clear h27
 rintro m26 a26 w26 ⟨t,os,vo,ht,hol,hos,h26,hm26⟩
 refine gG h26<|sG (oltN _ _ rfl<|.nl)<|gK fun _ k30=>gcd rfl (fun hb31 hp31=> ?_) fun hb31 hp31=> ?_;clear h26
 ·skip
  refine gS<|hK k30<|gK fun _ k32=>gB<|sG (oxN sl_22 ti_45 (aA 3 rfl) _ om9 rfl<|olE ((nth code.l t).v) ti_45 (aA 3 rfl) om9 rfl<|oM 1 rfl<|.nl)<|?_
  obtain ⟨hl4,hjt⟩:=ok_thread hok t (by omega)
  refine sG (oM 1 rfl<|.nl)<|sK fun _ k35=>gRn (oM 1 rfl<|.nl)<|fun a37 w37 h37=>wl_ex (x_call h37 bd_42 rfl rfl rfl rfl rfl (held_c (nth code.l t) _ ((h37.sh.at 3 rfl).nth t (show t<code.l.length from (by omega))) (codeC_of hok (by omega)) (lockC_of hok (by omega)) (by omega))) (wanted_none rfl _) ?_
  rintro a38 w38 ⟨_,⟨s38,g38,rfl,hsl38,hsv38,hs38⟩,hf38⟩
  have h38:=(⟨hf38,h37.sh.call hs38 (by intro A hA b hb;first|(simp at hA;done)|(simp at hA;subst hA;first|exact Flat.noRd hb|exact barr_noRd hb|exact (hb:False).elim))⟩:St 50 (fun _=>False) W a38 w38 _ _)
  clear hf38 hs38
  clear h37
  refine gG h38<|gRn (oM 1 rfl<|oxt rfl<|oxt rfl<|oM 2 rfl<|.nl)<|nK k35<|gK fun _ k39=>sK fun _ k40=>gNl (aO 0 rfl) fun hl41=>gRn (oM 1 rfl<|oln sl_85 (aO 0 rfl) rfl<|oM 1 rfl<|.nl)<|nK k40<|gB<|fun a44 w44 h44=> ?_;clear h38
  have h43:=h44.nilDeep (α:=Ls Int) 23
  clear h44
  have hsl9:=hsl38
  have hsv9:=hsv38
  refine x_loop (fun m a w=>∃(j:Nat) (ls:List (Ls Int)) (vl:Value),(j≤(nth code.l t).l.length+1)∧(ls.length=j)∧(∀i,i<j→∃b:List Bool,b.length=4∧(nth ls i).l=listB b∧∀k,k<4→(nth b k=true↔HeldI (nth code.l t).l k i))∧St 50 (fun _=>False) W a w [(3, .pointer (some ⟨b13,0,none⟩)),(5,vo),(8,vl),(20,code.v),(21, .int .i64 ((code.l.length:Nat):Int)),(22, .int .i64 ((t:Nat):Int)),(31,s38.v),(32, .int .i64 ((s38.l.length:Nat):Int)),(33, .int .i64 ((j:Nat):Int))] [.own 89 s38, .blk b19 30 [.int .i64 ((checkG (pgOf code words locks regs)).code), .int .i64 ((checkG (pgOf code words locks regs)).thread), .int .i64 ((checkG (pgOf code words locks regs)).at_)], .blk b13 30 [.int .i64 0, .int .i64 0, .int .i64 0], .blk b12 25 [code.v,words.v, .int .i64 locks, .int .i64 regs], .at_ code, .at_ words, .deep 26 (⟨vo,os⟩:Ls (Ls (Ls Int))), .deep 23 (⟨vl,ls⟩:Ls (Ls Int))]∧m=(nth code.l t).l.length+1-j) ⟨_,0, [],(.slice none 0 0),(by omega),(rfl),(fun i hi=>absurd hi (by omega)),h43.nrm ⟨rfl,rfl,rfl,rfl,rfl,rfl,rfl,rfl,rfl,trivial⟩ [1,2,3,4,5,6,7,0] rfl,rfl⟩ ?_
  clear h43
  rintro m42 a42 w42 ⟨j,ls,vl,hj,hll,hls,h42,hm42⟩
  refine gG h42<|sG (oltN _ _ rfl<|.nl)<|gK fun _ k46=>gcd rfl (fun hb47 hp47=> ?_) fun hb47 hp47=> ?_;clear h42
  ·skip
   refine gS<|hK k46<|gK fun _ k48=>gB<|sK fun _ k49=> ?_
   have hs4:=(hsv38 j (by omega)).1
   refine gRn (oxN sl_85 ti_89 (aO 0 rfl) _ om9 rfl<|oV (r_ldewAr (n:=0) (i:=j) (s:=s38) ti_89 rfl rfl (fun w h=>(h.own 0 rfl)) (show j<s38.l.length from om9)) rfl<|.nl)<|gE1 (fun _ _ h_=>x_allocAr (k:=4) h_ ti_89 (by kernel_rfl) rfl rfl rfl) rfl fun b50=>gE (fun _ _ h_=>x_stwAr (i:=0) (l:=(List.replicate 4 false)) (m:=((nth s38.l j).l)) h_ ti_89 rfl rfl rfl rfl (by first|assumption|(simp only [lens9];done)|(simp only [lens9];first|assumption|omega)|rfl) (by first|assumption|(simp only [lens9];done)|(simp only [lens9];first|assumption|omega)|rfl) rfl) rfl<|nK k49<|gL<|gRn (oM 1 rfl<|oV (r_ldwAr (i:=0) (l:=((nth s38.l j).l)) ti_89 rfl rfl rfl (by first|assumption|(simp only [lens9];done)|(simp only [lens9];first|assumption|omega)|rfl)) rfl<|.nl)<|fun a53 w53 h53=> ?_
   refine wl_ex (x_call h53 bd_51 rfl rfl rfl rfl rfl (list_ls (list_c ((nth s38.l j).l) _ (by first|assumption|(simp only [lens9];done)|(simp only [lens9];first|assumption|omega)|rfl)))) (wanted_none rfl _) ?_
   rintro a54 w54 ⟨_,⟨s54,rfl,hs54⟩,hf54⟩
   have h54:=(⟨hf54,h53.sh.call hs54 (by intro A hA b hb;first|(simp at hA;done)|(simp at hA;subst hA;first|exact Flat.noRd hb|exact barr_noRd hb|exact (hb:False).elim))⟩:St 50 (fun _=>False) W a54 w54 _ _)
   clear hf54 hs54
   clear h53
   refine gG h54<|gE1 (fun _ _ h_=>x_litD (E:=0) (x:=(⟨s54.v,listB ((nth s38.l j).l)⟩:Ls Int)) h_ sl_26 ti_23 rfl rfl rfl ((h_.sh.own 0 rfl)) (fun b hb=>(own_on (h_.sh.ok _ (List.mem_of_getElem? (i:=0) rfl)) hb).elim (fun h=>h) (fun h=>Flat.noRd h)) (fun b hb=>Flat.noRd hb) rfl rfl) rfl fun v55=>gO [9,0,1,2,3,4,5,6,7,8] rfl<|gE1 (fun _ _ h_=>x_appD (s:=(⟨vl,ls⟩:Ls (Ls Int))) (m:=(⟨v55, [(⟨s54.v,listB ((nth s38.l j).l)⟩:Ls Int)]⟩:Ls (Ls Int))) h_ sl_26 ti_23 rfl rfl rfl rfl rfl rfl rfl inferInstance (show (ls.length+([(⟨s54.v,listB ((nth s38.l j).l)⟩:Ls Int)]).length)*24≤140737488355328∧ls.length+([(⟨s54.v,listB ((nth s38.l j).l)⟩:Ls Int)]).length≤140737488355328 from om9) rfl rfl) rfl fun v57=>gRn (oM 1 rfl<|.nl)<|nK k48<|gL<|gRn (oadN _ 1 om9 rfl<|oM 1 rfl<|.nl)<|nN<|fun a58 w58 h58=>x_again ⟨_, ?_,j+1,ls++([(⟨s54.v,listB ((nth s38.l j).l)⟩:Ls Int)]),v57, ?_, ?_, ?_,h58.nrm ⟨rfl,rfl,rfl,rfl,rfl,rfl,rfl,rfl,rfl,trivial⟩ [2,3,4,5,6,7,8,0] rfl,rfl⟩;clear h54
   · rw [hm42];first|omega|(simp only [lens9];omega)
   · omega
   · simp [hll]
   · refine snoc_thr (A:=fun x i=>∃b:List Bool,b.length=4∧x.l=listB b∧∀k,k<4→(nth b k=true↔HeldI (nth code.l t).l k i)) hll hls ?_;exact ⟨_,hs4,rfl,fun k hk=>(hsv9 j (by omega)).2 k hk⟩
  refine gX<|hK k39<|gL<|gRn (oM 2 rfl<|.nl)<|gO [7,0,1,2,3,4,5,6] rfl<|gE1 (fun _ _ h_=>x_litD (E:=0) (x:=(⟨vl,ls⟩:Ls (Ls Int))) h_ sl_58 ti_26 rfl rfl rfl ((h_.sh.deep 0 rfl)) (fun b hb=>by rcases hb with ⟨h0,rfl⟩|hb;exact .inl (own_blk h0 (h_.sh.ok _ (List.mem_of_getElem? (i:=0) rfl)).1);exact .inr hb) (fun b hb=>hb) rfl rfl) rfl fun v60=>gO [7,0,1,2,3,4,5,6] rfl<|gE1 (fun _ _ h_=>x_appD (s:=(⟨vo,os⟩:Ls (Ls (Ls Int)))) (m:=(⟨v60, [(⟨vl,ls⟩:Ls (Ls Int))]⟩:Ls (Ls (Ls Int)))) h_ sl_58 ti_26 rfl rfl rfl rfl rfl rfl rfl inferInstance (show (os.length+([(⟨vl,ls⟩:Ls (Ls Int))]).length)*24≤140737488355328∧os.length+([(⟨vl,ls⟩:Ls (Ls Int))]).length≤140737488355328 from om9) rfl rfl) rfl fun v62=>gRn (oM 1 rfl<|.nl)<|nK k32<|gL<|gRn (oadN _ 1 om9 rfl<|oM 1 rfl<|.nl)<|nN<|fun a63 w63 h63=>x_again ⟨_, ?_,t+1,os++([(⟨vl,ls⟩:Ls (Ls Int))]),v62, ?_, ?_, ?_,h63.nrm ⟨rfl,rfl,rfl,rfl,rfl,trivial⟩ [2,3,4,5,6,0] rfl,rfl⟩
  · rw [hm26];first|omega|(simp only [lens9];omega)
  · omega
  · simp [hol]
  · refine snoc_thr (A:=fun x u=>x.l.length=(nth code.l u).l.length+1∧∀i,i<(nth code.l u).l.length+1→∃b:List Bool,b.length=4∧(nth x.l i).l=listB b∧∀k,k<4→(nth b k=true↔HeldI (nth code.l u).l k i)) hol hos ?_;exact ⟨by show ls.length=_;omega,fun i hi=>hls i (by omega)⟩
 refine gX<|hK k23<|sK fun _ k64=>gRn (oM 1 rfl<|oV (r_build (cs:= [.int .i64 0, .int .i64 0, .int .i64 0]) rfl rfl (by kernel_rfl)) rfl<|oM 1 rfl<|.nl)<|gsw 1 ti_30 rfl rfl rfl<|nK k64<|gR<|fun a66 w66 h66=>x_rettc (fn:=Try.f21) (t:=3) (u:=2) (i:=1) ti_30 rfl h66 rfl rfl rfl rfl<|⟨⟨vo,os⟩,rfl,by show os.length=_;omega,fun u hu=>hos u (by omega),(h66.sh.sel [5] rfl)⟩
theorem oheld_b (code:Ls (Ls Ins))(words:Ls Int)(locks regs:Int)(W:World)(hcode:code.At W)(hwords:words.At W)(hz:(checkG (pgOf code words locks regs)).code≠0):
    Rets Try.prog 21 [.agg #[code.v,words.v, .int .i64 locks, .int .i64 regs]] W (fun v w' =>v= .tuple #[.slice none 0 0,(checkG (pgOf code words locks regs)).val]∧Sh0 W w' []):=by
 refine gen Try.func21 Try.ntmps21 (Sh0.ext2 hcode hwords:Sh (fun _=>False) W W [.at_ code, .at_ words]) rfl fun a10 h10=>gG h10<|sK fun _ k11=>gbx rfl rfl fun b12=>gRn (oM 1 rfl<|.nl)<|gal ti_30 rfl fun b13=>nK k11<|gK fun _ k14=>sK fun _ k15=>gRn (olw 1 ti_25 rfl rfl<|.nl)<|gC (fun _ _ h_=>xCl h_ bd_27 rfl (asmCheck_c (code:=code) (words:=words) (locks:=locks) (regs:=regs) (h_.sh.at 2 rfl) (h_.sh.at 3 rfl))) rfl<|?_;clear h10
 rintro _ _ w16 ⟨rfl,hs16⟩
 refine gWk hs16 rfl<|gU<|gal ti_30 rfl fun b17=>gsw 0 ti_30 rfl rfl rfl<|nK k15<|sG (ofB fl_30_0 rfl<|olB 0 ti_28 rfl rfl<|oneI _ _ rfl<|.nl)<|gcT rfl (decide_eq_true hz)<|gK fun _ k20=>rT 2 [] (olw 0 ti_30 rfl rfl<|oM 1 rfl<|.nl)<|gsw 1 ti_30 rfl rfl rfl<|nK k20<|gR<|uT<|fun a22 w22 h22=> ?_;clear hs16
 refine x_rettc (fn:=Try.f21) (t:=3) (u:=2) (i:=1) ti_30 rfl h22 rfl rfl rfl rfl ?_
 exact ⟨rfl,(h22.sh.sel [] rfl)⟩
theorem osafe_k (code:Ls (Ls Ins))(words:Ls Int)(locks regs:Int)(W:World)(hcode:code.At W)(hwords:words.At W)(hok:OkPg (pgOf code words locks regs)):
    Rets Try.prog 17 [.agg #[code.v,words.v, .int .i64 locks, .int .i64 regs]] W (fun v w' =>∃b:Bool,v= .tuple #[.bool b, .agg #[.int .i64 0, .int .i64 0, .int .i64 0]]∧(b=true↔SafeP code.l)∧Sh0 W w' []):=by
 have hz:=checkG_ok hok
 obtain ⟨hl1,hl2,hl3,hl4',hl5,hl6,hl7⟩:=ok_len hok
 refine gen Try.func17 Try.ntmps17 (Sh0.ext2 hcode hwords:Sh (fun _=>False) W W [.at_ code, .at_ words]) rfl fun a10 h10=>gG h10<|sK fun _ k11=>gbx rfl rfl fun b12=>gRn (oM 1 rfl<|.nl)<|gal ti_30 rfl fun b13=>nK k11<|gK fun _ k14=>sK fun _ k15=>gRn (olw 1 ti_25 rfl rfl<|.nl)<|fun a17 w17 h17=>wl_ex (x_call h17 bd_27 rfl rfl rfl rfl rfl (asmCheck_c (code:=code) (words:=words) (locks:=locks) (regs:=regs) (h17.sh.at 2 rfl) (h17.sh.at 3 rfl))) (wanted_none rfl _) ?_;clear h10
 rintro a18 w18 ⟨_,⟨rfl,hs18⟩,hf18⟩
 have h18:St 103 (fun _=>False) W a18 w18 _ _:=⟨hf18,h17.sh.call0 hs18⟩
 clear hf18 hs18
 clear h17
 refine gG h18<|gal ti_30 rfl fun b19=>gsw 0 ti_30 rfl rfl rfl<|nK k15<|sG (ofB fl_30_0 rfl<|olB 0 ti_28 rfl rfl<|oneI _ _ rfl<|.nl)<|gcF rfl (by rw [hz];rfl)<|gS<|hK k14<|gK fun _ k22=>sK fun _ k23=>gNl (aA 3 rfl) fun hl24=>gRn (ofB fl_25_0 rfl<|olB 2 ti_22 rfl rfl<|oln sl_22 (aA 3 rfl) rfl<|oM 1 rfl<|.nl)<|nK k23<|gB<|fun a26 w26 h26=>x_loop (fun m a w=>∃(t:Nat),(t≤code.l.length)∧(∀u,u<t→∀k,k<4→¬HeldI (nth code.l u).l k (nth code.l u).l.length)∧St 103 (fun _=>False) W a w [(1, .pointer (some ⟨b12,0,none⟩)),(3, .pointer (some ⟨b13,0,none⟩)),(23,code.v),(24, .int .i64 ((code.l.length:Nat):Int)),(25, .int .i64 ((t:Nat):Int))] [.blk b19 30 [.int .i64 ((checkG (pgOf code words locks regs)).code), .int .i64 ((checkG (pgOf code words locks regs)).thread), .int .i64 ((checkG (pgOf code words locks regs)).at_)], .blk b13 30 [.int .i64 0, .int .i64 0, .int .i64 0], .blk b12 25 [code.v,words.v, .int .i64 locks, .int .i64 regs], .at_ code, .at_ words]∧m=code.l.length-t) ⟨_,0,(by omega),(fun u hu=>absurd hu (by omega)),h26.nf ⟨rfl,rfl,rfl,rfl,rfl,trivial⟩,rfl⟩ ?_;clear h18
 clear h26
 rintro m25 a25 w25 ⟨t,ht,hno,h25,hm25⟩
 refine gG h25<|sG (oltN _ _ rfl<|.nl)<|gK fun _ k28=>gcd rfl (fun hb29 hp29=> ?_) fun hb29 hp29=> ?_;clear h25
 ·skip
  refine gS<|hK k28<|gK fun _ k30=>gB<|sG (oxN sl_22 ti_45 (aA 3 rfl) _ om9 rfl<|olE ((nth code.l t).v) ti_45 (aA 3 rfl) om9 rfl<|oM 1 rfl<|.nl)<|?_
  obtain ⟨hl4,hjt⟩:=ok_thread hok t (by omega)
  refine sK fun _ k32=>gRn (oM 1 rfl<|.nl)<|fun a34 w34 h34=>wl_ex (x_call h34 bd_42 rfl rfl rfl rfl rfl (held_c (nth code.l t) _ ((h34.sh.at 3 rfl).nth t (show t<code.l.length from (by omega))) (codeC_of hok (by omega)) (lockC_of hok (by omega)) (by omega))) (wanted_none rfl _) ?_
  rintro a35 w35 ⟨_,⟨s35,g35,rfl,hsl35,hsv35,hs35⟩,hf35⟩
  have h35:=(⟨hf35,h34.sh.call hs35 (by intro A hA b hb;first|(simp at hA;done)|(simp at hA;subst hA;first|exact Flat.noRd hb|exact barr_noRd hb|exact (hb:False).elim))⟩:St 103 (fun _=>False) W a35 w35 _ _)
  clear hf35 hs35
  clear h34
  refine gG h35<|gRn (oM 1 rfl<|oxt rfl<|oxt rfl<|oM 2 rfl<|.nl)<|nK k32<|sK fun _ k36=>gNl (fun w h=>((h.at 4 rfl).nth t (show t<code.l.length from (by omega)))) fun (hl37:((nth code.l t).l).length≤140737488355328)=>gRn (oM 2 rfl<|oln (n:=((nth code.l t).l).length) sl_45 (fun w h=>((h.at 4 rfl).nth t (show t<code.l.length from (by omega)))) rfl<|.nl)<|?_;clear h35
  have hsl9:=hsl35;have hsv9:=hsv35 (nth code.l t).l.length (Nat.le_refl _);have hs4:=hsv9.1
  refine gNl (aO 0 rfl) fun hl38=>gRn (oxN sl_85 ti_89 (aO 0 rfl) _ om9 rfl<|oV (r_ldewAr (n:=0) (i:=((nth code.l t).l).length) (s:=s35) ti_89 rfl rfl (fun w h=>(h.own 0 rfl)) (show ((nth code.l t).l).length<s35.l.length from om9)) rfl<|oV (r_build (cs:= [.bool false, .bool false, .bool false, .bool false]) rfl rfl (by kernel_rfl)) rfl<|oV (r_neqAr (l:=((nth s35.l (((nth code.l t).l).length)).l)) (m:=([false,false,false,false])) ar_89 ti_4 Try.underlying4 (by kernel_rfl) rfl rfl rfl (by first|assumption|(simp only [lens9];done)|(simp only [lens9];first|assumption|omega)|rfl) (by first|assumption|(simp only [lens9];done)|(simp only [lens9];first|assumption|omega)|rfl)) rfl<|.nl)<|nK k36<|gcd rfl (fun hb39 hp39=> ?_) fun hb39 hp39=> ?_
  ·skip
   refine sK fun _ k40=>gRn (oV (r_build (cs:= [.int .i64 0, .int .i64 0, .int .i64 0]) rfl rfl (by kernel_rfl)) rfl<|oM 1 rfl<|.nl)<|gsw 2 ti_30 rfl rfl rfl<|nK k40<|gF [2,3] rfl<|gR<|uB<|uT<|uT<|uB<|uT<|fun a42 w42 h42=>x_rettc (fn:=Try.f17) (t:=3) (u:=2) (i:=2) ti_30 rfl h42 rfl rfl rfl rfl<|⟨false,rfl,⟨fun h9=>Bool.noConfusion h9,fun h9=> ?_⟩,(h42.sh.sel [] rfl)⟩
   first|exact absurd ((hm2.diag (by omega) (by omega) (by omega)).1 (by assumption)) (h9.2 d (by omega))|(obtain ⟨k9,hk9,h8⟩:=last_yes hs4 (by assumption);exact absurd ((hsv9.2 k9 hk9).1 h8) (h9.1 t (by omega) k9 hk9))
  refine gS<|hK k30<|gL<|gRn (oadN _ 1 om9 rfl<|oM 1 rfl<|.nl)<|nN<|fun a43 w43 h43=>x_again ⟨_, ?_,t+1, ?_, ?_,h43.nrm ⟨rfl,rfl,rfl,rfl,rfl,trivial⟩ [1,2,3,4,5] rfl,rfl⟩
  · rw [hm25];first|omega|(simp only [lens9];omega)
  · omega
  · exact no_step (A:=fun u=>∀k,k<4→¬HeldI (nth code.l u).l k (nth code.l u).l.length) hno fun k hk h9=>by have h8:=(hsv9.2 k hk).2 h9;rw [last_no (Classical.byContradiction fun h7=>absurd h7 (by assumption)) hk] at h8;cases h8
 refine gX<|hK k22<|sK fun _ k44=>gE1 (fun _ _ h_=>x_allocAr (k:=16) h_ ti_90 (by kernel_rfl) rfl rfl rfl) rfl fun b45=>nK k44<|gK fun _ k46=>sK fun _ k47=>gRn (olw 3 ti_25 rfl rfl<|.nl)<|fun a49 w49 h49=>wl_ex (x_call h49 bd_43 rfl rfl rfl rfl rfl (edges_c code words locks regs _ (h49.sh.at 4 rfl) (h49.sh.at 5 rfl) hok)) (wanted_none rfl _) ?_
 rintro a50 w50 ⟨_,⟨u50,rfl,huo50,hum50,hs50⟩,hf50⟩
 have h50:=(⟨hf50,h49.sh.call hs50 (by intro A hA b hb;first|(simp at hA;done)|(simp at hA;subst hA;first|exact Flat.noRd hb|exact barr_noRd hb|exact (hb:False).elim))⟩:St 103 (fun _=>False) W a50 w50 _ _)
 clear hf50 hs50
 clear h49
 refine gG h50<|gNl (aO 0 rfl) fun hl51=>gRn (oln sl_54 (aO 0 rfl) rfl<|oM 1 rfl<|.nl)<|nK k47<|gB<|fun a53 w53 h53=>x_loop (fun m a w=>∃(q:Nat) (T:List Bool),(q≤u50.l.length)∧(MatE u50.l q T)∧St 103 (fun _=>False) W a w [(3, .pointer (some ⟨b13,0,none⟩)),(9, .pointer (some ⟨b45,0,none⟩)),(44,u50.v),(45, .int .i64 ((u50.l.length:Nat):Int)),(46, .int .i64 ((q:Nat):Int))] [.own 57 u50, .blk b45 90 (T.map Value.bool), .blk b19 30 [.int .i64 ((checkG (pgOf code words locks regs)).code), .int .i64 ((checkG (pgOf code words locks regs)).thread), .int .i64 ((checkG (pgOf code words locks regs)).at_)], .blk b13 30 [.int .i64 0, .int .i64 0, .int .i64 0], .blk b12 25 [code.v,words.v, .int .i64 locks, .int .i64 regs], .at_ code, .at_ words]∧m=u50.l.length-q) ⟨_,0,List.replicate 16 false,(by omega),(MatE.zero),h53.nf ⟨rfl,rfl,rfl,rfl,rfl,trivial⟩,rfl⟩ ?_;clear h50
 clear h53
 rintro m52 a52 w52 ⟨q,T,hq,hmE,h52,hm52⟩
 have hT:=hmE.1
 refine gG h52<|sG (oltN _ _ rfl<|.nl)<|gK fun _ k55=>gcd rfl (fun hb56 hp56=> ?_) fun hb56 hp56=> ?_;clear h52
 ·skip
  refine gS<|hK k55<|gK fun _ k57=>gB<|sK fun _ k58=>gRn (oxN sl_54 ti_57 (aO 0 rfl) _ om9 rfl<|olw2 [.int .i64 ((nth u50.l q).a), .int .i64 ((nth u50.l q).b)] ti_57 (aO 0 rfl) om9 rfl<|.nl)<|gal ti_57 rfl fun b59=>gsw 0 ti_57 rfl rfl rfl<|nK k58<|?_
  have hin:=edges_in hok ((hum50 _).1 (nth_mem u50.l q (by omega)))
  refine rT 6 [] (oV (r_ixAr (q:=0) ar_57 ti_3 rfl rfl rfl rfl (show 0<2 from by decide)) rfl<|olB 0 ti_3 rfl rfl<|oV (r_ixAr (q:=1) ar_57 ti_3 rfl rfl rfl rfl (show 1<2 from by decide)) rfl<|olB 0 ti_3 rfl rfl<|oV (r_ixAr4I (q:=(nth u50.l q).a) ar_90 ti_89 rfl rfl rfl (show 0≤(nth u50.l q).a∧(nth u50.l q).a<4 from om9)) rfl<|oV (r_ixAr1I (q:=(nth u50.l q).b) ar_89 ti_4 rfl rfl rfl (show 0≤(nth u50.l q).b∧(nth u50.l q).b<4 from om9)) rfl<|.nl)<|gE (fun _ _ h_=>x_stAr (i:=2) (l:=T) (b:=true) h_ ti_4 rfl rfl rfl rfl rfl (show (((nth u50.l q).a).toNat)*4+((nth u50.l q).b).toNat<T.length from om9)) rfl<|nK k57<|gL<|gRn (oadN _ 1 om9 rfl<|oM 1 rfl<|.nl)<|nN<|fun a62 w62 h62=>x_again ⟨_, ?_,(q+1),T.set ((((nth u50.l q).a).toNat)*4+((nth u50.l q).b).toNat) true, ?_, ?_,h62.nrm ⟨rfl,rfl,rfl,rfl,rfl,trivial⟩ [1,2,3,4,5,6,7] rfl,rfl⟩
  · rw [hm52];first|omega|(simp only [lens9];omega)
  · omega
  · exact hmE.step hin
 refine gX<|hK k46<|gK fun _ k63=>sG (oM 1 rfl<|.nl)<|gB<|fun a66 w66 h66=>x_loop (fun m a w=>∃(k:Nat) (T2:List Bool),(k≤4)∧(MatW (fun a b:Nat=>EdgesT code.l code.l.length ⟨(a:Int),(b:Int)⟩) k 0 0 T2)∧St 103 (fun _=>False) W a w [(3, .pointer (some ⟨b13,0,none⟩)),(9, .pointer (some ⟨b45,0,none⟩)),(57, .int .i64 ((k:Nat):Int))] [.own 57 u50, .blk b45 90 (T2.map Value.bool), .blk b19 30 [.int .i64 ((checkG (pgOf code words locks regs)).code), .int .i64 ((checkG (pgOf code words locks regs)).thread), .int .i64 ((checkG (pgOf code words locks regs)).at_)], .blk b13 30 [.int .i64 0, .int .i64 0, .int .i64 0], .blk b12 25 [code.v,words.v, .int .i64 locks, .int .i64 regs], .at_ code, .at_ words]∧m=4-k) ⟨_,0,T,(by omega),(MatW.start hmE.1 (hmE.done (by omega) (by omega) hum50)),h66.nf ⟨rfl,rfl,rfl,trivial⟩,rfl⟩ ?_
 clear h66
 rintro m65 a65 w65 ⟨k,T2,hk,hm2,h65,hm65⟩
 refine gG h65<|sG (oltN _ 4 rfl<|.nl)<|gK fun _ k68=>gcd rfl (fun hb69 hp69=> ?_) fun hb69 hp69=> ?_;clear h65
 ·skip
  refine gS<|hK k68<|gK fun _ k70=>gB<|sG (oM 2 rfl<|.nl)<|sG (oM 1 rfl<|.nl)<|gB<|fun a74 w74 h74=>x_loop (fun m a w=>∃(i:Nat) (T3:List Bool),(i≤4)∧(MatW (fun a b:Nat=>EdgesT code.l code.l.length ⟨(a:Int),(b:Int)⟩) k i 0 T3)∧St 103 (fun _=>False) W a w [(3, .pointer (some ⟨b13,0,none⟩)),(9, .pointer (some ⟨b45,0,none⟩)),(12, .int .i64 ((k:Nat):Int)),(57, .int .i64 ((k:Nat):Int)),(60, .int .i64 ((i:Nat):Int))] [.own 57 u50, .blk b45 90 (T3.map Value.bool), .blk b19 30 [.int .i64 ((checkG (pgOf code words locks regs)).code), .int .i64 ((checkG (pgOf code words locks regs)).thread), .int .i64 ((checkG (pgOf code words locks regs)).at_)], .blk b13 30 [.int .i64 0, .int .i64 0, .int .i64 0], .blk b12 25 [code.v,words.v, .int .i64 locks, .int .i64 regs], .at_ code, .at_ words]∧m=4-i) ⟨_,0,T2,(by omega),(hm2),h74.nf ⟨rfl,rfl,rfl,rfl,rfl,trivial⟩,rfl⟩ ?_
  clear h74
  rintro m73 a73 w73 ⟨i,T3,hi,hm3,h73,hm73⟩
  refine gG h73<|sG (oltN _ 4 rfl<|.nl)<|gK fun _ k76=>gcd rfl (fun hb77 hp77=> ?_) fun hb77 hp77=> ?_;clear h73
  ·skip
   refine gS<|hK k76<|gK fun _ k78=>gB<|sG (oM 2 rfl<|.nl)<|sG (oM 1 rfl<|.nl)<|gB<|fun a82 w82 h82=>x_loop (fun m a w=>∃(j:Nat) (T4:List Bool),(j≤4)∧(MatW (fun a b:Nat=>EdgesT code.l code.l.length ⟨(a:Int),(b:Int)⟩) k i j T4)∧St 103 (fun _=>False) W a w [(3, .pointer (some ⟨b13,0,none⟩)),(9, .pointer (some ⟨b45,0,none⟩)),(12, .int .i64 ((k:Nat):Int)),(13, .int .i64 ((i:Nat):Int)),(57, .int .i64 ((k:Nat):Int)),(60, .int .i64 ((i:Nat):Int)),(63, .int .i64 ((j:Nat):Int))] [.own 57 u50, .blk b45 90 (T4.map Value.bool), .blk b19 30 [.int .i64 ((checkG (pgOf code words locks regs)).code), .int .i64 ((checkG (pgOf code words locks regs)).thread), .int .i64 ((checkG (pgOf code words locks regs)).at_)], .blk b13 30 [.int .i64 0, .int .i64 0, .int .i64 0], .blk b12 25 [code.v,words.v, .int .i64 locks, .int .i64 regs], .at_ code, .at_ words]∧m=4-j) ⟨_,0,T3,(by omega),(hm3),h82.nf ⟨rfl,rfl,rfl,rfl,rfl,rfl,rfl,trivial⟩,rfl⟩ ?_
   clear h82
   rintro m81 a81 w81 ⟨j,T4,hj,hm4,h81,hm81⟩
   have hT4:=hm4.1
   refine gG h81<|sG (oltN _ 4 rfl<|.nl)<|gK fun _ k84=>gcd rfl (fun hb85 hp85=> ?_) fun hb85 hp85=> ?_;clear h81
   ·skip
    refine gS<|hK k84<|gK fun _ k86=>gB<|sG (oM 2 rfl<|.nl)<|fun a88 w88 h88=>x_tail 23 [] (by kernel_rfl) (by kernel_rfl) h88 fun _ z89=>qQ h88.fr<|qRn (oM 4 rfl<|oV (r_ixAr4 (q:=i) ar_90 ti_89 rfl rfl rfl (show i<4 from om9)) rfl<|oV (r_ixAr1 (q:=j) ar_89 ti_4 rfl rfl rfl (show j<4 from om9)) rfl<|oV (r_ldAr (i:=1) (l:=T4) ti_4 rfl rfl rfl (show i*4+j<T4.length from om9)) rfl<|oM 1 rfl<|.nl)<|?_
    rcases Bool.eq_false_or_eq_true (nth T4 (i*4+j)) with hb90|hb90
    ·skip
     refine qRn (oKs 6 hb90 rfl rfl<|oK2 rfl<|oK2 rfl<|oK2 rfl<|oK2 rfl<|oK2 rfl<|oK hb90 rfl<|opT hb90 rfl<|oV (r_ixAr4 (q:=i) ar_90 ti_89 rfl rfl rfl (show i<4 from om9)) rfl<|oV (r_ixAr1 (q:=j) ar_89 ti_4 rfl rfl rfl (show j<4 from om9)) rfl<|.nl)<|qN z89<|?_;clear h88
     refine gE (fun _ _ h_=>x_stAr (i:=1) (l:=T4) (b:=true) h_ ti_4 rfl rfl rfl rfl rfl (show i*4+j<T4.length from om9)) rfl<|nK k86<|gF [3,9,12,13,57,60,63] rfl<|gL<|gRn (oadN _ 1 om9 rfl<|oM 1 rfl<|.nl)<|nN<|fun a99 w99 h99=>x_again ⟨_, ?_,(j+1),T4.set (i*4+j) true, ?_, ?_,h99.nf ⟨rfl,rfl,rfl,rfl,rfl,rfl,rfl,trivial⟩,rfl⟩
     · rw [hm81];first|omega|(simp only [lens9];omega)
     · omega
     · exact hm4.step (by omega) (by omega) (by omega) (by first|(rw [(by assumption:nth T4 (i*4+j)=true)];rfl)|(rw [(by assumption:nth T4 (i*4+j)=false),(by assumption:nth T4 (i*4+k)=true)];rfl)|(rw [(by assumption:nth T4 (i*4+j)=false),(by assumption:nth T4 (i*4+k)=false)];rfl))
    refine qRn (oG hb90 (r_move rfl rfl) rfl<|oG hb90 (r_move rfl rfl) rfl<|oG hb90 (r_ixAr4 (q:=i) ar_90 ti_89 rfl rfl rfl (show i<4 from om9)) rfl<|oG hb90 (r_ixAr1 (q:=k) ar_89 ti_4 rfl rfl rfl (show k<4 from om9)) rfl<|oG hb90 (r_ldAr (i:=1) (l:=T4) ti_4 rfl rfl rfl (show i*4+k<T4.length from om9)) rfl<|oG hb90 (r_move rfl rfl) rfl<|.nl)<|?_
    rcases Bool.eq_false_or_eq_true (nth T4 (i*4+k)) with hb106|hb106
    ·skip
     refine qRn (oG hb106 (r_move rfl rfl) rfl<|oG hb106 (r_move rfl rfl) rfl<|oG hb106 (r_ixAr4 (q:=k) ar_90 ti_89 rfl rfl rfl (show k<4 from om9)) rfl<|oG hb106 (r_ixAr1 (q:=j) ar_89 ti_4 rfl rfl rfl (show j<4 from om9)) rfl<|oG hb106 (r_ldAr (i:=1) (l:=T4) ti_4 rfl rfl rfl (show k*4+j<T4.length from om9)) rfl<|oG hb90 (r_pickT rfl rfl hb106 rfl) rfl<|opF hb90 rfl<|oV (r_ixAr4 (q:=i) ar_90 ti_89 rfl rfl rfl (show i<4 from om9)) rfl<|oV (r_ixAr1 (q:=j) ar_89 ti_4 rfl rfl rfl (show j<4 from om9)) rfl<|.nl)<|qN z89<|?_;clear h88
     refine gE (fun _ _ h_=>x_stAr (i:=1) (l:=T4) (b:=(nth T4 (k*4+j))) h_ ti_4 rfl rfl rfl rfl rfl (show i*4+j<T4.length from om9)) rfl<|nK k86<|gF [3,9,12,13,57,60,63] rfl<|gL<|gRn (oadN _ 1 om9 rfl<|oM 1 rfl<|.nl)<|nN<|fun a114 w114 h114=>x_again ⟨_, ?_,(j+1),T4.set (i*4+j) (nth T4 (k*4+j)), ?_, ?_,h114.nf ⟨rfl,rfl,rfl,rfl,rfl,rfl,rfl,trivial⟩,rfl⟩
     · rw [hm81];first|omega|(simp only [lens9];omega)
     · omega
     · exact hm4.step (by omega) (by omega) (by omega) (by first|(rw [(by assumption:nth T4 (i*4+j)=true)];rfl)|(rw [(by assumption:nth T4 (i*4+j)=false),(by assumption:nth T4 (i*4+k)=true)];rfl)|(rw [(by assumption:nth T4 (i*4+j)=false),(by assumption:nth T4 (i*4+k)=false)];rfl))
    refine qRn (oKs 5 hb106 rfl rfl<|oG hb90 (r_pickF rfl rfl hb106 rfl) rfl<|opF hb90 rfl<|oV (r_ixAr4 (q:=i) ar_90 ti_89 rfl rfl rfl (show i<4 from om9)) rfl<|oV (r_ixAr1 (q:=j) ar_89 ti_4 rfl rfl rfl (show j<4 from om9)) rfl<|.nl)<|qN z89<|?_;clear h88
    refine gE (fun _ _ h_=>x_stAr (i:=1) (l:=T4) (b:=false) h_ ti_4 rfl rfl rfl rfl rfl (show i*4+j<T4.length from om9)) rfl<|nK k86<|gF [3,9,12,13,57,60,63] rfl<|gL<|gRn (oadN _ 1 om9 rfl<|oM 1 rfl<|.nl)<|nN<|fun a118 w118 h118=>x_again ⟨_, ?_,(j+1),T4.set (i*4+j) false, ?_, ?_,h118.nf ⟨rfl,rfl,rfl,rfl,rfl,rfl,rfl,trivial⟩,rfl⟩
    · rw [hm81];first|omega|(simp only [lens9];omega)
    · omega
    · exact hm4.step (by omega) (by omega) (by omega) (by first|(rw [(by assumption:nth T4 (i*4+j)=true)];rfl)|(rw [(by assumption:nth T4 (i*4+j)=false),(by assumption:nth T4 (i*4+k)=true)];rfl)|(rw [(by assumption:nth T4 (i*4+j)=false),(by assumption:nth T4 (i*4+k)=false)];rfl))
   refine gX<|hK k78<|gL<|gRn (oadN _ 1 om9 rfl<|oM 1 rfl<|.nl)<|nN<|fun a119 w119 h119=>x_again ⟨_, ?_,(i+1),T4, ?_, ?_,h119.nf ⟨rfl,rfl,rfl,rfl,rfl,trivial⟩,rfl⟩
   · rw [hm73];first|omega|(simp only [lens9];omega)
   · omega
   · exact hm4.row (by omega)
  refine gX<|hK k70<|gL<|gRn (oadN _ 1 om9 rfl<|oM 1 rfl<|.nl)<|nN<|fun a120 w120 h120=>x_again ⟨_, ?_,(k+1),T3, ?_, ?_,h120.nf ⟨rfl,rfl,rfl,trivial⟩,rfl⟩
  · rw [hm65];first|omega|(simp only [lens9];omega)
  · omega
  · exact hm3.all (by omega)
 refine gX<|hK k63<|gK fun _ k121=>sG (oM 1 rfl<|.nl)<|gB<|?_
 have hT5:=hm2.1
 intro a124 w124 h124
 refine x_loop (fun m a w=>∃(d:Nat),(d≤4)∧(∀x,x<d→¬WarP (fun a b:Nat=>EdgesT code.l code.l.length ⟨(a:Int),(b:Int)⟩) 4 x x)∧St 103 (fun _=>False) W a w [(3, .pointer (some ⟨b13,0,none⟩)),(9, .pointer (some ⟨b45,0,none⟩)),(92, .int .i64 ((d:Nat):Int))] [.own 57 u50, .blk b45 90 (T2.map Value.bool), .blk b19 30 [.int .i64 ((checkG (pgOf code words locks regs)).code), .int .i64 ((checkG (pgOf code words locks regs)).thread), .int .i64 ((checkG (pgOf code words locks regs)).at_)], .blk b13 30 [.int .i64 0, .int .i64 0, .int .i64 0], .blk b12 25 [code.v,words.v, .int .i64 locks, .int .i64 regs], .at_ code, .at_ words]∧m=4-d) ⟨_,0,(by omega),(fun x hx=>absurd hx (by omega)),h124.nf ⟨rfl,rfl,rfl,trivial⟩,rfl⟩ ?_
 clear h124
 rintro m123 a123 w123 ⟨d,hd,hdg,h123,hm123⟩
 refine gG h123<|sG (oltN _ 4 rfl<|.nl)<|gK fun _ k126=>gcd rfl (fun hb127 hp127=> ?_) fun hb127 hp127=> ?_;clear h123
 ·skip
  refine gS<|hK k126<|gK fun _ k128=>gB<|sG (oM 2 rfl<|.nl)<|sG (oM 2 rfl<|oV (r_ixAr4 (q:=d) ar_90 ti_89 rfl rfl rfl (show d<4 from om9)) rfl<|oV (r_ixAr1 (q:=d) ar_89 ti_4 rfl rfl rfl (show d<4 from om9)) rfl<|oV (r_ldAr (i:=1) (l:=T2) ti_4 rfl rfl rfl (show d*4+d<T2.length from om9)) rfl<|.nl)<|gCb rfl (fun hb131=> ?_) fun hb131=> ?_
  ·skip
   refine sK fun _ k132=>gRn (oV (r_build (cs:= [.int .i64 0, .int .i64 0, .int .i64 0]) rfl rfl (by kernel_rfl)) rfl<|oM 1 rfl<|.nl)<|gsw 3 ti_30 rfl rfl rfl<|nK k132<|gR<|uB<|uT<|uT<|uB<|uT<|fun a134 w134 h134=>x_rettc (fn:=Try.f17) (t:=3) (u:=2) (i:=3) ti_30 rfl h134 rfl rfl rfl rfl<|⟨false,rfl,⟨fun h9=>Bool.noConfusion h9,fun h9=> ?_⟩,(h134.sh.sel [] rfl)⟩
   first|exact absurd ((hm2.diag (by omega) (by omega) (by omega)).1 (by assumption)) (h9.2 d (by omega))|(obtain ⟨k9,hk9,h8⟩:=last_yes hs4 (by assumption);exact absurd ((hsv9.2 k9 hk9).1 h8) (h9.1 t (by omega) k9 hk9))
  refine gS<|hK k128<|gL<|gRn (oadN _ 1 om9 rfl<|oM 1 rfl<|.nl)<|nN<|fun a135 w135 h135=>x_again ⟨_, ?_,d+1, ?_, ?_,h135.nf ⟨rfl,rfl,rfl,trivial⟩,rfl⟩
  · rw [hm123];first|omega|(simp only [lens9];omega)
  · omega
  · exact no_step (A:=fun x=>¬WarP (fun a b:Nat=>EdgesT code.l code.l.length ⟨(a:Int),(b:Int)⟩) 4 x x) hdg fun h9=>by have h8:=(hm2.diag (by omega) (by omega) (by omega)).2 h9;rw [(by assumption:nth T2 (d*4+d)=false)] at h8;cases h8
 refine gX<|hK k121<|sK fun _ k136=>gRn (oV (r_build (cs:= [.int .i64 0, .int .i64 0, .int .i64 0]) rfl rfl (by kernel_rfl)) rfl<|oM 1 rfl<|.nl)<|gsw 3 ti_30 rfl rfl rfl<|nK k136<|gR<|fun a138 w138 h138=>x_rettc (fn:=Try.f17) (t:=3) (u:=2) (i:=3) ti_30 rfl h138 rfl rfl rfl rfl ?_
 exact ⟨true,rfl,⟨fun _=>⟨fun u hu=>hno u (by omega),fun a ha=>hdg a (by omega)⟩,fun _=>rfl⟩,(h138.sh.sel [] rfl)⟩
theorem osafe_b (code:Ls (Ls Ins))(words:Ls Int)(locks regs:Int)(W:World)(hcode:code.At W)(hwords:words.At W)(hz:(checkG (pgOf code words locks regs)).code≠0):
    Rets Try.prog 17 [.agg #[code.v,words.v, .int .i64 locks, .int .i64 regs]] W (fun v w' =>v= .tuple #[.bool false,(checkG (pgOf code words locks regs)).val]∧Sh0 W w' []):=by
 refine gen Try.func17 Try.ntmps17 (Sh0.ext2 hcode hwords:Sh (fun _=>False) W W [.at_ code, .at_ words]) rfl fun a10 h10=>gG h10<|sK fun _ k11=>gbx rfl rfl fun b12=>gRn (oM 1 rfl<|.nl)<|gal ti_30 rfl fun b13=>nK k11<|gK fun _ k14=>sK fun _ k15=>gRn (olw 1 ti_25 rfl rfl<|.nl)<|gC (fun _ _ h_=>xCl h_ bd_27 rfl (asmCheck_c (code:=code) (words:=words) (locks:=locks) (regs:=regs) (h_.sh.at 2 rfl) (h_.sh.at 3 rfl))) rfl<|?_;clear h10
 rintro _ _ w16 ⟨rfl,hs16⟩
 refine gWk hs16 rfl<|gU<|gal ti_30 rfl fun b17=>gsw 0 ti_30 rfl rfl rfl<|nK k15<|sG (ofB fl_30_0 rfl<|olB 0 ti_28 rfl rfl<|oneI _ _ rfl<|.nl)<|gcT rfl (decide_eq_true hz)<|gK fun _ k20=>rT 2 [] (olw 0 ti_30 rfl rfl<|oM 1 rfl<|.nl)<|gsw 1 ti_30 rfl rfl rfl<|nK k20<|gR<|uT<|fun a22 w22 h22=> ?_;clear hs16
 refine x_rettc (fn:=Try.f17) (t:=3) (u:=2) (i:=1) ti_30 rfl h22 rfl rfl rfl rfl ?_
 exact ⟨rfl,(h22.sh.sel [] rfl)⟩
theorem HeldI.lock {c:List Ins}{k i:Nat}(h:HeldI c k i):∃j,j<c.length∧(nth c j).op=17∧(nth c j).a=(k:Int):=by
 induction h with
 |take i y _ h2 _ h4 h5=>exact ⟨i,h2,h4,h5⟩
 |keep i y _ _ _ _ ih=>exact ih
theorem edges_lt {code:Ls (Ls Ins)}{words:Ls Int}{locks regs:Int}(h:OkPg (pgOf code words locks regs)){e:P2}(he:EdgesT code.l code.l.length e):(0≤e.a∧e.a<locks)∧0≤e.b∧e.b<locks:=by
 obtain ⟨t,ht,i,hi,hop,hb,k,hk,ha,hh⟩:=he
 obtain ⟨j,hj,h1,h2⟩:=hh.lock
 have h3:=lock_a (insO_of h ht hi) (.inl hop)
 have h4:=lock_a (insO_of h ht hj) (.inl h1)
 have h5:(pgOf code words locks regs).locks=locks:=rfl
 rw [h5] at h3 h4
 rw [ha,hb]
 omega
theorem war_le {E:Nat→Nat→Prop}{a b:Nat}(h:E a b):∀k,WarP E k a b
 |0=>h
 |k+1=> .inl (war_le h k)
theorem neq_flt (f g:Flt)(w:World):(binOp .neq 30 f.val g.val).run Try.prog w= .ok (.bool (decide (f≠g))) w:=by
 obtain ⟨a,b,c⟩:=f
 obtain ⟨a',b',c'⟩:=g
 simp [binOp,Flt.val,Op.equal,Op.maxDepth,go_sem]
 by_cases h1:a=a' <;>by_cases h2:b=b' <;>by_cases h3:c=c' <;>simp [h1,h2,h3]
theorem neq_fltG (x y:Operand)(f g:Flt)(w:World):(eqGuard .neq 30 x y f.val g.val).run Try.prog w= .ok () w:=by
 simp [eqGuard,Flt.val]
 try kernel_rfl
theorem r_neqS {P:Program}{o:Oper}{N:Nat}{K:Nat→Prop}{W:World}{F:List (Nat×Value)}{L:List Asn}{T U:TypeId}{x y:Operand}{u v:Value}{b:Bool}(ho:o.op= .binOp .neq T x y U)(hx:ev F x=some u)(hy:ev F y=some v)(hg:∀w,(eqGuard .neq T x y u v).run P w= .ok () w)(hb:∀w,(binOp .neq T u v).run P w= .ok (.bool b) w):Rn P o N K W F L (.bool b):=fun a w h=>by
 unfold execOp
 simp only [ho,h.fr.ev hx,h.fr.ev hy,Sem.run_bind,Sem.run_pure,Result.andThen_ok,hg,hb]
theorem sum_setN {α:Type}[Inhabited α]{f:α→Nat} :∀ {M:List α} {k:Nat} {x:α},k<M.length→((M.set k x).map f).sum+f (nth M k)=(M.map f).sum+f x
 | [],_,_,h=>absurd h (Nat.not_lt_zero _)
 |y::M,0,x,_=>by
  show ((x::M).map f).sum+f y=((y::M).map f).sum+f x
  simp only [List.map_cons,List.sum_cons];omega
 |y::M,k+1,x,h=>by
  have ih:=sum_setN (f:=f) (M:=M) (k:=k) (x:=x) (by simpa using h)
  show ((y::M.set k x).map f).sum+f (nth M k)=((y::M).map f).sum+f x
  simp only [List.map_cons,List.sum_cons];omega
def cntM (M:List (Ls Bool)):Nat:=(M.map fun x=>x.l.count false).sum
def putM (M:List (Ls Bool))(i k:Nat):List (Ls Bool):=M.set i ⟨(nth M i).v,(nth M i).l.set k true⟩
theorem putM_len (M:List (Ls Bool))(i k:Nat):(putM M i k).length=M.length:=List.length_set
theorem putM_row {M:List (Ls Bool)}{i k a:Nat}(hi:i<M.length):(nth (putM M i k) a).l=if a=i then (nth M i).l.set k true else (nth M a).l:=by
 unfold putM
 rw [nth_set1]
 by_cases e:a=i
 ·rw [if_pos ⟨e.symm,hi⟩,if_pos e]
 ·rw [if_neg (fun h=>e h.1.symm),if_neg e]
theorem putM_w {M:List (Ls Bool)}{i k a:Nat}(hi:i<M.length):(nth (putM M i k) a).l.length=(nth M a).l.length:=by
 rw [putM_row hi]
 split
 ·rename_i e;rw [List.length_set,e]
 ·rfl
theorem putM_nth {M:List (Ls Bool)}{i k a b:Nat}(hi:i<M.length)(hk:k<(nth M i).l.length):nth (nth (putM M i k) a).l b=if a=i∧b=k then true else nth (nth M a).l b:=by
 rw [putM_row hi]
 by_cases e:a=i
 ·subst e
  rw [if_pos rfl,nth_setB _ _ _ _ hk]
  by_cases e2:b=k
  ·rw [if_pos e2,if_pos ⟨rfl,e2⟩]
  ·rw [if_neg e2,if_neg (fun h=>e2 h.2)]
 ·rw [if_neg e,if_neg (fun h=>e h.1)]
theorem putM_keep {M:List (Ls Bool)}{i k a b:Nat}(hi:i<M.length)(hk:k<(nth M i).l.length)(h:nth (nth M a).l b=true):nth (nth (putM M i k) a).l b=true:=by
 rw [putM_nth hi hk];split;rfl;exact h
theorem cntM_put {M:List (Ls Bool)}{i k:Nat}(hi:i<M.length)(hk:k<(nth M i).l.length)(h:nth (nth M i).l k=false):cntM (putM M i k)+1=cntM M:=by
 have h1:=sum_setN (f:=fun x:Ls Bool=>x.l.count false) (x:=⟨(nth M i).v,(nth M i).l.set k true⟩) hi
 have h2:=cntB_set false (nth M i).l k hk h
 simp only [Bool.not_false] at h1 h2
 unfold cntM putM
 omega
structure HlB (code:List Ins)(L:Nat)(M:List (Ls Bool)):Prop where
 len:M.length=code.length+1
 w:∀i,i<code.length+1→(nth M i).l.length=L
 sound:∀i,i<code.length+1→∀k,k<L→nth (nth M i).l k=true→HeldI code k i
def HlK (code:List Ins)(M:List (Ls Bool))(a k:Nat):Prop:=outB (nth code a) k (nth (nth M a).l k)=true→∀y∈nextsL code a,nth (nth M y.toNat).l k=true
def HlC (code:List Ins)(L:Nat)(M:List (Ls Bool))(a:Nat):Prop:=RchC code a→∀k,k<L→HlK code M a k
def HlJ (code:List Ins)(M:List (Ls Bool))(a k j:Nat):Prop:=outB (nth code a) k (nth (nth M a).l k)=true→∀q,q<j→nth (nth M (nth (nextsL code a) q).toNat).l k=true
def HlR (code:List Ins)(L:Nat)(M1 M:List (Ls Bool))(g:Bool)(a k:Nat):Prop:=g=false→M=M1∧(∀i,i<a→HlC code L M1 i)∧∀k',k' <k→HlK code M1 a k'
def HlQ (code:List Ins)(L:Nat)(M1 M3 M:List (Ls Bool))(g:Bool)(a k j:Nat):Prop:=g=false→M=M3∧M3=M1∧(∀i,i<a→HlC code L M1 i)∧(∀k',k' <k→HlK code M1 a k')∧HlJ code M1 a k j
section
variable {code:List Ins}{M M1 M3:List (Ls Bool)}{L a k j n:Nat}{g:Bool}
theorem HlB.start (h1:M.length=code.length+1)(h2:∀i,i<code.length+1→(nth M i).l=List.replicate L false):HlB code L M:=by
 refine ⟨h1,fun i hi=>by rw [h2 i hi];simp,fun i hi k hk h=> ?_⟩
 rw [h2 i hi] at h
 have:nth (List.replicate L false) k=false:=by simp [nth,List.getD,List.getElem?_replicate,hk]
 rw [this] at h;cases h
theorem HlB.put (hc:CodeC code)(h:HlB code L M)(ha:a<code.length)(hr:RchC code a)(hj:j<(nextsL code a).length)(hk:k<L)(hh:nth (nth M a).l k=true→HeldI code k a)
  {b:Bool} (hb:b=true→HeldI code k a) (ho:outB (nth code a) k b=true):HlB code L (putM M (nth (nextsL code a) j).toNat k):=by
 have hm:=nth_mem (nextsL code a) j hj
 have hx:=hc.nx a ha _ hm
 have hl:=h.len
 have hi:(nth (nextsL code a) j).toNat<M.length:=by omega
 have hw:=h.w (nth (nextsL code a) j).toNat (by omega)
 refine ⟨by rw [putM_len];exact hl,fun i hi2=>by rw [putM_w hi];exact h.w i hi2,fun i hi2 k2 hk2 h2=> ?_⟩
 rw [putM_nth hi (by omega)] at h2
 by_cases e:i=(nth (nextsL code a) j).toNat∧k2=k
 ·obtain ⟨rfl,rfl⟩:=e
  exact HeldI.out hr ha hm hb ho
 ·rw [if_neg e] at h2
  exact h.sound i hi2 k2 hk2 h2
theorem hl_cnt (hc:CodeC code)(h:HlB code L M)(ha:a<code.length)(hj:j<(nextsL code a).length)(hk:k<L)(hf:nth (nth M (nth (nextsL code a) j).toNat).l k=false){c:Nat}(hn:cntM M+bN g≤c):cntM (putM M (nth (nextsL code a) j).toNat k)+bN true≤c:=by
 have hx:=hc.nx a ha _ (nth_mem (nextsL code a) j hj)
 have hl:=h.len
 have hw:=h.w (nth (nextsL code a) j).toNat (by omega)
 have:=cntM_put (M:=M) (i:=(nth (nextsL code a) j).toNat) (k:=k) (by omega) (by omega) hf
 have e:bN true=1:=rfl
 omega
theorem HlR.start :HlR code L M M false 0 0:=fun _=>⟨rfl,fun i hi=>absurd hi (Nat.not_lt_zero _),fun i hi=>absurd hi (Nat.not_lt_zero _)⟩
theorem HlR.skip (h:HlR code L M1 M g a 0)(hr:¬RchC code a):HlR code L M1 M g (a+1) 0:=fun hg=>by
 obtain ⟨h1,h2,_⟩:=h hg
 exact ⟨h1,no_step (A:=fun i=>HlC code L M1 i) h2 fun h9=>absurd h9 hr,fun i hi=>absurd hi (Nat.not_lt_zero _)⟩
theorem HlR.next (h:HlR code L M1 M g a k)(hk:¬k<L):HlR code L M1 M g (a+1) 0:=fun hg=>by
 obtain ⟨h1,h2,h3⟩:=h hg
 exact ⟨h1,no_step (A:=fun i=>HlC code L M1 i) h2 fun _ k2 hk2=>h3 k2 (by omega),fun i hi=>absurd hi (Nat.not_lt_zero _)⟩
theorem HlR.end_ (h:HlR code L M1 M g a 0)(ha:¬a<code.length)(hg:g=false):∀i,i<code.length→HlC code L M i:=by
 obtain ⟨rfl,h2,_⟩:=h hg
 exact fun i hi=>h2 i (by omega)
theorem HlQ.start (h:HlR code L M1 M g a k):HlQ code L M1 M M g a k 0:=fun hg=>by
 obtain ⟨h1,h2,h3⟩:=h hg
 exact ⟨rfl,h1,h2,h3,fun _ q hq=>absurd hq (Nat.not_lt_zero _)⟩
theorem HlQ.put :HlQ code L M1 M3 M true a k j:=fun h=>by cases h
theorem HlQ.yes (h:HlQ code L M1 M3 M g a k j)(h2:nth (nth M (nth (nextsL code a) j).toNat).l k=true):HlQ code L M1 M3 M g a k (j+1):=fun hg=>by
 obtain ⟨rfl,rfl,h3,h4,h5⟩:=h hg
 exact ⟨rfl,rfl,h3,h4,fun ho=>no_step (A:=fun q=>nth (nth M (nth (nextsL code a) q).toNat).l k=true) (h5 ho) h2⟩
theorem HlQ.no (h:HlQ code L M1 M3 M g a k j){b:Bool}(hb:b=outB (nth code a) k (nth (nth M3 a).l k))(h2:b=false):HlQ code L M1 M3 M g a k (j+1):=fun hg=>by
 obtain ⟨rfl,rfl,h3,h4,h5⟩:=h hg
 refine ⟨rfl,rfl,h3,h4,fun ho=> ?_⟩
 rw [←hb,h2] at ho;cases ho
theorem HlQ.done (h:HlQ code L M1 M3 M g a k j)(hj:¬j<(nextsL code a).length):HlR code L M1 M g a (k+1):=fun hg=>by
 obtain ⟨rfl,rfl,h3,h4,h5⟩:=h hg
 refine ⟨rfl,h3,no_step (A:=fun k' =>HlK code M a k') h4 fun ho y hy=> ?_⟩
 obtain ⟨q,hq,rfl⟩:=List.getElem_of_mem hy
 have:=h5 ho q (by omega)
 rwa [nth_lt _ _ hq] at this
theorem hl_end (hc:CodeC code)(h:HlB code L M)(h2:∀i,i<code.length→HlC code L M i){i:Nat}(hi:i≤code.length)(hk:k<L):nth (nth M i).l k=true↔HeldI code k i:=by
 refine ⟨h.sound i (by omega) k hk,fun hh=> ?_⟩
 induction hh with
 |take i y h3 h4 h5 h6 h7=>exact h2 i h4 h3 k hk (by unfold outB;rw [if_pos ⟨h6,h7⟩]) y h5
 |keep i y h3 h4 h5 h6 ih=>
  refine h2 i h4 h3.rch k hk ?_ y h5
  unfold outB
  by_cases e:(nth code i).op=17∧(nth code i).a=(k:Int)
  ·rw [if_pos e]
  ·rw [if_neg e,if_neg h6];exact ih (by omega)
end
structure MtE (L:Nat)(M:List (Ls Bool))(A:P2→Prop):Prop where
 len:M.length=L
 w:∀a,a<L→(nth M a).l.length=L
 v:∀a b:Nat,a<L→b<L→(nth (nth M a).l b=true↔A ⟨(a:Int),(b:Int)⟩)
section
variable {M:List (Ls Bool)}{L a b:Nat}{A B:P2→Prop}
theorem MtE.start (h1:M.length=L)(h2:∀i,i<L→(nth M i).l=List.replicate L false):MtE L M fun _=>False:=by
 refine ⟨h1,fun a ha=>by rw [h2 a ha];simp,fun a b ha hb=> ?_⟩
 rw [h2 a ha]
 have:nth (List.replicate L false) b=false:=by simp [nth,List.getD,List.getElem?_replicate,hb]
 rw [this];simp
theorem MtE.iff (h:MtE L M A)(h2:∀e,A e↔B e):MtE L M B:=⟨h.len,h.w,fun a b ha hb=>(h.v a b ha hb).trans (h2 _)⟩
theorem MtE.put (h:MtE L M A)(ha:a<L)(hb:b<L):MtE L (putM M a b) fun e=>A e∨e=⟨(a:Int),(b:Int)⟩:=by
 have hl:=h.len
 have hw:=h.w a ha
 refine ⟨by rw [putM_len];exact hl,fun i hi=>by rw [putM_w (by omega)];exact h.w i hi,fun i j hi hj=> ?_⟩
 rw [putM_nth (by omega) (by omega)]
 by_cases e:i=a∧j=b
 ·rw [if_pos e]
  exact ⟨fun _=> .inr (by rw [e.1,e.2]),fun _=>rfl⟩
 ·rw [if_neg e,h.v i j hi hj]
  refine ⟨.inl,fun h9=>h9.elim id fun h8=>absurd ?_ e⟩
  injection h8 with h6 h7
  omega
end
def EdgeR (c:List Ins)(i a:Nat)(e:P2):Prop:=e.b=(nth c i).a∧∃k:Nat,k<a∧e.a=(k:Int)∧HeldI c k i
theorem edgeR_zero {c:List Ins}{i:Nat}{e:P2}{P:Prop} :P∨EdgeR c i 0 e↔P:=⟨fun h=>h.elim id fun ⟨_,k,hk,_⟩=>absurd hk (Nat.not_lt_zero _), .inl⟩
theorem edgeR_yes {c:List Ins}{i a:Nat}{e:P2}{P:Prop}(h:HeldI c a i):(P∨EdgeR c i a e)∨e=⟨(a:Int),(nth c i).a⟩↔P∨EdgeR c i (a+1) e:=by
 constructor
 ·rintro ((h1|⟨h1,k,hk,h2,h3⟩)|rfl)
  ·exact .inl h1
  ·exact .inr ⟨h1,k,by omega,h2,h3⟩
  ·exact .inr ⟨rfl,a,by omega,rfl,h⟩
 ·rintro (h1|⟨h1,k,hk,h2,h3⟩)
  ·exact .inl (.inl h1)
  ·rcases Nat.lt_or_ge k a with h4|h4
   ·exact .inl (.inr ⟨h1,k,h4,h2,h3⟩)
   ·obtain rfl:k=a:=by omega
    obtain ⟨ea,eb⟩:=e
    simp only at h1 h2
    exact .inr (by rw [h1,h2])
theorem edge_put {c:List Ins}{i a:Nat}{e:P2}{P:Prop}(h0:0≤(nth c i).a)(h:HeldI c a i):(P∨EdgeR c i a e)∨e=⟨(a:Int),((nth c i).a.toNat:Int)⟩↔P∨EdgeR c i (a+1) e:=by
 rw [Int.toNat_of_nonneg h0];exact edgeR_yes h
theorem edgeR_no {c:List Ins}{i a:Nat}{e:P2}{P:Prop}(h:¬HeldI c a i):P∨EdgeR c i a e↔P∨EdgeR c i (a+1) e:=by
 constructor
 ·rintro (h1|⟨h1,k,hk,h2,h3⟩)
  ·exact .inl h1
  ·exact .inr ⟨h1,k,by omega,h2,h3⟩
 ·rintro (h1|⟨h1,k,hk,h2,h3⟩)
  ·exact .inl h1
  ·rcases Nat.lt_or_ge k a with h4|h4
   ·exact .inr ⟨h1,k,h4,h2,h3⟩
   ·obtain rfl:k=a:=by omega
    exact absurd h3 h
theorem edgeR_done {c:List Ins}{i a L:Nat}{e:P2}{P:Prop}(hL:∀k i,HeldI c k i→k<L)(hL4:L≤4)(h0:(nth c i).op=17∨a=0)(hx:¬(nth c i).op=17∨¬a<L):(P∨EdgeC c i e)∨EdgeR c i a e↔P∨EdgeC c (i+1) e:=by
 by_cases hop:(nth c i).op=17
 ·rw [edgeC_succ,or_assoc]
  constructor
  ·rintro (h|h|⟨h1,k,hk,h2,h3⟩)
   ·exact .inl h
   ·exact .inr (.inl h)
   ·exact .inr (.inr ⟨hop,h1,k,by have:=hL k i h3;omega,h2,h3⟩)
  ·rintro (h|h|⟨_,h1,k,hk,h2,h3⟩)
   ·exact .inl h
   ·exact .inr (.inl h)
   ·exact .inr (.inr ⟨h1,k,by have:=hL k i h3;omega,h2,h3⟩)
 ·obtain rfl:a=0:=by omega
  rw [edgeR_zero,edgeC_skip hop]
theorem held_lt {code:Ls (Ls Ins)}{words:Ls Int}{locks regs:Int}(h:OkPg (pgOf code words locks regs)){t:Nat}(ht:t<code.l.length){k i:Nat}(hh:HeldI (nth code.l t).l k i):(k:Int)<locks:=by
 obtain ⟨j,hj,h1,h2⟩:=hh.lock
 have h4:=lock_a (insO_of h ht hj) (.inl h1)
 have h5:(pgOf code words locks regs).locks=locks:=rfl
 rw [h5] at h4
 omega
section
variable {E:Nat→Nat→Prop}{L k n i j c a b d:Nat}{M:List (Ls Bool)}
theorem war_trans :∀ {k a b c:Nat},b<k→WarP E k a b→WarP E k b c→WarP E k a c
 |0,a,b,c,hb,_,_=>absurd hb (Nat.not_lt_zero _)
 |k+1,a,b,c,hb,h1,h2=>by
  rcases Nat.lt_or_ge b k with hk|hk
  ·rcases h1 with h1|⟨h1,h1'⟩<;>rcases h2 with h2|⟨h2,h2'⟩
   ·exact .inl (war_trans hk h1 h2)
   ·exact .inr ⟨war_trans hk h1 h2,h2'⟩
   ·exact .inr ⟨h1,war_trans hk h1' h2⟩
   ·exact .inr ⟨h1,h2'⟩
  ·obtain rfl:b=k:=by omega
   have h3:WarP E b a b:=h1.elim id (·.1)
   have h4:WarP E b b c:=h2.elim id (·.2)
   exact .inr ⟨h3,h4⟩
theorem war_dom :∀ {k a b:Nat},WarP E k a b→(∃c,E a c)∧∃c,E c b
 |0,a,b,h=>⟨⟨b,h⟩,⟨a,h⟩⟩
 |k+1,a,b,h=>by
  rcases h with h|⟨h1,h2⟩
  ·exact war_dom h
  ·exact ⟨(war_dom h1).1,(war_dom h2).2⟩
theorem war_down (hE:∀a b,E a b→a<L∧b<L):∀ {k:Nat},L≤k→∀ {a b:Nat},WarP E k a b→WarP E L a b:=by
 intro k hk
 induction hk with
 |refl=>exact fun h=>h
 |step hk ih=>
  rename_i m
  intro a b h
  rcases h with h|⟨h1,h2⟩
  ·exact ih h
  ·obtain ⟨x,hx⟩:=(war_dom h2).1
   have h9:L≤m:=hk
   exact absurd (hE _ _ hx).1 (by omega)
structure ClQ (E:Nat→Nat→Prop)(L n i j c:Nat)(M:List (Ls Bool)):Prop where
 len:M.length=L
 w:∀a,a<L→(nth M a).l.length=L
 lo:∀a b,a<L→b<L→WarP E n a b→nth (nth M a).l b=true
 up:∀a b,a<L→b<L→nth (nth M a).l b=true→WarP E 4 a b
 tr:∀a b d,a<L→b<L→d<L→(a<i∨(a=i∧(b<j∨(b=j∧d<c))))→WarP E n a b→WarP E n b d→nth (nth M a).l d=true
theorem ClQ.start {A:P2→Prop}(h:MtE L M A):ClQ (fun a b:Nat=>A ⟨(a:Int),(b:Int)⟩) L 0 0 0 0 M:=
 ⟨h.len,h.w,fun a b ha hb h9=>(h.v a b ha hb).2 h9,fun a b ha hb h9=>war_le ((h.v a b ha hb).1 h9) 4,fun a b d _ _ _ h9=>by omega⟩
theorem ClQ.yes (h:ClQ E L n i j c M)(hi:i<L)(hj:j<L)(hj4:j<4)(hc:c<L)(h1:nth (nth M i).l j=true)(h2:nth (nth M j).l c=true):ClQ E L n i j (c+1) (putM M i c):=by
 have hl:=h.len
 have hw:=h.w i hi
 have hu:=war_trans hj4 (h.up i j hi hj h1) (h.up j c hj hc h2)
 refine ⟨by rw [putM_len];exact hl,fun a ha=>by rw [putM_w (by omega)];exact h.w a ha,fun a b ha hb h9=>putM_keep (by omega) (by omega) (h.lo a b ha hb h9),fun a b ha hb h9=> ?_,fun a b d ha hb hd h7 h8 h9=> ?_⟩
 ·rw [putM_nth (by omega) (by omega)] at h9
  by_cases e:a=i∧b=c
  ·obtain ⟨rfl,rfl⟩:=e;exact hu
  ·rw [if_neg e] at h9;exact h.up a b ha hb h9
 ·by_cases e:a=i∧d=c
  ·rw [putM_nth (by omega) (by omega),if_pos e]
  ·refine putM_keep (by omega) (by omega) (h.tr a b d ha hb hd ?_ h8 h9)
   omega
theorem ClQ.no (h:ClQ E L n i j c M)(h1:nth (nth M i).l j=false∨nth (nth M j).l c=false):ClQ E L n i j (c+1) M:=by
 refine ⟨h.len,h.w,h.lo,h.up,fun a b d ha hb hd h7 h8 h9=> ?_⟩
 by_cases e:a=i∧b=j∧d=c
 ·obtain ⟨rfl,rfl,rfl⟩:=e
  rcases h1 with h1|h1
  ·rw [h.lo a b ha hb h8] at h1;cases h1
  ·rw [h.lo b d hb hd h9] at h1;cases h1
 ·exact h.tr a b d ha hb hd (by omega) h8 h9
theorem ClQ.rowc (h:ClQ E L n i j c M)(hc:¬c<L):ClQ E L n i (j+1) 0 M:=
 ⟨h.len,h.w,h.lo,h.up,fun a b d ha hb hd h7 h8 h9=>h.tr a b d ha hb hd (by omega) h8 h9⟩
theorem ClQ.rowb (h:ClQ E L n i j 0 M)(hj:¬j<L):ClQ E L n (i+1) 0 0 M:=
 ⟨h.len,h.w,h.lo,h.up,fun a b d ha hb hd h7 h8 h9=>h.tr a b d ha hb hd (by omega) h8 h9⟩
theorem ClQ.rowa (h:ClQ E L n i 0 0 M)(hi:¬i<L)(hn:n<L):ClQ E L (n+1) 0 0 0 M:=
 ⟨h.len,h.w,fun a b ha hb h9=>h9.elim (h.lo a b ha hb) fun h8=>h.tr a n b ha hn hb (by omega) h8.1 h8.2,h.up,fun a b d _ _ _ h9=>by omega⟩
theorem ClQ.end_ (h:ClQ E L n 0 0 0 M)(hn:¬n<L)(hn2:n≤L)(hL4:L≤4)(hE:∀a b,E a b→a<L∧b<L)(ha:a<L):nth (nth M a).l a=true↔WarP E 4 a a:=by
 obtain rfl:n=L:=by omega
 exact ⟨h.up a a ha ha,fun h9=>h.lo a a ha ha (war_down hE hL4 h9)⟩
end
theorem edges_nat {code:Ls (Ls Ins)}{words:Ls Int}{locks regs:Int}(h:OkPg (pgOf code words locks regs)):∀a b:Nat,EdgesT code.l code.l.length ⟨(a:Int),(b:Int)⟩→a<locks.toNat∧b<locks.toNat:=fun a b he=>by
 have h1:=edges_lt h he
 simp only at h1
 omega
theorem safe_of {code:Ls (Ls Ins)}{words:Ls Int}{locks regs:Int}(h:OkPg (pgOf code words locks regs))(hL:locks≤4)(h1:∀u,u<code.l.length→∀k,k<locks.toNat→¬HeldI (nth code.l u).l k (nth code.l u).l.length)(h2:∀a,a<locks.toNat→¬WarP (fun a b:Nat=>EdgesT code.l code.l.length ⟨(a:Int),(b:Int)⟩) 4 a a):SafeP code.l:=by
 refine ⟨fun t ht k hk hh=>h1 t ht k ?_ hh,fun a ha hw=>h2 a ?_ hw⟩
 ·have:=held_lt h ht hh;omega
 ·obtain ⟨x,hx⟩:=(war_dom hw).1
  exact (edges_nat h _ _ hx).1
set_option maxHeartbeats 20000000
structure InsR (R W L:Nat)(i:Ins):Prop where
 o1:i.op=1→0≤i.a∧i.a<R
 o2:i.op=2→(0≤i.a∧i.a<R)∧0≤i.b∧i.b<R
 o3:i.op=3∨i.op=4∨i.op=5∨i.op=6∨i.op=7→(0≤i.a∧i.a<R)∧(0≤i.b∧i.b<R)∧0≤i.c∧i.c<R
 o8:i.op=8→(0≤i.a∧i.a<R)∧0≤i.b∧i.b<W
 o9:i.op=9→(0≤i.a∧i.a<W)∧0≤i.b∧i.b<R
 o10:i.op=10∨i.op=11→(0≤i.a∧i.a<R)∧0≤i.b∧i.b<R
 o13:i.op=13→(0≤i.a∧i.a<W)∧(0≤i.b∧i.b<R)∧0≤i.c∧i.c<R
 o15:i.op=15∨i.op=16→0≤i.a∧i.a<R
 o17:i.op=17∨i.op=18→0≤i.a∧i.a<L
section
variable {m:Int}{n:Nat}{i:Ins}{x:TS}
theorem execT_1 (h:i.op=1):execT m n i x=x.put i.a i.b:=by simp [execT,h]
theorem execT_2 (h:i.op=2):execT m n i x=x.put i.a (x.reg i.b):=by simp [execT,h]
theorem execT_3 (h:i.op=3):execT m n i x=x.put i.a (wrap64 (x.reg i.b+x.reg i.c)):=by simp [execT,h]
theorem execT_4 (h:i.op=4):execT m n i x=x.put i.a (wrap64 (x.reg i.b-x.reg i.c)):=by simp [execT,h]
theorem execT_5 (h:i.op=5):execT m n i x=x.put i.a (wrap64 (x.reg i.b*x.reg i.c)):=by simp [execT,h]
theorem execT_6 (h:i.op=6):execT m n i x=x.put i.a (bit (decide (x.reg i.b<x.reg i.c))):=by simp [execT,h]
theorem execT_7 (h:i.op=7):execT m n i x=x.put i.a (bit (decide (x.reg i.b=x.reg i.c))):=by simp [execT,h]
theorem execT_8 (h:i.op=8):execT m n i x=x.put i.a (x.finds i.b):=by simp [execT,h]
theorem execT_9 (h:i.op=9):execT m n i x=x.store m ⟨false,i.a,x.reg i.b⟩:=by simp [execT,h]
theorem execT_10t (h:i.op=10)(h1:0≤x.reg i.b∧x.reg i.b<(x.words.length:Int)):execT m n i x=x.put i.a (x.finds (x.reg i.b)):=by simp [execT,h,TS.isWord,h1]
theorem execT_10f (h:i.op=10)(h1:¬(0≤x.reg i.b∧x.reg i.b<(x.words.length:Int))):execT m n i x= { x with fell:=true } :=by
 have e:x.isWord (x.reg i.b)=false:=decide_eq_false h1
 simp [execT,h,e]
theorem execT_11t (h:i.op=11)(h1:0≤x.reg i.a∧x.reg i.a<(x.words.length:Int)):execT m n i x=x.store m ⟨false,x.reg i.a,x.reg i.b⟩:=by simp [execT,h,TS.isWord,h1]
theorem execT_11f (h:i.op=11)(h1:¬(0≤x.reg i.a∧x.reg i.a<(x.words.length:Int))):execT m n i x= { x with fell:=true } :=by
 have e:x.isWord (x.reg i.a)=false:=decide_eq_false h1
 simp [execT,h,e]
theorem execT_13t (h:i.op=13)(h1:nth x.words i.a.toNat=x.reg i.b):execT m n i x= { x with words:=x.words.set i.a.toNat (x.reg i.c),regs:=x.regs.set i.b.toNat 1 } :=by simp [execT,h,h1]
theorem execT_13f (h:i.op=13)(h1:¬nth x.words i.a.toNat=x.reg i.b):execT m n i x=x.put i.b 0:=by simp [execT,h,h1]
theorem execT_14 (h:i.op=14):execT m n i x= { x with pc:=i.a } :=by simp [execT,h]
theorem execT_15t (h:i.op=15)(h1:x.reg i.a=0):execT m n i x= { x with pc:=i.b } :=by simp [execT,h,h1]
theorem execT_15f (h:i.op=15)(h1:¬x.reg i.a=0):execT m n i x=x:=by simp [execT,h,h1]
theorem execT_16 (h:i.op=16):execT m n i x= { x with prints:=x.prints++ [(n:Int),x.reg i.a] } :=by simp [execT,h]
theorem execT_17 (h:i.op=17):execT m n i x= { x with owner:=x.owner.set i.a.toNat n } :=by simp [execT,h]
theorem execT_18a (h:i.op=18)(h1:nth x.owner i.a.toNat≠n):execT m n i x= { x with fell:=true } :=by simp [execT,h,h1]
theorem execT_18b (h:i.op=18)(h1:¬nth x.owner i.a.toNat≠n)(j:Nat)(hj:j<x.wait.length)(hl:(nth x.wait j).lock=true)(hw:(nth x.wait j).wh=i.a):execT m n i x= { x with fell:=true } :=by
 have e:x.holds i.a=true:=List.any_eq_true.2 ⟨_,nth_mem _ _ hj,by simp [hl,hw]⟩
 simp [execT,h,e]
theorem execT_18c (h:i.op=18)(h1:¬nth x.owner i.a.toNat≠n)(hall:∀q,q<x.wait.length→¬((nth x.wait q).lock=true∧(nth x.wait q).wh=i.a)):execT m n i x=x.store m ⟨true,i.a,0⟩:=by
 have e:x.holds i.a=false:=by
  unfold TS.holds
  rw [List.any_eq_false]
  intro y hy
  obtain ⟨k,hk,rfl⟩:=List.mem_iff_getElem.1 hy
  have:=hall k hk
  rw [show nth x.wait k=x.wait[k] from nth_lt _ _ hk] at this
  simpa using this
 have h1' :nth x.owner i.a.toNat=n:=Decidable.not_not.1 h1
 simp [execT,h,h1',e]
theorem execT_no (h:¬i.op=1∧¬i.op=2∧¬i.op=3∧¬i.op=4∧¬i.op=5∧¬i.op=6∧¬i.op=7∧¬i.op=8∧¬i.op=9∧¬i.op=10∧¬i.op=11∧¬i.op=13∧¬i.op=14∧¬i.op=15∧¬i.op=16∧¬i.op=17∧¬i.op=18):execT m n i x=x:=by
 obtain ⟨h1,h2,h3,h4,h5,h6,h7,h8,h9,h10,h11,h13,h14,h15,h16,h17,h18⟩:=h
 simp [execT,h1,h2,h3,h4,h5,h6,h7,h8,h9,h10,h11,h13,h14,h15,h16,h17,h18]
end
theorem doT_0 {m:Int}{n:Nat}{c:List Ins}{k:Nat}{x:TS}(hk:k=0):doT m n c k x=execT m n (nextIns c x.pc) { x with pc:=x.pc+1 } :=by subst hk;rfl
def sumStep (h:Nat)(x:Int):Nat:=((h^^^toU x)*1099511628211%18446744073709551616)^^^(((h^^^toU x)*1099511628211%18446744073709551616)/2^29)
def sumL (l:List Int):Nat:=l.foldl sumStep (toU (l.length:Int))%4096
theorem sumL_lt (l:List Int):sumL l<4096:=Nat.mod_lt _ (by decide)
def lessB :List Int→List Int→Bool
 |a::l,b::m=>if a=b then lessB l m else decide (a<b)
 |l,m=>decide (l.length<m.length)
def aheadB (a b:Outc):Bool:=if a.st=b.st then (if a.words=b.words then lessB a.prints b.prints else lessB a.words b.words) else decide (a.st<b.st)
def LastSum (ks:List (List Int))(n h:Nat)(r:Int):Prop:=(r= -1∧∀j,j<n→sumL (nth ks j)≠h)∨∃k:Nat,r=k∧k<n∧sumL (nth ks k)=h∧∀j,k<j→j<n→sumL (nth ks j)≠h
theorem LastSum.lt {ks:List (List Int)}{n h:Nat}{r:Int}(hl:LastSum ks n h r): -1≤r∧r<n:=by
 rcases hl with ⟨h,_⟩|⟨k,h,h2,_⟩<;>omega
theorem LastSum.at {ks:List (List Int)}{n h:Nat}{r:Int}(hl:LastSum ks n h r)(h0:0≤r):sumL (nth ks r.toNat)=h∧∀j,r.toNat<j→j<n→sumL (nth ks j)≠h:=by
 rcases hl with ⟨h,_⟩|⟨k,rfl,h2,h3,h4⟩
 ·omega
 ·exact ⟨by simpa using h3,fun j hj=>h4 j (by simpa using hj)⟩
theorem LastSum.none {ks:List (List Int)}{n h:Nat}{r:Int}(hl:LastSum ks n h r)(h0:¬0≤r):∀j,j<n→sumL (nth ks j)≠h:=by
 rcases hl with ⟨_,h⟩|⟨k,rfl,_⟩
 ·exact h
 ·omega
structure HeadsOK (ks:List (List Int))(heads before:List Int):Prop where
 hl:heads.length=4096
 bl:before.length=ks.length
 hd:∀h,h<4096→LastSum ks ks.length h (nth heads h)
 bf:∀i,i<ks.length→LastSum ks i (sumL (nth ks i)) (nth before i)
theorem nth_app0 {α:Type}[Inhabited α](l m:List α)(k:Nat):nth (l++m) k=if k<l.length then nth l k else nth m (k-l.length):=by
 simp only [nth,List.getD]
 by_cases h:k<l.length
 ·rw [List.getElem?_append_left h,if_pos h]
 ·rw [List.getElem?_append_right (by omega),if_neg h]
theorem LastSum.more {ks:List (List Int)}{n h:Nat}{r:Int}(x:List Int)(hl:LastSum ks n h r)(hn:n≤ks.length):LastSum (ks++ [x]) n h r:=by
 have e:∀j,j<n→nth (ks++ [x]) j=nth ks j:=fun j hj=>by rw [nth_app0,if_pos (by omega)]
 rcases hl with ⟨h1,h2⟩|⟨k,h1,h2,h3,h4⟩
 ·exact .inl ⟨h1,fun j hj=>by rw [e j hj];exact h2 j hj⟩
 ·exact .inr ⟨k,h1,h2,by rw [e k h2];exact h3,fun j hj hj2=>by rw [e j hj2];exact h4 j hj hj2⟩
theorem HeadsOK.put {ks:List (List Int)}{heads before:List Int}(h:HeadsOK ks heads before)(x:List Int):HeadsOK (ks++ [x]) (heads.set (sumL x) ((ks.length:Nat):Int)) (before++ [nth heads (sumL x)]):=by
 have hx:nth (ks++ [x]) ks.length=x:=by rw [nth_app0,if_neg (by omega)];simp [nth]
 refine ⟨by simpa using h.hl,by simp [h.bl],fun s hs=> ?_,fun i hi=> ?_⟩
 ·rw [nth_set]
  by_cases e:sumL x=s
  ·rw [if_pos ⟨e,by rw [h.hl];exact sumL_lt x⟩]
   exact .inr ⟨ks.length,rfl,by simp,by rw [hx];exact e,fun j hj hj2=>by simp at hj2;omega⟩
  ·rw [if_neg (fun hh=>e hh.1)]
   rcases h.hd s hs with ⟨h1,h2⟩|⟨k,h1,h2,h3,h4⟩
   ·refine .inl ⟨h1,fun j hj=> ?_⟩
    simp at hj
    rcases Nat.lt_or_ge j ks.length with hlt|hge
    ·rw [nth_app0,if_pos hlt];exact h2 j hlt
    ·obtain rfl:j=ks.length:=by omega
     rw [hx];exact e
   ·refine .inr ⟨k,h1,by simp;omega,by rw [nth_app0,if_pos h2];exact h3,fun j hj hj2=> ?_⟩
    simp at hj2
    rcases Nat.lt_or_ge j ks.length with hlt|hge
    ·rw [nth_app0,if_pos hlt];exact h4 j hj hlt
    ·obtain rfl:j=ks.length:=by omega
     rw [hx];exact e
 ·simp at hi
  rcases Nat.lt_or_ge i ks.length with hlt|hge
  ·rw [nth_app0 ks,if_pos hlt,nth_app0 before,if_pos (by rw [h.bl];exact hlt)]
   exact (h.bf i hlt).more x (by omega)
  ·obtain rfl:i=ks.length:=by omega
   rw [hx,nth_app0 before,if_neg (by rw [h.bl];omega),h.bl]
   have:=(h.hd (sumL x) (sumL_lt x)).more x (Nat.le_refl _)
   simpa [nth] using this
def PutRel (o:OutL)(l l' :List OutL):Prop:=((∃i,i<l.length∧aheadB o.out (nth l i).out=false∧aheadB (nth l i).out o.out=false)∧l' =l)∨
 ∃k,k≤l.length∧(∀j,j<k→aheadB o.out (nth l j).out=false∧aheadB (nth l j).out o.out=true)∧(k<l.length→aheadB o.out (nth l k).out=true)∧l' =l.take k++o::l.drop k
def PutInv (o:OutL)(l:List OutL)(i:Nat)(dn:Bool)(ol:List OutL):Prop:=(dn=false∧ol=l.take i∧∀j,j<i→aheadB o.out (nth l j).out=false∧aheadB (nth l j).out o.out=true)∨
 (dn=true∧∃k,k<i∧k<l.length∧(∀j,j<k→aheadB o.out (nth l j).out=false∧aheadB (nth l j).out o.out=true)∧aheadB o.out (nth l k).out=true∧ol=l.take k++o::(l.drop k).take (i-k))
theorem PutInv.one {o:OutL}{l ol:List OutL}{i:Nat}(h:PutInv o l i false ol)(hi:i<l.length)(h1:aheadB o.out (nth l i).out=true):PutInv o l (i+1) true ((ol++ [o])++ [nth l i]):=by
 rcases h with ⟨_,h2,h3⟩|⟨h,_⟩
 ·refine .inr ⟨rfl,i,by omega,hi,h3,h1, ?_⟩
  have e1:(l.drop i).take 1= [nth l i]:=by rw [List.drop_eq_getElem_cons hi,nth_lt l i hi];rfl
  rw [h2,show i+1-i=1 by omega,e1]
  simp
 ·cases h
theorem PutInv.two {o:OutL}{l ol:List OutL}{i:Nat}{dn:Bool}(h:PutInv o l i dn ol)(hi:i<l.length)(h1:dn=true∨(aheadB o.out (nth l i).out=false∧aheadB (nth l i).out o.out=true)):PutInv o l (i+1) dn (ol++ [nth l i]):=by
 rcases h with ⟨h,h2,h3⟩|⟨h,k,h2,h3,h4,h5,h6⟩
 ·refine .inl ⟨h,by rw [h2,take_succ_nth _ _ hi],fun j hj=> ?_⟩
  rcases Nat.lt_or_ge j i with hlt|hge
  ·exact h3 j hlt
  ·obtain rfl:j=i:=by omega
   rcases h1 with h1|h1
   ·rw [h] at h1;cases h1
   ·exact h1
 ·refine .inr ⟨h,k,by omega,h3,h4,h5, ?_⟩
  rw [h6,show i+1-k=(i-k)+1 by omega,take_succ_nth _ _ (by simp;omega)]
  have:nth (l.drop k) (i-k)=nth l i:=by simp only [nth,List.getD,List.getElem?_drop,show k+(i-k)=i by omega]
  rw [this];simp
theorem PutInv.rel {o:OutL}{l ol:List OutL}{i:Nat}(h:PutInv o l i true ol)(hi:i=l.length):PutRel o l ol:=by
 rcases h with ⟨h,_⟩|⟨_,k,h2,h3,h4,h5,h6⟩
 ·cases h
 ·exact .inr ⟨k,by omega,h4,fun _=>h5,by rw [h6,List.take_of_length_le (l:=l.drop k) (by rw [List.length_drop];omega)]⟩
theorem PutInv.len {o:OutL}{l ol:List OutL}{i:Nat}{dn:Bool}(h:PutInv o l i dn ol)(hi:i≤l.length):ol.length≤i+1:=by
 rcases h with ⟨_,h2,_⟩|⟨_,k,h2,h3,_,_,h6⟩
 ·rw [h2];simp;omega
 ·rw [h6];simp;omega
def KeyRel (L:List Int)(x:SD)(states states' :List SD)(keys keys' :List (Ls Int))(heads before heads' before' :List Int)(full full' :Bool):Prop:=
 ((∃j,j<keys.length∧(nth keys j).l=L)∧states' =states∧keys'.map (·.l)=keys.map (·.l)∧HeadsOK (keys'.map (·.l)) heads' before' ∧full' =full)∨
 ((∀j,j<keys.length→(nth keys j).l≠L)∧states' =states++ [x]∧keys'.map (·.l)=keys.map (·.l)++ [L]∧HeadsOK (keys'.map (·.l)) heads' before' ∧full' =(full||decide (4000<states.length+1)))
theorem fit_r {p:Pg}{size n:Int}(h:fitsG p size 114 n=true):0≤n∧n<p.regs:=by
 unfold fitsG at h
 simp only [Int.reduceEq,if_false,if_true,Bool.and_eq_true,decide_eq_true_eq] at h
 exact h
theorem fit_w {p:Pg}{size n:Int}(h:fitsG p size 119 n=true):0≤n∧n<p.words.length:=by
 unfold fitsG at h
 simp only [Int.reduceEq,if_false,if_true,Bool.and_eq_true,decide_eq_true_eq] at h
 exact h
theorem fit_l {p:Pg}{size n:Int}(h:fitsG p size 108 n=true):0≤n∧n<p.locks:=by
 unfold fitsG at h
 simp only [Int.reduceEq,if_false,if_true,Bool.and_eq_true,decide_eq_true_eq] at h
 exact h
theorem fit_c {p:Pg}{size n:Int}(hs:0≤size∧size≤100000)(h:fitsG p size 99 n=true):0≤n∧n≤size:=by
 unfold fitsG at h
 simp only [Int.reduceEq,if_false,if_true,Bool.and_eq_true,decide_eq_true_eq] at h
 rw [IntWalk.wrap64_in _ ⟨by omega,by omega⟩] at h
 omega
theorem num0 {p:Pg}{size:Int}{x:Ins}(h:okNumG p size x 0=true){b:UInt8}{r:List UInt8}(hk:kindsB x.op=⟨(b::r).toArray⟩):fitsG p size (b.toNat:Int) x.a=true:=by
 unfold okNumG at h
 rw [hk] at h
 rw [dif_pos (by simp [ByteArray.size])] at h
 exact h
theorem num1 {p:Pg}{size:Int}{x:Ins}(h:okNumG p size x 1=true){a b:UInt8}{r:List UInt8}(hk:kindsB x.op=⟨(a::b::r).toArray⟩):fitsG p size (b.toNat:Int) x.b=true:=by
 unfold okNumG at h
 rw [hk] at h
 rw [dif_pos (by simp [ByteArray.size])] at h
 exact h
theorem num2 {p:Pg}{size:Int}{x:Ins}(h:okNumG p size x 2=true){a b c:UInt8}{r:List UInt8}(hk:kindsB x.op=⟨(a::b::c::r).toArray⟩):fitsG p size (c.toNat:Int) x.c=true:=by
 unfold okNumG at h
 rw [hk] at h
 rw [dif_pos (by simp [ByteArray.size])] at h
 exact h
theorem insR_ok {p:Pg}{size:Int}{x:Ins}(hs:0≤size∧size≤100000)(hr:0≤p.regs)(hl:0≤p.locks)(h:OkIns p size x):InsR p.regs.toNat p.words.length p.locks.toNat x∧(x.op=14→0≤x.a∧x.a≤size)∧(x.op=15→0≤x.b∧x.b≤size):=by
 have er:(p.regs.toNat:Int)=p.regs:=Int.toNat_of_nonneg hr
 have el:(p.locks.toNat:Int)=p.locks:=Int.toNat_of_nonneg hl
 have h0:=h.n0
 have h1:=h.n1
 have h2:=h.n2
 refine ⟨⟨fun e=> ?_,fun e=> ?_,fun e=> ?_,fun e=> ?_,fun e=> ?_,fun e=> ?_,fun e=> ?_,fun e=> ?_,fun e=> ?_⟩,fun e=> ?_,fun e=> ?_⟩
 ·have k:kindsB x.op=⟨[114,110].toArray⟩:=by rw [e];unfold kindsB;simp
  rw [er];exact fit_r (num0 h0 k)
 ·have k:kindsB x.op=⟨[114,114].toArray⟩:=by rw [e];unfold kindsB;simp
  rw [er];exact ⟨fit_r (num0 h0 k),fit_r (num1 h1 k)⟩
 ·have k:kindsB x.op=⟨[114,114,114].toArray⟩:=by rcases e with e|e|e|e|e<;>(rw [e];unfold kindsB;simp)
  rw [er];exact ⟨fit_r (num0 h0 k),fit_r (num1 h1 k),fit_r (num2 h2 k)⟩
 ·have k:kindsB x.op=⟨[114,119].toArray⟩:=by rw [e];unfold kindsB;simp
  rw [er];exact ⟨fit_r (num0 h0 k),fit_w (num1 h1 k)⟩
 ·have k:kindsB x.op=⟨[119,114].toArray⟩:=by rw [e];unfold kindsB;simp
  rw [er];exact ⟨fit_w (num0 h0 k),fit_r (num1 h1 k)⟩
 ·have k:kindsB x.op=⟨[114,114].toArray⟩:=by rcases e with e|e<;>(rw [e];unfold kindsB;simp)
  rw [er];exact ⟨fit_r (num0 h0 k),fit_r (num1 h1 k)⟩
 ·have k:kindsB x.op=⟨[119,114,114].toArray⟩:=by rw [e];unfold kindsB;simp
  rw [er];exact ⟨fit_w (num0 h0 k),fit_r (num1 h1 k),fit_r (num2 h2 k)⟩
 ·rw [er]
  rcases e with e|e
  ·have k:kindsB x.op=⟨[114,99].toArray⟩:=by rw [e];unfold kindsB;simp
   exact fit_r (num0 h0 k)
  ·have k:kindsB x.op=⟨[114].toArray⟩:=by rw [e];unfold kindsB;simp
   exact fit_r (num0 h0 k)
 ·have k:kindsB x.op=⟨[108].toArray⟩:=by rcases e with e|e<;>(rw [e];unfold kindsB;simp)
  rw [el];exact fit_l (num0 h0 k)
 ·have k:kindsB x.op=⟨[99].toArray⟩:=by rw [e];unfold kindsB;simp
  exact fit_c hs (num0 h0 k)
 ·have k:kindsB x.op=⟨[114,99].toArray⟩:=by rw [e];unfold kindsB;simp
  exact fit_c hs (num1 h1 k)
theorem OkPg.insR {p:Pg}(h:OkPg p){t i:Nat}(ht:t<p.code.length)(hi:i<(nth p.code t).length):InsR p.regs.toNat p.words.length p.locks.toNat (nth (nth p.code t) i)∧((nth (nth p.code t) i).op=14→0≤(nth (nth p.code t) i).a∧(nth (nth p.code t) i).a≤(nth p.code t).length)∧((nth (nth p.code t) i).op=15→0≤(nth (nth p.code t) i).b∧(nth (nth p.code t) i).b≤(nth p.code t).length):=by
 have hl:=h.len t ht
 have:=h.regs
 have:=h.locks
 exact insR_ok ⟨by omega,by omega⟩ (by omega) (by omega) (h.ins t i ht hi)
structure WfS (R W L C:Nat)(x:TS):Prop where
 pc:0≤x.pc∧x.pc≤C
 regs:x.regs.length=R
 wait:x.wait.length≤3
 wt:∀w∈x.wait,if w.lock=true then 0≤w.wh∧w.wh<L else 0≤w.wh∧w.wh<W
 words:x.words.length=W
 owner:x.owner.length=L
section
variable {R W L C:Nat}{x:TS}
theorem WfS.put (h:WfS R W L C x)(k v:Int):WfS R W L C (x.put k v):=⟨h.pc,by simpa [TS.put] using h.regs,h.wait,h.wt,h.words,h.owner⟩
theorem WfS.fell (h:WfS R W L C x):WfS R W L C { x with fell:=true } :=⟨h.pc,h.regs,h.wait,h.wt,h.words,h.owner⟩
theorem WfS.done (h:WfS R W L C x)(w:Wt):WfS R W L C (x.done w):=by
 refine ⟨h.pc,h.regs,h.wait,h.wt, ?_, ?_⟩
 ·show (if w.lock=true then x.words else x.words.set w.wh.toNat w.what).length=W
  split
  ·exact h.words
  ·rw [List.length_set];exact h.words
 ·show (if w.lock=true then x.owner.set w.wh.toNat (-1) else x.owner).length=L
  split
  ·rw [List.length_set];exact h.owner
  ·exact h.owner
theorem WfS.store (h:WfS R W L C x){m:Int}{w:Wt}(hw:if w.lock=true then 0≤w.wh∧w.wh<L else 0≤w.wh∧w.wh<W)(hl:x.wait.length<3):WfS R W L C (x.store m w):=by
 unfold TS.store
 split
 ·refine ⟨h.pc,h.regs,by simp;omega,fun y hy=> ?_,h.words,h.owner⟩
  rcases List.mem_append.1 hy with hy|hy
  ·exact h.wt y hy
  ·obtain rfl:y=w:=by simpa using hy
   exact hw
 ·exact h.done w
theorem WfS.exec (h:WfS R W L C x){m:Int}{n:Nat}{i:Ins}(hR:InsR R W L i)(h14:i.op=14→0≤i.a∧i.a≤C)(h15:i.op=15→0≤i.b∧i.b≤C)(ha:ableL x.owner x.wait.length i=true):WfS R W L C (execT m n i x):=by
 have hst:i.op=9∨i.op=11∨i.op=18→x.wait.length<3:=by
  intro e
  unfold ableL at ha
  rw [if_pos e] at ha
  exact of_decide_eq_true ha
 by_cases e1:i.op=1
 ·rw [execT_1 e1];exact h.put _ _
 by_cases e2:i.op=2
 ·rw [execT_2 e2];exact h.put _ _
 by_cases e3:i.op=3
 ·rw [execT_3 e3];exact h.put _ _
 by_cases e4:i.op=4
 ·rw [execT_4 e4];exact h.put _ _
 by_cases e5:i.op=5
 ·rw [execT_5 e5];exact h.put _ _
 by_cases e6:i.op=6
 ·rw [execT_6 e6];exact h.put _ _
 by_cases e7:i.op=7
 ·rw [execT_7 e7];exact h.put _ _
 by_cases e8:i.op=8
 ·rw [execT_8 e8];exact h.put _ _
 by_cases e9:i.op=9
 ·rw [execT_9 e9]
  have q:=hR.o9 e9
  exact h.store (by show if (false=true) then _ else _;rw [if_neg Bool.false_ne_true];exact q.1) (hst (.inl e9))
 by_cases e10:i.op=10
 ·by_cases hw:0≤x.reg i.b∧x.reg i.b<(x.words.length:Int)
  ·rw [execT_10t e10 hw];exact h.put _ _
  ·rw [execT_10f e10 hw];exact h.fell
 by_cases e11:i.op=11
 ·by_cases hw:0≤x.reg i.a∧x.reg i.a<(x.words.length:Int)
  ·rw [execT_11t e11 hw]
   rw [h.words] at hw
   exact h.store (by show if (false=true) then _ else _;rw [if_neg Bool.false_ne_true];exact hw) (hst (.inr (.inl e11)))
  ·rw [execT_11f e11 hw];exact h.fell
 by_cases e13:i.op=13
 ·by_cases hw:nth x.words i.a.toNat=x.reg i.b
  ·rw [execT_13t e13 hw]
   exact ⟨h.pc,by simpa using h.regs,h.wait,h.wt,by simpa using h.words,h.owner⟩
  ·rw [execT_13f e13 hw];exact h.put _ _
 by_cases e14:i.op=14
 ·rw [execT_14 e14];exact ⟨h14 e14,h.regs,h.wait,h.wt,h.words,h.owner⟩
 by_cases e15:i.op=15
 ·by_cases hw:x.reg i.a=0
  ·rw [execT_15t e15 hw];exact ⟨h15 e15,h.regs,h.wait,h.wt,h.words,h.owner⟩
  ·rw [execT_15f e15 hw];exact h
 by_cases e16:i.op=16
 ·rw [execT_16 e16];exact ⟨h.pc,h.regs,h.wait,h.wt,h.words,h.owner⟩
 by_cases e17:i.op=17
 ·rw [execT_17 e17];exact ⟨h.pc,h.regs,h.wait,h.wt,h.words,by simpa using h.owner⟩
 by_cases e18:i.op=18
 ·have q:=hR.o17 (.inr e18)
  by_cases hw:nth x.owner i.a.toNat≠n
  ·rw [execT_18a e18 hw];exact h.fell
  ·by_cases hh:∃j,j<x.wait.length∧(nth x.wait j).lock=true∧(nth x.wait j).wh=i.a
   ·obtain ⟨j,hj,h1,h2⟩:=hh
    rw [execT_18b e18 hw j hj h1 h2];exact h.fell
   ·rw [execT_18c e18 hw (fun q hq hc=>hh ⟨q,hq,hc⟩)]
    exact h.store (by show if (true=true) then _ else _;rw [if_pos rfl];exact q) (hst (.inr (.inr e18)))
 rw [execT_no ⟨e1,e2,e3,e4,e5,e6,e7,e8,e9,e10,e11,e13,e14,e15,e16,e17,e18⟩]
 exact h
end
theorem mvOK_k {m:Int}{c:List Ins}{x:TS}{k:Nat}(h:mvOK m c x k=true):(k=0∧x.pc<c.length∧ableL x.owner x.wait.length (nextIns c x.pc)=true)∨(0<k∧k≤x.wait.length∧mayK m x.wait (k-1)=true):=by
 unfold mvOK at h
 split at h
 ·rename_i hk
  left
  unfold ableV at h
  simp only [Bool.and_eq_true,decide_eq_true_eq] at h
  exact ⟨hk,h⟩
 ·right
  simp only [Bool.and_eq_true,decide_eq_true_eq] at h
  exact ⟨by omega,h⟩
theorem WfS.doT {R W L:Nat}{x:TS}{m:Int}{n k:Nat}{c:List Ins}(h:WfS R W L c.length x)(hR:∀i,i<c.length→InsR R W L (nth c i)∧((nth c i).op=14→0≤(nth c i).a∧(nth c i).a≤c.length)∧((nth c i).op=15→0≤(nth c i).b∧(nth c i).b≤c.length))(hk:mvOK m c x k=true):WfS R W L c.length (Go.Proofs.Ytmbfcgpneflbmaa.doT m n c k x):=by
 have hpc:=h.pc
 rcases mvOK_k hk with ⟨rfl,h1,h2⟩|⟨h1,h2,h3⟩
 ·rw [doT_0 rfl]
  have hn:nextIns c x.pc=nth c x.pc.toNat:=nextIns_t h1
  obtain ⟨q1,q2,q3⟩:=hR x.pc.toNat (by omega)
  rw [hn] at h2⊢
  exact WfS.exec (x:= { x with pc:=x.pc+1 }) ⟨⟨by show 0≤x.pc+1;omega,by show x.pc+1≤_;omega⟩,h.regs,h.wait,h.wt,h.words,h.owner⟩ q1 q2 q3 h2
 ·unfold Go.Proofs.Ytmbfcgpneflbmaa.doT
  rw [if_pos h1]
  have hd:=h.done (nth x.wait (k-1))
  exact ⟨hd.pc,hd.regs,by show (x.wait.eraseIdx (k-1)).length≤3;have:=List.length_eraseIdx_le x.wait (k-1);have:=h.wait;omega,fun w hw=>h.wt w (List.mem_of_mem_eraseIdx hw),hd.words,hd.owner⟩
structure Wf (p:Pg)(s:MSt):Prop where
 ths:s.ths.length=p.code.length
 th:∀t,t<p.code.length→WfS p.regs.toNat p.words.length p.locks.toNat (nth p.code t).length (s.view t)
 words:s.words.length=p.words.length
 owner:s.owner.length=p.locks.toNat
theorem nth_set0 {α:Type}[Inhabited α](l:List α)(i k:Nat)(x:α):nth (l.set i x) k=if i=k∧i<l.length then x else nth l k:=by
 simp only [nth,List.getD,List.getElem?_set]
 by_cases h:i=k
 ·subst h
  by_cases h2:i<l.length<;>simp [h2]
 ·simp [h]
theorem putT_view {s:MSt}{t:Nat}{y:TS}(ht:t<s.ths.length):(s.putT t y).view t= { y with fell:=false } :=by
 unfold MSt.view MSt.putT
 simp [nth_set0,ht]
theorem putT_other {s:MSt}{t u:Nat}{y:TS}(h:t≠u):(s.putT t y).view u=⟨(s.view u).pc,(s.view u).regs,(s.view u).wait,y.words,y.owner,y.prints,false⟩:=by
 unfold MSt.view MSt.putT
 simp only [nth_set0]
 rw [if_neg (fun hh=>h hh.1)]
theorem Wf.begin_ {p:Pg}(h:OkPg p):Wf p (begin_ p):=by
 refine ⟨by simp [Go.Proofs.Ytmbfcgpneflbmaa.begin_],fun t ht=> ?_,rfl,by simp [Go.Proofs.Ytmbfcgpneflbmaa.begin_]⟩
 have e:nth (Go.Proofs.Ytmbfcgpneflbmaa.begin_ p).ths t=⟨0,List.replicate p.regs.toNat 0, []⟩:=by
  unfold Go.Proofs.Ytmbfcgpneflbmaa.begin_
  rw [nth_map' _ _ _ ht]
 unfold MSt.view
 rw [e]
 exact ⟨⟨Int.le_refl _,by simp⟩,by simp,by simp,fun w hw=>(by cases hw),rfl,by simp [Go.Proofs.Ytmbfcgpneflbmaa.begin_]⟩
theorem Wf.step {p:Pg}(hok:OkPg p){s:MSt}(h:Wf p s){m:Int}{t k:Nat}(ht:t<p.code.length)(hk:mvOK m (nth p.code t) (s.view t) k=true):Wf p (s.putT t (stepT p m s t k)):=by
 have h1:=(h.th t ht).doT (m:=m) (n:=t) (fun i hi=>hok.insR ht hi) hk
 refine ⟨by simpa [MSt.putT] using h.ths,fun u hu=> ?_,h1.words,h1.owner⟩
 by_cases e:t=u
 ·subst e
  rw [putT_view (by rw [h.ths];exact ht)]
  exact ⟨h1.pc,h1.regs,h1.wait,h1.wt,h1.words,h1.owner⟩
 ·rw [putT_other e]
  have h2:=h.th u hu
  exact ⟨h2.pc,h2.regs,h2.wait,h2.wt,h1.words,h1.owner⟩
inductive Reach (p:Pg)(m:Int):MSt→Prop
 |start:Reach p m (begin_ p)
 |step {s:MSt} {t k:Nat} :Reach p m s→t<p.code.length→mvOK m (nth p.code t) (s.view t) k=true→(stepT p m s t k).fell=false→Reach p m (s.putT t (stepT p m s t k))
def Stuck_ (p:Pg)(m:Int)(s:MSt):Prop:=∀t k,t<p.code.length→mvOK m (nth p.code t) (s.view t) k=false
inductive Outs (p:Pg)(m:Int):Outc→Prop
 |done {s:MSt} :Reach p m s→ended p s=true→Outs p m ⟨0,s.words,s.prints⟩
 |stuck {s:MSt} :Reach p m s→ended p s=false→Stuck_ p m s→Outs p m ⟨2,s.words,s.prints⟩
 |fell {s:MSt} {t k:Nat} :Reach p m s→t<p.code.length→mvOK m (nth p.code t) (s.view t) k=true→(stepT p m s t k).fell=true→Outs p m ⟨1, [],(stepT p m s t k).prints⟩
theorem Reach.wf {p:Pg}(hok:OkPg p){m:Int}{s:MSt}(h:Reach p m s):Wf p s:=by
 induction h with
 |start=>exact Wf.begin_ hok
 |step _ ht hk _ ih=>exact ih.step hok ht hk
theorem mem_mvs {m:Int}{c:List Ins}{t:Nat}{x:TS}{v:Int} :v∈mvs m c t x↔∃k,mvOK m c x k=true∧v=((8*t+k:Nat):Int):=by
 unfold mvs
 rw [List.mem_append]
 constructor
 ·rintro (h|h)
  ·split at h
   ·rename_i ha
    exact ⟨0,by unfold mvOK;rw [if_pos rfl];exact ha,by simpa using h⟩
   ·cases h
  ·obtain ⟨k,hk,rfl⟩:=List.mem_map.1 h
   obtain ⟨h1,h2⟩:=List.mem_filter.1 hk
   refine ⟨k+1, ?_,rfl⟩
   unfold mvOK
   rw [if_neg (by omega)]
   have:k+1≤x.wait.length:=by have:=List.mem_range.1 h1;omega
   simp [this,h2]
 ·rintro ⟨k,hk,rfl⟩
  rcases mvOK_k hk with ⟨rfl,h1,h2⟩|⟨h1,h2,h3⟩
  ·left
   have:ableV c x=true:=by unfold ableV;simp [h1,h2]
   rw [if_pos this];simp
  ·right
   refine List.mem_map.2 ⟨k-1,List.mem_filter.2 ⟨by simp;omega,h3⟩, ?_⟩
   rw [show 8*t+(k-1)+1=8*t+k by omega]
theorem mem_moves {p:Pg}{m:Int}{s:MSt}{v:Int} :v∈moves p m s↔∃t k,t<p.code.length∧mvOK m (nth p.code t) (s.view t) k=true∧v=((8*t+k:Nat):Int):=by
 unfold moves
 rw [List.mem_flatMap]
 constructor
 ·rintro ⟨t,ht,h⟩
  obtain ⟨k,hk,e⟩:=mem_mvs.1 h
  exact ⟨t,k,by simpa using ht,hk,e⟩
 ·rintro ⟨t,k,ht,hk,e⟩
  exact ⟨t,by simpa using ht,mem_mvs.2 ⟨k,hk,e⟩⟩
theorem lessB_irr :∀l:List Int,lessB l l=false
 | []=>by simp [lessB]
 |a::l=>by unfold lessB;rw [if_pos rfl];exact lessB_irr l
theorem lessB_trans :∀ {l m n:List Int},lessB l m=true→lessB m n=true→lessB l n=true
 | [],m, [],h1,h2=>by cases m<;>simp [lessB] at h1 h2
 | [],m,c::n,h1,h2=>by simp [lessB]
 |a::l, [],n,h1,h2=>by simp [lessB] at h1
 |a::l,b::m, [],h1,h2=>by simp [lessB] at h2
 |a::l,b::m,c::n,h1,h2=>by
  unfold lessB at h1 h2⊢
  by_cases e1:a=b
  ·by_cases e2:b=c
   ·rw [if_pos e1] at h1;rw [if_pos e2] at h2;rw [if_pos (e1.trans e2)];exact lessB_trans h1 h2
   ·rw [if_neg e2] at h2;subst e1;rw [if_neg e2];exact h2
  ·rw [if_neg e1] at h1
   by_cases e2:b=c
   ·subst e2;rw [if_neg e1];exact h1
   ·rw [if_neg e2] at h2
    have h1' :a<b:=by simpa using h1
    have h2' :b<c:=by simpa using h2
    rw [if_neg (by omega)]
    simp;omega
theorem lessB_tri :∀ {l m:List Int},lessB l m=false→lessB m l=false→l=m
 | [], [],_,_=>rfl
 | [],b::m,h1,_=>by simp [lessB] at h1
 |a::l, [],_,h2=>by simp [lessB] at h2
 |a::l,b::m,h1,h2=>by
  unfold lessB at h1 h2
  by_cases e:a=b
  ·rw [if_pos e] at h1;rw [if_pos e.symm] at h2
   rw [e,lessB_tri h1 h2]
  ·rw [if_neg e] at h1;rw [if_neg (fun h=>e h.symm)] at h2
   simp at h1 h2;omega
theorem aheadB_tri {a b:Outc}(h1:aheadB a b=false)(h2:aheadB b a=false):a=b:=by
 unfold aheadB at h1 h2
 by_cases e:a.st=b.st
 ·rw [if_pos e] at h1;rw [if_pos e.symm] at h2
  by_cases e2:a.words=b.words
  ·rw [if_pos e2] at h1;rw [if_pos e2.symm] at h2
   have e3:=lessB_tri h1 h2
   cases a;cases b;simp only at e e2 e3;rw [e,e2,e3]
  ·rw [if_neg e2] at h1;rw [if_neg (fun h=>e2 h.symm)] at h2
   exact absurd (lessB_tri h1 h2) e2
 ·rw [if_neg e] at h1;rw [if_neg (fun h=>e h.symm)] at h2
  simp at h1 h2;omega
theorem aheadB_trans {a b c:Outc}(h1:aheadB a b=true)(h2:aheadB b c=true):aheadB a c=true:=by
 unfold aheadB at h1 h2⊢
 by_cases e1:a.st=b.st
 ·rw [if_pos e1] at h1
  by_cases e2:b.st=c.st
  ·rw [if_pos e2] at h2
   rw [if_pos (e1.trans e2)]
   by_cases f1:a.words=b.words
   ·rw [if_pos f1] at h1
    by_cases f2:b.words=c.words
    ·rw [if_pos f2] at h2;rw [if_pos (f1.trans f2)];exact lessB_trans h1 h2
    ·rw [if_neg f2] at h2;rw [if_neg (fun h=>f2 (f1.symm.trans h)),f1];exact h2
   ·rw [if_neg f1] at h1
    by_cases f2:b.words=c.words
    ·rw [if_neg (fun h=>f1 (h.trans f2.symm)),←f2];exact h1
    ·rw [if_neg f2] at h2
     have h3:=lessB_trans h1 h2
     rw [if_neg (fun h=> ?_)]
     ·exact h3
     ·rw [h,lessB_irr] at h3;cases h3
  ·rw [if_neg e2] at h2;rw [if_neg (fun h=>e2 (e1.symm.trans h)),e1];exact h2
 ·rw [if_neg e1] at h1
  have h1' :a.st<b.st:=by simpa using h1
  by_cases e2:b.st=c.st
  ·rw [if_neg (by omega)];simp;omega
  ·rw [if_neg e2] at h2
   have h2' :b.st<c.st:=by simpa using h2
   rw [if_neg (by omega)];simp;omega
def Sorted_ (l:List Outc):Prop:=l.Pairwise fun a b=>aheadB a b=true
theorem PutRel.sorted {o:OutL}{l l' :List OutL}(h:PutRel o l l')(hs:Sorted_ (l.map OutL.out)):Sorted_ (l'.map OutL.out)∧∀y,y∈l'.map OutL.out↔y∈l.map OutL.out∨y=o.out:=by
 rcases h with ⟨⟨i,hi,h1,h2⟩,rfl⟩|⟨k,hk,h1,h2,rfl⟩
 ·refine ⟨hs,fun y=>⟨.inl,fun h=>h.elim id fun e=> ?_⟩⟩
  rw [e,aheadB_tri h1 h2]
  exact List.mem_map.2 ⟨_,nth_mem _ _ hi,rfl⟩
 ·have hsplit:l=l.take k++l.drop k:=(List.take_append_drop k l).symm
  have hb:∀x∈l.take k,aheadB x.out o.out=true:=by
   intro x hx
   obtain ⟨j,hj⟩:=List.getElem?_of_mem hx
   obtain ⟨hlt,e⟩:=List.getElem?_eq_some_iff.1 hj
   have hjk:j<k:=by simp at hlt;omega
   have:=(h1 j hjk).2
   rw [nth_lt _ _ (by simp at hlt;omega)] at this
   rw [←e,List.getElem_take];exact this
  have hs2:Sorted_ (l.take k|>.map OutL.out)∧Sorted_ (l.drop k|>.map OutL.out)∧∀x∈l.take k,∀y∈l.drop k,aheadB x.out y.out=true:=by
   rw [hsplit,List.map_append] at hs
   obtain ⟨a1,a2,a3⟩:=List.pairwise_append.1 hs
   exact ⟨a1,a2,fun x hx y hy=>a3 _ (List.mem_map.2 ⟨x,hx,rfl⟩) _ (List.mem_map.2 ⟨y,hy,rfl⟩)⟩
  have ha:∀x∈l.drop k,aheadB o.out x.out=true:=by
   intro x hx
   rcases Nat.lt_or_ge k l.length with hlt|hge
   ·have hok:=h2 hlt
    rw [nth_lt l k hlt] at hok
    rw [List.drop_eq_getElem_cons hlt] at hx
    rcases List.mem_cons.1 hx with rfl|hx
    ·exact hok
    ·have h3:=hs2.2.1
     rw [List.drop_eq_getElem_cons hlt,List.map_cons] at h3
     exact aheadB_trans hok ((List.pairwise_cons.1 h3).1 _ (List.mem_map.2 ⟨x,hx,rfl⟩))
   ·rw [List.drop_eq_nil_of_le hge] at hx;cases hx
  constructor
  ·unfold Sorted_
   rw [List.map_append,List.map_cons]
   refine List.pairwise_append.2 ⟨hs2.1,List.pairwise_cons.2 ⟨fun y hy=> ?_,hs2.2.1⟩,fun x hx y hy=> ?_⟩
   ·obtain ⟨z,hz,rfl⟩:=List.mem_map.1 hy;exact ha z hz
   ·obtain ⟨z,hz,rfl⟩:=List.mem_map.1 hx
    rcases List.mem_cons.1 hy with rfl|hy
    ·exact hb z hz
    ·obtain ⟨u,hu,rfl⟩:=List.mem_map.1 hy;exact hs2.2.2 z hz u hu
  ·intro y
   conv=>rhs;rw [hsplit]
   simp only [List.map_append,List.map_cons,List.mem_append,List.mem_cons]
   constructor
   ·rintro (h|h|h)
    ·exact .inl (.inl h)
    ·exact .inr h
    ·exact .inl (.inr h)
   ·rintro ((h|h)|h)
    ·exact .inl h
    ·exact .inr (.inr h)
    ·exact .inr (.inl h)
def Handled (p:Pg)(m:Int)(S:List MSt)(E:List Outc)(s:MSt)(t k:Nat):Prop:=if (stepT p m s t k).fell=true then (⟨1, [],(stepT p m s t k).prints⟩:Outc)∈E else s.putT t (stepT p m s t k)∈S
structure Expanded (p:Pg)(m:Int)(S:List MSt)(E:List Outc)(s:MSt):Prop where
 done:ended p s=true→(⟨0,s.words,s.prints⟩:Outc)∈E
 stuck:ended p s=false→Stuck_ p m s→(⟨2,s.words,s.prints⟩:Outc)∈E
 moves:∀t k,t<p.code.length→mvOK m (nth p.code t) (s.view t) k=true→Handled p m S E s t k
structure Inv (p:Pg)(m:Int)(S:List MSt)(E:List Outc)(full:Bool)(i:Nat):Prop where
 start:begin_ p∈S
 reach:∀s∈S,Reach p m s
 pr:∀j,j<S.length→(nth S j).prints.length≤2*j
 len:S.length≤4001
 hfull:full=decide (4000<S.length)
 sound:∀o∈E,Outs p m o
 sorted:Sorted_ E
 done:full=false→∀j,j<i→Expanded p m S E (nth S j)
 nd:S.Nodup
def Big (p:Pg)(m:Int):Prop:=∃S:List MSt,S.Nodup∧(∀s∈S,Reach p m s)∧4000<S.length
theorem nodup_sub :∀ {S T:List MSt},S.Nodup→(∀s∈S,s∈T)→S.length≤T.length
 | [],_,_,_=>Nat.zero_le _
 |a::S,T,h,hs=>by
  obtain ⟨h1,h2⟩:=List.nodup_cons.1 h
  have ha:=hs a (by simp)
  have:=nodup_sub (S:=S) (T:=T.erase a) h2 fun s hm=>(List.mem_erase_of_ne (fun (e:s=a)=>h1 (by rw [←e];exact hm))).2 (hs s (by simp [hm]))
  rw [List.length_erase_of_mem ha] at this
  have:=List.length_pos_of_mem ha
  simp only [List.length_cons];omega
theorem Handled.mono {p:Pg}{m:Int}{S S' :List MSt}{E E' :List Outc}{s:MSt}{t k:Nat}(h:Handled p m S E s t k)(hS:∀x∈S,x∈S')(hE:∀x∈E,x∈E'):Handled p m S' E' s t k:=by
 unfold Handled at h⊢
 split at h
 ·rename_i hf;rw [if_pos hf];exact hE _ h
 ·rename_i hf;rw [if_neg hf];exact hS _ h
theorem Expanded.mono {p:Pg}{m:Int}{S S' :List MSt}{E E' :List Outc}{s:MSt}(h:Expanded p m S E s)(hS:∀x∈S,x∈S')(hE:∀x∈E,x∈E'):Expanded p m S' E' s:=
 ⟨fun e=>hE _ (h.done e),fun e e2=>hE _ (h.stuck e e2),fun t k ht hk=>(h.moves t k ht hk).mono hS hE⟩
theorem Inv.states {p:Pg}{m:Int}{S:List MSt}{E:List Outc}{i:Nat}(h:Inv p m S E false i)(hi:S.length≤i):∀s,s∈S↔Reach p m s:=by
 intro s
 refine ⟨h.reach s,fun hs=> ?_⟩
 induction hs with
 |start=>exact h.start
 | @step s t k hr ht hk hf ih=>
  obtain ⟨j,hj⟩:=List.getElem?_of_mem ih
  obtain ⟨hlt,e⟩:=List.getElem?_eq_some_iff.1 hj
  have h9:=h.done rfl j (by omega)
  rw [nth_lt _ _ hlt,e] at h9
  have:=h9.moves _ _ ht hk
  unfold Handled at this
  rw [if_neg (by rw [hf];decide)] at this
  exact this
theorem Inv.big {p:Pg}{m:Int}{S:List MSt}{E:List Outc}{full:Bool}{i:Nat}(h:Inv p m S E full i)(hi:full=true∨S.length≤i):full=true↔Big p m:=by
 constructor
 ·intro hf
  have:=h.hfull
  rw [hf] at this
  exact ⟨S,h.nd,h.reach,of_decide_eq_true this.symm⟩
 ·rintro ⟨T,h1,h2,h3⟩
  cases hf:full with
  |true=>rfl
  |false=>
   rw [hf] at hi h
   have h4:=nodup_sub h1 fun s hs=>(h.states (hi.resolve_left Bool.false_ne_true) s).2 (h2 s hs)
   have:=h.hfull
   have:=of_decide_eq_false this.symm
   omega
theorem Inv.all {p:Pg}{m:Int}{S:List MSt}{E:List Outc}{i:Nat}(h:Inv p m S E false i)(hi:S.length≤i):∀o,o∈E↔Outs p m o:=by
 have hex:∀s∈S,Expanded p m S E s:=by
  intro s hs
  obtain ⟨j,hj⟩:=List.getElem?_of_mem hs
  obtain ⟨hlt,e⟩:=List.getElem?_eq_some_iff.1 hj
  have:=h.done rfl j (by omega)
  rwa [nth_lt _ _ hlt,e] at this
 have hall:∀s,Reach p m s→s∈S:=by
  intro s hs
  induction hs with
  |start=>exact h.start
  |step hr ht hk hf ih=>
   have:=(hex _ ih).moves _ _ ht hk
   unfold Handled at this
   rw [if_neg (by rw [hf];decide)] at this
   exact this
 intro o
 refine ⟨h.sound o,fun ho=> ?_⟩
 cases ho with
 |done hr he=>exact (hex _ (hall _ hr)).done he
 |stuck hr he hst=>exact (hex _ (hall _ hr)).stuck he hst
 |fell hr ht hk hf=>
  have:=(hex _ (hall _ hr)).moves _ _ ht hk
  unfold Handled at this
  rwa [if_pos hf] at this
section
variable {code:Ls (Ls Ins)}{words:Ls Int}{Lk R:Nat}{mode:Int}{x:SD}
abbrev pgN (code:Ls (Ls Ins))(words:Ls Int)(Lk R:Nat):Pg:=pgOf code words (Lk:Int) (R:Int)
structure WfX (code:Ls (Ls Ins))(words:Ls Int)(Lk R:Nat)(x:SD):Prop where
 thl:x.thr.l.length=code.l.length
 pc:∀t,t<code.l.length→0≤(nth x.thr.l t).pc∧(nth x.thr.l t).pc≤(nth code.l t).l.length
 regs:∀t,t<x.thr.l.length→(nth x.thr.l t).regs.l.length=R
 wait:∀t,t<x.thr.l.length→(nth x.thr.l t).wait.l.length≤3
 wt:∀t,t<x.thr.l.length→∀j,j<(nth x.thr.l t).wait.l.length→if (nth (nth x.thr.l t).wait.l j).lock=true then 0≤(nth (nth x.thr.l t).wait.l j).wh∧(nth (nth x.thr.l t).wait.l j).wh<x.owner.l.length else 0≤(nth (nth x.thr.l t).wait.l j).wh∧(nth (nth x.thr.l t).wait.l j).wh<x.words.l.length
 words:x.words.l.length=words.l.length
 owner:x.owner.l.length=Lk
end
section
variable {p:Pg}{m:Int}{S:List MSt}{E:List Outc}{full:Bool}{i:Nat}
theorem Inv.addOut (h:Inv p m S E full i){o:Outc}{E' :List Outc}(ho:Outs p m o)(hs:Sorted_ E')(hm:∀y,y∈E' ↔y∈E∨y=o):Inv p m S E' full i:=
 ⟨h.start,h.reach,h.pr,h.len,h.hfull,fun y hy=>((hm y).1 hy).elim (h.sound y) (fun e=>e▸ho),hs,fun hf j hj=>(h.done hf j hj).mono (fun _ h=>h) fun y hy=>(hm y).2 (.inl hy),h.nd⟩
theorem nth_left {α:Type}[Inhabited α](l m:List α)(j:Nat)(h:j<l.length):nth (l++m) j=nth l j:=by rw [nth_app0,if_pos h]
theorem nth_last {α:Type}[Inhabited α](l:List α)(x:α):nth (l++ [x]) l.length=x:=by rw [nth_app0,if_neg (by omega)];simp [nth]
theorem Inv.next (h:Inv p m S E full i)(hx:full=false→Expanded p m S E (nth S i)):Inv p m S E full (i+1):=
 ⟨h.start,h.reach,h.pr,h.len,h.hfull,h.sound,h.sorted,fun hf j hj=>by
  rcases Nat.lt_or_ge j i with h1|h1
  ·exact h.done hf j h1
  ·obtain rfl:j=i:=by omega
   exact hx hf,h.nd⟩
theorem Inv.first (s:MSt)(hs:s=begin_ p):Inv p m [s] [] (false||decide (4000<0+1)) 0:=by
 subst hs
 refine ⟨by simp,fun x hx=> ?_,fun j hj=> ?_,by simp,by simp,fun o ho=> ?_,List.Pairwise.nil,fun _ j hj=>absurd hj (by omega),by simp⟩
 ·obtain rfl:x=begin_ p:=by simpa using hx
  exact .start
 ·simp at hj;subst hj;exact Nat.zero_le _
 ·cases ho
theorem ended_no {s:MSt}(he:ended p s=true):∀t k,t<p.code.length→mvOK m (nth p.code t) (s.view t) k=false:=by
 intro t k ht
 have h1:=(List.all_eq_true.1 he) t (by simpa using ht)
 simp only [Bool.and_eq_true,decide_eq_true_eq] at h1
 cases hk:mvOK m (nth p.code t) (s.view t) k with
 |false=>rfl
 |true=>
  rcases mvOK_k hk with ⟨rfl,h2,_⟩|⟨h2,h3,_⟩
  ·exact absurd h2 h1.1
  ·have:(s.view t).wait.length=0:=h1.2
   omega
theorem Inv.ended (h:Inv p m S E full i)(hi:i<S.length)(he:ended p (nth S i)=true){E' :List Outc}(hs:Sorted_ E')(hm:∀y,y∈E' ↔y∈E∨y=⟨0,(nth S i).words,(nth S i).prints⟩):Inv p m S E' full (i+1):=by
 have h1:=h.addOut (.done (h.reach _ (nth_mem _ _ hi)) he) hs hm
 refine h1.next fun _=>⟨fun _=>(hm _).2 (.inr rfl),fun e=> ?_,fun t k ht hk=> ?_⟩
 ·rw [he] at e;cases e
 ·rw [ended_no he t k ht] at hk;cases hk
theorem stuck_of {s:MSt}(hm:moves p m s= []):Stuck_ p m s:=by
 intro t k ht
 cases hk:mvOK m (nth p.code t) (s.view t) k with
 |false=>rfl
 |true=>
  have:((8*t+k:Nat):Int)∈moves p m s:=mem_moves.2 ⟨t,k,ht,hk,rfl⟩
  rw [hm] at this;cases this
theorem Inv.stuck (h:Inv p m S E full i)(hi:i<S.length)(he:Go.Proofs.Ytmbfcgpneflbmaa.ended p (nth S i)=false)(hmv:moves p m (nth S i)= []){E' :List Outc}(hs:Sorted_ E')(hm:∀y,y∈E' ↔y∈E∨y=⟨2,(nth S i).words,(nth S i).prints⟩):Inv p m S E' full (i+1):=by
 have hst:=stuck_of hmv
 have h1:=h.addOut (.stuck (h.reach _ (nth_mem _ _ hi)) he hst) hs hm
 refine h1.next fun _=>⟨fun e=> ?_,fun _ _=>(hm _).2 (.inr rfl),fun t k ht hk=> ?_⟩
 ·rw [he] at e;cases e
 ·rw [hst t k ht] at hk;cases hk
def HandM (p:Pg)(m:Int)(S:List MSt)(E:List Outc)(s:MSt)(v:Int):Prop:=∀t k,v=((8*t+k:Nat):Int)→k≤3→Handled p m S E s t k
theorem HandM.mono {s:MSt}{v:Int}{S' :List MSt}{E' :List Outc}(h:HandM p m S E s v)(hS:∀x∈S,x∈S')(hE:∀x∈E,x∈E'):HandM p m S' E' s v:=fun t k e hk=>(h t k e hk).mono hS hE
theorem HandM.of {s:MSt}{v:Int}{t k:Nat}(hv:v=((8*t+k:Nat):Int))(hk:k≤3)(h:Handled p m S E s t k):HandM p m S E s v:=by
 intro t' k' e hk'
 rw [hv] at e
 have e' :8*t+k=8*t' +k' :=by omega
 obtain rfl:t=t' :=by omega
 obtain rfl:k=k' :=by omega
 exact h
end
set_option maxHeartbeats 40000000
structure SData (W:World)(ST:TypeId)(hd:List Value)(states:List SD)(ends:List OutL):Prop where
 hd:∀x∈states,x.hd=hd∧x.E=ST∧x.fell=false∧∀b,Enc.on x b→W.heap.size≤b
 en:∀o∈ends,∀b,Enc.on o b→W.heap.size≤b
theorem SData.put {W:World}{ST:TypeId}{hd:List Value}{states:List SD}{ends ends' :List OutL}{o:OutL}(h:SData W ST hd states ends)(hr:PutRel o ends ends')(ho:∀b,Enc.on o b→W.heap.size≤b):SData W ST hd states ends' ∧ends'.length≤ends.length+1:=by
 rcases hr with ⟨_,rfl⟩|⟨k,hk,_,_,rfl⟩
 ·exact ⟨h,by omega⟩
 ·refine ⟨⟨h.hd,fun x hx=> ?_⟩,by simp;omega⟩
  rcases List.mem_append.1 hx with hx|hx
  ·exact h.en x (List.mem_of_mem_take hx)
  ·rcases List.mem_cons.1 hx with rfl|hx
   ·exact ho
   ·exact h.en x (List.mem_of_mem_drop hx)
theorem SData.more {W:World}{ST:TypeId}{hd:List Value}{states:List SD}{ends:List OutL}{x:SD}(h:SData W ST hd states ends)(hx:x.hd=hd∧x.E=ST∧x.fell=false∧∀b,Enc.on x b→W.heap.size≤b):SData W ST hd (states++ [x]) ends:=
 ⟨fun y hy=>(List.mem_append.1 hy).elim (h.hd y) (fun hy=>by
  obtain rfl:y=x:=by simpa using hy
  exact hx),h.en⟩
theorem KeyRel.rd {L:List Int}{x:SD}{states states' :Ls SD}{keys keys' :List (Ls Int)}{heads before heads' before' :List Int}{full full' :Bool}(h:KeyRel L x states.l states'.l keys keys' heads before heads' before' full full'){E:TypeId}{b:Nat}(hb:(Asn.own E states').rd b):(Asn.own E states).rd b∨(Asn.rd1 x).rd b:=by
 obtain ⟨i,hi,hb⟩:=hb
 rcases h with ⟨_,e1,_⟩|⟨_,e1,_⟩
 ·rw [e1] at hi hb;exact .inl ⟨i,hi,hb⟩
 ·rw [e1] at hi hb
  simp at hi
  rcases Nat.lt_or_ge i states.l.length with h1|h1
  ·rw [nth_left _ _ _ h1] at hb;exact .inl ⟨i,h1,hb⟩
  ·obtain rfl:i=states.l.length:=by omega
   rw [nth_last] at hb;exact .inr hb
theorem PutRel.rd {o:OutL}{ends ends' :Ls OutL}(h:PutRel o ends.l ends'.l){E:TypeId}{b:Nat}(hb:(Asn.own E ends').rd b):(Asn.own E ends).rd b∨o.words.on b∨o.prints.on b:=by
 obtain ⟨i,hi,hb⟩:=hb
 have hm:=nth_mem _ _ hi
 have key:∀y∈ends.l,Enc.on y b→(Asn.own E ends).rd b:=fun y hy hyb=>by
  obtain ⟨j,hj⟩:=List.getElem?_of_mem hy
  obtain ⟨hlt,e⟩:=List.getElem?_eq_some_iff.1 hj
  exact ⟨j,hlt,by rw [nth_lt _ _ hlt,e];exact hyb⟩
 rcases h with ⟨_,e1⟩|⟨k,_,_,_,e1⟩
 ·exact .inl (key _ (e1▸hm) hb)
 ·rw [e1] at hm hb
  rcases List.mem_append.1 hm with h1|h1
  ·exact .inl (key _ (List.mem_of_mem_take h1) hb)
  ·rcases List.mem_cons.1 h1 with h1|h1
   ·rw [h1] at hb;exact .inr hb
   ·exact .inl (key _ (List.mem_of_mem_drop h1) hb)
theorem ok_lenN {code:Ls (Ls Ins)}{words:Ls Int}{Lk R:Nat}(h:OkPg (pgN code words Lk R)):1≤code.l.length∧code.l.length≤4∧words.l.length≤64∧0≤(Lk:Int)∧(Lk:Int)≤4∧1≤(R:Int)∧(R:Int)≤200:=by
 have h1:=h.code
 have h2:=h.words
 have h3:=h.locks
 have h4:=h.regs
 simp only [pgN,pgOf,List.length_map] at h1 h2 h3 h4
 omega
def codeAfter :Nat→Code→Code
 |0,c=>c
 |n+1, .seq _ y=>codeAfter n y
 |_+1,c=>c
theorem x_share {P:Program}{Q:Exit→Act→World→Prop}{a:Act}{w:World}{c:Code}(n:Nat)(M:Act→World→Prop)(k:∀a w,M a w→(codeAfter n c).wp P Q a w)(h:(∀a w,M a w→(codeAfter n c).wp P Q a w)→c.wp P Q a w):c.wp P Q a w:=h k
theorem matNoRd {α:Type}[Enc α][Flat α]{E IE:TypeId}{v:Value}{M:List (Ls α)}{X:Prop}{b:Nat}(h:(Asn.big (matX (.own IE) E v M)).rd b):X:=by
 obtain ⟨A,hA,hb⟩:=h
 rcases List.mem_cons.1 hA with rfl|hA
 ·exact Flat.noRd hb
 ·obtain ⟨s,_,rfl⟩:=List.mem_map.1 hA;exact Flat.noRd hb
theorem reached_c (x:Ls Ins)(W:World)(hx:x.At W)(hc:CodeC x.l)(hl:x.l.length≤5000):
    Rets Try.prog 52 [x.v] W (fun v w' =>∃s:Ls Bool,v=s.v∧s.l.length=x.l.length+1∧(∀i,i≤x.l.length→(nth s.l i=true↔RchC x.l i))∧Sh0 W w' [.own 4 s]):=by
 refine gen Try.func52 Try.ntmps52 (Sh0.ext1 hx:Sh (fun _=>False) W W [.at_ x]) rfl fun a10 h10=>gG h10<|sG (oM 1 rfl<|.nl)<|sK fun _ k12=>gNl (aA 0 rfl) fun hl13=>gRn (oM 1 rfl<|oln sl_45 (aA 0 rfl) rfl<|oadN _ 1 om9 rfl<|.nl)<|gE1 (fun _ _ h_=>x_make (n:=x.l.length+1) (false:Bool) h_ sl_64 ti_4 rfl rfl rfl rfl rfl (show 1*(x.l.length+1)≤140737488355328∧x.l.length+1≤140737488355328 from om9) (fun w=>Flat.inner _ _) (fun b=>Flat.on _ _) rfl rfl) rfl fun v14=>gRn (oM 1 rfl<|.nl)<|nK k12<|sK fun _ k15=>gRn (oM 1 rfl<|oxN sl_64 ti_4 (aO 0 rfl) 0 (show 0<(List.replicate (x.l.length+1) false).length from om9) rfl<|.nl)<|gte 0 (true:Bool) ti_4 (show 0<(List.replicate (x.l.length+1) false).length from om9) rfl rfl<|nK k15<|gK fun _ k17=>sG (oM 1 rfl<|.nl)<|gB<|fun a20 w20 h20=>x_loop (fun m a w=>∃(o1:List Bool) (g1:Bool),(RcB x.l o1)∧(g1=false→∀i,i<x.l.length→RcC x.l o1 i)∧St 51 (fun _=>False) W a w [(0,x.v),(3,v14),(4, .bool g1)] [.own 4 (⟨v14,o1⟩:Ls Bool), .at_ x]∧m=2*o1.count false+bN g1) ⟨_,(List.replicate (x.l.length+1) false).set 0 true,true,(RcB.start _),(fun h=>by cases h),h20.nf ⟨rfl,rfl,rfl,trivial⟩,rfl⟩ ?_;clear h10
 clear h20
 rintro m19 a19 w19 ⟨o1,g1,hr1,hcl1,h19,hm19⟩
 refine gG h19<|gK fun _ k21=>sG (oM 1 rfl<|.nl)<|?_;clear h19
 refine gCb rfl (fun hb23=> ?_) fun hb23=> ?_
 ·skip
  refine gS<|hK k21<|gB<|sG (oM 1 rfl<|.nl)<|sG (oM 1 rfl<|.nl)<|gB<|fun a27 w27 h27=>x_loop (fun m a w=>∃(a2:Nat) (o2:List Bool) (g2:Bool),(a2≤x.l.length)∧(RcB x.l o2)∧(o2.count false+bN g2≤o1.count false)∧(g2=false→∀i,i<a2→RcC x.l o2 i)∧St 51 (fun _=>False) W a w [(0,x.v),(3,v14),(4, .bool g2),(5, .int .i64 ((a2:Nat):Int))] [.own 4 (⟨v14,o2⟩:Ls Bool), .at_ x]∧m=x.l.length-a2) ⟨_,0,o1,false,(by omega),(hr1),(Nat.le_refl _),(fun _ i hi=>absurd hi (by omega)),h27.nf ⟨rfl,rfl,rfl,rfl,trivial⟩,rfl⟩ ?_
  clear h27
  rintro m26 a26 w26 ⟨a2,o2,g2,ha2,hr2,hn2,hcl2,h26,hm26⟩
  refine gG h26<|gK fun _ k28=>sG (oM 2 rfl<|oln sl_45 (aA 1 rfl) rfl<|oltN _ _ rfl<|.nl)<|?_;clear h26
  refine gcd rfl (fun hb30 hp30=> ?_) fun hb30 hp30=> ?_
  ·skip
   refine gS<|hK k28<|gK fun _ k31=>gB<|sK fun _ k32=>gRn (oM 2 rfl<|.nl)<|gC (fun _ _ h_=>xCl h_ bd_53 rfl (rNexts_c x a2 _ (h_.sh.at 1 rfl) (by omega) (by omega))) rfl<|?_
   rintro _ _ w33 ⟨s33,rfl,hs33⟩
   refine gWk hs33 rfl<|gU<|gRn (oM 1 rfl<|.nl)<|nK k32<|sG (oM 1 rfl<|.nl)<|gB<|fun a36 w36 h36=> ?_;clear hs33
   refine x_loop (fun m a w=>∃(k:Nat) (o3:List Bool) (g3:Bool),(k≤(nextsL x.l a2).length)∧(RcB x.l o3)∧(o3.count false+bN g3≤o1.count false)∧(g3=false→∀i,i<a2→RcC x.l o3 i)∧(g3=false→nth o3 a2=true→∀j,j<k→nth o3 (nth (nextsL x.l a2) j).toNat=true)∧St 51 (fun _=>False) W a w [(0,x.v),(3,v14),(4, .bool g3),(5, .int .i64 ((a2:Nat):Int)),(6,s33.v),(7, .int .i64 ((k:Nat):Int))] [.own 3 (⟨s33.v,nextsL x.l a2⟩:Ls Int), .own 4 (⟨v14,o3⟩:Ls Bool), .at_ x]∧m=(nextsL x.l a2).length-k) ⟨_,0,o2,g2,(by omega),(hr2),(hn2),(hcl2),(fun _ _ j hj=>absurd hj (by omega)),h36.nf ⟨rfl,rfl,rfl,rfl,rfl,rfl,trivial⟩,rfl⟩ ?_
   clear h36
   rintro m35 a35 w35 ⟨k,o3,g3,hk,hr3,hn3,hcl3,hd3,h35,hm35⟩
   have hl3:=hr3.len
   refine gG h35<|gK fun _ k37=>sK fun _ k38=>gNl (aO 0 rfl) fun (hl39:(nextsL x.l a2).length≤140737488355328)=>gRn (oM 2 rfl<|oln (n:=(nextsL x.l a2).length) sl_23 (aO 0 rfl) rfl<|oltN _ _ rfl<|.nl)<|nK k38<|?_;clear h35
   refine gcd rfl (fun hb40 hp40=> ?_) fun hb40 hp40=> ?_
   ·skip
    refine gS<|hK k37<|?_
    have hnx:=hc.nx a2 (by omega) _ (nth_mem (nextsL x.l a2) k (by omega))
    refine gK fun _ k41=>gB<|sK fun _ k42=>gNl (aO 1 rfl) fun (hl43:o3.length≤140737488355328)=>gRn (oM 2 rfl<|oxN sl_64 ti_4 (aO 1 rfl) _ om9 rfl<|olE (.bool (nth o3 a2)) ti_4 (aO 1 rfl) om9 rfl<|oM 1 rfl<|.nl)<|?_
    rcases Bool.eq_false_or_eq_true (nth o3 a2) with hb44|hb44
    ·skip
     refine gRn (oG hb44 (r_move rfl rfl) rfl<|oG hb44 (r_move rfl rfl) rfl<|oG hb44 (r_move rfl rfl) rfl<|oG hb44 (r_ixN (s:=(⟨s33.v,nextsL x.l a2⟩:Ls Int)) (q:=k) sl_23 ti_3 rfl rfl rfl (fun w h=>(h.own 0 rfl)) (show k<(nextsL x.l a2).length from om9)) rfl<|oG hb44 (r_lde (s:=(⟨s33.v,nextsL x.l a2⟩:Ls Int)) (i:=k) (v:= .int .i64 (nth (nextsL x.l a2) k)) ti_3 rfl rfl rfl (fun w h=>(h.own 0 rfl)) (show k<(nextsL x.l a2).length from om9) (Nat.le_of_ble_eq_true rfl) rfl) rfl<|oG hb44 (r_ixI (s:=(⟨v14,o3⟩:Ls Bool)) (q:=nth (nextsL x.l a2) k) sl_64 ti_4 rfl rfl rfl (fun w h=>(h.own 1 rfl)) (show 0≤nth (nextsL x.l a2) k∧nth (nextsL x.l a2) k<o3.length from om9)) rfl<|oG hb44 (r_lde (s:=(⟨v14,o3⟩:Ls Bool)) (i:=(nth (nextsL x.l a2) k).toNat) (v:= .bool (nth o3 ((nth (nextsL x.l a2) k).toNat))) ti_4 rfl rfl rfl (fun w h=>(h.own 1 rfl)) (show (nth (nextsL x.l a2) k).toNat<o3.length from om9) (Nat.le_of_ble_eq_true rfl) rfl) rfl<|oG hb44 (r_not rfl rfl) rfl<|opT hb44 rfl<|.nl)<|nK k42<|gCb rfl (fun hb45=> ?_) fun hb45=> ?_
     ·have hn45:nth o3 ((nth (nextsL x.l a2) k).toNat)=false:=(Bool.not_eq_true' _).mp hb45
      refine sK fun _ k46=>gRn (oM 3 rfl<|oxN sl_23 ti_3 (aO 0 rfl) _ om9 rfl<|olE (.int .i64 (nth (nextsL x.l a2) k)) ti_3 (aO 0 rfl) om9 rfl<|oxI sl_64 ti_4 (aO 1 rfl) om9 rfl<|.nl)<|gte 1 (true:Bool) ti_4 om9 rfl rfl<|nK k46<|gF [0,3,5,6,7] rfl<|gL<|gRn (oM 1 rfl<|.nl)<|nK k41<|gL<|gRn (oM 1 rfl<|oadN _ 1 om9 rfl<|oM 1 rfl<|.nl)<|nN<|fun a48 w48 h48=>x_again ⟨_, ?_,(k+1),o3.set ((nth (nextsL x.l a2) k).toNat) true,true, ?_, ?_, ?_, ?_, ?_,h48.nf ⟨rfl,rfl,rfl,rfl,rfl,rfl,trivial⟩,rfl⟩
      · rw [hm35];first|omega|(simp only [lens9];omega)
      · omega
      · first|exact hr3|exact hr3.put hc (by omega) (by omega) (by assumption)
      · first|exact hn3|exact rc_cnt hc hr3 (by omega) (by omega) (by assumption) hn3
      · first|exact hcl3|exact fun h=>Bool.noConfusion h
      · first|(exact fun h=>Bool.noConfusion h)|(intro h h8 j hj;rcases Nat.lt_or_ge j k with h9|h9;exact hd3 h h8 j h9;obtain rfl:j=k:=(by omega);first|assumption|(simp_all;done))
     have hn45:nth o3 ((nth (nextsL x.l a2) k).toNat)=true:=(Bool.not_eq_false' _).mp hb45
     refine gS<|hK k41<|gL<|gRn (oM 1 rfl<|oadN _ 1 om9 rfl<|oM 1 rfl<|.nl)<|nN<|fun a49 w49 h49=>x_again ⟨_, ?_,(k+1),o3,g3, ?_, ?_, ?_, ?_, ?_,h49.nf ⟨rfl,rfl,rfl,rfl,rfl,rfl,trivial⟩,rfl⟩
     · rw [hm35];first|omega|(simp only [lens9];omega)
     · omega
     · first|exact hr3|exact hr3.put hc (by omega) (by omega) (by assumption)
     · first|exact hn3|exact rc_cnt hc hr3 (by omega) (by omega) (by assumption) hn3
     · first|exact hcl3|exact fun h=>Bool.noConfusion h
     · first|(exact fun h=>Bool.noConfusion h)|(intro h h8 j hj;rcases Nat.lt_or_ge j k with h9|h9;exact hd3 h h8 j h9;obtain rfl:j=k:=(by omega);first|assumption|(simp_all;done))
    refine gRn (oKs 8 hb44 rfl rfl<|opF hb44 rfl<|.nl)<|nK k42<|gcF rfl rfl<|gS<|hK k41<|gL<|gRn (oM 1 rfl<|oadN _ 1 om9 rfl<|oM 1 rfl<|.nl)<|nN<|fun a50 w50 h50=>x_again ⟨_, ?_,(k+1),o3,g3, ?_, ?_, ?_, ?_, ?_,h50.nf ⟨rfl,rfl,rfl,rfl,rfl,rfl,trivial⟩,rfl⟩
    · rw [hm35];first|omega|(simp only [lens9];omega)
    · omega
    · first|exact hr3|exact hr3.put hc (by omega) (by omega) (by assumption)
    · first|exact hn3|exact rc_cnt hc hr3 (by omega) (by omega) (by assumption) hn3
    · first|exact hcl3|exact fun h=>Bool.noConfusion h
    · first|(exact fun h=>Bool.noConfusion h)|(intro h h8 j hj;rcases Nat.lt_or_ge j k with h9|h9;exact hd3 h h8 j h9;obtain rfl:j=k:=(by omega);first|assumption|(simp_all;done))
   refine gX<|hK k31<|gL<|gRn (oM 1 rfl<|oadN _ 1 om9 rfl<|oM 1 rfl<|.nl)<|nN<|fun a51 w51 h51=>x_again ⟨_, ?_,(a2+1),o3,g3, ?_, ?_, ?_, ?_,h51.nrm ⟨rfl,rfl,rfl,rfl,trivial⟩ [1,2] rfl,rfl⟩
   · rw [hm26];first|omega|(simp only [lens9];omega)
   · omega
   · exact hr3
   · exact hn3
   · intro h i hi;rcases Nat.lt_or_ge i a2 with h9|h9;exact hcl3 h i h9;obtain rfl:i=a2:=(by omega);intro h8 y hy;obtain ⟨j,hj,rfl⟩:=List.getElem_of_mem hy;have h7:=hd3 h h8 j (by omega);rwa [nth_lt _ _ hj] at h7
  refine gX<|fun a52 w52 h52=> ?_
  change∃_m,_m<_∧_
  refine ⟨_, ?_,o2,g2, ?_, ?_,h52.nf ⟨rfl,rfl,rfl,trivial⟩,rfl⟩
  · rw [hm19];(have e1:g1=true:=by assumption);rw [e1];have e2:bN true=1:=rfl;omega
  · exact hr2
  · exact fun h i hi=>hcl2 h i (by omega)
 refine gX<|hK k17<|sG (oM 2 rfl<|.nl)<|gR<|fun a54 w54 h54=>x_ret1 (fn:=Try.f52) (t:=2) rfl h54 rfl ?_
 exact ⟨⟨v14,o1⟩,rfl,hr1.len,fun i hi=>rc_end hc hr1 (hcl1 (by assumption)) hi,(h54.sh.sel [0] rfl)⟩
theorem rHeld_c (x:Ls Ins)(Lk:Nat)(W:World)(hx:x.At W)(hc:CodeC x.l)(hl:x.l.length≤5000)(hL:Lk≤4):
    Rets Try.prog 22 [x.v, .int .i64 ((Lk:Nat):Int)] W (fun v w' =>∃s:Ls (Ls Bool),v=s.v∧s.l.length=x.l.length+1∧(∀i,i<x.l.length+1→(nth s.l i).l.length=Lk∧∀k,k<Lk→(nth (nth s.l i).l k=true↔HeldI x.l k i))∧Sh0 W w' [.deep 64 s]):=by
 refine gen Try.func22 Try.ntmps22 (Sh0.ext1 hx:Sh (fun _=>False) W W [.at_ x]) rfl fun a10 h10=>gG h10<|sG (oM 1 rfl<|.nl)<|sK fun _ k12=>gNl (aA 0 rfl) fun hl13=>gRn (oM 1 rfl<|oln sl_45 (aA 0 rfl) rfl<|oM 1 rfl<|.nl)<|nK k12<|sK fun _ k14=>gRn (oM 1 rfl<|oadN _ 1 om9 rfl<|.nl)<|gE1 (fun _ _ h_=>x_makeMat (n:=x.l.length+1) h_ sl_61 ti_64 rfl rfl rfl (show 24*(x.l.length+1)≤140737488355328∧x.l.length+1≤140737488355328 from om9) rfl rfl 4 Bool) rfl fun v15=>gRn (oM 1 rfl<|.nl)<|nK k14<|gK fun _ k16=>sG (oM 1 rfl<|.nl)<|gB<|fun a19 w19 h19=>x_loop (fun m a w=>∃(i:Nat) (M:List (Ls Bool)),(i≤x.l.length+1)∧(M.length=x.l.length+1)∧(∀a,a<i→(nth M a).l=List.replicate Lk false)∧St 118 (fun _=>False) W a w [(0,x.v),(1, .int .i64 ((Lk:Nat):Int)),(5, .int .i64 ((x.l.length:Nat):Int)),(6,v15),(7, .int .i64 ((i:Nat):Int))] [.big (matX (.own 4) 64 v15 M), .at_ x]∧m=x.l.length+1-i) ⟨_,0,List.replicate (x.l.length+1) (⟨.slice none 0 0, []⟩:Ls Bool),(by omega),(by simp),(fun a ha=>absurd ha (by omega)),h19.nf ⟨rfl,rfl,rfl,rfl,rfl,trivial⟩,rfl⟩ ?_;clear h10
 clear h19
 rintro m18 a18 w18 ⟨i,M,hi,hM,hz,h18,hm18⟩
 refine gG h18<|gK fun _ k20=>sG (oM 2 rfl<|oleN _ _ rfl<|.nl)<|?_;clear h18
 refine gcd rfl (fun hb22 hp22=> ?_) fun hb22 hp22=> ?_
 ·skip
  refine gS<|hK k20<|gK fun _ k23=>gB<|gL<|gRn (oM 3 rfl<|.nl)<|gE1 (fun _ _ h_=>x_make (n:=Lk) (false:Bool) h_ sl_64 ti_4 rfl rfl rfl rfl rfl (show 1*Lk≤140737488355328∧Lk≤140737488355328 from om9) (fun w=>Flat.inner _ _) (fun b=>Flat.on _ _) rfl rfl) rfl fun v24=>gRn (oxN sl_61 ti_64 (fun w h=>(h.matAt 1 rfl)) _ (by rw [rvs_len];exact (show i<M.length from (by omega))) rfl<|.nl)<|fun a25 w25 h25=> ?_
  have ha26:=(h25.sh.own 0 rfl)
  have h27:=h25.sel (L' := [_,_,_]) [1,0,2] rfl
  refine wl_ex (x_stMat (i:=i) (s:=(⟨v24,List.replicate Lk false⟩:Ls Bool)) h27 ti_64 rfl rfl rfl rfl (show i<M.length from (by omega)) ha26) (wanted_none rfl _) ?_
  rintro a28 w28 h28
  clear h27
  refine gG h28<|nK k23<|gL<|gRn (oM 1 rfl<|oadN _ 1 om9 rfl<|oM 1 rfl<|.nl)<|nN<|fun a29 w29 h29=>x_again ⟨_, ?_,i+1,M.set i (⟨v24,List.replicate Lk false⟩:Ls Bool), ?_, ?_, ?_,h29.nf ⟨rfl,rfl,rfl,rfl,rfl,trivial⟩,rfl⟩;clear h28
  · rw [hm18];first|omega|(simp only [lens9];omega)
  · omega
  · rw [List.length_set];exact hM
  · intro a ha;rw [nth_set];split;rfl;exact hz a (by omega)
 refine gX<|hK k16<|sK fun _ k30=>gRn (oM 1 rfl<|.nl)<|fun a32 w32 h32=>wl_ex (x_call h32 bd_52 rfl rfl rfl rfl rfl (reached_c x _ (h32.sh.at 1 rfl) hc hl)) (wanted_none rfl _) ?_
 rintro a33 w33 ⟨_,⟨s33,rfl,hgl,hgo,hs33⟩,hf33⟩
 have h33:=(⟨hf33,h32.sh.call hs33 (by intro A hA b hb;first|(simp at hA;done)|(simp at hA;subst hA;first|exact Flat.noRd hb|exact (hb:False).elim)|(simp at hA;rcases hA with rfl|rfl<;>first|exact Flat.noRd hb|exact (hb:False).elim))⟩:St 118 (fun _=>False) W a33 w33 _ _)
 clear hf33 hs33
 clear h32
 refine gG h33<|gRn (oM 1 rfl<|.nl)<|nK k30<|gK fun _ k34=>sG (oM 1 rfl<|.nl)<|gB<|fun a37 w37 h37=>x_loop (fun m a w=>∃(M1:List (Ls Bool)) (g1:Bool),(HlB x.l Lk M1)∧(g1=false→∀i,i<x.l.length→HlC x.l Lk M1 i)∧St 118 (fun _=>False) W a w [(0,x.v),(1, .int .i64 ((Lk:Nat):Int)),(5, .int .i64 ((x.l.length:Nat):Int)),(6,v15),(8,s33.v),(9, .bool g1)] [.own 4 s33, .big (matX (.own 4) 64 v15 M1), .at_ x]∧m=2*cntM M1+bN g1) ⟨_,M,true,(HlB.start hM (fun i hi=>hz i (by omega))),(fun h=>Bool.noConfusion h),h37.nf ⟨rfl,rfl,rfl,rfl,rfl,rfl,trivial⟩,rfl⟩ ?_;clear h33
 clear h37
 rintro m36 a36 w36 ⟨M1,g1,hr1,hcl1,h36,hm36⟩
 have hl1:=hr1.len
 refine gG h36<|gK fun _ k38=>sG (oM 1 rfl<|.nl)<|?_;clear h36
 refine gCb rfl (fun hb40=> ?_) fun hb40=> ?_
 ·skip
  refine gS<|hK k38<|gB<|sG (oM 1 rfl<|.nl)<|sG (oM 1 rfl<|.nl)<|gB<|fun a44 w44 h44=>x_loop (fun m a w=>∃(a2:Nat) (M2:List (Ls Bool)) (g2:Bool),(a2≤x.l.length)∧(HlB x.l Lk M2)∧(cntM M2+bN g2≤cntM M1)∧(HlR x.l Lk M1 M2 g2 a2 0)∧St 118 (fun _=>False) W a w [(0,x.v),(1, .int .i64 ((Lk:Nat):Int)),(5, .int .i64 ((x.l.length:Nat):Int)),(6,v15),(8,s33.v),(9, .bool g2),(10, .int .i64 ((a2:Nat):Int))] [.own 4 s33, .big (matX (.own 4) 64 v15 M2), .at_ x]∧m=x.l.length-a2) ⟨_,0,M1,false,(by omega),(hr1),(Nat.le_refl _),(HlR.start),h44.nf ⟨rfl,rfl,rfl,rfl,rfl,rfl,rfl,trivial⟩,rfl⟩ ?_
  clear h44
  rintro m43 a43 w43 ⟨a2,M2,g2,ha2,hr2,hn2,hs2,h43,hm43⟩
  have hl2:=hr2.len
  refine gG h43<|gK fun _ k45=>sG (oM 2 rfl<|oltN _ _ rfl<|.nl)<|?_;clear h43
  refine gcd rfl (fun hb47 hp47=> ?_) fun hb47 hp47=> ?_
  ·skip
   refine gS<|hK k45<|gK fun _ k48=>gB<|gK fun _ k49=>sK fun _ k50=>gNl (aO 0 rfl) fun hl51=>gRn (oM 2 rfl<|oxN sl_64 ti_4 (aO 0 rfl) _ om9 rfl<|olE (.bool (nth s33.l a2)) ti_4 (aO 0 rfl) om9 rfl<|ont rfl<|.nl)<|nK k50<|gCb rfl (fun hb52=> ?_) fun hb52=> ?_
   ·have hn52:nth s33.l a2=false:=(Bool.not_eq_true' _).mp hb52
    refine gX<|hK k48<|gL<|gRn (oM 1 rfl<|oadN _ 1 om9 rfl<|oM 1 rfl<|.nl)<|nN<|fun a53 w53 h53=>x_again ⟨_, ?_,(a2+1),M2,g2, ?_, ?_, ?_, ?_,h53.nf ⟨rfl,rfl,rfl,rfl,rfl,rfl,rfl,trivial⟩,rfl⟩
    · rw [hm43];first|omega|(simp only [lens9];omega)
    · omega
    · first|exact hr3|exact hr2
    · first|exact hn3|exact hn2
    · first|exact hs3.next (by omega)|exact hs2.skip (fun h9=>absurd ((hgo a2 (by omega)).2 h9) (by rw [(by assumption:nth s33.l a2=false)];decide))
   have hn52:nth s33.l a2=true:=(Bool.not_eq_false' _).mp hb52
   refine gS<|hK k49<|?_
   have hrch:RchC x.l a2:=(hgo a2 (by omega)).1 (by assumption)
   refine sK fun _ k54=>gRn (oM 2 rfl<|.nl)<|gC (fun _ _ h_=>xCl h_ bd_53 rfl (rNexts_c x a2 _ (h_.sh.at 2 rfl) (by omega) (by omega))) rfl<|?_
   rintro _ _ w55 ⟨s55,rfl,hs55⟩
   refine gWk hs55 rfl<|gU<|gRn (oM 1 rfl<|.nl)<|nK k54<|sG (oM 1 rfl<|.nl)<|gB<|fun a58 w58 h58=> ?_;clear hs55
   refine x_loop (fun m a w=>∃(k:Nat) (M3:List (Ls Bool)) (g3:Bool),(k≤Lk)∧(HlB x.l Lk M3)∧(cntM M3+bN g3≤cntM M1)∧(HlR x.l Lk M1 M3 g3 a2 k)∧St 118 (fun _=>False) W a w [(0,x.v),(1, .int .i64 ((Lk:Nat):Int)),(5, .int .i64 ((x.l.length:Nat):Int)),(6,v15),(8,s33.v),(9, .bool g3),(10, .int .i64 ((a2:Nat):Int)),(11,s55.v),(12, .int .i64 ((k:Nat):Int))] [.own 3 (⟨s55.v,nextsL x.l a2⟩:Ls Int), .own 4 s33, .big (matX (.own 4) 64 v15 M3), .at_ x]∧m=Lk-k) ⟨_,0,M2,g2,(by omega),(hr2),(hn2),(hs2),h58.nf ⟨rfl,rfl,rfl,rfl,rfl,rfl,rfl,rfl,rfl,trivial⟩,rfl⟩ ?_
   clear h58
   rintro m57 a57 w57 ⟨k,M3,g3,hk,hr3,hn3,hs3,h57,hm57⟩
   have hl3:=hr3.len
   refine gG h57<|gK fun _ k59=>sG (oM 2 rfl<|oltN _ _ rfl<|.nl)<|?_;clear h57
   refine gcd rfl (fun hb61 hp61=> ?_) fun hb61 hp61=> ?_
   ·skip
    refine gS<|hK k59<|?_
    have hw3:=hr3.w a2 (by omega)
    refine gK fun _ k62=>gB<|sK fun _ k63=>gNl (fun w h=>(h.matRow 2 rfl a2 (show a2<M3.length from (by omega)))) fun (hl64:((nth M3 a2).l).length≤140737488355328)=>gRn (oM 2 rfl<|oxN sl_61 ti_64 (fun w h=>(h.matAt 2 rfl)) _ (by rw [rvs_len];exact (show a2<M3.length from (by omega))) rfl<|oV (Rn.same (r_lde (s:=(⟨v15,rvs M3⟩:Ls RV)) (i:=a2) (v:=(nth (rvs M3) a2).v) ti_64 rfl rfl rfl (fun w h=>h.matAt 2 rfl) (by rw [rvs_len];exact (show a2<M3.length from om9)) (Nat.le_of_ble_eq_true rfl) rfl) (nth_rvs M3 a2)) rfl<|oM 1 rfl<|oxN sl_64 ti_4 (fun w h=>(h.matRow 2 rfl a2 (show a2<M3.length from (by omega)))) _ om9 rfl<|olE (.bool (nth ((nth M3 a2).l) k)) ti_4 (fun w h=>(h.matRow 2 rfl a2 (show a2<M3.length from (by omega)))) om9 rfl<|oM 1 rfl<|.nl)<|nK k63<|fun a65 w65 h65=> ?_
    refine x_share 2 (fun a w=>∃(hd:Bool),(hd=outB (nth x.l a2) k (nth (nth M3 a2).l k))∧St 118 (fun _=>False) W a w [(0,x.v),(1, .int .i64 ((Lk:Nat):Int)),(5, .int .i64 ((x.l.length:Nat):Int)),(6,v15),(8,s33.v),(9, .bool g3),(10, .int .i64 ((a2:Nat):Int)),(11,s55.v),(12, .int .i64 ((k:Nat):Int)),(13, .bool hd)] [.own 3 (⟨s55.v,nextsL x.l a2⟩:Ls Int), .own 4 s33, .big (matX (.own 4) 64 v15 M3), .at_ x]) ?_ fun hsh66=> ?_
    ·clear h65
     rintro a67 w67 ⟨hd,hhd,h67⟩
     refine gG h67<|sG (oM 1 rfl<|.nl)<|gB<|fun a70 w70 h70=>x_loop (fun m a w=>∃(j:Nat) (M4:List (Ls Bool)) (g4:Bool),(j≤(nextsL x.l a2).length)∧(HlB x.l Lk M4)∧(cntM M4+bN g4≤cntM M1)∧(HlQ x.l Lk M1 M3 M4 g4 a2 k j)∧St 118 (fun _=>False) W a w [(0,x.v),(1, .int .i64 ((Lk:Nat):Int)),(5, .int .i64 ((x.l.length:Nat):Int)),(6,v15),(8,s33.v),(9, .bool g4),(10, .int .i64 ((a2:Nat):Int)),(11,s55.v),(12, .int .i64 ((k:Nat):Int)),(13, .bool hd),(14, .int .i64 ((j:Nat):Int))] [.own 3 (⟨s55.v,nextsL x.l a2⟩:Ls Int), .own 4 s33, .big (matX (.own 4) 64 v15 M4), .at_ x]∧m=(nextsL x.l a2).length-j) ⟨_,0,M3,g3,(by omega),(hr3),(hn3),(HlQ.start hs3),h70.nf ⟨rfl,rfl,rfl,rfl,rfl,rfl,rfl,rfl,rfl,rfl,rfl,trivial⟩,rfl⟩ ?_;clear h67
     clear h70
     rintro m69 a69 w69 ⟨j,M4,g4,hj,hr4,hn4,hs4,h69,hm69⟩
     have hl4:=hr4.len
     refine gG h69<|gK fun _ k71=>sK fun _ k72=>gNl (aO 0 rfl) fun (hl73:(nextsL x.l a2).length≤140737488355328)=>gRn (oM 2 rfl<|oln (n:=(nextsL x.l a2).length) sl_23 (aO 0 rfl) rfl<|oltN _ _ rfl<|.nl)<|nK k72<|?_;clear h69
     refine gcd rfl (fun hb74 hp74=> ?_) fun hb74 hp74=> ?_
     ·skip
      refine gS<|hK k71<|?_
      have hnx:=hc.nx a2 (by omega) _ (nth_mem (nextsL x.l a2) j (by omega))
      have hw4:=hr4.w (nth (nextsL x.l a2) j).toNat (by omega)
      refine gK fun _ k75=>gB<|sK fun _ k76=>gRn (oM 2 rfl<|.nl)<|?_
      rcases Bool.eq_false_or_eq_true hd with hb77|hb77
      ·skip
       refine gNl (fun w h=>(h.matRow 2 rfl ((nth (nextsL x.l a2) j).toNat) (show (nth (nextsL x.l a2) j).toNat<M4.length from (by omega)))) fun (hl78:((nth M4 ((nth (nextsL x.l a2) j).toNat)).l).length≤140737488355328)=>gRn (oG hb77 (r_move rfl rfl) rfl<|oG hb77 (r_move rfl rfl) rfl<|oG hb77 (r_move rfl rfl) rfl<|oG hb77 (r_ixN (s:=(⟨s55.v,nextsL x.l a2⟩:Ls Int)) (q:=j) sl_23 ti_3 rfl rfl rfl (fun w h=>(h.own 0 rfl)) (show j<(nextsL x.l a2).length from om9)) rfl<|oG hb77 (r_lde (s:=(⟨s55.v,nextsL x.l a2⟩:Ls Int)) (i:=j) (v:= .int .i64 (nth (nextsL x.l a2) j)) ti_3 rfl rfl rfl (fun w h=>(h.own 0 rfl)) (show j<(nextsL x.l a2).length from om9) (Nat.le_of_ble_eq_true rfl) rfl) rfl<|oG hb77 (r_ixI (s:=(⟨v15,rvs M4⟩:Ls RV)) (q:=nth (nextsL x.l a2) j) sl_61 ti_64 rfl rfl rfl (fun w h=>(h.matAt 2 rfl)) (by rw [rvs_len];exact (show 0≤nth (nextsL x.l a2) j∧nth (nextsL x.l a2) j<M4.length from om9))) rfl<|oG hb77 (Rn.same (r_lde (s:=(⟨v15,rvs M4⟩:Ls RV)) (i:=(nth (nextsL x.l a2) j).toNat) (v:=(nth (rvs M4) ((nth (nextsL x.l a2) j).toNat)).v) ti_64 rfl rfl rfl (fun w h=>h.matAt 2 rfl) (by rw [rvs_len];exact (show (nth (nextsL x.l a2) j).toNat<M4.length from om9)) (Nat.le_of_ble_eq_true rfl) rfl) (nth_rvs M4 ((nth (nextsL x.l a2) j).toNat))) rfl<|oG hb77 (r_move rfl rfl) rfl<|oG hb77 (r_ixN (s:=(nth M4 ((nth (nextsL x.l a2) j).toNat))) (q:=k) sl_64 ti_4 rfl rfl rfl (fun w h=>(h.matRow 2 rfl ((nth (nextsL x.l a2) j).toNat) (show (nth (nextsL x.l a2) j).toNat<M4.length from om9))) (show k<((nth M4 ((nth (nextsL x.l a2) j).toNat)).l).length from om9)) rfl<|oG hb77 (r_lde (s:=(nth M4 ((nth (nextsL x.l a2) j).toNat))) (i:=k) (v:= .bool (nth ((nth M4 ((nth (nextsL x.l a2) j).toNat)).l) k)) ti_4 rfl rfl rfl (fun w h=>(h.matRow 2 rfl ((nth (nextsL x.l a2) j).toNat) (show (nth (nextsL x.l a2) j).toNat<M4.length from om9))) (show k<((nth M4 ((nth (nextsL x.l a2) j).toNat)).l).length from om9) (Nat.le_of_ble_eq_true rfl) rfl) rfl<|oG hb77 (r_not rfl rfl) rfl<|opT hb77 rfl<|.nl)<|nK k76<|gCb rfl (fun hb79=> ?_) fun hb79=> ?_
       ·have hn79:nth ((nth M4 ((nth (nextsL x.l a2) j).toNat)).l) k=false:=(Bool.not_eq_true' _).mp hb79
        refine sK fun _ k80=>gRn (oM 3 rfl<|oxN sl_23 ti_3 (aO 0 rfl) _ om9 rfl<|olE (.int .i64 (nth (nextsL x.l a2) j)) ti_3 (aO 0 rfl) om9 rfl<|oxI sl_61 ti_64 (fun w h=>(h.matAt 2 rfl)) (by rw [rvs_len];exact (show 0≤nth (nextsL x.l a2) j∧nth (nextsL x.l a2) j<M4.length from (by omega))) rfl<|oV (Rn.same (r_lde (s:=(⟨v15,rvs M4⟩:Ls RV)) (i:=(nth (nextsL x.l a2) j).toNat) (v:=(nth (rvs M4) ((nth (nextsL x.l a2) j).toNat)).v) ti_64 rfl rfl rfl (fun w h=>h.matAt 2 rfl) (by rw [rvs_len];exact (show (nth (nextsL x.l a2) j).toNat<M4.length from om9)) (Nat.le_of_ble_eq_true rfl) rfl) (nth_rvs M4 ((nth (nextsL x.l a2) j).toNat))) rfl<|oM 1 rfl<|oxN sl_64 ti_4 (fun w h=>(h.matRow 2 rfl ((nth (nextsL x.l a2) j).toNat) (show (nth (nextsL x.l a2) j).toNat<M4.length from (by omega)))) _ om9 rfl<|.nl)<|gO [2,0,1,3] rfl<|gE (fun _ _ h_=>x_stMatE (i:=(nth (nextsL x.l a2) j).toNat) (q:=k) (x' :=(true:Bool)) h_ ti_4 rfl rfl rfl rfl (show (nth (nextsL x.l a2) j).toNat<M4.length from om9) (show k<(nth M4 ((nth (nextsL x.l a2) j).toNat)).l.length from om9) rfl rfl rfl rfl) rfl<|nK k80<|gF [0,1,5,6,8,10,11,12,13,14] rfl<|gL<|gRn (oM 1 rfl<|.nl)<|nK k75<|gL<|gRn (oM 1 rfl<|oadN _ 1 om9 rfl<|oM 1 rfl<|.nl)<|nN<|fun a83 w83 h83=> ?_
        refine x_again ⟨_, ?_,(j+1),M4.set ((nth (nextsL x.l a2) j).toNat) ⟨(nth M4 ((nth (nextsL x.l a2) j).toNat)).v,(nth M4 ((nth (nextsL x.l a2) j).toNat)).l.set k true⟩,true, ?_, ?_, ?_, ?_,h83.nrm ⟨rfl,rfl,rfl,rfl,rfl,rfl,rfl,rfl,rfl,rfl,rfl,trivial⟩ [1,2,0,3] rfl,rfl⟩
        · rw [hm69];first|omega|(simp only [lens9];omega)
        · omega
        · first|exact hr4|exact hr4.put hc (by omega) hrch (by omega) (by omega) (fun h9=>hr4.sound a2 (by omega) k (by omega) h9) (hr3.sound a2 (by omega) k (by omega)) (by rw [←hhd];assumption)
        · first|exact hn4|exact hl_cnt hc hr4 (by omega) (by omega) (by omega) (by assumption) hn4
        · first|exact HlQ.put|exact hs4.yes (by assumption)|exact hs4.no hhd (by assumption)
       have hn79:nth ((nth M4 ((nth (nextsL x.l a2) j).toNat)).l) k=true:=(Bool.not_eq_false' _).mp hb79
       refine gS<|hK k75<|gL<|gRn (oM 1 rfl<|oadN _ 1 om9 rfl<|oM 1 rfl<|.nl)<|nN<|fun a84 w84 h84=>x_again ⟨_, ?_,(j+1),M4,g4, ?_, ?_, ?_, ?_,h84.nf ⟨rfl,rfl,rfl,rfl,rfl,rfl,rfl,rfl,rfl,rfl,rfl,trivial⟩,rfl⟩
       · rw [hm69];first|omega|(simp only [lens9];omega)
       · omega
       · first|exact hr4|exact hr4.put hc (by omega) hrch (by omega) (by omega) (fun h9=>hr4.sound a2 (by omega) k (by omega) h9) (hr3.sound a2 (by omega) k (by omega)) (by rw [←hhd];assumption)
       · first|exact hn4|exact hl_cnt hc hr4 (by omega) (by omega) (by omega) (by assumption) hn4
       · first|exact HlQ.put|exact hs4.yes (by assumption)|exact hs4.no hhd (by assumption)
      refine gRn (oKs 11 hb77 rfl rfl<|opF hb77 rfl<|.nl)<|nK k76<|gcF rfl rfl<|gS<|hK k75<|gL<|gRn (oM 1 rfl<|oadN _ 1 om9 rfl<|oM 1 rfl<|.nl)<|nN<|fun a85 w85 h85=>x_again ⟨_, ?_,(j+1),M4,g4, ?_, ?_, ?_, ?_,h85.nf ⟨rfl,rfl,rfl,rfl,rfl,rfl,rfl,rfl,rfl,rfl,rfl,trivial⟩,rfl⟩
      · rw [hm69];first|omega|(simp only [lens9];omega)
      · omega
      · first|exact hr4|exact hr4.put hc (by omega) hrch (by omega) (by omega) (fun h9=>hr4.sound a2 (by omega) k (by omega) h9) (hr3.sound a2 (by omega) k (by omega)) (by rw [←hhd];assumption)
      · first|exact hn4|exact hl_cnt hc hr4 (by omega) (by omega) (by omega) (by assumption) hn4
      · first|exact HlQ.put|exact hs4.yes (by assumption)|exact hs4.no hhd (by assumption)
     refine gX<|hK k62<|gL<|gRn (oM 1 rfl<|oadN _ 1 om9 rfl<|oM 1 rfl<|.nl)<|nN<|fun a86 w86 h86=>x_again ⟨_, ?_,(k+1),M4,g4, ?_, ?_, ?_, ?_,h86.nf ⟨rfl,rfl,rfl,rfl,rfl,rfl,rfl,rfl,rfl,trivial⟩,rfl⟩
     · rw [hm57];first|omega|(simp only [lens9];omega)
     · omega
     · exact hr4
     · exact hn4
     · exact hs4.done (by omega)
    refine gG h65<|gK fun _ k87=>sK fun _ k88=>gRn (oM 2 rfl<|oxN sl_45 ti_47 (aA 3 rfl) _ om9 rfl<|ofE fl_47_0 rfl<|olI ti_3 (aA 3 rfl) om9 rfl<|oeqI _ _ rfl<|oM 1 rfl<|.nl)<|?_;clear h65
    rcases dsp ((nth x.l a2).op=17) with ⟨hb89,hp89⟩|⟨hb89,hp89⟩
    ·skip
     refine gRn (oG hb89 (r_move rfl rfl) rfl<|oG hb89 (r_move rfl rfl) rfl<|oG hb89 (r_ixN (s:=x) (q:=a2) sl_45 ti_47 rfl rfl rfl (fun w h=>(h.at 3 rfl)) (show a2<x.l.length from om9)) rfl<|oG hb89 (r_fieldE (r:=1) fl_47_1 rfl rfl rfl) rfl<|oG hb89 (r_lde (s:=x) (i:=a2) (v:= .int .i64 ((nth x.l a2).a)) ti_3 rfl rfl rfl (fun w h=>(h.at 3 rfl)) (show a2<x.l.length from om9) (Nat.le_of_ble_eq_true rfl) rfl) rfl<|oG hb89 (r_move rfl rfl) rfl<|oG hb89 (r_eqlI (p:=(nth x.l a2).a) (q:=((k:Nat):Int)) rfl rfl rfl) rfl<|opT hb89 rfl<|.nl)<|nK k88<|gF [0,1,5,6,8,9,10,11,12,13,72] rfl<|gcd rfl (fun hb90 hp90=> ?_) fun hb90 hp90=> ?_
     ·skip
      refine gL<|gRn (oM 1 rfl<|.nl)<|nK k87<|gK fun _ k91=>sG (oM 2 rfl<|oxN sl_45 ti_47 (aA 3 rfl) _ om9 rfl<|ofE fl_47_0 rfl<|olI ti_3 (aA 3 rfl) om9 rfl<|oeqI _ _ rfl<|oM 1 rfl<|oKs 7 (decide_eq_false (by omega)) rfl rfl<|opF (decide_eq_false (by omega)) rfl<|.nl)<|gcF rfl rfl<|gS<|hK k91<|fun a93 w93 h93=>hsh66 _ _ ⟨true, ?_,h93.nf ⟨rfl,rfl,rfl,rfl,rfl,rfl,rfl,rfl,rfl,rfl,trivial⟩⟩
      · unfold outB;split;(first|rfl|(exfalso;omega));split;(first|rfl|(exfalso;omega));(first|rfl|(exfalso;omega))
     refine gS<|hK k87<|gK fun _ k94=>sG (oM 2 rfl<|oxN sl_45 ti_47 (aA 3 rfl) _ om9 rfl<|ofE fl_47_0 rfl<|olI ti_3 (aA 3 rfl) om9 rfl<|oeqI _ _ rfl<|oM 1 rfl<|oKs 7 (decide_eq_false (by omega)) rfl rfl<|opF (decide_eq_false (by omega)) rfl<|.nl)<|gcF rfl rfl<|gS<|hK k94<|fun a96 w96 h96=>hsh66 _ _ ⟨nth ((nth M3 a2).l) k, ?_,h96.nf ⟨rfl,rfl,rfl,rfl,rfl,rfl,rfl,rfl,rfl,rfl,trivial⟩⟩
     · unfold outB;split;(first|rfl|(exfalso;omega));split;(first|rfl|(exfalso;omega));(first|rfl|(exfalso;omega))
    refine gRn (oKs 7 hb89 rfl rfl<|opF hb89 rfl<|.nl)<|nK k88<|gF [0,1,5,6,8,9,10,11,12,13,72] rfl<|gcF rfl rfl<|gS<|hK k87<|gK fun _ k97=>sK fun _ k98=>gRn (oM 2 rfl<|oxN sl_45 ti_47 (aA 3 rfl) _ om9 rfl<|ofE fl_47_0 rfl<|olI ti_3 (aA 3 rfl) om9 rfl<|oeqI _ _ rfl<|oM 1 rfl<|.nl)<|?_
    rcases dsp ((nth x.l a2).op=18) with ⟨hb99,hp99⟩|⟨hb99,hp99⟩
    ·skip
     refine gRn (oG hb99 (r_move rfl rfl) rfl<|oG hb99 (r_move rfl rfl) rfl<|oG hb99 (r_ixN (s:=x) (q:=a2) sl_45 ti_47 rfl rfl rfl (fun w h=>(h.at 3 rfl)) (show a2<x.l.length from om9)) rfl<|oG hb99 (r_fieldE (r:=1) fl_47_1 rfl rfl rfl) rfl<|oG hb99 (r_lde (s:=x) (i:=a2) (v:= .int .i64 ((nth x.l a2).a)) ti_3 rfl rfl rfl (fun w h=>(h.at 3 rfl)) (show a2<x.l.length from om9) (Nat.le_of_ble_eq_true rfl) rfl) rfl<|oG hb99 (r_move rfl rfl) rfl<|oG hb99 (r_eqlI (p:=(nth x.l a2).a) (q:=((k:Nat):Int)) rfl rfl rfl) rfl<|opT hb99 rfl<|.nl)<|nK k98<|gcd rfl (fun hb100 hp100=> ?_) fun hb100 hp100=> ?_
     ·skip
      refine gL<|gRn (oM 1 rfl<|.nl)<|nK k97<|fun a101 w101 h101=>hsh66 _ _ ⟨false, ?_,h101.nf ⟨rfl,rfl,rfl,rfl,rfl,rfl,rfl,rfl,rfl,rfl,trivial⟩⟩
      · unfold outB;split;(first|rfl|(exfalso;omega));split;(first|rfl|(exfalso;omega));(first|rfl|(exfalso;omega))
     refine gS<|hK k97<|fun a102 w102 h102=>hsh66 _ _ ⟨nth ((nth M3 a2).l) k, ?_,h102.nf ⟨rfl,rfl,rfl,rfl,rfl,rfl,rfl,rfl,rfl,rfl,trivial⟩⟩
     · unfold outB;split;(first|rfl|(exfalso;omega));split;(first|rfl|(exfalso;omega));(first|rfl|(exfalso;omega))
    refine gRn (oKs 7 hb99 rfl rfl<|opF hb99 rfl<|.nl)<|nK k98<|gcF rfl rfl<|gS<|hK k97<|fun a103 w103 h103=>hsh66 _ _ ⟨nth ((nth M3 a2).l) k, ?_,h103.nf ⟨rfl,rfl,rfl,rfl,rfl,rfl,rfl,rfl,rfl,rfl,trivial⟩⟩
    · unfold outB;split;(first|rfl|(exfalso;omega));split;(first|rfl|(exfalso;omega));(first|rfl|(exfalso;omega))
   refine gX<|hK k48<|gL<|gRn (oM 1 rfl<|oadN _ 1 om9 rfl<|oM 1 rfl<|.nl)<|nN<|fun a104 w104 h104=>x_again ⟨_, ?_,(a2+1),M3,g3, ?_, ?_, ?_, ?_,h104.nrm ⟨rfl,rfl,rfl,rfl,rfl,rfl,rfl,trivial⟩ [1,2,3] rfl,rfl⟩
   · rw [hm43];first|omega|(simp only [lens9];omega)
   · omega
   · first|exact hr3|exact hr2
   · first|exact hn3|exact hn2
   · first|exact hs3.next (by omega)|exact hs2.skip (fun h9=>absurd ((hgo a2 (by omega)).2 h9) (by rw [(by assumption:nth s33.l a2=false)];decide))
  refine gX<|fun a105 w105 h105=> ?_
  change∃_m,_m<_∧_
  refine ⟨_, ?_,M2,g2, ?_, ?_,h105.nf ⟨rfl,rfl,rfl,rfl,rfl,rfl,trivial⟩,rfl⟩
  · rw [hm36];(have e1:g1=true:=by assumption);rw [e1];have e2:bN true=1:=rfl;omega
  · exact hr2
  · exact fun h=>hs2.end_ (by omega) h
 refine gX<|hK k34<|sG (oM 2 rfl<|.nl)<|gR<|fun a107 w107 h107=>x_ret1 (fn:=Try.f22) (t:=4) rfl h107 rfl ?_
 have h108:=h107.sel (L' := [_,_,_]) [1,0,2] rfl
 have hD:=h108.sh.matDeep own_mat
 have hD2:Sh0 W w107 [.deep 64 (⟨v15,M1⟩:Ls (Ls Bool))]:=hD.sel [0] rfl
 exact ⟨⟨v15,M1⟩,rfl,hr1.len,fun i hi=>⟨hr1.w i hi,fun k hk=>hl_end hc hr1 (hcl1 (by assumption)) (by omega) hk⟩,hD2⟩
theorem rEdges_c (code:Ls (Ls Ins))(words:Ls Int)(Lk R:Nat)(W:World)(hcode:code.At W)(hwords:words.At W)(hok:OkPg (pgN code words Lk R)):
    Rets Try.prog 25 [.agg #[code.v,words.v, .int .i64 ((Lk:Nat):Int), .int .i64 ((R:Nat):Int)]] W (fun v w' =>∃(ev:Value) (E:List (Ls Bool)),ev=v∧MtE Lk E (EdgesT code.l code.l.length)∧Sh0 W w' [.big (matX (.own 4) 64 ev E)]):=by
 obtain ⟨hl1,hl2,hl3,hl4',hl5,hl6,hl7⟩:=ok_lenN hok
 have hL:Lk≤4:=by have:=hok.locks.2;have e:(pgN code words Lk R).locks=((Lk:Nat):Int):=rfl;omega
 have hHL:∀t,t<code.l.length→∀k i,HeldI (nth code.l t).l k i→k<Lk:=fun t ht k i hh=>by have:=held_lt hok ht hh;omega
 refine gen Try.func25 Try.ntmps25 (Sh0.ext2 hcode hwords:Sh (fun _=>False) W W [.at_ code, .at_ words]) rfl fun a10 h10=>gG h10<|sK fun _ k11=>gbx rfl rfl fun b12=>gRn (oM 1 rfl<|.nl)<|nK k11<|sK fun _ k13=>gRn (ofB fl_25_2 rfl<|olB 0 ti_3 rfl rfl<|.nl)<|gE1 (fun _ _ h_=>x_makeMat (n:=Lk) h_ sl_61 ti_64 rfl rfl rfl (show 24*Lk≤140737488355328∧Lk≤140737488355328 from om9) rfl rfl 4 Bool) rfl fun v14=>gRn (oM 1 rfl<|.nl)<|nK k13<|gK fun _ k15=>sG (oM 1 rfl<|.nl)<|gB<|fun a18 w18 h18=>x_loop (fun m a w=>∃(i:Nat) (M:List (Ls Bool)),(i≤Lk)∧(M.length=Lk)∧(∀a,a<i→(nth M a).l=List.replicate Lk false)∧St 84 (fun _=>False) W a w [(1, .pointer (some ⟨b12,0,none⟩)),(3,v14),(4, .int .i64 ((i:Nat):Int))] [.big (matX (.own 4) 64 v14 M), .blk b12 25 [code.v,words.v, .int .i64 ((Lk:Nat):Int), .int .i64 ((R:Nat):Int)], .at_ code, .at_ words]∧m=Lk-i) ⟨_,0,List.replicate Lk (⟨.slice none 0 0, []⟩:Ls Bool),(by omega),(by simp),(fun a ha=>absurd ha (by omega)),h18.nf ⟨rfl,rfl,rfl,trivial⟩,rfl⟩ ?_;clear h10
 clear h18
 rintro m17 a17 w17 ⟨i,M,hi,hM,hz,h17,hm17⟩
 refine gG h17<|gK fun _ k19=>sG (oM 1 rfl<|ofB fl_25_2 rfl<|olB 1 ti_3 rfl rfl<|oltN _ _ rfl<|.nl)<|?_;clear h17
 refine gcd rfl (fun hb21 hp21=> ?_) fun hb21 hp21=> ?_
 ·skip
  refine gS<|hK k19<|gK fun _ k22=>gB<|gL<|gRn (oM 2 rfl<|ofB fl_25_2 rfl<|olB 1 ti_3 rfl rfl<|.nl)<|gE1 (fun _ _ h_=>x_make (n:=Lk) (false:Bool) h_ sl_64 ti_4 rfl rfl rfl rfl rfl (show 1*Lk≤140737488355328∧Lk≤140737488355328 from om9) (fun w=>Flat.inner _ _) (fun b=>Flat.on _ _) rfl rfl) rfl fun v23=>gRn (oxN sl_61 ti_64 (fun w h=>(h.matAt 1 rfl)) _ (by rw [rvs_len];exact (show i<M.length from (by omega))) rfl<|.nl)<|fun a24 w24 h24=> ?_
  have ha25:=(h24.sh.own 0 rfl)
  have h26:=h24.sel (L' := [_,_,_,_,_]) [1,0,2,3,4] rfl
  refine wl_ex (x_stMat (i:=i) (s:=(⟨v23,List.replicate Lk false⟩:Ls Bool)) h26 ti_64 rfl rfl rfl rfl (show i<M.length from (by omega)) ha25) (wanted_none rfl _) ?_
  rintro a27 w27 h27
  clear h26
  refine gG h27<|nK k22<|gL<|gRn (oM 1 rfl<|oadN _ 1 om9 rfl<|oM 1 rfl<|.nl)<|nN<|fun a28 w28 h28=>x_again ⟨_, ?_,i+1,M.set i (⟨v23,List.replicate Lk false⟩:Ls Bool), ?_, ?_, ?_,h28.nf ⟨rfl,rfl,rfl,trivial⟩,rfl⟩;clear h27
  · rw [hm17];first|omega|(simp only [lens9];omega)
  · omega
  · rw [List.length_set];exact hM
  · intro a ha;rw [nth_set];split;rfl;exact hz a (by omega)
 refine gX<|hK k15<|gK fun _ k29=>sG (oM 1 rfl<|.nl)<|gB<|fun a32 w32 h32=>x_loop (fun m a w=>∃(t:Nat) (M1:List (Ls Bool)),(t≤code.l.length)∧(MtE Lk M1 fun e=>EdgesT code.l t e)∧St 84 (fun _=>False) W a w [(1, .pointer (some ⟨b12,0,none⟩)),(3,v14),(5, .int .i64 ((t:Nat):Int))] [.big (matX (.own 4) 64 v14 M1), .blk b12 25 [code.v,words.v, .int .i64 ((Lk:Nat):Int), .int .i64 ((R:Nat):Int)], .at_ code, .at_ words]∧m=code.l.length-t) ⟨_,0,M,(by omega),((MtE.start hM (fun i hi=>hz i (by omega))).iff fun e=>edgesT_zero.symm),h32.nf ⟨rfl,rfl,rfl,trivial⟩,rfl⟩ ?_
 clear h32
 rintro m31 a31 w31 ⟨t,M1,ht,h1,h31,hm31⟩
 have hw1:=h1.len
 refine gG h31<|gK fun _ k33=>sK fun _ k34=>gNl (aA 2 rfl) fun hl35=>gRn (oM 1 rfl<|ofB fl_25_0 rfl<|olB 1 ti_22 rfl rfl<|oln sl_22 (aA 2 rfl) rfl<|oltN _ _ rfl<|.nl)<|nK k34<|?_;clear h31
 refine gcd rfl (fun hb36 hp36=> ?_) fun hb36 hp36=> ?_
 ·skip
  refine gS<|hK k33<|?_
  obtain ⟨hl4,hjt⟩:=ok_thread hok t (by omega)
  refine gK fun _ k37=>gB<|gK fun _ k38=>rT 7 [] (ofB fl_25_0 rfl<|olB 1 ti_22 rfl rfl<|oM 1 rfl<|oxN sl_22 ti_45 (aA 2 rfl) _ om9 rfl<|olE ((nth code.l t).v) ti_45 (aA 2 rfl) om9 rfl<|ofB fl_25_2 rfl<|olB 1 ti_3 rfl rfl<|.nl)<|gC (fun _ _ h_=>xCl h_ bd_22 rfl (rHeld_c (nth code.l t) Lk _ ((h_.sh.at 2 rfl).nth t (show t<code.l.length from (by omega))) (codeC_of hok (by omega)) (by omega) hL)) rfl<|?_
  rintro _ _ w39 ⟨s39,rfl,hrl39,hrv39,hs39⟩
  refine gWk hs39 rfl<|gU<|gRn (oM 1 rfl<|.nl)<|nK k38<|sG (oM 1 rfl<|.nl)<|gB<|fun a42 w42 h42=> ?_;clear hs39
  refine x_loop (fun m a w=>∃(i:Nat) (M2:List (Ls Bool)),(i≤(nth code.l t).l.length)∧(MtE Lk M2 fun e=>EdgesT code.l t e∨EdgeC (nth code.l t).l i e)∧St 84 (fun _=>False) W a w [(1, .pointer (some ⟨b12,0,none⟩)),(3,v14),(5, .int .i64 ((t:Nat):Int)),(6,s39.v),(7, .int .i64 ((i:Nat):Int))] [.deep 64 s39, .big (matX (.own 4) 64 v14 M2), .blk b12 25 [code.v,words.v, .int .i64 ((Lk:Nat):Int), .int .i64 ((R:Nat):Int)], .at_ code, .at_ words]∧m=(nth code.l t).l.length-i) ⟨_,0,M1,(by omega),(h1.iff fun e=>by rw [edgeC_zero];simp),h42.nf ⟨rfl,rfl,rfl,rfl,rfl,trivial⟩,rfl⟩ ?_
  clear h42
  rintro m41 a41 w41 ⟨i,M2,hi,h2,h41,hm41⟩
  have hw2:=h2.len
  refine gG h41<|gK fun _ k43=>sK fun _ k44=>gNl (fun w h=>((h.at 3 rfl).nth t (show t<code.l.length from (by omega)))) fun (hl45:((nth code.l t).l).length≤140737488355328)=>gRn (oM 1 rfl<|ofB fl_25_0 rfl<|olB 2 ti_22 rfl rfl<|oM 1 rfl<|oxN sl_22 ti_45 (aA 3 rfl) _ om9 rfl<|olE ((nth code.l t).v) ti_45 (aA 3 rfl) om9 rfl<|oln (n:=((nth code.l t).l).length) sl_45 (fun w h=>((h.at 3 rfl).nth t (show t<code.l.length from (by omega)))) rfl<|oltN _ _ rfl<|.nl)<|nK k44<|?_;clear h41
  refine gcd rfl (fun hb46 hp46=> ?_) fun hb46 hp46=> ?_
  ·skip
   refine gS<|hK k43<|?_
   have hrl8:=hrl39
   refine gK fun _ k47=>gB<|sK fun _ k48=>gRn (ofB fl_25_0 rfl<|olB 2 ti_22 rfl rfl<|oM 1 rfl<|oxN sl_22 ti_45 (aA 3 rfl) _ om9 rfl<|olE ((nth code.l t).v) ti_45 (aA 3 rfl) om9 rfl<|oM 1 rfl<|oxN sl_45 ti_47 (fun w h=>((h.at 3 rfl).nth t (show t<code.l.length from (by omega)))) _ om9 rfl<|olw2 [.int .i64 ((nth ((nth code.l t).l) i).op), .int .i64 ((nth ((nth code.l t).l) i).a), .int .i64 ((nth ((nth code.l t).l) i).b), .int .i64 ((nth ((nth code.l t).l) i).c)] ti_47 (fun w h=>((h.at 3 rfl).nth t (show t<code.l.length from (by omega)))) om9 rfl<|.nl)<|gal ti_47 rfl fun b49=>gsw 0 ti_47 rfl rfl rfl<|nK k48<|sG (oM 1 rfl<|.nl)<|gB<|fun a53 w53 h53=>x_loop (fun m a w=>∃(q:Nat) (M3:List (Ls Bool)),(q≤Lk)∧(MtE Lk M3 fun e=>(EdgesT code.l t e∨EdgeC (nth code.l t).l i e)∨EdgeR (nth code.l t).l i q e)∧((nth (nth code.l t).l i).op=17∨q=0)∧St 84 (fun _=>False) W a w [(1, .pointer (some ⟨b12,0,none⟩)),(3,v14),(5, .int .i64 ((t:Nat):Int)),(6,s39.v),(7, .int .i64 ((i:Nat):Int)),(8, .pointer (some ⟨b49,0,none⟩)),(9, .int .i64 ((q:Nat):Int))] [.blk b49 47 [.int .i64 ((nth ((nth code.l t).l) i).op), .int .i64 ((nth ((nth code.l t).l) i).a), .int .i64 ((nth ((nth code.l t).l) i).b), .int .i64 ((nth ((nth code.l t).l) i).c)], .deep 64 s39, .big (matX (.own 4) 64 v14 M3), .blk b12 25 [code.v,words.v, .int .i64 ((Lk:Nat):Int), .int .i64 ((R:Nat):Int)], .at_ code, .at_ words]∧m=Lk-q) ⟨_,0,M2,(by omega),(h2.iff fun e=>edgeR_zero.symm),(.inr rfl),h53.nf ⟨rfl,rfl,rfl,rfl,rfl,rfl,rfl,trivial⟩,rfl⟩ ?_
   clear h53
   rintro m52 a52 w52 ⟨q,M3,hq,h3,h17,h52,hm52⟩
   have hw3:=h3.len
   refine gG h52<|gK fun _ k54=>sK fun _ k55=>gRn (oM 1 rfl<|ofB fl_25_2 rfl<|olB 3 ti_3 rfl rfl<|oltN _ _ rfl<|oM 1 rfl<|.nl)<|?_;clear h52
   rcases dsp (q<Lk) with ⟨hb56,hp56⟩|⟨hb56,hp56⟩
   ·skip
    refine gRn (oG hb56 (r_fieldB (r:=0) fl_47_0 rfl rfl rfl) rfl<|oG hb56 (r_ldb (i:=0) ti_3 rfl rfl rfl rfl) rfl<|oG hb56 (r_eqlI (p:=(nth ((nth code.l t).l) i).op) (q:=17) rfl rfl rfl) rfl<|opT hb56 rfl<|.nl)<|nK k55<|gcd rfl (fun hb57 hp57=> ?_) fun hb57 hp57=> ?_
    ·skip
     refine gS<|hK k54<|?_
     have hrv9:=(hrv39 i (by omega)).2 q (by omega)
     have hrl9:=(hrv39 i (by omega)).1
     refine gK fun _ k58=>gB<|sK fun _ k59=>gNl (aD 1 rfl) fun hl60=>gNl (fun w h=>((h.deep 1 rfl).nth i (show i<s39.l.length from (by omega)))) fun (hl61:((nth s39.l i).l).length≤140737488355328)=>gRn (oM 2 rfl<|oxN sl_61 ti_64 (aD 1 rfl) _ om9 rfl<|olE ((nth s39.l i).v) ti_64 (aD 1 rfl) om9 rfl<|oM 1 rfl<|oxN sl_64 ti_4 (fun w h=>((h.deep 1 rfl).nth i (show i<s39.l.length from (by omega)))) _ om9 rfl<|olE (.bool (nth ((nth s39.l i).l) q)) ti_4 (fun w h=>((h.deep 1 rfl).nth i (show i<s39.l.length from (by omega)))) om9 rfl<|.nl)<|nK k59<|?_
     have hla:=lock_a (insO_of hok (by omega:t<code.l.length) (by omega:i<(nth code.l t).l.length)) (.inl (by assumption));have hla2:(pgOf code words ((Lk:Nat):Int) ((R:Nat):Int)).locks=((Lk:Nat):Int):=rfl;rw [hla2] at hla
     have hw4:=h3.w q (by omega)
     refine gCb rfl (fun hb62=> ?_) fun hb62=> ?_
     ·skip
      refine gNl (fun w h=>(h.matRow 2 rfl q (show q<M3.length from (by omega)))) fun (hl63:((nth M3 q).l).length≤140737488355328)=>rT 7 [] (oM 2 rfl<|oxN sl_61 ti_64 (fun w h=>(h.matAt 2 rfl)) _ (by rw [rvs_len];exact (show q<M3.length from (by omega))) rfl<|oV (Rn.same (r_lde (s:=(⟨v14,rvs M3⟩:Ls RV)) (i:=q) (v:=(nth (rvs M3) q).v) ti_64 rfl rfl rfl (fun w h=>h.matAt 2 rfl) (by rw [rvs_len];exact (show q<M3.length from om9)) (Nat.le_of_ble_eq_true rfl) rfl) (nth_rvs M3 q)) rfl<|ofB fl_47_1 rfl<|olB 0 ti_3 rfl rfl<|oxI sl_64 ti_4 (fun w h=>(h.matRow 2 rfl q (show q<M3.length from (by omega)))) om9 rfl<|.nl)<|gO [2,0,1,3,4,5] rfl<|gE (fun _ _ h_=>x_stMatE (i:=q) (q:=((nth ((nth code.l t).l) i).a).toNat) (x' :=(true:Bool)) h_ ti_4 rfl rfl rfl rfl (show q<M3.length from om9) (show ((nth ((nth code.l t).l) i).a).toNat<(nth M3 q).l.length from om9) rfl rfl rfl rfl) rfl<|nK k58<|gF [1,3,5,6,7,8,9] rfl<|gL<|gRn (oM 1 rfl<|oadN _ 1 om9 rfl<|oM 1 rfl<|.nl)<|nN<|fun a66 w66 h66=> ?_
      refine x_again ⟨_, ?_,(q+1),M3.set q ⟨(nth M3 q).v,(nth M3 q).l.set (((nth ((nth code.l t).l) i).a).toNat) true⟩, ?_, ?_, ?_,h66.nrm ⟨rfl,rfl,rfl,rfl,rfl,rfl,rfl,trivial⟩ [1,2,0,3,4,5] rfl,rfl⟩
      · rw [hm52];first|omega|(simp only [lens9];omega)
      · omega
      · first|exact (h3.put (by omega) (by omega)).iff fun e=>edge_put (by omega) (hrv9.1 (by assumption))|exact h3.iff fun e=>edgeR_no fun h9=>by have h8:=hrv9.2 h9;rw [(by assumption:nth (nth s39.l i).l q=false)] at h8;cases h8
      · exact .inl (by assumption)
     refine gS<|hK k58<|gL<|gRn (oM 1 rfl<|oadN _ 1 om9 rfl<|oM 1 rfl<|.nl)<|nN<|fun a67 w67 h67=>x_again ⟨_, ?_,(q+1),M3, ?_, ?_, ?_,h67.nf ⟨rfl,rfl,rfl,rfl,rfl,rfl,rfl,trivial⟩,rfl⟩
     · rw [hm52];first|omega|(simp only [lens9];omega)
     · omega
     · first|exact (h3.put (by omega) (by omega)).iff fun e=>edge_put (by omega) (hrv9.1 (by assumption))|exact h3.iff fun e=>edgeR_no fun h9=>by have h8:=hrv9.2 h9;rw [(by assumption:nth (nth s39.l i).l q=false)] at h8;cases h8
     · exact .inl (by assumption)
    refine gX<|hK k47<|gL<|gRn (oM 1 rfl<|oadN _ 1 om9 rfl<|oM 1 rfl<|.nl)<|nN<|fun a68 w68 h68=>x_again ⟨_, ?_,(i+1),M3, ?_, ?_,h68.nrm ⟨rfl,rfl,rfl,rfl,rfl,trivial⟩ [1,2,3,4,5] rfl,rfl⟩
    · rw [hm41];first|omega|(simp only [lens9];omega)
    · omega
    · exact h3.iff fun e=>edgeR_done (hHL t (by omega)) hL h17 (by first|exact .inl (by assumption)|exact .inr (by omega))
   refine gRn (oKs 3 hb56 rfl rfl<|opF hb56 rfl<|.nl)<|nK k55<|gcF rfl rfl<|gX<|hK k47<|gL<|gRn (oM 1 rfl<|oadN _ 1 om9 rfl<|oM 1 rfl<|.nl)<|nN<|fun a69 w69 h69=>x_again ⟨_, ?_,(i+1),M3, ?_, ?_,h69.nrm ⟨rfl,rfl,rfl,rfl,rfl,trivial⟩ [1,2,3,4,5] rfl,rfl⟩
   · rw [hm41];first|omega|(simp only [lens9];omega)
   · omega
   · exact h3.iff fun e=>edgeR_done (hHL t (by omega)) hL h17 (by first|exact .inl (by assumption)|exact .inr (by omega))
  refine gX<|hK k37<|gL<|gRn (oM 1 rfl<|oadN _ 1 om9 rfl<|oM 1 rfl<|.nl)<|nN<|fun a70 w70 h70=>x_again ⟨_, ?_,(t+1),M2, ?_, ?_,h70.nrm ⟨rfl,rfl,rfl,trivial⟩ [1,2,3,4] rfl,rfl⟩
  · rw [hm31];first|omega|(simp only [lens9];omega)
  · omega
  · exact h2.iff fun e=>by rw [edgesT_succ,show i=(nth code.l t).l.length from by omega]
 refine gX<|hK k29<|sG (oM 2 rfl<|.nl)<|gR<|fun a72 w72 h72=>x_ret1 (fn:=Try.f25) (t:=2) rfl h72 rfl ?_
 exact ⟨v14,M1,rfl,h1.iff fun e=>by rw [show t=code.l.length from by omega],(h72.sh.sel [0] rfl)⟩
theorem rSafe_c (code:Ls (Ls Ins))(words:Ls Int)(Lk R:Nat)(W:World)(hcode:code.At W)(hwords:words.At W)(hok:OkPg (pgN code words Lk R)):
    Rets Try.prog 26 [.agg #[code.v,words.v, .int .i64 ((Lk:Nat):Int), .int .i64 ((R:Nat):Int)]] W (fun v w' =>∃b:Bool,v= .bool b∧(b=true↔SafeP code.l)∧Sh0 W w' []):=by
 obtain ⟨hl1,hl2,hl3,hl4',hl5,hl6,hl7⟩:=ok_lenN hok
 have hL:Lk≤4:=by have:=hok.locks.2;have e:(pgN code words Lk R).locks=((Lk:Nat):Int):=rfl;omega
 refine gen Try.func26 Try.ntmps26 (Sh0.ext2 hcode hwords:Sh (fun _=>False) W W [.at_ code, .at_ words]) rfl fun a10 h10=>gG h10<|sK fun _ k11=>gbx rfl rfl fun b12=>gRn (oM 1 rfl<|.nl)<|nK k11<|gK fun _ k13=>sG (oM 1 rfl<|.nl)<|gB<|fun a16 w16 h16=>x_loop (fun m a w=>∃(t:Nat),(t≤code.l.length)∧(∀u,u<t→∀k,k<Lk→¬HeldI (nth code.l u).l k (nth code.l u).l.length)∧St 106 (fun _=>False) W a w [(1, .pointer (some ⟨b12,0,none⟩)),(3, .int .i64 ((t:Nat):Int))] [.blk b12 25 [code.v,words.v, .int .i64 ((Lk:Nat):Int), .int .i64 ((R:Nat):Int)], .at_ code, .at_ words]∧m=code.l.length-t) ⟨_,0,(by omega),(fun u hu=>absurd hu (by omega)),h16.nf ⟨rfl,rfl,trivial⟩,rfl⟩ ?_;clear h10
 clear h16
 rintro m15 a15 w15 ⟨t,ht,hno,h15,hm15⟩
 refine gG h15<|gK fun _ k17=>sK fun _ k18=>gNl (aA 1 rfl) fun hl19=>gRn (oM 1 rfl<|ofB fl_25_0 rfl<|olB 0 ti_22 rfl rfl<|oln sl_22 (aA 1 rfl) rfl<|oltN _ _ rfl<|.nl)<|nK k18<|?_;clear h15
 refine gcd rfl (fun hb20 hp20=> ?_) fun hb20 hp20=> ?_
 ·skip
  refine gS<|hK k17<|?_
  obtain ⟨hl4,hjt⟩:=ok_thread hok t (by omega)
  refine gK fun _ k21=>gB<|gK fun _ k22=>rT 7 [] (ofB fl_25_0 rfl<|olB 0 ti_22 rfl rfl<|oM 1 rfl<|oxN sl_22 ti_45 (aA 1 rfl) _ om9 rfl<|olE ((nth code.l t).v) ti_45 (aA 1 rfl) om9 rfl<|ofB fl_25_2 rfl<|olB 0 ti_3 rfl rfl<|.nl)<|fun a24 w24 h24=>wl_ex (x_call h24 bd_22 rfl rfl rfl rfl rfl (rHeld_c (nth code.l t) Lk _ ((h24.sh.at 1 rfl).nth t (show t<code.l.length from (by omega))) (codeC_of hok (by omega)) (by omega) hL)) (wanted_none rfl _) ?_
  rintro a25 w25 ⟨_,⟨s25,rfl,hrl25,hrv25,hs25⟩,hf25⟩
  have h25:=(⟨hf25,h24.sh.call hs25 (by intro A hA b hb;simp only [List.mem_cons,List.not_mem_nil,or_false] at hA;subst hA;first|exact Flat.noRd hb|exact (hb:False).elim|exact matNoRd hb)⟩:St 106 (fun _=>False) W a25 w25 _ _)
  clear hf25 hs25
  clear h24
  refine gG h25<|gRn (oM 1 rfl<|.nl)<|nK k22<|sG (oM 1 rfl<|.nl)<|gB<|?_;clear h25
  have hrv9:=hrv25 (nth code.l t).l.length (by omega)
  have hrl8:=hrl25
  intro a28 w28 h28
  refine x_loop (fun m a w=>∃(q:Nat),(q≤Lk)∧(∀k,k<q→¬HeldI (nth code.l t).l k (nth code.l t).l.length)∧St 106 (fun _=>False) W a w [(1, .pointer (some ⟨b12,0,none⟩)),(3, .int .i64 ((t:Nat):Int)),(4,s25.v),(5, .int .i64 ((q:Nat):Int))] [.deep 64 s25, .blk b12 25 [code.v,words.v, .int .i64 ((Lk:Nat):Int), .int .i64 ((R:Nat):Int)], .at_ code, .at_ words]∧m=Lk-q) ⟨_,0,(by omega),(fun u hu=>absurd hu (by omega)),h28.nf ⟨rfl,rfl,rfl,rfl,trivial⟩,rfl⟩ ?_
  clear h28
  rintro m27 a27 w27 ⟨q,hq,hna,h27,hm27⟩
  refine gG h27<|gK fun _ k29=>sG (oM 1 rfl<|ofB fl_25_2 rfl<|olB 1 ti_3 rfl rfl<|oltN _ _ rfl<|.nl)<|?_;clear h27
  refine gcd rfl (fun hb31 hp31=> ?_) fun hb31 hp31=> ?_
  ·skip
   refine gS<|hK k29<|?_
   have hw9:=hrv9.1
   refine gK fun _ k32=>gB<|sK fun _ k33=>gNl (fun w h=>((h.at 2 rfl).nth t (show t<code.l.length from (by omega)))) fun (hl34:((nth code.l t).l).length≤140737488355328)=>gNl (aD 0 rfl) fun hl35=>gNl (fun w h=>((h.deep 0 rfl).nth (((nth code.l t).l).length) (show ((nth code.l t).l).length<s25.l.length from (by omega)))) fun (hl36:((nth s25.l (((nth code.l t).l).length)).l).length≤140737488355328)=>gRn (oM 1 rfl<|ofB fl_25_0 rfl<|olB 1 ti_22 rfl rfl<|oM 1 rfl<|oxN sl_22 ti_45 (aA 2 rfl) _ om9 rfl<|olE ((nth code.l t).v) ti_45 (aA 2 rfl) om9 rfl<|oln (n:=((nth code.l t).l).length) sl_45 (fun w h=>((h.at 2 rfl).nth t (show t<code.l.length from (by omega)))) rfl<|oxN sl_61 ti_64 (aD 0 rfl) _ om9 rfl<|olE ((nth s25.l (((nth code.l t).l).length)).v) ti_64 (aD 0 rfl) om9 rfl<|oM 1 rfl<|oxN sl_64 ti_4 (fun w h=>((h.deep 0 rfl).nth (((nth code.l t).l).length) (show ((nth code.l t).l).length<s25.l.length from (by omega)))) _ om9 rfl<|olE (.bool (nth ((nth s25.l (((nth code.l t).l).length)).l) q)) ti_4 (fun w h=>((h.deep 0 rfl).nth (((nth code.l t).l).length) (show ((nth code.l t).l).length<s25.l.length from (by omega)))) om9 rfl<|.nl)<|nK k33<|gCb rfl (fun hb37=> ?_) fun hb37=> ?_
   ·skip
    refine sG (oM 1 rfl<|.nl)<|gR<|uB<|uT<|uT<|uB<|uB<|uT<|uT<|uB<|uT<|fun a39 w39 h39=>x_ret1 (fn:=Try.f26) (t:=2) rfl h39 rfl<|⟨false,rfl,⟨fun h9=>Bool.noConfusion h9,fun h9=> ?_⟩,(h39.sh.sel [] rfl)⟩
    first|exact absurd ((hT1.end_ (by omega) (by omega) hL hEE (by omega)).1 (by assumption)) (h9.2 d (by omega))|exact absurd ((hrv9.2 q (by omega)).1 (by assumption)) (h9.1 t (by omega) q (by omega))
   refine gS<|hK k32<|gL<|gRn (oM 1 rfl<|oadN _ 1 om9 rfl<|oM 1 rfl<|.nl)<|nN<|fun a40 w40 h40=>x_again ⟨_, ?_,q+1, ?_, ?_,h40.nf ⟨rfl,rfl,rfl,rfl,trivial⟩,rfl⟩
   · rw [hm27];first|omega|(simp only [lens9];omega)
   · omega
   · exact no_step (A:=fun k=>¬HeldI (nth code.l t).l k (nth code.l t).l.length) hna fun h9=>by have h8:=(hrv9.2 q (by omega)).2 h9;rw [(by assumption:nth (nth s25.l (nth code.l t).l.length).l q=false)] at h8;cases h8
  refine gX<|hK k21<|gL<|gRn (oM 1 rfl<|oadN _ 1 om9 rfl<|oM 1 rfl<|.nl)<|nN<|fun a41 w41 h41=>x_again ⟨_, ?_,t+1, ?_, ?_,h41.nrm ⟨rfl,rfl,trivial⟩ [1,2,3] rfl,rfl⟩
  · rw [hm15];first|omega|(simp only [lens9];omega)
  · omega
  · exact no_step (A:=fun u=>∀k,k<Lk→¬HeldI (nth code.l u).l k (nth code.l u).l.length) hno fun k hk=>hna k (by omega)
 refine gX<|hK k13<|sK fun _ k42=>gRn (olw 0 ti_25 rfl rfl<|.nl)<|fun a44 w44 h44=>wl_ex (x_call h44 bd_25 rfl rfl rfl rfl rfl (rEdges_c code words Lk R _ (h44.sh.at 1 rfl) (h44.sh.at 2 rfl) hok)) (wanted_none rfl _) ?_
 rintro a45 w45 ⟨_,⟨ve45,E45,rfl,hem45,hs45⟩,hf45⟩
 have h45:=(⟨hf45,h44.sh.call hs45 (by intro A hA b hb;simp only [List.mem_cons,List.not_mem_nil,or_false] at hA;subst hA;first|exact Flat.noRd hb|exact (hb:False).elim|exact matNoRd hb)⟩:St 106 (fun _=>False) W a45 w45 _ _)
 clear hf45 hs45
 clear h44
 refine gG h45<|gRn (oM 1 rfl<|.nl)<|nK k42<|gK fun _ k46=>sG (oM 1 rfl<|.nl)<|gB<|fun a49 w49 h49=>x_loop (fun m a w=>∃(n:Nat) (T1:List (Ls Bool)),(n≤Lk)∧(ClQ (fun a b:Nat=>EdgesT code.l code.l.length ⟨(a:Int),(b:Int)⟩) Lk n 0 0 0 T1)∧St 106 (fun _=>False) W a w [(1, .pointer (some ⟨b12,0,none⟩)),(6,ve45),(7, .int .i64 ((n:Nat):Int))] [.big (matX (.own 4) 64 ve45 T1), .blk b12 25 [code.v,words.v, .int .i64 ((Lk:Nat):Int), .int .i64 ((R:Nat):Int)], .at_ code, .at_ words]∧m=Lk-n) ⟨_,0,E45,(by omega),(ClQ.start hem45),h49.nf ⟨rfl,rfl,rfl,trivial⟩,rfl⟩ ?_;clear h45
 clear h49
 rintro m48 a48 w48 ⟨n,T1,hn,hT1,h48,hm48⟩
 have hwT1:=hT1.len
 refine gG h48<|gK fun _ k50=>sG (oM 1 rfl<|ofB fl_25_2 rfl<|olB 1 ti_3 rfl rfl<|oltN _ _ rfl<|.nl)<|?_;clear h48
 refine gcd rfl (fun hb52 hp52=> ?_) fun hb52 hp52=> ?_
 ·skip
  refine gS<|hK k50<|gK fun _ k53=>gB<|sG (oM 1 rfl<|.nl)<|gB<|fun a56 w56 h56=>x_loop (fun m a w=>∃(i:Nat) (T2:List (Ls Bool)),(i≤Lk)∧(ClQ (fun a b:Nat=>EdgesT code.l code.l.length ⟨(a:Int),(b:Int)⟩) Lk n i 0 0 T2)∧St 106 (fun _=>False) W a w [(1, .pointer (some ⟨b12,0,none⟩)),(6,ve45),(7, .int .i64 ((n:Nat):Int)),(8, .int .i64 ((i:Nat):Int))] [.big (matX (.own 4) 64 ve45 T2), .blk b12 25 [code.v,words.v, .int .i64 ((Lk:Nat):Int), .int .i64 ((R:Nat):Int)], .at_ code, .at_ words]∧m=Lk-i) ⟨_,0,T1,(by omega),(hT1),h56.nf ⟨rfl,rfl,rfl,rfl,trivial⟩,rfl⟩ ?_
  clear h56
  rintro m55 a55 w55 ⟨i,T2,hi,hT2,h55,hm55⟩
  have hwT2:=hT2.len
  refine gG h55<|gK fun _ k57=>sG (oM 1 rfl<|ofB fl_25_2 rfl<|olB 1 ti_3 rfl rfl<|oltN _ _ rfl<|.nl)<|?_;clear h55
  refine gcd rfl (fun hb59 hp59=> ?_) fun hb59 hp59=> ?_
  ·skip
   refine gS<|hK k57<|gK fun _ k60=>gB<|sG (oM 1 rfl<|.nl)<|gB<|fun a63 w63 h63=>x_loop (fun m a w=>∃(j:Nat) (T3:List (Ls Bool)),(j≤Lk)∧(ClQ (fun a b:Nat=>EdgesT code.l code.l.length ⟨(a:Int),(b:Int)⟩) Lk n i j 0 T3)∧St 106 (fun _=>False) W a w [(1, .pointer (some ⟨b12,0,none⟩)),(6,ve45),(7, .int .i64 ((n:Nat):Int)),(8, .int .i64 ((i:Nat):Int)),(9, .int .i64 ((j:Nat):Int))] [.big (matX (.own 4) 64 ve45 T3), .blk b12 25 [code.v,words.v, .int .i64 ((Lk:Nat):Int), .int .i64 ((R:Nat):Int)], .at_ code, .at_ words]∧m=Lk-j) ⟨_,0,T2,(by omega),(hT2),h63.nf ⟨rfl,rfl,rfl,rfl,rfl,trivial⟩,rfl⟩ ?_
   clear h63
   rintro m62 a62 w62 ⟨j,T3,hj,hT3,h62,hm62⟩
   have hwT3:=hT3.len
   refine gG h62<|gK fun _ k64=>sG (oM 1 rfl<|ofB fl_25_2 rfl<|olB 1 ti_3 rfl rfl<|oltN _ _ rfl<|.nl)<|?_;clear h62
   refine gcd rfl (fun hb66 hp66=> ?_) fun hb66 hp66=> ?_
   ·skip
    refine gS<|hK k64<|gK fun _ k67=>gB<|sG (oM 1 rfl<|.nl)<|gB<|fun a70 w70 h70=>x_loop (fun m a w=>∃(c:Nat) (T4:List (Ls Bool)),(c≤Lk)∧(ClQ (fun a b:Nat=>EdgesT code.l code.l.length ⟨(a:Int),(b:Int)⟩) Lk n i j c T4)∧St 106 (fun _=>False) W a w [(1, .pointer (some ⟨b12,0,none⟩)),(6,ve45),(7, .int .i64 ((n:Nat):Int)),(8, .int .i64 ((i:Nat):Int)),(9, .int .i64 ((j:Nat):Int)),(10, .int .i64 ((c:Nat):Int))] [.big (matX (.own 4) 64 ve45 T4), .blk b12 25 [code.v,words.v, .int .i64 ((Lk:Nat):Int), .int .i64 ((R:Nat):Int)], .at_ code, .at_ words]∧m=Lk-c) ⟨_,0,T3,(by omega),(hT3),h70.nf ⟨rfl,rfl,rfl,rfl,rfl,rfl,trivial⟩,rfl⟩ ?_
    clear h70
    rintro m69 a69 w69 ⟨c,T4,hc,hT4,h69,hm69⟩
    have hwT4:=hT4.len
    refine gG h69<|gK fun _ k71=>sG (oM 1 rfl<|ofB fl_25_2 rfl<|olB 1 ti_3 rfl rfl<|oltN _ _ rfl<|.nl)<|?_;clear h69
    refine gcd rfl (fun hb73 hp73=> ?_) fun hb73 hp73=> ?_
    ·skip
     refine gS<|hK k71<|?_
     have hw5:=hT4.w i (by omega)
     have hw6:=hT4.w j (by omega)
     refine gK fun _ k74=>gB<|sK fun _ k75=>gNl (fun w h=>(h.matRow 0 rfl i (show i<T4.length from (by omega)))) fun (hl76:((nth T4 i).l).length≤140737488355328)=>gRn (oM 2 rfl<|oxN sl_61 ti_64 (fun w h=>(h.matAt 0 rfl)) _ (by rw [rvs_len];exact (show i<T4.length from (by omega))) rfl<|oV (Rn.same (r_lde (s:=(⟨ve45,rvs T4⟩:Ls RV)) (i:=i) (v:=(nth (rvs T4) i).v) ti_64 rfl rfl rfl (fun w h=>h.matAt 0 rfl) (by rw [rvs_len];exact (show i<T4.length from om9)) (Nat.le_of_ble_eq_true rfl) rfl) (nth_rvs T4 i)) rfl<|oM 1 rfl<|oxN sl_64 ti_4 (fun w h=>(h.matRow 0 rfl i (show i<T4.length from (by omega)))) _ om9 rfl<|olE (.bool (nth ((nth T4 i).l) j)) ti_4 (fun w h=>(h.matRow 0 rfl i (show i<T4.length from (by omega)))) om9 rfl<|oM 1 rfl<|.nl)<|?_
     rcases Bool.eq_false_or_eq_true (nth ((nth T4 i).l) j) with hb77|hb77
     ·skip
      refine gNl (fun w h=>(h.matRow 0 rfl j (show j<T4.length from (by omega)))) fun (hl78:((nth T4 j).l).length≤140737488355328)=>gRn (oG hb77 (r_move rfl rfl) rfl<|oG hb77 (r_move rfl rfl) rfl<|oG hb77 (r_ixN (s:=(⟨ve45,rvs T4⟩:Ls RV)) (q:=j) sl_61 ti_64 rfl rfl rfl (fun w h=>(h.matAt 0 rfl)) (by rw [rvs_len];exact (show j<T4.length from om9))) rfl<|oG hb77 (Rn.same (r_lde (s:=(⟨ve45,rvs T4⟩:Ls RV)) (i:=j) (v:=(nth (rvs T4) j).v) ti_64 rfl rfl rfl (fun w h=>h.matAt 0 rfl) (by rw [rvs_len];exact (show j<T4.length from om9)) (Nat.le_of_ble_eq_true rfl) rfl) (nth_rvs T4 j)) rfl<|oG hb77 (r_move rfl rfl) rfl<|oG hb77 (r_ixN (s:=(nth T4 j)) (q:=c) sl_64 ti_4 rfl rfl rfl (fun w h=>(h.matRow 0 rfl j (show j<T4.length from om9))) (show c<((nth T4 j).l).length from om9)) rfl<|oG hb77 (r_lde (s:=(nth T4 j)) (i:=c) (v:= .bool (nth ((nth T4 j).l) c)) ti_4 rfl rfl rfl (fun w h=>(h.matRow 0 rfl j (show j<T4.length from om9))) (show c<((nth T4 j).l).length from om9) (Nat.le_of_ble_eq_true rfl) rfl) rfl<|opT hb77 rfl<|.nl)<|nK k75<|gCb rfl (fun hb79=> ?_) fun hb79=> ?_
      ·skip
       refine gL<|gRn (oM 2 rfl<|oxN sl_61 ti_64 (fun w h=>(h.matAt 0 rfl)) _ (by rw [rvs_len];exact (show i<T4.length from (by omega))) rfl<|oV (Rn.same (r_lde (s:=(⟨ve45,rvs T4⟩:Ls RV)) (i:=i) (v:=(nth (rvs T4) i).v) ti_64 rfl rfl rfl (fun w h=>h.matAt 0 rfl) (by rw [rvs_len];exact (show i<T4.length from om9)) (Nat.le_of_ble_eq_true rfl) rfl) (nth_rvs T4 i)) rfl<|oM 1 rfl<|oxN sl_64 ti_4 (fun w h=>(h.matRow 0 rfl i (show i<T4.length from (by omega)))) _ om9 rfl<|.nl)<|gE (fun _ _ h_=>x_stMatE (i:=i) (q:=c) (x' :=(true:Bool)) h_ ti_4 rfl rfl rfl rfl (show i<T4.length from om9) (show c<(nth T4 i).l.length from om9) rfl rfl rfl rfl) rfl<|nK k74<|gF [1,6,7,8,9,10] rfl<|gL<|gRn (oM 1 rfl<|oadN _ 1 om9 rfl<|oM 1 rfl<|.nl)<|nN<|fun a81 w81 h81=> ?_
       refine x_again ⟨_, ?_,(c+1),T4.set i ⟨(nth T4 i).v,(nth T4 i).l.set c true⟩, ?_, ?_,h81.nf ⟨rfl,rfl,rfl,rfl,rfl,rfl,trivial⟩,rfl⟩
       · rw [hm69];first|omega|(simp only [lens9];omega)
       · omega
       · first|exact hT4.yes (by omega) (by omega) (by omega) (by omega) (by assumption) (by assumption)|exact hT4.no (by first|exact .inl (by assumption)|exact .inr (by assumption))
      refine gS<|hK k74<|gL<|gRn (oM 1 rfl<|oadN _ 1 om9 rfl<|oM 1 rfl<|.nl)<|nN<|fun a82 w82 h82=>x_again ⟨_, ?_,(c+1),T4, ?_, ?_,h82.nf ⟨rfl,rfl,rfl,rfl,rfl,rfl,trivial⟩,rfl⟩
      · rw [hm69];first|omega|(simp only [lens9];omega)
      · omega
      · first|exact hT4.yes (by omega) (by omega) (by omega) (by omega) (by assumption) (by assumption)|exact hT4.no (by first|exact .inl (by assumption)|exact .inr (by assumption))
     refine gRn (oKs 7 hb77 rfl rfl<|opF hb77 rfl<|.nl)<|nK k75<|gcF rfl rfl<|gS<|hK k74<|gL<|gRn (oM 1 rfl<|oadN _ 1 om9 rfl<|oM 1 rfl<|.nl)<|nN<|fun a83 w83 h83=>x_again ⟨_, ?_,(c+1),T4, ?_, ?_,h83.nf ⟨rfl,rfl,rfl,rfl,rfl,rfl,trivial⟩,rfl⟩
     · rw [hm69];first|omega|(simp only [lens9];omega)
     · omega
     · first|exact hT4.yes (by omega) (by omega) (by omega) (by omega) (by assumption) (by assumption)|exact hT4.no (by first|exact .inl (by assumption)|exact .inr (by assumption))
    refine gX<|hK k67<|gL<|gRn (oM 1 rfl<|oadN _ 1 om9 rfl<|oM 1 rfl<|.nl)<|nN<|fun a84 w84 h84=>x_again ⟨_, ?_,(j+1),T4, ?_, ?_,h84.nf ⟨rfl,rfl,rfl,rfl,rfl,trivial⟩,rfl⟩
    · rw [hm62];first|omega|(simp only [lens9];omega)
    · omega
    · exact hT4.rowc (by omega)
   refine gX<|hK k60<|gL<|gRn (oM 1 rfl<|oadN _ 1 om9 rfl<|oM 1 rfl<|.nl)<|nN<|fun a85 w85 h85=>x_again ⟨_, ?_,(i+1),T3, ?_, ?_,h85.nf ⟨rfl,rfl,rfl,rfl,trivial⟩,rfl⟩
   · rw [hm55];first|omega|(simp only [lens9];omega)
   · omega
   · exact hT3.rowb (by omega)
  refine gX<|hK k53<|gL<|gRn (oM 1 rfl<|oadN _ 1 om9 rfl<|oM 1 rfl<|.nl)<|nN<|fun a86 w86 h86=>x_again ⟨_, ?_,(n+1),T2, ?_, ?_,h86.nf ⟨rfl,rfl,rfl,trivial⟩,rfl⟩
  · rw [hm48];first|omega|(simp only [lens9];omega)
  · omega
  · exact hT2.rowa (by omega) (by omega)
 refine gX<|hK k46<|gK fun _ k87=>sG (oM 1 rfl<|.nl)<|gB<|?_
 have hEE:=edges_nat hok
 intro a90 w90 h90
 refine x_loop (fun m a w=>∃(d:Nat),(d≤Lk)∧(∀x,x<d→¬WarP (fun a b:Nat=>EdgesT code.l code.l.length ⟨(a:Int),(b:Int)⟩) 4 x x)∧St 106 (fun _=>False) W a w [(1, .pointer (some ⟨b12,0,none⟩)),(6,ve45),(11, .int .i64 ((d:Nat):Int))] [.big (matX (.own 4) 64 ve45 T1), .blk b12 25 [code.v,words.v, .int .i64 ((Lk:Nat):Int), .int .i64 ((R:Nat):Int)], .at_ code, .at_ words]∧m=Lk-d) ⟨_,0,(by omega),(fun x hx=>absurd hx (by omega)),h90.nf ⟨rfl,rfl,rfl,trivial⟩,rfl⟩ ?_
 clear h90
 rintro m89 a89 w89 ⟨d,hd,hdg,h89,hm89⟩
 refine gG h89<|gK fun _ k91=>sG (oM 1 rfl<|ofB fl_25_2 rfl<|olB 1 ti_3 rfl rfl<|oltN _ _ rfl<|.nl)<|?_;clear h89
 refine gcd rfl (fun hb93 hp93=> ?_) fun hb93 hp93=> ?_
 ·skip
  refine gS<|hK k91<|?_
  have hw7:=hT1.w d (by omega)
  refine gK fun _ k94=>gB<|sK fun _ k95=>gNl (fun w h=>(h.matRow 0 rfl d (show d<T1.length from (by omega)))) fun (hl96:((nth T1 d).l).length≤140737488355328)=>gRn (oM 2 rfl<|oxN sl_61 ti_64 (fun w h=>(h.matAt 0 rfl)) _ (by rw [rvs_len];exact (show d<T1.length from (by omega))) rfl<|oV (Rn.same (r_lde (s:=(⟨ve45,rvs T1⟩:Ls RV)) (i:=d) (v:=(nth (rvs T1) d).v) ti_64 rfl rfl rfl (fun w h=>h.matAt 0 rfl) (by rw [rvs_len];exact (show d<T1.length from om9)) (Nat.le_of_ble_eq_true rfl) rfl) (nth_rvs T1 d)) rfl<|oM 1 rfl<|oxN sl_64 ti_4 (fun w h=>(h.matRow 0 rfl d (show d<T1.length from (by omega)))) _ om9 rfl<|olE (.bool (nth ((nth T1 d).l) d)) ti_4 (fun w h=>(h.matRow 0 rfl d (show d<T1.length from (by omega)))) om9 rfl<|.nl)<|nK k95<|gCb rfl (fun hb97=> ?_) fun hb97=> ?_
  ·skip
   refine sG (oM 1 rfl<|.nl)<|gR<|uB<|uT<|uT<|uB<|uT<|fun a99 w99 h99=>x_ret1 (fn:=Try.f26) (t:=2) rfl h99 rfl<|⟨false,rfl,⟨fun h9=>Bool.noConfusion h9,fun h9=> ?_⟩,(h99.sh.sel [] rfl)⟩
   first|exact absurd ((hT1.end_ (by omega) (by omega) hL hEE (by omega)).1 (by assumption)) (h9.2 d (by omega))|exact absurd ((hrv9.2 q (by omega)).1 (by assumption)) (h9.1 t (by omega) q (by omega))
  refine gS<|hK k94<|gL<|gRn (oM 1 rfl<|oadN _ 1 om9 rfl<|oM 1 rfl<|.nl)<|nN<|fun a100 w100 h100=>x_again ⟨_, ?_,d+1, ?_, ?_,h100.nf ⟨rfl,rfl,rfl,trivial⟩,rfl⟩
  · rw [hm89];first|omega|(simp only [lens9];omega)
  · omega
  · exact no_step (A:=fun x=>¬WarP (fun a b:Nat=>EdgesT code.l code.l.length ⟨(a:Int),(b:Int)⟩) 4 x x) hdg fun h9=>by have h8:=(hT1.end_ (by omega) (by omega) hL hEE (by omega)).2 h9;rw [(by assumption:nth (nth T1 d).l d=false)] at h8;cases h8
 refine gX<|hK k87<|sG (oM 1 rfl<|.nl)<|gR<|fun a102 w102 h102=>x_ret1 (fn:=Try.f26) (t:=2) rfl h102 rfl ?_
 exact ⟨true,rfl,⟨fun _=>safe_of hok (by omega) (fun u hu k hk=>hno u (by omega) k (by omega)) (fun a ha=>hdg a (by omega)),fun _=>rfl⟩,(h102.sh.sel [] rfl)⟩
theorem filt_range {f:Nat→Bool}{L:Nat} :∀n,L≤n→(∀k,k<n→f k=true→k<L)→(List.range n).filter f=(List.range L).filter f
 |0,h,_=>by rw [show L=0 by omega]
 |n+1,h,h2=>by
  rcases Nat.lt_or_ge L (n+1) with h3|h3
  ·have h4:f n=false:=by
    cases e:f n with
    |false=>rfl
    |true=>have:=h2 n (by omega) e;omega
   rw [List.range_succ,List.filter_append,filt_range n (by omega) (fun k hk=>h2 k (by omega))]
   simp [h4]
  ·obtain rfl:L=n+1:=by omega
   rfl
theorem listB_eq {b r:List Bool}{L:Nat}{H:Nat→Prop}(hb:b.length=4)(hr:r.length=L)(hL:L≤4)(h1:∀k,k<4→(nth b k=true↔H k))(h2:∀k,k<L→(nth r k=true↔H k))(h3:∀k,H k→k<L):listB b=listB r:=by
 unfold listB
 rw [hb,hr,filt_range 4 hL (fun k hk e=>h3 k ((h1 k hk).1 e))]
 congr 1
 refine List.filter_congr fun k hk=> ?_
 have hk:k<L:=List.mem_range.1 hk
 exact Bool.eq_iff_iff.2 ((h1 k (by omega)).trans (h2 k hk).symm)
structure EnR (u:List P2)(n a b:Nat):Prop where
 le:n≤u.length
 lo:∀j,j<n→lessP (nth u j) ⟨(a:Int),(b:Int)⟩=true
 hi:∀j,n≤j→j<u.length→lessP (nth u j) ⟨(a:Int),(b:Int)⟩=false
section
variable {u:List P2}{n a b L:Nat}
theorem EnR.start (h:∀e∈u,0≤e.a∧0≤e.b):EnR u 0 0 0:=by
 refine ⟨Nat.zero_le _,fun j hj=>absurd hj (Nat.not_lt_zero _),fun j _ hj=> ?_⟩
 have:=h _ (nth_mem u j hj)
 unfold lessP
 split<;>(rw [decide_eq_false_iff_not];simp only [Int.natCast_zero] at*;omega)
theorem EnR.next (h:EnR u n a b)(h2:∀j,n≤j→j<u.length→nth u j≠⟨(a:Int),(b:Int)⟩):EnR u n a (b+1):=by
 refine ⟨h.le,fun j hj=> ?_,fun j h1 hj=> ?_⟩
 ·have:=h.lo j hj
  unfold lessP at this⊢
  split at this
  ·rename_i e;rw [if_pos e];rw [decide_eq_true_eq] at this⊢;simp only at this⊢;omega
  ·rename_i e;rw [if_neg e];exact this
 ·have h3:=h.hi j h1 hj
  have h4:=h2 j h1 hj
  unfold lessP at h3⊢
  split at h3
  ·rename_i e
   rw [if_pos e]
   rw [decide_eq_false_iff_not] at h3⊢
   have h5:(nth u j).b≠(b:Int):=fun h6=>h4 (by rw [show nth u j=⟨(nth u j).a,(nth u j).b⟩ from rfl,h6,e])
   simp only at h3⊢
   omega
  ·rename_i e;rw [if_neg e];exact h3
theorem EnR.miss (h:EnR u n a b)(hm:(⟨(a:Int),(b:Int)⟩:P2)∉u):EnR u n a (b+1):=h.next fun j _ hj e=>hm (e▸nth_mem u j hj)
theorem EnR.hit (hs:u.Pairwise fun x y=>lessP x y=true)(h:EnR u n a b)(hm:(⟨(a:Int),(b:Int)⟩:P2)∈u):n<u.length∧nth u n=⟨(a:Int),(b:Int)⟩∧EnR u (n+1) a (b+1):=by
 obtain ⟨j,hj,e⟩:=List.getElem_of_mem hm
 have e2:nth u j=⟨(a:Int),(b:Int)⟩:=by rw [nth_lt _ _ hj,e]
 have hnj:n≤j:=Nat.le_of_not_lt fun h9=>by
  have:=h.lo j h9
  rw [e2,lessP_irr] at this;cases this
 have hp:=fun i k (hi:i<u.length) (hk:k<u.length) (hik:i<k)=>by
  have:=List.pairwise_iff_getElem.1 hs i k hi hk hik
  rwa [←nth_lt _ _ hi,←nth_lt _ _ hk] at this
 have hjn:j=n:=by
  rcases Nat.lt_or_ge n j with h9|h9
  ·have h8:=hp n j (by omega) hj h9
   rw [e2,h.hi n (Nat.le_refl _) (by omega)] at h8;cases h8
  ·omega
 subst hjn
 refine ⟨hj,e2, ?_⟩
 have h1:EnR u j a (b+1)→False∨True:=fun _=> .inr trivial
 refine ⟨hj,fun i hi=> ?_,fun i h1 hi=> ?_⟩
 ·rcases Nat.lt_or_ge i j with h9|h9
  ·have h8:=h.lo i h9
   unfold lessP at h8⊢
   split at h8
   ·rename_i e;rw [if_pos e];rw [decide_eq_true_eq] at h8⊢;simp only at h8⊢;omega
   ·rename_i e;rw [if_neg e];exact h8
  ·obtain rfl:i=j:=by omega
   rw [e2];unfold lessP
   rw [if_pos rfl,decide_eq_true_eq]
   simp only
   omega
 ·have h3:=hp j i hj hi (by omega)
  rw [e2] at h3
  unfold lessP at h3⊢
  split at h3
  ·rename_i e
   rw [if_pos e.symm]
   rw [decide_eq_true_eq] at h3
   rw [decide_eq_false_iff_not]
   simp only at h3 e⊢
   omega
  ·rename_i e
   rw [if_neg fun h9=>e h9.symm]
   rw [decide_eq_true_eq] at h3
   rw [decide_eq_false_iff_not]
   simp only at h3 e⊢
   omega
theorem EnR.row (h:EnR u n a L)(hL:∀e∈u,0≤e.a∧0≤e.b∧e.b<(L:Int)):EnR u n (a+1) 0:=by
 refine ⟨h.le,fun j hj=> ?_,fun j h1 hj=> ?_⟩
 ·have h2:=h.lo j hj
  unfold lessP at h2⊢
  split at h2
  ·rename_i e;rw [if_neg (by simp only at e⊢;omega)];rw [decide_eq_true_eq];simp only at e⊢;omega
  ·rename_i e
   rw [decide_eq_true_eq] at h2
   rw [if_neg (by simp only at h2⊢;omega),decide_eq_true_eq];simp only at h2⊢;omega
 ·have h2:=h.hi j h1 hj
  have h3:=hL _ (nth_mem u j hj)
  unfold lessP at h2⊢
  split at h2
  ·rename_i e
   rw [decide_eq_false_iff_not] at h2
   simp only at h2 e
   omega
  ·rename_i e
   rw [decide_eq_false_iff_not] at h2
   simp only at h2 e
   split
   ·rw [decide_eq_false_iff_not];simp only;omega
   ·rw [decide_eq_false_iff_not];simp only;omega
theorem EnR.end_ (h:EnR u n L 0)(hL:∀e∈u,e.a<(L:Int)):n=u.length:=by
 rcases Nat.lt_or_ge n u.length with h1|h1
 ·have h2:=h.hi n (Nat.le_refl _) h1
  have h3:=hL _ (nth_mem u n h1)
  unfold lessP at h2
  rw [if_neg (by simp only;omega),decide_eq_false_iff_not] at h2
  simp only at h2
  omega
 ·have:=h.le
  omega
end
section
variable {P:Program}{o:Oper}{N:Nat}{K:Nat→Prop}{W w:World}{a:Act}{F:List (Nat×Value)}{L:List Asn}
theorem cells4 (x:Ins):cellsOf x= [.int .i64 x.op, .int .i64 x.a, .int .i64 x.b, .int .i64 x.c]:=rfl
theorem r_eqBB {T U:TypeId}{x y:Operand}{p q:Bool}(ho:o.op= .binOp .eql T x y U)(hx:ev F x=some (.bool p))(hy:ev F y=some (.bool q))(hT:P.underlying T=some .bool):Rn P o N K W F L (.bool (p==q)):=fun a w h=>by
 have e1:(eqGuard .eql T x y (.bool p) (.bool q)).run P w= .ok () w:=by simp [eqGuard]
 have e2:(binOp .eql T (.bool p) (.bool q)).run P w= .ok (.bool (p==q)) w:=by simp [binOp,Op.equal,Op.maxDepth,go_sem,hT]
 unfold execOp
 simp only [ho,h.fr.ev hx,h.fr.ev hy,Sem.run_bind,Sem.run_pure,Result.andThen_ok,e1,e2]
end
theorem pair_ne {a b:P2}(h:a=b):(!eqP a b)=false:=by rw [h,(eqP_iff b b).2 rfl];rfl
theorem orderTells_v (code:Ls (Ls Ins))(words:Ls Int)(locks regs:Int)(W:World)(hcode:code.At W)(hwords:words.At W)(hv:vastG (code.l.map (·.l)) words.l=true):
    Rets Try.prog 7 [.agg #[code.v,words.v, .int .i64 locks, .int .i64 regs]] W (fun v w' =>v= .bool true∧Sh0 W w' []):=by
 refine gen Try.func7 Try.ntmps7 (Sh0.ext2 hcode hwords:Sh (fun _=>False) W W [.at_ code, .at_ words]) rfl fun a10 h10=>gG h10<|sK fun _ k11=>gbx rfl rfl fun b12=>gRn (oM 1 rfl<|.nl)<|nK k11<|gK fun _ k13=>sK fun _ k14=>gRn (olw 0 ti_25 rfl rfl<|.nl)<|gC (fun _ _ h_=>xCl h_ bd_8 rfl (vast_c (code:=code) (words:=words) (locks:=locks) (regs:=regs) (h_.sh.at 1 rfl) (h_.sh.at 2 rfl))) rfl<|?_;clear h10
 rintro _ _ w15 ⟨rfl,hs15⟩
 refine gWk hs15 rfl<|gU<|nK k14<|gcT rfl hv<|sG (oM 1 rfl<|.nl)<|gR<|uT<|fun a17 w17 h17=> ?_;clear hs15
 refine x_ret1 (fn:=Try.f7) (t:=2) rfl h17 rfl ?_
 exact ⟨rfl,(h17.sh.sel [] rfl)⟩
theorem orderTells_k (code:Ls (Ls Ins))(words:Ls Int)(Lk R:Nat)(W:World)(hcode:code.At W)(hwords:words.At W)(hv:vastG (code.l.map (·.l)) words.l=false)(hok:OkPg (pgN code words Lk R)):
    Rets Try.prog 7 [.agg #[code.v,words.v, .int .i64 ((Lk:Nat):Int), .int .i64 ((R:Nat):Int)]] W (fun v w' =>v= .bool true∧Sh0 W w' []):=by
 have hz:=checkG_ok hok
 obtain ⟨hl1,hl2,hl3,hl4',hl5,hl6,hl7⟩:=ok_lenN hok
 have hL:Lk≤4:=by have:=hok.locks.2;have e:(pgN code words Lk R).locks=((Lk:Nat):Int):=rfl;omega
 refine gen Try.func7 Try.ntmps7 (Sh0.ext2 hcode hwords:Sh (fun _=>False) W W [.at_ code, .at_ words]) rfl fun a10 h10=>gG h10<|sK fun _ k11=>gbx rfl rfl fun b12=>gRn (oM 1 rfl<|.nl)<|nK k11<|gK fun _ k13=>sK fun _ k14=>gRn (olw 0 ti_25 rfl rfl<|.nl)<|fun a16 w16 h16=>wl_ex (x_call h16 bd_8 rfl rfl rfl rfl rfl (vast_c (code:=code) (words:=words) (locks:=((Lk:Nat):Int)) (regs:=((R:Nat):Int)) (h16.sh.at 1 rfl) (h16.sh.at 2 rfl))) (wanted_none rfl _) ?_;clear h10
 rintro a17 w17 ⟨_,⟨rfl,hs17⟩,hf17⟩
 have h17:St 164 (fun _=>False) W a17 w17 _ _:=⟨hf17,h16.sh.call0 hs17⟩
 clear hf17 hs17
 clear h16
 refine gG h17<|nK k14<|gcF rfl hv<|gS<|hK k13<|sK fun _ k18=>gRn (olw 0 ti_25 rfl rfl<|.nl)<|fun a20 w20 h20=>wl_ex (x_call h20 bd_21 rfl rfl rfl rfl rfl (oheld_k code words ((Lk:Nat):Int) ((R:Nat):Int) _ (h20.sh.at 1 rfl) (h20.sh.at 2 rfl) hok)) (wanted_none rfl _) ?_;clear h17
 rintro a21 w21 ⟨_,⟨s21,rfl,hhl21,hhv21,hs21⟩,hf21⟩
 have h21:=(⟨hf21,h20.sh.call hs21 (by intro A hA b hb;simp only [List.mem_cons,List.not_mem_nil,or_false] at hA;subst hA;first|exact Flat.noRd hb|exact (hb:False).elim|exact matNoRd hb)⟩:St 164 (fun _=>False) W a21 w21 _ _)
 clear hf21 hs21
 clear h20
 refine gG h21<|gRn (oM 1 rfl<|oxt rfl<|oxt rfl<|.nl)<|gal ti_30 rfl fun b22=>gRn (oM 1 rfl<|.nl)<|gsw 0 ti_30 rfl rfl rfl<|nK k18<|sK fun _ k24=>gRn (olw 2 ti_25 rfl rfl<|.nl)<|fun a26 w26 h26=>wl_ex (x_call h26 bd_19 rfl rfl rfl rfl rfl (oedges_k code words ((Lk:Nat):Int) ((R:Nat):Int) _ (h26.sh.at 3 rfl) (h26.sh.at 4 rfl) hok)) (wanted_none rfl _) ?_;clear h21
 rintro a27 w27 ⟨_,⟨u27,rfl,huo27,hum27,hs27⟩,hf27⟩
 have h27:=(⟨hf27,h26.sh.call hs27 (by intro A hA b hb;simp only [List.mem_cons,List.not_mem_nil,or_false] at hA;subst hA;first|exact Flat.noRd hb|exact (hb:False).elim|exact matNoRd hb)⟩:St 164 (fun _=>False) W a27 w27 _ _)
 clear hf27 hs27
 clear h26
 refine gG h27<|gRn (oM 1 rfl<|oxt rfl<|oxt rfl<|.nl)<|gal ti_30 rfl fun b28=>gRn (oM 1 rfl<|.nl)<|gsw 0 ti_30 rfl rfl rfl<|nK k24<|sK fun _ k30=>gRn (olw 4 ti_25 rfl rfl<|.nl)<|fun a32 w32 h32=>wl_ex (x_call h32 bd_17 rfl rfl rfl rfl rfl (osafe_k code words ((Lk:Nat):Int) ((R:Nat):Int) _ (h32.sh.at 5 rfl) (h32.sh.at 6 rfl) hok)) (wanted_none rfl _) ?_;clear h27
 rintro a33 w33 ⟨_,⟨b33,rfl,hb33,hs33⟩,hf33⟩
 have h33:St 164 (fun _=>False) W a33 w33 _ _:=⟨hf33,h32.sh.call0 hs33⟩
 clear hf33 hs33
 clear h32
 refine gG h33<|gRn (oM 1 rfl<|oxt rfl<|oxt rfl<|.nl)<|gal ti_30 rfl fun b34=>gRn (oM 1 rfl<|.nl)<|gsw 0 ti_30 rfl rfl rfl<|nK k30<|sK fun _ k36=>gRn (olw 5 ti_25 rfl rfl<|.nl)<|fun a38 w38 h38=>wl_ex (x_call h38 bd_11 rfl rfl rfl rfl rfl (refCheck_c (code:=code) (words:=words) (locks:=((Lk:Nat):Int)) (regs:=((R:Nat):Int)) (h38.sh.at 6 rfl) (h38.sh.at 7 rfl))) (wanted_none rfl _) ?_;clear h33
 rintro a39 w39 ⟨_,⟨rfl,hs39⟩,hf39⟩
 have h39:St 164 (fun _=>False) W a39 w39 _ _:=⟨hf39,h38.sh.call0 hs39⟩
 clear hf39 hs39
 clear h38
 refine gG h39<|gal ti_30 rfl fun b40=>gsw 0 ti_30 rfl rfl rfl<|nK k36<|gK fun _ k42=>sG (olw 4 ti_30 rfl rfl<|olw 0 ti_30 rfl rfl<|oV (r_neqS rfl rfl rfl (fun w=>neq_fltG _ _ ⟨0,0,0⟩ ⟨(checkG (pgOf code words ((Lk:Nat):Int) ((R:Nat):Int))).code,(checkG (pgOf code words ((Lk:Nat):Int) ((R:Nat):Int))).thread,(checkG (pgOf code words ((Lk:Nat):Int) ((R:Nat):Int))).at_⟩ w) (fun w=>neq_flt ⟨0,0,0⟩ ⟨(checkG (pgOf code words ((Lk:Nat):Int) ((R:Nat):Int))).code,(checkG (pgOf code words ((Lk:Nat):Int) ((R:Nat):Int))).thread,(checkG (pgOf code words ((Lk:Nat):Int) ((R:Nat):Int))).at_⟩ w)) rfl<|oM 1 rfl<|oG (decide_eq_false (fun h=>h (by rw [show checkG (pgOf code words ((Lk:Nat):Int) ((R:Nat):Int))=⟨0,0,0⟩ from hz]))) (r_ldbw (i:=2) (vs:= [.int .i64 0, .int .i64 0, .int .i64 0]) ti_30 rfl rfl rfl rfl rfl) rfl<|oG (decide_eq_false (fun h=>h (by rw [show checkG (pgOf code words ((Lk:Nat):Int) ((R:Nat):Int))=⟨0,0,0⟩ from hz]))) (r_ldbw (i:=0) (vs:= [.int .i64 ((checkG (pgOf code words ((Lk:Nat):Int) ((R:Nat):Int))).code), .int .i64 ((checkG (pgOf code words ((Lk:Nat):Int) ((R:Nat):Int))).thread), .int .i64 ((checkG (pgOf code words ((Lk:Nat):Int) ((R:Nat):Int))).at_)]) ti_30 rfl rfl rfl rfl rfl) rfl<|oG (decide_eq_false (fun h=>h (by rw [show checkG (pgOf code words ((Lk:Nat):Int) ((R:Nat):Int))=⟨0,0,0⟩ from hz]))) (r_neqS rfl rfl rfl (fun w=>neq_fltG _ _ ⟨0,0,0⟩ ⟨(checkG (pgOf code words ((Lk:Nat):Int) ((R:Nat):Int))).code,(checkG (pgOf code words ((Lk:Nat):Int) ((R:Nat):Int))).thread,(checkG (pgOf code words ((Lk:Nat):Int) ((R:Nat):Int))).at_⟩ w) (fun w=>neq_flt ⟨0,0,0⟩ ⟨(checkG (pgOf code words ((Lk:Nat):Int) ((R:Nat):Int))).code,(checkG (pgOf code words ((Lk:Nat):Int) ((R:Nat):Int))).thread,(checkG (pgOf code words ((Lk:Nat):Int) ((R:Nat):Int))).at_⟩ w)) rfl<|opF (decide_eq_false (fun h=>h (by rw [show checkG (pgOf code words ((Lk:Nat):Int) ((R:Nat):Int))=⟨0,0,0⟩ from hz]))) rfl<|oM 1 rfl<|oG (decide_eq_false (fun h=>h (by rw [show checkG (pgOf code words ((Lk:Nat):Int) ((R:Nat):Int))=⟨0,0,0⟩ from hz]))) (r_ldbw (i:=1) (vs:= [.int .i64 0, .int .i64 0, .int .i64 0]) ti_30 rfl rfl rfl rfl rfl) rfl<|oG (decide_eq_false (fun h=>h (by rw [show checkG (pgOf code words ((Lk:Nat):Int) ((R:Nat):Int))=⟨0,0,0⟩ from hz]))) (r_ldbw (i:=0) (vs:= [.int .i64 ((checkG (pgOf code words ((Lk:Nat):Int) ((R:Nat):Int))).code), .int .i64 ((checkG (pgOf code words ((Lk:Nat):Int) ((R:Nat):Int))).thread), .int .i64 ((checkG (pgOf code words ((Lk:Nat):Int) ((R:Nat):Int))).at_)]) ti_30 rfl rfl rfl rfl rfl) rfl<|oG (decide_eq_false (fun h=>h (by rw [show checkG (pgOf code words ((Lk:Nat):Int) ((R:Nat):Int))=⟨0,0,0⟩ from hz]))) (r_neqS rfl rfl rfl (fun w=>neq_fltG _ _ ⟨0,0,0⟩ ⟨(checkG (pgOf code words ((Lk:Nat):Int) ((R:Nat):Int))).code,(checkG (pgOf code words ((Lk:Nat):Int) ((R:Nat):Int))).thread,(checkG (pgOf code words ((Lk:Nat):Int) ((R:Nat):Int))).at_⟩ w) (fun w=>neq_flt ⟨0,0,0⟩ ⟨(checkG (pgOf code words ((Lk:Nat):Int) ((R:Nat):Int))).code,(checkG (pgOf code words ((Lk:Nat):Int) ((R:Nat):Int))).thread,(checkG (pgOf code words ((Lk:Nat):Int) ((R:Nat):Int))).at_⟩ w)) rfl<|opF (decide_eq_false (fun h=>h (by rw [show checkG (pgOf code words ((Lk:Nat):Int) ((R:Nat):Int))=⟨0,0,0⟩ from hz]))) rfl<|.nl)<|gF [1,3,5,7,9,51] rfl<|gcF rfl (decide_eq_false (fun h=>h (by rw [show checkG (pgOf code words ((Lk:Nat):Int) ((R:Nat):Int))=⟨0,0,0⟩ from hz])))<|gS<|hK k42<|gK fun _ k44=>sG (ofB fl_30_0 rfl<|olB 0 ti_28 rfl rfl<|oneI _ _ rfl<|.nl)<|gcF rfl (by rw [show checkG (pgOf code words ((Lk:Nat):Int) ((R:Nat):Int))=⟨0,0,0⟩ from hz];rfl)<|gS<|hK k44<|?_;clear h39
 have hhl8:=hhl21
 refine gK fun _ k46=>sK fun _ k47=>gNl (aD 5 rfl) fun hl48=>gNl (aA 7 rfl) fun hl49=>gRn (oM 1 rfl<|oln sl_58 (aD 5 rfl) rfl<|ofB fl_25_0 rfl<|olB 6 ti_22 rfl rfl<|oln sl_22 (aA 7 rfl) rfl<|oneN _ _ rfl<|.nl)<|nK k47<|gcF rfl (decide_eq_false (by omega))<|gS<|hK k46<|gK fun _ k50=>sG (oM 1 rfl<|.nl)<|gB<|fun a53 w53 h53=>x_loop (fun m a w=>∃(t:Nat),(t≤code.l.length)∧St 164 (fun _=>False) W a w [(1, .pointer (some ⟨b12,0,none⟩)),(3,s21.v),(5,u27.v),(7, .bool b33),(10, .int .i64 ((t:Nat):Int))] [.blk b40 30 [.int .i64 ((checkG (pgOf code words ((Lk:Nat):Int) ((R:Nat):Int))).code), .int .i64 ((checkG (pgOf code words ((Lk:Nat):Int) ((R:Nat):Int))).thread), .int .i64 ((checkG (pgOf code words ((Lk:Nat):Int) ((R:Nat):Int))).at_)], .blk b34 30 [.int .i64 0, .int .i64 0, .int .i64 0], .blk b28 30 [.int .i64 0, .int .i64 0, .int .i64 0], .own 57 u27, .blk b22 30 [.int .i64 0, .int .i64 0, .int .i64 0], .deep 26 s21, .blk b12 25 [code.v,words.v, .int .i64 ((Lk:Nat):Int), .int .i64 ((R:Nat):Int)], .at_ code, .at_ words]∧m=code.l.length-t) ⟨_,0,(Nat.zero_le _),h53.nf ⟨rfl,rfl,rfl,rfl,rfl,trivial⟩,rfl⟩ ?_
 clear h53
 rintro m52 a52 w52 ⟨t,ht,h52,hm52⟩
 refine gG h52<|gK fun _ k54=>sG (oM 1 rfl<|ofB fl_25_0 rfl<|olB 6 ti_22 rfl rfl<|oln sl_22 (aA 7 rfl) rfl<|oltN _ _ rfl<|.nl)<|?_;clear h52
 refine gcd rfl (fun hb56 hp56=> ?_) fun hb56 hp56=> ?_
 ·skip
  refine gS<|hK k54<|?_
  obtain ⟨hl4,hjt⟩:=ok_thread hok t (by omega)
  refine gK fun _ k57=>gB<|gK fun _ k58=>rT 7 [] (ofB fl_25_0 rfl<|olB 6 ti_22 rfl rfl<|oM 1 rfl<|oxN sl_22 ti_45 (aA 7 rfl) _ om9 rfl<|olE ((nth code.l t).v) ti_45 (aA 7 rfl) om9 rfl<|ofB fl_25_2 rfl<|olB 6 ti_3 rfl rfl<|.nl)<|fun a60 w60 h60=>wl_ex (x_call h60 bd_22 rfl rfl rfl rfl rfl (rHeld_c (nth code.l t) Lk _ ((h60.sh.at 7 rfl).nth t (show t<code.l.length from (by omega))) (codeC_of hok (by omega)) (by omega) hL)) (wanted_none rfl _) ?_
  rintro a61 w61 ⟨_,⟨s61,rfl,hrl61,hrv61,hs61⟩,hf61⟩
  have h61:=(⟨hf61,h60.sh.call hs61 (by intro A hA b hb;simp only [List.mem_cons,List.not_mem_nil,or_false] at hA;subst hA;first|exact Flat.noRd hb|exact (hb:False).elim|exact matNoRd hb)⟩:St 164 (fun _=>False) W a61 w61 _ _)
  clear hf61 hs61
  clear h60
  refine gG h61<|gRn (oM 1 rfl<|.nl)<|nK k58<|?_;clear h61
  have hrl9:=hrl61;have hhv9:=hhv21 t (by omega)
  have hhl9:=hhv9.1
  refine gK fun _ k62=>sK fun _ k63=>gNl (fun w h=>((h.deep 6 rfl).nth t (show t<s21.l.length from (by omega)))) fun (hl64:((nth s21.l t).l).length≤140737488355328)=>gNl (aD 0 rfl) fun hl65=>gRn (oM 2 rfl<|oxN sl_58 ti_26 (aD 6 rfl) _ om9 rfl<|olE ((nth s21.l t).v) ti_26 (aD 6 rfl) om9 rfl<|oln (n:=((nth s21.l t).l).length) sl_26 (fun w h=>((h.deep 6 rfl).nth t (show t<s21.l.length from (by omega)))) rfl<|oM 1 rfl<|oln sl_61 (aD 0 rfl) rfl<|oneN _ _ rfl<|.nl)<|nK k63<|gcF rfl (decide_eq_false (by omega))<|gS<|hK k62<|sG (oM 1 rfl<|.nl)<|gB<|fun a68 w68 h68=>x_loop (fun m a w=>∃(i:Nat),(i≤s61.l.length)∧St 164 (fun _=>False) W a w [(1, .pointer (some ⟨b12,0,none⟩)),(3,s21.v),(5,u27.v),(7, .bool b33),(10, .int .i64 ((t:Nat):Int)),(11,s61.v),(12, .int .i64 ((i:Nat):Int))] [.deep 64 s61, .blk b40 30 [.int .i64 ((checkG (pgOf code words ((Lk:Nat):Int) ((R:Nat):Int))).code), .int .i64 ((checkG (pgOf code words ((Lk:Nat):Int) ((R:Nat):Int))).thread), .int .i64 ((checkG (pgOf code words ((Lk:Nat):Int) ((R:Nat):Int))).at_)], .blk b34 30 [.int .i64 0, .int .i64 0, .int .i64 0], .blk b28 30 [.int .i64 0, .int .i64 0, .int .i64 0], .own 57 u27, .blk b22 30 [.int .i64 0, .int .i64 0, .int .i64 0], .deep 26 s21, .blk b12 25 [code.v,words.v, .int .i64 ((Lk:Nat):Int), .int .i64 ((R:Nat):Int)], .at_ code, .at_ words]∧m=s61.l.length-i) ⟨_,0,(Nat.zero_le _),h68.nf ⟨rfl,rfl,rfl,rfl,rfl,rfl,rfl,trivial⟩,rfl⟩ ?_
  clear h68
  rintro m67 a67 w67 ⟨i,hi,h67,hm67⟩
  refine gG h67<|gK fun _ k69=>sG (oM 2 rfl<|oln sl_61 (aD 0 rfl) rfl<|oltN _ _ rfl<|.nl)<|?_;clear h67
  refine gcd rfl (fun hb71 hp71=> ?_) fun hb71 hp71=> ?_
  ·skip
   refine gS<|hK k69<|?_
   have hri:=hrv61 i (by omega)
   obtain ⟨b9,hb4,hrow,hb9⟩:=hhv9.2 i (by omega)
   have hri1:=hri.1
   refine gK fun _ k72=>gB<|sK fun _ k73=>gRn (oM 2 rfl<|oxN sl_61 ti_64 (aD 0 rfl) _ om9 rfl<|olE ((nth s61.l i).v) ti_64 (aD 0 rfl) om9 rfl<|.nl)<|fun a75 w75 h75=>wl_ex (x_call h75 bd_23 rfl rfl rfl rfl rfl (rList_c (nth s61.l i) _ ((h75.sh.deep 0 rfl).nth i (show i<s61.l.length from (by omega))) (by omega))) (wanted_none rfl _) ?_
   rintro a76 w76 ⟨_,⟨s76,rfl,hls76,hs76⟩,hf76⟩
   have h76:=(⟨hf76,h75.sh.call hs76 (by intro A hA b hb;simp only [List.mem_cons,List.not_mem_nil,or_false] at hA;subst hA;first|exact Flat.noRd hb|exact (hb:False).elim|exact matNoRd hb)⟩:St 164 (fun _=>False) W a76 w76 _ _)
   clear hf76 hs76
   clear h75
   refine gG h76<|gRn (oM 1 rfl<|.nl)<|nK k73<|?_;clear h76
   have hsame:(nth (nth s21.l t).l i).l=s76.l:=by rw [hrow,hls76];exact listB_eq hb4 hri.1 hL hb9 hri.2 (fun k hk=>by have:=held_lt hok (by omega:t<code.l.length) hk;omega)
   refine sK fun _ k77=>gRn (oM 2 rfl<|oxN sl_58 ti_26 (aD 7 rfl) _ om9 rfl<|olE ((nth s21.l t).v) ti_26 (aD 7 rfl) om9 rfl<|oM 1 rfl<|oxN sl_26 ti_23 (fun w h=>((h.deep 7 rfl).nth t (show t<s21.l.length from (by omega)))) _ om9 rfl<|olE ((nth ((nth s21.l t).l) i).v) ti_23 (fun w h=>((h.deep 7 rfl).nth t (show t<s21.l.length from (by omega)))) om9 rfl<|oM 1 rfl<|.nl)<|fun a79 w79 h79=>wl_ex (x_call h79 bd_24 rfl rfl rfl rfl rfl (ints_c (nth ((nth s21.l t).l) i) s76 _ (((h79.sh.deep 7 rfl).nth t (show t<s21.l.length from (by omega))).nth i (show i<((nth s21.l t).l).length from (by omega))) (h79.sh.own 0 rfl))) (wanted_none rfl _) ?_
   rintro a80 w80 ⟨_,⟨rfl,hs80⟩,hf80⟩
   have h80:St 164 (fun _=>False) W a80 w80 _ _:=⟨hf80,h79.sh.call0 hs80⟩
   clear hf80 hs80
   clear h79
   refine gG h80<|gRn (oM 1 rfl<|.nl)<|nK k77<|sG (oM 1 rfl<|ont rfl<|.nl)<|gcF rfl (by rw [(decide_eq_true hsame)];rfl)<|gS<|hK k72<|gL<|gRn (oM 1 rfl<|oadN _ 1 om9 rfl<|oM 1 rfl<|.nl)<|nN<|fun a82 w82 h82=> ?_;clear h80
   refine x_again ⟨_, ?_,i+1, ?_,h82.nrm ⟨rfl,rfl,rfl,rfl,rfl,rfl,rfl,trivial⟩ [1,2,3,4,5,6,7,8,9,10] rfl,rfl⟩
   · rw [hm67];first|omega|(simp only [lens9];omega)
   · omega
  refine gX<|hK k57<|gL<|gRn (oM 1 rfl<|oadN _ 1 om9 rfl<|oM 1 rfl<|.nl)<|nN<|fun a83 w83 h83=>x_again ⟨_, ?_,t+1, ?_,h83.nrm ⟨rfl,rfl,rfl,rfl,rfl,trivial⟩ [1,2,3,4,5,6,7,8,9] rfl,rfl⟩
  · rw [hm52];first|omega|(simp only [lens9];omega)
  · omega
 refine gX<|hK k50<|sK fun _ k84=>gRn (olw 6 ti_25 rfl rfl<|.nl)<|fun a86 w86 h86=>wl_ex (x_call h86 bd_25 rfl rfl rfl rfl rfl (rEdges_c code words Lk R _ (h86.sh.at 7 rfl) (h86.sh.at 8 rfl) hok)) (wanted_none rfl _) ?_
 rintro a87 w87 ⟨_,⟨ve87,E87,rfl,hem87,hs87⟩,hf87⟩
 have h87:=(⟨hf87,h86.sh.call hs87 (by intro A hA b hb;simp only [List.mem_cons,List.not_mem_nil,or_false] at hA;subst hA;first|exact Flat.noRd hb|exact (hb:False).elim|exact matNoRd hb)⟩:St 164 (fun _=>False) W a87 w87 _ _)
 clear hf87 hs87
 clear h86
 refine gG h87<|gRn (oM 1 rfl<|.nl)<|nK k84<|sG (oM 1 rfl<|.nl)<|gK fun _ k89=>sG (oM 1 rfl<|.nl)<|gB<|?_;clear h87
 have hmt:=hem87
 have hu0:∀e∈u27.l,0≤e.a∧0≤e.b∧e.b<(Lk:Int):=fun e he=>by have:=edges_lt hok ((hum27 e).1 he);omega
 have hu1:∀e∈u27.l,e.a<(Lk:Int):=fun e he=>by have:=edges_lt hok ((hum27 e).1 he);omega
 have hmw:=hmt.len
 intro a92 w92 h92
 refine x_loop (fun m a w=>∃(a9 n:Nat),(a9≤Lk)∧(EnR u27.l n a9 0)∧St 164 (fun _=>False) W a w [(1, .pointer (some ⟨b12,0,none⟩)),(5,u27.v),(7, .bool b33),(15,ve87),(16, .int .i64 ((n:Nat):Int)),(17, .int .i64 ((a9:Nat):Int))] [.big (matX (.own 4) 64 ve87 E87), .blk b40 30 [.int .i64 ((checkG (pgOf code words ((Lk:Nat):Int) ((R:Nat):Int))).code), .int .i64 ((checkG (pgOf code words ((Lk:Nat):Int) ((R:Nat):Int))).thread), .int .i64 ((checkG (pgOf code words ((Lk:Nat):Int) ((R:Nat):Int))).at_)], .blk b34 30 [.int .i64 0, .int .i64 0, .int .i64 0], .blk b28 30 [.int .i64 0, .int .i64 0, .int .i64 0], .own 57 u27, .blk b22 30 [.int .i64 0, .int .i64 0, .int .i64 0], .deep 26 s21, .blk b12 25 [code.v,words.v, .int .i64 ((Lk:Nat):Int), .int .i64 ((R:Nat):Int)], .at_ code, .at_ words]∧m=Lk-a9) ⟨_,0,0,(Nat.zero_le _),(EnR.start fun e he=>⟨(hu0 e he).1,(hu0 e he).2.1⟩),h92.nf ⟨rfl,rfl,rfl,rfl,rfl,rfl,trivial⟩,rfl⟩ ?_
 clear h92
 rintro m91 a91 w91 ⟨a9,n,ha9,hen,h91,hm91⟩
 refine gG h91<|gK fun _ k93=>sG (oM 1 rfl<|ofB fl_25_2 rfl<|olB 7 ti_3 rfl rfl<|oltN _ _ rfl<|.nl)<|?_;clear h91
 refine gcd rfl (fun hb95 hp95=> ?_) fun hb95 hp95=> ?_
 ·skip
  refine gS<|hK k93<|gK fun _ k96=>gB<|sG (oM 1 rfl<|.nl)<|gB<|?_
  have hmr:=hmt.w a9 (by omega)
  intro a99 w99 h99
  refine x_loop (fun m a w=>∃(b9 n2:Nat),(b9≤Lk)∧(EnR u27.l n2 a9 b9)∧St 164 (fun _=>False) W a w [(1, .pointer (some ⟨b12,0,none⟩)),(5,u27.v),(7, .bool b33),(15,ve87),(16, .int .i64 ((n2:Nat):Int)),(17, .int .i64 ((a9:Nat):Int)),(18, .int .i64 ((b9:Nat):Int))] [.big (matX (.own 4) 64 ve87 E87), .blk b40 30 [.int .i64 ((checkG (pgOf code words ((Lk:Nat):Int) ((R:Nat):Int))).code), .int .i64 ((checkG (pgOf code words ((Lk:Nat):Int) ((R:Nat):Int))).thread), .int .i64 ((checkG (pgOf code words ((Lk:Nat):Int) ((R:Nat):Int))).at_)], .blk b34 30 [.int .i64 0, .int .i64 0, .int .i64 0], .blk b28 30 [.int .i64 0, .int .i64 0, .int .i64 0], .own 57 u27, .blk b22 30 [.int .i64 0, .int .i64 0, .int .i64 0], .deep 26 s21, .blk b12 25 [code.v,words.v, .int .i64 ((Lk:Nat):Int), .int .i64 ((R:Nat):Int)], .at_ code, .at_ words]∧m=Lk-b9) ⟨_,0,n,(Nat.zero_le _),(hen),h99.nf ⟨rfl,rfl,rfl,rfl,rfl,rfl,rfl,trivial⟩,rfl⟩ ?_
  clear h99
  rintro m98 a98 w98 ⟨b9,n2,hb9,hen2,h98,hm98⟩
  refine gG h98<|gK fun _ k100=>sG (oM 1 rfl<|ofB fl_25_2 rfl<|olB 7 ti_3 rfl rfl<|oltN _ _ rfl<|.nl)<|?_;clear h98
  refine gcd rfl (fun hb102 hp102=> ?_) fun hb102 hp102=> ?_
  ·skip
   refine gS<|hK k100<|gK fun _ k103=>gB<|sK fun _ k104=>gNl (fun w h=>(h.matRow 0 rfl a9 (show a9<E87.length from (by omega)))) fun (hl105:((nth E87 a9).l).length≤140737488355328)=>gRn (oM 2 rfl<|oxN sl_61 ti_64 (fun w h=>(h.matAt 0 rfl)) _ (by rw [rvs_len];exact (show a9<E87.length from (by omega))) rfl<|oV (Rn.same (r_lde (s:=(⟨ve87,rvs E87⟩:Ls RV)) (i:=a9) (v:=(nth (rvs E87) a9).v) ti_64 rfl rfl rfl (fun w h=>h.matAt 0 rfl) (by rw [rvs_len];exact (show a9<E87.length from om9)) (Nat.le_of_ble_eq_true rfl) rfl) (nth_rvs E87 a9)) rfl<|oM 1 rfl<|oxN sl_64 ti_4 (fun w h=>(h.matRow 0 rfl a9 (show a9<E87.length from (by omega)))) _ om9 rfl<|olE (.bool (nth ((nth E87 a9).l) b9)) ti_4 (fun w h=>(h.matRow 0 rfl a9 (show a9<E87.length from (by omega)))) om9 rfl<|.nl)<|nK k104<|gCb rfl (fun hb106=> ?_) fun hb106=> ?_
   ·skip
    have hit:=hen2.hit huo27 ((hum27 _).2 ((hmt.v a9 b9 (by omega) (by omega)).1 (by assumption)))
    have hit1:=hit.1;have hit2:=hit.2.1
    have hn63:=hen2.le
    refine gK fun _ k107=>sK fun _ k108=>gNl (aO 4 rfl) fun hl109=>gRn (oM 2 rfl<|oln sl_54 (aO 4 rfl) rfl<|ogeN _ _ rfl<|oM 1 rfl<|oG (decide_eq_false (by omega)) (r_move rfl rfl) rfl<|oG (decide_eq_false (by omega)) (r_move rfl rfl) rfl<|oG (decide_eq_false (by omega)) (r_ixN (s:=u27) (q:=n2) sl_54 ti_57 rfl rfl rfl (fun w h=>(h.own 4 rfl)) (show n2<u27.l.length from om9)) rfl<|oG (decide_eq_false (by omega)) (r_ldew (s:=u27) (i:=n2) (vs:= [.int .i64 ((nth u27.l n2).a), .int .i64 ((nth u27.l n2).b)]) ti_57 rfl rfl rfl (fun w h=>(h.own 4 rfl)) (show n2<u27.l.length from om9) (Nat.le_of_ble_eq_true rfl) rfl) rfl<|oG (decide_eq_false (by omega)) (r_move rfl rfl) rfl<|oG (decide_eq_false (by omega)) (r_move rfl rfl) rfl<|oG (decide_eq_false (by omega)) (r_build (cs:= [.int .i64 ((a9:Nat):Int), .int .i64 ((b9:Nat):Int)]) rfl rfl (by kernel_rfl)) rfl<|oG (decide_eq_false (by omega)) (r_neqP (nth u27.l n2) (⟨((a9:Nat):Int),((b9:Nat):Int)⟩) ar_57 ti_3 Try.underlying3 (by kernel_rfl) rfl rfl rfl) rfl<|opF (decide_eq_false (by omega)) rfl<|.nl)<|nK k108<|gF [1,5,7,15,16,17,18,150] rfl<|gcF rfl (pair_ne hit2)<|gS<|hK k107<|gL<|gRn (oM 1 rfl<|oadN _ 1 om9 rfl<|oM 1 rfl<|.nl)<|nK k103<|gL<|gRn (oM 1 rfl<|oadN _ 1 om9 rfl<|oM 1 rfl<|.nl)<|nN<|fun a110 w110 h110=>x_again ⟨_, ?_,(b9+1),n2+1, ?_, ?_,h110.nf ⟨rfl,rfl,rfl,rfl,rfl,rfl,rfl,trivial⟩,rfl⟩
    · rw [hm98];first|omega|(simp only [lens9];omega)
    · omega
    · first|exact hit.2.2|exact hen2.miss fun h9=>by have h8:=(hmt.v a9 b9 (by omega) (by omega)).2 ((hum27 _).1 h9);rw [(by assumption:nth (nth E87 a9).l b9=false)] at h8;cases h8
   refine gS<|hK k103<|gL<|gRn (oM 1 rfl<|oadN _ 1 om9 rfl<|oM 1 rfl<|.nl)<|nN<|fun a111 w111 h111=>x_again ⟨_, ?_,(b9+1),n2, ?_, ?_,h111.nf ⟨rfl,rfl,rfl,rfl,rfl,rfl,rfl,trivial⟩,rfl⟩
   · rw [hm98];first|omega|(simp only [lens9];omega)
   · omega
   · first|exact hit.2.2|exact hen2.miss fun h9=>by have h8:=(hmt.v a9 b9 (by omega) (by omega)).2 ((hum27 _).1 h9);rw [(by assumption:nth (nth E87 a9).l b9=false)] at h8;cases h8
  refine gX<|hK k96<|gL<|gRn (oM 1 rfl<|oadN _ 1 om9 rfl<|oM 1 rfl<|.nl)<|nN<|fun a112 w112 h112=>x_again ⟨_, ?_,(a9+1),n2, ?_, ?_,h112.nf ⟨rfl,rfl,rfl,rfl,rfl,rfl,trivial⟩,rfl⟩
  · rw [hm91];first|omega|(simp only [lens9];omega)
  · omega
  · exact EnR.row (by rw [show b9=Lk by omega] at hen2;exact hen2) hu0
 refine gX<|hK k89<|?_
 have hend:n=u27.l.length:=(by rw [show a9=Lk by omega] at hen;exact hen:EnR u27.l n Lk 0).end_ hu1
 refine sK fun _ k113=>gRn (olw 7 ti_25 rfl rfl<|.nl)<|fun a115 w115 h115=>wl_ex (x_call h115 bd_26 rfl rfl rfl rfl rfl (rSafe_c code words Lk R _ (h115.sh.at 8 rfl) (h115.sh.at 9 rfl) hok)) (wanted_none rfl _) ?_
 rintro a116 w116 ⟨_,⟨rb116,rfl,hrb116,hs116⟩,hf116⟩
 have h116:St 164 (fun _=>False) W a116 w116 _ _:=⟨hf116,h115.sh.call0 hs116⟩
 clear hf116 hs116
 clear h115
 refine gG h116<|gRn (oM 1 rfl<|.nl)<|nK k113<|sK fun _ k117=>gNl (aO 4 rfl) fun hl118=>gRn (oM 2 rfl<|oln sl_54 (aO 4 rfl) rfl<|oeqN _ _ rfl<|oM 1 rfl<|oG (decide_eq_true hend) (r_move rfl rfl) rfl<|oG (decide_eq_true hend) (r_move rfl rfl) rfl<|oG (decide_eq_true hend) (r_eqBB rfl rfl rfl (by kernel_rfl)) rfl<|opT (decide_eq_true hend) rfl<|oM 1 rfl<|.nl)<|nK k117<|gR<|fun a119 w119 h119=>x_ret1 (fn:=Try.f7) (t:=2) rfl h119 rfl<|⟨?_,(h119.sh.sel [] rfl)⟩;clear h116
 congr 1
 exact beq_iff_eq.2 (Bool.eq_iff_iff.2 (hb33.trans hrb116.symm))
theorem orderTells_b (code:Ls (Ls Ins))(words:Ls Int)(locks regs:Int)(W:World)(hcode:code.At W)(hwords:words.At W)(hv:vastG (code.l.map (·.l)) words.l=false)(hz:(checkG (pgOf code words locks regs)).code≠0):
    Rets Try.prog 7 [.agg #[code.v,words.v, .int .i64 locks, .int .i64 regs]] W (fun v w' =>v= .bool true∧Sh0 W w' []):=by
 refine gen Try.func7 Try.ntmps7 (Sh0.ext2 hcode hwords:Sh (fun _=>False) W W [.at_ code, .at_ words]) rfl fun a10 h10=>gG h10<|sK fun _ k11=>gbx rfl rfl fun b12=>gRn (oM 1 rfl<|.nl)<|nK k11<|gK fun _ k13=>sK fun _ k14=>gRn (olw 0 ti_25 rfl rfl<|.nl)<|gC (fun _ _ h_=>xCl h_ bd_8 rfl (vast_c (code:=code) (words:=words) (locks:=locks) (regs:=regs) (h_.sh.at 1 rfl) (h_.sh.at 2 rfl))) rfl<|?_;clear h10
 rintro _ _ w15 ⟨rfl,hs15⟩
 refine gWk hs15 rfl<|gU<|nK k14<|gcF rfl hv<|gS<|hK k13<|sK fun _ k16=>gRn (olw 0 ti_25 rfl rfl<|.nl)<|gC (fun _ _ h_=>xCl h_ bd_21 rfl (oheld_b code words locks regs _ (h_.sh.at 1 rfl) (h_.sh.at 2 rfl) hz)) rfl<|?_;clear hs15
 rintro _ _ w17 ⟨rfl,hs17⟩
 refine gWk hs17 rfl<|gU<|gRn (oM 1 rfl<|oxt rfl<|oxt rfl<|.nl)<|gal ti_30 rfl fun b18=>gRn (oM 1 rfl<|.nl)<|gsw 0 ti_30 rfl rfl rfl<|nK k16<|sK fun _ k20=>gRn (olw 1 ti_25 rfl rfl<|.nl)<|gC (fun _ _ h_=>xCl h_ bd_19 rfl (oedges_b code words locks regs _ (h_.sh.at 2 rfl) (h_.sh.at 3 rfl) hz)) rfl<|?_;clear hs17
 rintro _ _ w21 ⟨rfl,hs21⟩
 refine gWk hs21 rfl<|gU<|gRn (oM 1 rfl<|oxt rfl<|oxt rfl<|.nl)<|gal ti_30 rfl fun b22=>gRn (oM 1 rfl<|.nl)<|gsw 0 ti_30 rfl rfl rfl<|nK k20<|sK fun _ k24=>gRn (olw 2 ti_25 rfl rfl<|.nl)<|gC (fun _ _ h_=>xCl h_ bd_17 rfl (osafe_b code words locks regs _ (h_.sh.at 3 rfl) (h_.sh.at 4 rfl) hz)) rfl<|?_;clear hs21
 rintro _ _ w25 ⟨rfl,hs25⟩
 refine gWk hs25 rfl<|gU<|gRn (oM 1 rfl<|oxt rfl<|oxt rfl<|.nl)<|gal ti_30 rfl fun b26=>gRn (oM 1 rfl<|.nl)<|gsw 0 ti_30 rfl rfl rfl<|nK k24<|sK fun _ k28=>gRn (olw 3 ti_25 rfl rfl<|.nl)<|gC (fun _ _ h_=>xCl h_ bd_11 rfl (refCheck_c (code:=code) (words:=words) (locks:=locks) (regs:=regs) (h_.sh.at 4 rfl) (h_.sh.at 5 rfl))) rfl<|?_;clear hs25
 rintro _ _ w29 ⟨rfl,hs29⟩
 refine gWk hs29 rfl<|gU<|gal ti_30 rfl fun b30=>gsw 0 ti_30 rfl rfl rfl<|nK k28<|gK fun _ k32=>sG (olw 3 ti_30 rfl rfl<|olw 0 ti_30 rfl rfl<|oV (r_neqS rfl rfl rfl (fun w=>neq_fltG _ _ ⟨(checkG (pgOf code words locks regs)).code,(checkG (pgOf code words locks regs)).thread,(checkG (pgOf code words locks regs)).at_⟩ ⟨(checkG (pgOf code words locks regs)).code,(checkG (pgOf code words locks regs)).thread,(checkG (pgOf code words locks regs)).at_⟩ w) (fun w=>neq_flt ⟨(checkG (pgOf code words locks regs)).code,(checkG (pgOf code words locks regs)).thread,(checkG (pgOf code words locks regs)).at_⟩ ⟨(checkG (pgOf code words locks regs)).code,(checkG (pgOf code words locks regs)).thread,(checkG (pgOf code words locks regs)).at_⟩ w)) rfl<|oM 1 rfl<|oG (decide_eq_false (fun h=>h rfl)) (r_ldbw (i:=2) (vs:= [.int .i64 ((checkG (pgOf code words locks regs)).code), .int .i64 ((checkG (pgOf code words locks regs)).thread), .int .i64 ((checkG (pgOf code words locks regs)).at_)]) ti_30 rfl rfl rfl rfl rfl) rfl<|oG (decide_eq_false (fun h=>h rfl)) (r_ldbw (i:=0) (vs:= [.int .i64 ((checkG (pgOf code words locks regs)).code), .int .i64 ((checkG (pgOf code words locks regs)).thread), .int .i64 ((checkG (pgOf code words locks regs)).at_)]) ti_30 rfl rfl rfl rfl rfl) rfl<|oG (decide_eq_false (fun h=>h rfl)) (r_neqS rfl rfl rfl (fun w=>neq_fltG _ _ ⟨(checkG (pgOf code words locks regs)).code,(checkG (pgOf code words locks regs)).thread,(checkG (pgOf code words locks regs)).at_⟩ ⟨(checkG (pgOf code words locks regs)).code,(checkG (pgOf code words locks regs)).thread,(checkG (pgOf code words locks regs)).at_⟩ w) (fun w=>neq_flt ⟨(checkG (pgOf code words locks regs)).code,(checkG (pgOf code words locks regs)).thread,(checkG (pgOf code words locks regs)).at_⟩ ⟨(checkG (pgOf code words locks regs)).code,(checkG (pgOf code words locks regs)).thread,(checkG (pgOf code words locks regs)).at_⟩ w)) rfl<|opF (decide_eq_false (fun h=>h rfl)) rfl<|oM 1 rfl<|oG (decide_eq_false (fun h=>h rfl)) (r_ldbw (i:=1) (vs:= [.int .i64 ((checkG (pgOf code words locks regs)).code), .int .i64 ((checkG (pgOf code words locks regs)).thread), .int .i64 ((checkG (pgOf code words locks regs)).at_)]) ti_30 rfl rfl rfl rfl rfl) rfl<|oG (decide_eq_false (fun h=>h rfl)) (r_ldbw (i:=0) (vs:= [.int .i64 ((checkG (pgOf code words locks regs)).code), .int .i64 ((checkG (pgOf code words locks regs)).thread), .int .i64 ((checkG (pgOf code words locks regs)).at_)]) ti_30 rfl rfl rfl rfl rfl) rfl<|oG (decide_eq_false (fun h=>h rfl)) (r_neqS rfl rfl rfl (fun w=>neq_fltG _ _ ⟨(checkG (pgOf code words locks regs)).code,(checkG (pgOf code words locks regs)).thread,(checkG (pgOf code words locks regs)).at_⟩ ⟨(checkG (pgOf code words locks regs)).code,(checkG (pgOf code words locks regs)).thread,(checkG (pgOf code words locks regs)).at_⟩ w) (fun w=>neq_flt ⟨(checkG (pgOf code words locks regs)).code,(checkG (pgOf code words locks regs)).thread,(checkG (pgOf code words locks regs)).at_⟩ ⟨(checkG (pgOf code words locks regs)).code,(checkG (pgOf code words locks regs)).thread,(checkG (pgOf code words locks regs)).at_⟩ w)) rfl<|opF (decide_eq_false (fun h=>h rfl)) rfl<|.nl)<|gF [1,3,5,7,9,51] rfl<|gcF rfl (decide_eq_false (fun h=>h rfl))<|gS<|hK k32<|gK fun _ k34=>sG (ofB fl_30_0 rfl<|olB 0 ti_28 rfl rfl<|oneI _ _ rfl<|.nl)<|gcT rfl (decide_eq_true hz)<|sK fun _ k36=>gNl (fun w h=>(Sh.nilAt (α:=Ls (Ls Int)) h)) fun (hl37:([]).length≤140737488355328)=>gRn (oM 1 rfl<|oln (n:=([]).length) sl_58 (fun w h=>(Sh.nilAt (α:=Ls (Ls Int)) h)) rfl<|oM 1 rfl<|oln (n:=([]).length) sl_54 (fun w h=>(Sh.nilAt (α:=P2) h)) rfl<|oadN _ _ (show (([]).length)+(([]).length)<9223372036854775808 from om9) rfl<|oeqN _ 0 rfl<|oM 1 rfl<|oG (decide_eq_true rfl) (r_move rfl rfl) rfl<|oG (decide_eq_true rfl) (r_not rfl rfl) rfl<|opT (decide_eq_true rfl) rfl<|oM 1 rfl<|.nl)<|nK k36<|gR<|uT<|fun a38 w38 h38=> ?_;clear hs29
 refine x_ret1 (fn:=Try.f7) (t:=2) rfl h38 rfl<|⟨?_,(h38.sh.sel [] rfl)⟩
 rfl
theorem orderTells_any (code:Ls (Ls Ins))(words:Ls Int)(locks regs:Int)(W:World)(hcode:code.At W)(hwords:words.At W):Rets Try.prog 7 [.agg #[code.v,words.v, .int .i64 locks, .int .i64 regs]] W (fun v w' =>v= .bool true∧Sh0 W w' []):=by
 cases hv:vastG (code.l.map (·.l)) words.l with
 |true=>exact orderTells_v code words locks regs W hcode hwords hv
 |false=>
  by_cases hok:OkPg (pgOf code words locks regs)
  ·obtain ⟨Lk,rfl⟩:=Int.eq_ofNat_of_zero_le hok.locks.1
   obtain ⟨R,rfl⟩:=Int.eq_ofNat_of_zero_le (show 0≤regs by have:=hok.regs.1;have e:(pgOf code words (Lk:Int) regs).regs=regs:=rfl;omega)
   exact orderTells_k code words Lk R W hcode hwords hv hok
  ·exact orderTells_b code words locks regs W hcode hwords hv (fun h=>hok (checkG_code_pos.1 h))
end Go.Proofs.Ytmbfcgpneflbmaa
namespace Go.Proofs.Ytmbfcgpneflbmaa
open Go.ChangeShapes Go.WideShapes Go.ChangeAt Go.RowKit
open Go.Deep (open_slice)
set_option linter.unusedSimpArgs false
set_option linter.unusedVariables false
class Rd (α:Type) extends Enc α where
 ty:Program→TypeId→Prop
 fine:α→Prop
 read:∀ {H:Type} {enc:TypeId×Value→H} {P:Program} {w:World} {base:Nat} {spare:Nat→Bool} {held:Bool} {fuel:Nat} {T:TypeId} {cs:List Value} {x:DataW H×List MemPlace},
  ty P T→DataW.trod enc P w base spare held fuel T cs=some x→(∀n∈DataW.weights P T x.1,n≤reachBytes)→∃a:α,cs=cellsOf a∧Enc.inner a w∧fine a
instance : Rd Int where
 ty P T:=P.underlying T=some (.int .i64)
 fine n:=(Lit.int .i64 n).wf=true
 read hT h _:=by
  obtain ⟨n,rfl,_,hw⟩:=DataW.trod_int hT h
  exact ⟨n,rfl,trivial,hw⟩
instance : Rd Bool where
 ty P T:=P.underlying T=some .bool
 fine _:=True
 read hT h _:=by
  obtain ⟨b,rfl,_⟩:=DataW.trod_bool hT h
  exact ⟨b,rfl,trivial,trivial⟩
def intFields (P:Program)(fs:Array Field)(n:Nat):Prop:=fs.size=n∧∀(j:Nat) (f:Field),fs[j]? =some f→f.offset=j∧P.underlying f.type=some (.int .i64)∧P.cellsOf f.type=1
theorem read_ints {H:Type}{enc:TypeId×Value→H}{P:Program}{w:World}{base:Nat}{spare:Nat→Bool}{held:Bool}{fuel:Nat}{T:TypeId}{cs:List Value}{x:DataW H×List MemPlace}{fs:Array Field}{n:Nat}
  (hT:P.underlying T=some (.struct fs)) (hfs:intFields P fs n) (hC:P.cellsOf T=n) (h:DataW.trod enc P w base spare held fuel T cs=some x):
  cs.length=n∧∀j,j<n→∃k:Int,cs[j]? =some (.int .i64 k)∧(Lit.int .i64 k).wf=true:=by
 obtain ⟨xs,m,_,_,hlen,hxl,hf⟩:=DataW.trod_struct hT h
 refine ⟨hlen.trans hC,fun j hj=> ?_⟩
 obtain ⟨hs,hall⟩:=hfs
 have hjs:j<fs.size:=by omega
 obtain ⟨ho,ht,hc⟩:=hall j fs[j] (by simp [hjs])
 have h1:=hf j fs[j] (by simp [hjs])
 rw [ho,hc,List.getElem?_eq_getElem (by omega)] at h1
 obtain ⟨k,hk,_,hw⟩:=DataW.trod_int ht h1
 refine ⟨k, ?_,hw⟩
 rw [List.drop_eq_getElem_cons (by omega)] at hk
 simp only [List.take_succ_cons,List.take_zero,List.cons.injEq,and_true] at hk
 rw [List.getElem?_eq_getElem (by omega),hk]
instance : Rd Ins where
 ty P T:=∃fs,P.underlying T=some (.struct fs)∧intFields P fs 4∧P.cellsOf T=4
 fine x:=(Lit.int .i64 x.op).wf=true∧(Lit.int .i64 x.a).wf=true∧(Lit.int .i64 x.b).wf=true∧(Lit.int .i64 x.c).wf=true
 read:=by
  rintro H enc P w base spare held fuel T cs x ⟨fs,hT,hfs,hC⟩ h _
  obtain ⟨hl,hj⟩:=read_ints hT hfs hC h
  obtain ⟨k0,e0,w0⟩:=hj 0 (by omega)
  obtain ⟨k1,e1,w1⟩:=hj 1 (by omega)
  obtain ⟨k2,e2,w2⟩:=hj 2 (by omega)
  obtain ⟨k3,e3,w3⟩:=hj 3 (by omega)
  match cs,hl with
  | [c0,c1,c2,c3],_=>
   simp only [List.getElem?_cons_zero,List.getElem?_cons_succ,Option.some.injEq] at e0 e1 e2 e3
   subst e0 e1 e2 e3
   exact ⟨⟨k0,k1,k2,k3⟩,rfl,trivial,w0,w1,w2,w3⟩
theorem weights_slice {H:Type}{P:Program}{T e:TypeId}{elems spare:List (DataW H)}(hT:P.underlying T=some (.slice e))(h:∀n∈DataW.weights P T (.slice elems spare),n≤reachBytes):
  (elems.length+spare.length)*P.bytesOf e≤reachBytes∧∀d∈elems,∀n∈DataW.weights P e d,n≤reachBytes:=by
 unfold DataW.weights at h
 rw [hT] at h
 refine ⟨h _ (by simp),fun d hd n hn=>h n ?_⟩
 have:∀l:List (DataW H),d∈l→n∈DataW.weightsAll P e l:=by
  intro l hl
  induction l with
  |nil=>cases hl
  |cons y l ih=>
   unfold DataW.weightsAll
   rcases List.mem_cons.1 hl with rfl|hl
   ·exact List.mem_append.2 (.inl hn)
   ·exact List.mem_append.2 (.inr (ih hl))
 simp only [List.mem_cons,List.mem_append]
 exact .inr (.inl (this _ hd))
instance {α:Type}[Rd α]:Rd (Sl α) where
 ty P T:=∃e,P.underlying T=some (.slice e)∧P.cellsOf e=Enc.sz α∧1≤P.bytesOf e∧0<Enc.sz α∧Rd.ty α P e
 fine s:=∀i,i<s.l.length→Rd.fine (nth s.l i)
 read:=by
  rintro H enc P w base spare held fuel T cs x ⟨e,hT,hC,hB,hpos,hty⟩ h hw
  rcases open_slice hT h with ⟨rfl,rfl⟩|⟨a,len,cap,m,n,D,Pl,rfl,_,hl,hm,hmm,rfl,hi⟩
  ·refine ⟨⟨none,0, []⟩,rfl,⟨Nat.le_refl _,by simp,by simp,fun hh=>absurd hh (by simp),fun hh=>absurd hh (by simp),fun i j hi=>absurd hi (by simp),fun i hi=>absurd hi (by simp)⟩,fun i hi=>absurd hi (by simp)⟩
  ·obtain ⟨hb,hd⟩:=weights_slice hT hw
   have hlm:len≤m:=by rw [hmm];split<;>omega
   have hlen:len≤140737488355328:=by
    simp only [List.length_map,List.length_range,reachBytes] at hb
    have:(len+(m-len))*1≤(len+(m-len))*P.bytesOf e:=Nat.mul_le_mul_left _ hB
    omega
   have key:∀i,i<len→∃y:α,(∀j,j<Enc.sz α→w.cell? ((a.add (i*Enc.sz α)).add j)=some (Enc.cell y j))∧Enc.inner y w∧Rd.fine y:=by
    intro i hil
    obtain ⟨cs',hc',ht'⟩:=hi i (by omega)
    obtain ⟨y,hy,hin,hf⟩:=Rd.read hty ht' (hd _ (List.mem_map.2 ⟨i,by simpa using hil,rfl⟩))
    obtain ⟨_,hcl,hat⟩:=World.cells?_some hc'
    rw [hC] at hc' hat hcl
    refine ⟨y,fun j hj=> ?_,hin,hf⟩
    rw [hat j (by first|exact hj|omega)]
    subst hy
    simp [cellsOf,hj]
   obtain ⟨F,hF⟩:=Go.Deep.choose_lt key
   let l:=(List.range len).map F
   have hll:l.length=len:=by simp [l]
   have hn:∀i,i<len→nth l i=F i:=by intro i hil;simp [nth,l,hil]
   have hcell0:0<len→∃v,w.cell? a=some v:=fun h0=>⟨_,by
    have h1:=(hF 0 h0).1 0 hpos
    rw [Nat.zero_mul,Addr.add_zero',Addr.add_zero'] at h1
    exact h1⟩
   have hspot:0<len→a.spot=none:=by
    intro h0
    obtain ⟨v,hv⟩:=hcell0 h0
    unfold World.cell? at hv
    split at hv
    ·split at hv
     ·cases hv
     ·rename_i hs
      simpa using hs
    ·cases hv
   refine ⟨⟨some a,cap,l⟩,by simp [cellsOf,Enc.cell,Enc.sz,hll],⟨by rw [hll];exact hl,hm,by rw [hll];exact hlen, ?_, ?_, ?_, ?_⟩, ?_⟩
   ·intro h0
    exact ⟨a,rfl,hspot (by rw [←hll];exact h0)⟩
   ·intro h0
    obtain ⟨v,hv⟩:=hcell0 (by rw [←hll];exact h0)
    exact World.block_lt_of_cell? w a hv
   ·intro i j hi' hj
    rw [hll] at hi'
    show w.cell? ⟨a.block,a.off+i*Enc.sz α+j,none⟩=some (Enc.cell (nth l i) j)
    rw [hn i hi',←(hF i hi').1 j hj]
    have hs:=hspot (by omega)
    rcases a with ⟨b,o,sp⟩
    simp only at hs
    subst hs
    rw [Addr.add_lit,Addr.add_lit]
   ·intro i hi'
    rw [hll] at hi'
    rw [hn i hi']
    exact (hF i hi').2.1
   ·intro i hi'
    rw [hll] at hi'
    rw [hn i hi']
    exact (hF i hi').2.2
def prFields (P:Program)(fs:Array Field):Prop:=
 ∃f0 f1 f2 f3:Field,fs= #[f0,f1,f2,f3]∧(f0.offset=0∧P.cellsOf f0.type=1∧Rd.ty (Sl (Sl Ins)) P f0.type)∧(f1.offset=1∧P.cellsOf f1.type=1∧Rd.ty (Sl Int) P f1.type)∧
  (f2.offset=2∧P.cellsOf f2.type=1∧Rd.ty Int P f2.type)∧(f3.offset=3∧P.cellsOf f3.type=1∧Rd.ty Int P f3.type)
def PR.fine (p:PR):Prop:=Rd.fine p.code∧Rd.fine p.words∧(Lit.int .i64 p.locks).wf=true∧(Lit.int .i64 p.regs).wf=true
theorem weights_agg {H:Type}{P:Program}{T:TypeId}{f0 f1 f2 f3:Field}{d0 d1 d2 d3:DataW H}(hT:P.underlying T=some (.struct #[f0,f1,f2,f3]))(h:∀n∈DataW.weights P T (.agg [d0,d1,d2,d3]),n≤reachBytes):
  (∀n∈DataW.weights P f0.type d0,n≤reachBytes)∧(∀n∈DataW.weights P f1.type d1,n≤reachBytes)∧(∀n∈DataW.weights P f2.type d2,n≤reachBytes)∧(∀n∈DataW.weights P f3.type d3,n≤reachBytes):=by
 unfold DataW.weights at h
 rw [hT] at h
 simp only [List.map_cons,List.map_nil,DataW.weightsEach,List.append_nil,List.mem_append] at h
 exact ⟨fun n hn=>h n (.inl hn),fun n hn=>h n (.inr (.inl hn)),fun n hn=>h n (.inr (.inr (.inl hn))),fun n hn=>h n (.inr (.inr (.inr hn)))⟩
theorem open_PR {H:Type}{enc:TypeId×Value→H}{P:Program}{w:World}{base:Nat}{spare:Nat→Bool}{held:Bool}{r:Go.Reach}{b0:Nat}{T:TypeId}{fs:Array Field}{v:Value}{d:DataW H}{p:List MemPlace}
  (hT:P.underlying T=some (.struct fs)) (hfs:prFields P fs) (hC:P.cellsOf T=4) (hv:Value.okWide P w r b0 T v) (h:DataW.Trod enc P w base spare held T v d p) (hw:∀n∈DataW.weights P T d,n≤reachBytes):
  ∃q:PR,v=q.val∧q.At w∧q.fine:=by
 obtain ⟨f0,f1,f2,f3,rfl,⟨o0,c0,t0⟩,⟨o1,c1,t1⟩,⟨o2,c2,t2⟩,⟨o3,c3,t3⟩⟩:=hfs
 obtain ⟨cs,rfl,hsz⟩:=okWide_struct hT hv
 obtain ⟨l⟩:=cs
 match l,hsz.trans hC with
 | [v0,v1,v2,v3],_=>
  obtain ⟨fuel,hf⟩:=h
  obtain ⟨xs,n,_,hx,_,hlen,hg⟩:=DataW.trod_struct hT hf
  match xs,hlen with
  | [y0,y1,y2,y3],_=>
   simp only [Prod.mk.injEq,List.map_cons,List.map_nil] at hx
   rw [hx.1] at hw
   obtain ⟨w0,w1,w2,w3⟩:=weights_agg hT hw
   have g0:=hg 0 f0 rfl
   have g1:=hg 1 f1 rfl
   have g2:=hg 2 f2 rfl
   have g3:=hg 3 f3 rfl
   rw [o0,c0] at g0
   rw [o1,c1] at g1
   rw [o2,c2] at g2
   rw [o3,c3] at g3
   simp [Value.cells] at g0 g1 g2 g3
   obtain ⟨s0,e0,i0,k0⟩:=Rd.read t0 g0 w0
   obtain ⟨s1,e1,i1,k1⟩:=Rd.read t1 g1 w1
   obtain ⟨s2,e2,i2,k2⟩:=Rd.read t2 g2 w2
   obtain ⟨s3,e3,i3,k3⟩:=Rd.read t3 g3 w3
   simp [cellsOf,Enc.cell,Enc.sz] at e0 e1 e2 e3
   subst e0 e1 e2 e3
   exact ⟨⟨s0,s1,s2,s3⟩,rfl,⟨i0,i1⟩,k0,k1,k2,k3⟩
end Go.Proofs.Ytmbfcgpneflbmaa
namespace Go.Proofs.Ytmbfcgpneflbmaa
open Go.ChangeShapes Go.WideShapes Go.ChangeAt Go.RowKit
set_option linter.unusedSimpArgs false
set_option linter.unusedVariables false
theorem own :ownKnob Try.prog.godebug=none:=by kernel_rfl
theorem laidOut :laidOutB Try.prog=true:=by kernel_rfl
theorem ty_int :Rd.ty Int Try.prog 3:=Try.underlying3
theorem ty_ins :Rd.ty Ins Try.prog 47:=by
 refine ⟨_,Try.underlying47,⟨rfl,fun j f hf=> ?_⟩,by kernel_rfl⟩
 rcases j with _|_|_|_|j<;>simp at hf<;>subst hf<;>exact ⟨rfl,Try.underlying3,by kernel_rfl⟩
theorem ty_ints :Rd.ty (Sl Int) Try.prog 23:=⟨_,Try.underlying23,by kernel_rfl,of_decide_eq_true (by kernel_rfl),by decide,ty_int⟩
theorem ty_code :Rd.ty (Sl Ins) Try.prog 45:=⟨_,Try.underlying45,by kernel_rfl,of_decide_eq_true (by kernel_rfl),by decide,ty_ins⟩
theorem ty_codes :Rd.ty (Sl (Sl Ins)) Try.prog 22:=⟨_,Try.underlying22,by kernel_rfl,of_decide_eq_true (by kernel_rfl),by decide,ty_code⟩
theorem ty_pr :∃fs,Try.prog.underlying 25=some (.struct fs)∧prFields Try.prog fs:=
 ⟨_,Try.underlying25,_,_,_,_,rfl,⟨rfl,by kernel_rfl,ty_codes⟩,⟨rfl,by kernel_rfl,ty_ints⟩,⟨rfl,by kernel_rfl,ty_int⟩,⟨rfl,by kernel_rfl,ty_int⟩⟩
section
variable {α:Type}[Enc α]
def ofSl (s:Sl α):Ls α:=⟨.slice s.A s.l.length s.cap,s.l⟩
theorem ofSl_at {s:Sl α}{w:World}(h:s.At w):(ofSl s).At w:=⟨s.A,s.cap,rfl,h⟩
def ofSl2 (s:Sl (Sl α)):Ls (Ls α):=⟨.slice s.A s.l.length s.cap,s.l.map ofSl⟩
theorem ofSl2_at {s:Sl (Sl α)}{w:World}(h:s.At w):(ofSl2 s).At w:=by
 refine ⟨s.A,s.cap,by simp [ofSl2],⟨by simpa [ofSl2] using h.le,h.max,by simpa [ofSl2] using h.len,by simpa [ofSl2] using h.some,by simpa [ofSl2] using h.lt',fun i j hi hj=> ?_,fun i hi=> ?_⟩⟩
 ·have hi' :i<s.l.length:=by simpa [ofSl2] using hi
  show w.cell? _=some (Enc.cell (nth (s.l.map ofSl) i) j)
  rw [nth_map' ofSl _ _ hi']
  exact h.cell i j hi' hj
 ·have hi' :i<s.l.length:=by simpa [ofSl2] using hi
  show Enc.inner (nth (s.l.map ofSl) i) w
  rw [nth_map' ofSl _ _ hi']
  exact ofSl_at (h.inner i hi')
end
theorem pr_ls (q:PR)(w:World)(h:q.At w):∃(code:Ls (Ls Ins)) (words:Ls Int) (locks regs:Int),q.val= .agg #[code.v,words.v, .int .i64 locks, .int .i64 regs]∧code.At w∧words.At w:=
 ⟨ofSl2 q.code,ofSl q.words,q.locks,q.regs,rfl,ofSl2_at h.code,ofSl_at h.words⟩
set_option maxRecDepth 100000 in
theorem orderTells_lifted (os:Os)(started:os.Started)(H:Type)(enc:TypeId×Value→H):
  ReturnsInHanded {} Try.checked os 7 .any (Rows.orderTellsSpec.pre6 enc Try.prog Try.f7 Rows.orderTellsRow.domain false) (Rows.orderTellsSpec.post enc Try.prog Try.f7 false true false false):=by
 refine returnsInHanded_of_change_sized (C:=Try.checked) own started (by kernel_rfl) Try.func7
  (ChangeSpec.witness6 (enc:=enc) (C:=Try.checked) false ⟨#[], #[.agg #[.slice none 0 0, .slice none 0 0, .int .i64 0, .int .i64 0]], []⟩ 8 (by kernel_rfl) (by kernel_rfl) (by kernel_rfl) (by kernel_rfl)) ?_
 intro W base args ds gs before hval0 hW _ hsz0 _
 have hsz:(DataW.weightsEach Try.prog (Try.f7.params.toList++Rows.orderTellsSpec.plain.varTypes Try.prog) (ds++gs)).all (· ≤reachBytes)=true:=hsz0
 have hval:∀(j:Nat) t v,Try.f7.params[j]? =some t→args[j]? =some v→Value.okWide Try.prog W .any base t v:=hval0
 have hW' :=hW
 obtain ⟨p,q,hA0,hV,rfl,hfz,hnd⟩:=hW
 have hA:DataW.TrodAll enc Try.prog W 0 (fun _=>true) true Try.f7.params.toList args.toList ds p:=hA0
 rw [Try.params7] at hA hval hsz
 obtain ⟨v0,d0,rfl,rfl,h0⟩:=trodAll_one hA
 obtain ⟨rfl,rfl⟩:=trodVars_none hV
 clear hA0 hval0
 simp only [List.append_nil] at hW'
 have hw0:∀n∈DataW.weights Try.prog 25 d0,n≤reachBytes:=by
  intro n hn
  have:=List.all_eq_true.1 hsz n (by simp [DataW.weightsEach,hn])
  simpa using this
 obtain ⟨fs,hfs,hpf⟩:=ty_pr
 obtain ⟨pr,rfl,hAt,_⟩:=open_PR hfs hpf (by kernel_rfl) (hval 0 25 v0 rfl rfl) h0 hw0
 have hlt:∀x∈p,x.block<W.heap.size:=fun x hx=>by simpa using hW'.lt x hx
 obtain ⟨code,words,locks,regs,hv,hc,hw⟩:=pr_ls pr W hAt
 have hcall:=orderTells_any code words locks regs W hc hw
 rw [←hv] at hcall
 refine Calls.mono hcall fun e W' ⟨v',he,hv',hg0⟩=> ?_
 have hg:=hg0.chg.to_below
 subst he
 subst hv'
 exact ⟨_,rfl,_,_,_, [],p, [],hW',trodAll_mk1 (shut_bool Try.underlying4 true),trodAll_mk1 (Below.trod laidOut (by kernel_rfl) (of_decide_eq_true (by kernel_rfl)) h0 hg hlt),rfl,hg.frame _,fun h=>by cases h⟩
theorem orderTells_holds :Rows.OrderTellsSaid:=
 OpenClaim.holds_of_wide 7 Try.f7 rfl rfl rfl rfl rfl rfl rfl ⟨rfl,rfl,rfl,rfl,rfl⟩ rfl rfl rfl rfl rfl (by kernel_rfl) Try.func7 (by kernel_rfl)
  (of_decide_eq_true (by kernel_rfl)) (by unfold Func.isWrapper;first|(rw [if_pos (by decide+kernel)];kernel_rfl)|(rw [if_neg (by decide+kernel)];exact ⟨rfl,rfl⟩))
  (fun os started H enc _=>orderTells_lifted os started H enc)
end Go.Proofs.Ytmbfcgpneflbmaa
