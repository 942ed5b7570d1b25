/- AllocHolds: few registers do. -/
import Derived.Test.YtmbfcgpneflbmaaQ5
namespace Go.Proofs.Ytmbfcgpneflbmaa
open Go.RowKit
set_option linter.unusedSimpArgs false
set_option linter.unusedVariables false
set_option maxRecDepth 100000
set_option maxHeartbeats 16000000
theorem at_or {x y z:Ls (Ls Int)}{w:World}(h:x=y∨x=z)(h1:y.At w)(h2:z.At w):x.At w:=by
 rcases h with rfl|rfl
 ·exact h1
 ·exact h2
theorem apply_any (code:Ls (Ls Ins))(words:Ls Int)(Lk R:Nat)(cols:Ls (Ls Int))(f:Nat→Nat→Nat→Bool)(W:World)(hcode:code.At W)(hwords:words.At W)(hcols:cols.At W)(hok:OkPg (pgN code words Lk R))(hF:∀t,t<code.l.length→∀r j,(f t r j=true↔LiveI (nth code.l t).l r j))(hcb:colsB code.l cols.l f R=true):
  Rets Try.prog 13 [.agg #[code.v,words.v, .int .i64 ((Lk:Nat):Int), .int .i64 ((R:Nat):Int)],cols.v] W (fun v w' =>∃(c:Ls (Ls Ins)) (u:Ls Int) (lk rg fc ft:Int),v= .tuple #[.agg #[c.v,u.v, .int .i64 lk, .int .i64 rg], .agg #[.int .i64 fc, .int .i64 ft, .int .i64 0]]∧(fc≠1→fc=0∧ft=0∧lk=((Lk:Nat):Int)∧rg=8∧Few code words Lk R c u)∧Sh0 W w' [.deep 45 c, .own 3 u]):=by
 have hR:(((R:Nat):Int)).toNat=R:=Int.toNat_natCast R
 rcases Nat.lt_or_ge 64 (words.l.length+tSp cols.l R code.l.length) with htot|htot
 ·refine Rets.mono (apply_w code words _ _ cols f W hcode hwords hcols hok hF (by rw [hR];exact hcb) (by rw [hR];exact htot)) ?_
  rintro v w' ⟨rfl,hs⟩
  exact ⟨⟨.slice none 0 0, []⟩,⟨.slice none 0 0, []⟩,0,0,1,0,rfl,fun h=>absurd rfl h,(hs.nil 3).nilDeep 45⟩
 by_cases hfit:∀t,t<code.l.length→(apT (nth code.l t).l (nth cols.l t).l (words.l.length+tSp cols.l R t) R).length≤400
 ·refine Rets.mono (apply_k code words _ _ cols f W hcode hwords hcols hok hF (by rw [hR];exact hcb) (by rw [hR];exact htot) (by rw [hR];exact hfit)) ?_
  rw [hR]
  rintro v w' ⟨c,u,rfl,hc,hu,hs⟩
  refine ⟨c,u,_,8,0,0,rfl,fun _=>⟨rfl,rfl,rfl,rfl, ?_,_,_,_,f,pg_paint hc hu,all_ctx hok hcb hF⟩,hs⟩
  rw [pg_paint hc hu]
  refine paintPg_ok (all_ctx hok hcb hF) hok htot fun t ht=> ?_
  rw [pgN_len] at ht
  rw [pgN_code ht]
  exact hfit t ht
 ·obtain ⟨kk,h1,h2,h3⟩:=least_natA (n:=code.l.length) (p:=fun t=>400<(apT (nth code.l t).l (nth cols.l t).l (words.l.length+tSp cols.l R t) R).length) (fun h=>hfit fun t ht=>Nat.le_of_not_lt (h t ht))
  refine Rets.mono (apply_l code words _ _ cols f kk W hcode hwords hcols hok hF (by rw [hR];exact hcb) (by rw [hR];exact htot) h1 (by rw [hR];exact h2) (by rw [hR];exact fun j hj=>Nat.le_of_not_lt (h3 j hj))) ?_
  rintro v w' ⟨rfl,hs⟩
  exact ⟨⟨.slice none 0 0, []⟩,⟨.slice none 0 0, []⟩,0,0,1,_,rfl,fun h=>absurd rfl h,(hs.nil 3).nilDeep 45⟩
theorem make0_b (code:Ls (Ls Ins))(words:Ls Int)(Lk R:Nat)(W:World)(hcode:code.At W)(hwords:words.At W)(hok:OkPg (pgN code words Lk R)):
    Rets Try.prog 14 [.agg #[code.v,words.v, .int .i64 ((Lk:Nat):Int), .int .i64 ((R:Nat):Int)], .bool false] W (fun v w' =>∃(g:Nat) (full:Bool) (sv kv hv bv:Value) (ends:Ls OutL),v= .pointer (some ⟨g,0,none⟩)∧(full=true↔Big (pgN code words Lk R) 0)∧(full=false→Sorted_ (ends.l.map OutL.out)∧∀o,o∈ends.l.map OutL.out↔Outs (pgN code words Lk R) 0 o)∧ends.l.length≤70000∧(∀o∈ends.l,∀b,Enc.on o b→W.heap.size≤b)∧Sh0 W w' [.blk g 44 [sv,kv,hv,bv,ends.v, .bool full], .own 49 ends]):=by
 refine gen Try.func14 Try.ntmps14 (Sh0.ext2 hcode hwords:Sh (fun _=>False) W W [.at_ code, .at_ words]) rfl fun a10 h10=>gG h10<|sK fun _ k11=>gbx rfl rfl fun b12=>gRn (oM 1 rfl<|.nl)<|nK k11<|gK fun _ k13=>sG (oM 1 rfl<|.nl)<|gcF rfl rfl<|gS<|hK k13<|sK fun _ k15=>gRn (olw 0 ti_25 rfl rfl<|.nl)<|fun a17 w17 h17=>wl_ex (x_call h17 bd_18 rfl rfl rfl rfl rfl (by_c code words Lk R 0 _ (h17.sh.at 1 rfl) (h17.sh.at 2 rfl) hok)) (wanted_none rfl _) ?_;clear h10
 rintro a18 w18 ⟨_,⟨g18,fu18,sv18,kv18,hv18,bv18,en18,rfl,hbg18,hby18,hel18,hnw18,hs18⟩,hf18⟩
 have hsz18:=h17.sh.chg.size
 have h18:=(⟨hf18,h17.sh.call hs18 (by intro A hA b hb;simp only [List.mem_cons,List.not_mem_nil,or_false] at hA;rcases hA with rfl|rfl;exact (hb:False).elim;exact .inl (by obtain ⟨i9,hi9,hb9⟩:=hb;exact hnw18 _ (nth_mem _ _ hi9) b hb9))⟩:St 10 (fun _=>False) W a18 w18 _ _)
 clear hf18 hs18
 clear h17
 refine gG h18<|gRn (oM 1 rfl<|.nl)<|nK k15<|gR<|fun a19 w19 h19=>x_ret1 (fn:=Try.f14) (t:=4) rfl h19 rfl ?_;clear h18
 exact ⟨g18,fu18,_,_,_,_,en18,rfl,hbg18,hby18,hel18,(fun o ho b hb=>Nat.le_trans hsz18 (hnw18 o ho b hb)),(h19.sh.sel [0,1] rfl)⟩
theorem allocHolds_v (code:Ls (Ls Ins))(words:Ls Int)(locks regs:Int)(cols:Ls (Ls Int))(W:World)(hcode:code.At W)(hwords:words.At W)(hcols:cols.At W)(hv:vastG (code.l.map (·.l)) words.l=true):
    Rets Try.prog 4 [.agg #[code.v,words.v, .int .i64 locks, .int .i64 regs],cols.v] W (fun v w' =>v= .bool true∧Sh0 W w' []):=by
 refine gen Try.func4 Try.ntmps4 (Sh0.ext3 hcode hwords hcols:Sh (fun _=>False) W W [.at_ code, .at_ words, .at_ cols]) rfl fun a10 h10=>gG h10<|sK fun _ k11=>gbx rfl rfl fun b12=>gRn (oM 1 rfl<|.nl)<|nK k11<|gK fun _ k13=>sK fun _ k14=>gRn (olw 0 ti_25 rfl rfl<|.nl)<|gC (fun _ _ h_=>xCl h_ bd_8 rfl (vast_c (code:=code) (words:=words) (locks:=locks) (regs:=regs) (h_.sh.at 1 rfl) (h_.sh.at 2 rfl))) rfl<|?_;clear h10
 rintro _ _ w15 ⟨rfl,hs15⟩
 refine gWk hs15 rfl<|gU<|gRn (oM 1 rfl<|oKs 3 hv rfl rfl<|opT hv rfl<|.nl)<|nK k14<|gcT rfl rfl<|sG (oM 1 rfl<|.nl)<|gR<|uT<|fun a17 w17 h17=> ?_;clear hs15
 refine x_ret1 (fn:=Try.f4) (t:=4) rfl h17 rfl ?_
 exact ⟨rfl,(h17.sh.sel [] rfl)⟩
theorem allocHolds_n (code:Ls (Ls Ins))(words:Ls Int)(locks regs:Int)(cols:Ls (Ls Int))(W:World)(hcode:code.At W)(hwords:words.At W)(hcols:cols.At W)(hv:vastG (code.l.map (·.l)) words.l=false)(hc9:100<cols.l.length):
    Rets Try.prog 4 [.agg #[code.v,words.v, .int .i64 locks, .int .i64 regs],cols.v] W (fun v w' =>v= .bool true∧Sh0 W w' []):=by
 refine gen Try.func4 Try.ntmps4 (Sh0.ext3 hcode hwords hcols:Sh (fun _=>False) W W [.at_ code, .at_ words, .at_ cols]) rfl fun a10 h10=>gG h10<|sK fun _ k11=>gbx rfl rfl fun b12=>gRn (oM 1 rfl<|.nl)<|nK k11<|gK fun _ k13=>sK fun _ k14=>gRn (olw 0 ti_25 rfl rfl<|.nl)<|gC (fun _ _ h_=>xCl h_ bd_8 rfl (vast_c (code:=code) (words:=words) (locks:=locks) (regs:=regs) (h_.sh.at 1 rfl) (h_.sh.at 2 rfl))) rfl<|?_;clear h10
 rintro _ _ w15 ⟨rfl,hs15⟩
 refine gWk hs15 rfl<|gU<|gNl (aA 3 rfl) fun hl16=>gRn (oM 1 rfl<|oG hv (r_move rfl rfl) rfl<|oG hv (r_len (s:=cols) (n:=cols.l.length) sl_26 rfl rfl (fun w h=>(h.at 3 rfl)) rfl) rfl<|oG hv (r_gtrN (p:=cols.l.length) (q:=100) rfl rfl rfl) rfl<|opF hv rfl<|.nl)<|nK k14<|gcT rfl (decide_eq_true hc9)<|sG (oM 1 rfl<|.nl)<|gR<|uT<|fun a18 w18 h18=> ?_;clear hs15
 refine x_ret1 (fn:=Try.f4) (t:=4) rfl h18 rfl ?_
 exact ⟨rfl,(h18.sh.sel [] rfl)⟩
theorem allocHolds_b (code:Ls (Ls Ins))(words:Ls Int)(locks regs:Int)(cols:Ls (Ls Int))(W:World)(hcode:code.At W)(hwords:words.At W)(hcols:cols.At W)(hv:vastG (code.l.map (·.l)) words.l=false)(hc9:cols.l.length≤100)(hz:(checkG (pgOf code words locks regs)).code≠0):
    Rets Try.prog 4 [.agg #[code.v,words.v, .int .i64 locks, .int .i64 regs],cols.v] W (fun v w' =>v= .bool true∧Sh0 W w' []):=by
 refine gen Try.func4 Try.ntmps4 (Sh0.ext3 hcode hwords hcols:Sh (fun _=>False) W W [.at_ code, .at_ words, .at_ cols]) rfl fun a10 h10=>gG h10<|sK fun _ k11=>gbx rfl rfl fun b12=>gRn (oM 1 rfl<|.nl)<|nK k11<|gK fun _ k13=>sK fun _ k14=>gRn (olw 0 ti_25 rfl rfl<|.nl)<|gC (fun _ _ h_=>xCl h_ bd_8 rfl (vast_c (code:=code) (words:=words) (locks:=locks) (regs:=regs) (h_.sh.at 1 rfl) (h_.sh.at 2 rfl))) rfl<|?_;clear h10
 rintro _ _ w15 ⟨rfl,hs15⟩
 refine gWk hs15 rfl<|gU<|gNl (aA 3 rfl) fun hl16=>gRn (oM 1 rfl<|oG hv (r_move rfl rfl) rfl<|oG hv (r_len (s:=cols) (n:=cols.l.length) sl_26 rfl rfl (fun w h=>(h.at 3 rfl)) rfl) rfl<|oG hv (r_gtrN (p:=cols.l.length) (q:=100) rfl rfl rfl) rfl<|opF hv rfl<|.nl)<|nK k14<|gcF rfl (decide_eq_false (by omega))<|gS<|hK k13<|sK fun _ k17=>gRn (olw 0 ti_25 rfl rfl<|.nl)<|gC (fun _ _ h_=>xCl h_ bd_11 rfl (refCheck_c (code:=code) (words:=words) (locks:=locks) (regs:=regs) (h_.sh.at 1 rfl) (h_.sh.at 2 rfl))) rfl<|?_;clear hs15
 rintro _ _ w18 ⟨rfl,hs18⟩
 refine gWk hs18 rfl<|gU<|gal ti_30 rfl fun b19=>gsw 0 ti_30 rfl rfl rfl<|nK k17<|sK fun _ k21=>gRn (olw 1 ti_25 rfl rfl<|.nl)<|gC (fun _ _ h_=>xCl h_ bd_10 rfl (colours_b code words locks regs _ (h_.sh.at 2 rfl) (h_.sh.at 3 rfl) hz)) rfl<|?_;clear hs18
 rintro _ _ w22 ⟨rfl,hs22⟩
 refine gWk hs22 rfl<|gU<|gRn (oM 1 rfl<|oxt rfl<|oxt rfl<|.nl)<|gal ti_30 rfl fun b23=>gRn (oM 1 rfl<|.nl)<|gsw 0 ti_30 rfl rfl rfl<|nK k21<|gK fun _ k25=>sG (ofB fl_30_0 rfl<|olB 1 ti_28 rfl rfl<|oneI _ _ rfl<|.nl)<|gcT rfl (decide_eq_true hz)<|sG (olw 0 ti_30 rfl rfl<|olw 1 ti_30 rfl rfl<|oV (r_eqS rfl rfl rfl (fun w=>eq_fltG _ _ ⟨(checkG (pgOf code words locks regs)).code,(checkG (pgOf code words locks regs)).thread,(checkG (pgOf code words locks regs)).at_⟩ ⟨(checkG (pgOf code words locks regs)).code,(checkG (pgOf code words locks regs)).thread,(checkG (pgOf code words locks regs)).at_⟩ w) (fun w=>eq_flt ⟨(checkG (pgOf code words locks regs)).code,(checkG (pgOf code words locks regs)).thread,(checkG (pgOf code words locks regs)).at_⟩ ⟨(checkG (pgOf code words locks regs)).code,(checkG (pgOf code words locks regs)).thread,(checkG (pgOf code words locks regs)).at_⟩ w)) rfl<|oM 1 rfl<|.nl)<|gF [4] rfl<|gR<|uT<|fun a28 w28 h28=> ?_;clear hs22
 refine x_ret1 (fn:=Try.f4) (t:=4) rfl h28 rfl ?_
 first|exact ⟨rfl,(h28.sh.sel [] rfl)⟩|exact ⟨congrArg Value.bool (decide_eq_true rfl),(h28.sh.sel [] rfl)⟩
theorem allocHolds_k (code:Ls (Ls Ins))(words:Ls Int)(Lk R:Nat)(cols:Ls (Ls Int))(f:Nat→Nat→Nat→Bool)(W:World)(hcode:code.At W)(hwords:words.At W)(hcols:cols.At W)(hv:vastG (code.l.map (·.l)) words.l=false)(hc9:cols.l.length≤100)(hok:OkPg (pgOf code words ((Lk:Nat):Int) ((R:Nat):Int)))(hF:∀t,t<code.l.length→∀r j,(f t r j=true↔LiveI (nth code.l t).l r j)):
    Rets Try.prog 4 [.agg #[code.v,words.v, .int .i64 ((Lk:Nat):Int), .int .i64 ((R:Nat):Int)],cols.v] W (fun v w' =>v= .bool true∧Sh0 W w' []):=by
 have hz:=checkG_ok hok
 refine gen Try.func4 Try.ntmps4 (Sh0.ext3 hcode hwords hcols:Sh (fun _=>False) W W [.at_ code, .at_ words, .at_ cols]) rfl fun a10 h10=>gG h10<|sK fun _ k11=>gbx rfl rfl fun b12=>gRn (oM 1 rfl<|.nl)<|nK k11<|gK fun _ k13=>sK fun _ k14=>gRn (olw 0 ti_25 rfl rfl<|.nl)<|gC (fun _ _ h_=>xCl h_ bd_8 rfl (vast_c (code:=code) (words:=words) (locks:=((Lk:Nat):Int)) (regs:=((R:Nat):Int)) (h_.sh.at 1 rfl) (h_.sh.at 2 rfl))) rfl<|?_;clear h10
 rintro _ _ w15 ⟨rfl,hs15⟩
 refine gWk hs15 rfl<|gU<|gNl (aA 3 rfl) fun hl16=>gRn (oM 1 rfl<|oG hv (r_move rfl rfl) rfl<|oG hv (r_len (s:=cols) (n:=cols.l.length) sl_26 rfl rfl (fun w h=>(h.at 3 rfl)) rfl) rfl<|oG hv (r_gtrN (p:=cols.l.length) (q:=100) rfl rfl rfl) rfl<|opF hv rfl<|.nl)<|nK k14<|gcF rfl (decide_eq_false (by omega))<|gS<|hK k13<|sK fun _ k17=>gRn (olw 0 ti_25 rfl rfl<|.nl)<|gC (fun _ _ h_=>xCl h_ bd_11 rfl (refCheck_c (code:=code) (words:=words) (locks:=((Lk:Nat):Int)) (regs:=((R:Nat):Int)) (h_.sh.at 1 rfl) (h_.sh.at 2 rfl))) rfl<|?_;clear hs15
 rintro _ _ w18 ⟨rfl,hs18⟩
 refine gWk hs18 rfl<|gU<|gal ti_30 rfl fun b19=>gsw 0 ti_30 rfl rfl rfl<|nK k17<|sK fun _ k21=>gRn (olw 1 ti_25 rfl rfl<|.nl)<|gC (fun _ _ h_=>xCl h_ bd_10 rfl (colours_k code words Lk R f _ (h_.sh.at 2 rfl) (h_.sh.at 3 rfl) hok hF)) rfl<|?_;clear hs18
 rintro _ _ w22 ⟨c22,rfl,hcc22,hs22⟩
 refine gWk hs22 rfl<|gU<|gRn (oM 1 rfl<|oxt rfl<|oxt rfl<|.nl)<|gal ti_30 rfl fun b23=>gRn (oM 1 rfl<|.nl)<|gsw 0 ti_30 rfl rfl rfl<|nK k21<|gK fun _ k25=>sG (ofB fl_30_0 rfl<|olB 2 ti_28 rfl rfl<|oneI _ _ rfl<|.nl)<|gcF rfl (by rw [show checkG (pgOf code words ((Lk:Nat):Int) ((R:Nat):Int))=⟨0,0,0⟩ from hz];rfl)<|gS<|hK k25<|sK fun _ k27=>gRn (olw 3 ti_25 rfl rfl<|oM 1 rfl<|.nl)<|gC (fun _ _ h_=>xCl h_ bd_12 rfl (rColours_c code words ((Lk:Nat):Int) ((R:Nat):Int) cols f _ (h_.sh.at 4 rfl) (h_.sh.at 5 rfl) (h_.sh.at 6 rfl) hok hF)) rfl<|?_;clear hs22
 rintro _ _ w28 ⟨rfl,hs28⟩
 refine gWk hs28 rfl<|gU<|gRn (oM 1 rfl<|.nl)<|nK k27<|gF [1,2,6,7,8] rfl<|fun a29 w29 h29=> ?_;clear hs28
 refine x_seq (fun a w=>∃(xc:Ls (Ls Int)),(xc=cols∨xc=c22)∧(colsB code.l xc.l f R=true)∧St 153 (fun _=>False) W a w [(1,xc.v),(2, .pointer (some ⟨b12,0,none⟩)),(7, .pointer (some ⟨b23,0,none⟩))] [.blk b23 30 [.int .i64 0, .int .i64 0, .int .i64 0], .deep 23 c22, .blk b19 30 [.int .i64 ((checkG (pgOf code words ((Lk:Nat):Int) ((R:Nat):Int))).code), .int .i64 ((checkG (pgOf code words ((Lk:Nat):Int) ((R:Nat):Int))).thread), .int .i64 ((checkG (pgOf code words ((Lk:Nat):Int) ((R:Nat):Int))).at_)], .blk b12 25 [code.v,words.v, .int .i64 ((Lk:Nat):Int), .int .i64 ((R:Nat):Int)], .at_ code, .at_ words, .at_ cols]) ?_ ?_
 ·refine gG h29<|sG (oM 1 rfl<|ont rfl<|.nl)<|?_;clear h29
  refine gCb rfl (fun hb31=> ?_) fun hb31=> ?_
  ·have hn31:colsB code.l cols.l f ((R:Nat):Int).toNat=false:=(Bool.not_eq_true' _).mp hb31
   refine gL<|gRn (oM 2 rfl<|.nl)<|nN<|fun a32 w32 h32=>x_join ⟨c22, ?_, ?_,h32.nf ⟨rfl,rfl,rfl,trivial⟩⟩
   · first|exact .inl rfl|exact .inr rfl
   · first|assumption|exact hcc22
  have hn31:colsB code.l cols.l f ((R:Nat):Int).toNat=true:=(Bool.not_eq_false' _).mp hb31
  refine gS<|fun a33 w33 h33=>x_join ⟨cols, ?_, ?_,h33.nf ⟨rfl,rfl,rfl,trivial⟩⟩
  · first|exact .inl rfl|exact .inr rfl
  · first|assumption|exact hcc22
 clear h29
 rintro a34 w34 ⟨xc,hxc,hcx,h34⟩
 refine gG h34<|sK fun _ k35=>gRn (olw 3 ti_25 rfl rfl<|oM 1 rfl<|.nl)<|gC (fun _ _ h_=>xCl h_ bd_13 rfl (apply_any code words Lk R xc f _ (h_.sh.at 4 rfl) (h_.sh.at 5 rfl) (at_or hxc (h_.sh.at 6 rfl) (h_.sh.deep 1 rfl)) hok hF hcx)) rfl<|?_;clear h34
 rintro _ _ w36 ⟨c36,u36,lk36,rg36,fc36,ft36,rfl,hap36,hs36⟩
 refine gWk hs36 rfl<|gU<|gRn (oM 1 rfl<|oxt rfl<|oxt rfl<|.nl)<|gal ti_25 rfl fun b37=>gE (fun _ _ h_=>x_stb (i:=0) (vs:= [c36.v,u36.v, .int .i64 lk36, .int .i64 rg36]) (cs' := [c36.v,u36.v, .int .i64 lk36, .int .i64 rg36]) h_ ti_25 rfl rfl rfl rfl rfl rfl rfl (allOne_cons ((h_.sh.deep 1 rfl)).one (allOne_cons ((h_.sh.own 2 rfl)).one (allOne_cons rfl (allOne_cons rfl allOne_nil)))) (Nat.le_of_ble_eq_true rfl) rfl) rfl<|gsw 3 ti_30 rfl rfl rfl<|nK k35<|gK fun _ k40=>sG (ofB fl_30_0 rfl<|olB 3 ti_28 rfl rfl<|oeqI _ _ rfl<|.nl)<|?_;clear hs36
 refine gcd rfl (fun hb42 hp42=> ?_) fun hb42 hp42=> ?_
 ·skip
  refine sG (oM 1 rfl<|.nl)<|gR<|uT<|fun a44 w44 h44=>x_ret1 (fn:=Try.f4) (t:=4) rfl h44 rfl ?_
  exact ⟨rfl,(h44.sh.sel [] rfl)⟩
 obtain ⟨rfl,rfl,rfl,rfl,hfew⟩:=hap36 (by assumption)
 have hq:=hfew.1
 have hzq:checkG (pgOf c36 u36 ((Lk:Nat):Int) 8)=⟨0,0,0⟩:=checkG_ok hq
 refine gS<|hK k40<|sK fun _ k45=>gRn (olw 0 ti_25 rfl rfl<|.nl)<|gC (fun _ _ h_=>xCl h_ bd_11 rfl (refCheck_c (code:=c36) (words:=u36) (locks:=((Lk:Nat):Int)) (regs:=8) (h_.sh.deep 1 rfl) (h_.sh.own 2 rfl))) rfl<|?_
 rintro _ _ w46 ⟨rfl,hs46⟩
 refine gWk hs46 rfl<|gU<|gal ti_30 rfl fun b47=>gsw 0 ti_30 rfl rfl rfl<|nK k45<|gK fun _ k49=>sG (ofB fl_30_0 rfl<|olB 4 ti_28 rfl rfl<|oneN 0 0 rfl<|oM 1 rfl<|oG (by decide) (r_fieldB (r:=0) fl_30_0 rfl rfl rfl) rfl<|oG (by decide) (r_ldb (i:=0) ti_28 rfl rfl rfl rfl) rfl<|oG (by decide) (r_neqI (p:=(checkG (pgOf c36 u36 ((Lk:Nat):Int) 8)).code) (q:=0) rfl rfl rfl) rfl<|opF (by decide) rfl<|oM 1 rfl<|oG (by rw [hzq];rfl) (r_fieldB (r:=3) fl_25_3 rfl rfl rfl) rfl<|oG (by rw [hzq];rfl) (r_ldb (i:=1) ti_3 rfl rfl rfl rfl) rfl<|oG (by rw [hzq];rfl) (r_neqN (p:=8) (q:=8) rfl rfl rfl) rfl<|opF (by rw [hzq];rfl) rfl<|.nl)<|gF [2,9,68] rfl<|gcF rfl (by decide)<|gS<|hK k49<|sK fun _ k51=>gRn (olw 7 ti_25 rfl rfl<|.nl)<|fun a53 w53 h53=> ?_;clear hs46
 refine wl_ex (x_call h53 bd_14 rfl rfl rfl rfl rfl (make0_b code words Lk R _ (h53.sh.at 8 rfl) (h53.sh.at 9 rfl) hok)) (wanted_none rfl _) ?_
 rintro a54 w54 ⟨_,⟨g54,fu54,sv54,kv54,hv54,bv54,en54,rfl,hbg54,hby54,hel54,hnw54,hs54⟩,hf54⟩
 have hsz54:=h53.sh.chg.size
 have h54:=(⟨hf54,h53.sh.call hs54 (by intro A hA b hb;simp only [List.mem_cons,List.not_mem_nil,or_false] at hA;rcases hA with rfl|rfl;exact (hb:False).elim;exact .inl (by obtain ⟨i9,hi9,hb9⟩:=hb;exact hnw54 _ (nth_mem _ _ hi9) b hb9))⟩:St 153 (fun _=>False) W a54 w54 _ _)
 clear hf54 hs54
 clear h53
 refine gG h54<|gRn (oM 1 rfl<|.nl)<|nK k51<|sK fun _ k55=>gRn (olw 3 ti_25 rfl rfl<|.nl)<|fun a57 w57 h57=>wl_ex (x_call h57 bd_14 rfl rfl rfl rfl rfl (make0_b c36 u36 Lk 8 _ (h57.sh.deep 4 rfl) (h57.sh.own 5 rfl) hq)) (wanted_none rfl _) ?_;clear h54
 rintro a58 w58 ⟨_,⟨g58,fu58,sv58,kv58,hv58,bv58,en58,rfl,hbg58,hby58,hel58,hnw58,hs58⟩,hf58⟩
 have hsz58:=h57.sh.chg.size
 have h58:=(⟨hf58,h57.sh.call hs58 (by intro A hA b hb;simp only [List.mem_cons,List.not_mem_nil,or_false] at hA;rcases hA with rfl|rfl;exact (hb:False).elim;exact .inl (by obtain ⟨i9,hi9,hb9⟩:=hb;exact hnw58 _ (nth_mem _ _ hi9) b hb9))⟩:St 153 (fun _=>False) W a58 w58 _ _)
 clear hf58 hs58
 clear h57
 refine gG h58<|gRn (oM 1 rfl<|.nl)<|nK k55<|gK fun _ k59=>sK fun _ k60=>gRn (oM 1 rfl<|onfl 2 fl_44_5 ti_4 rfl rfl<|oM 1 rfl<|.nl)<|?_;clear h58
 rcases Bool.eq_false_or_eq_true fu54 with hb61|hb61
 ·skip
  refine gRn (oKs 4 hb61 rfl rfl<|opT hb61 rfl<|.nl)<|nK k60<|gcT rfl rfl<|sG (oM 1 rfl<|.nl)<|gR<|uT<|fun a63 w63 h63=>x_ret1 (fn:=Try.f4) (t:=4) rfl h63 rfl ?_
  exact ⟨rfl,(h63.sh.sel [] rfl)⟩
 refine gRn (oG hb61 (r_move rfl rfl) rfl<|oG hb61 (r_nil rfl rfl) rfl<|oG hb61 (r_fieldB (r:=5) fl_44_5 rfl rfl rfl) rfl<|oG hb61 (r_ldb (i:=0) ti_4 rfl rfl rfl rfl) rfl<|opF hb61 rfl<|.nl)<|nK k60<|gCb rfl (fun hb64=> ?_) fun hb64=> ?_
 ·skip
  refine sG (oM 1 rfl<|.nl)<|gR<|uT<|fun a66 w66 h66=>x_ret1 (fn:=Try.f4) (t:=4) rfl h66 rfl ?_
  exact ⟨rfl,(h66.sh.sel [] rfl)⟩
 obtain ⟨_,hou2⟩:=hby58 (by assumption)
 have hof1:=hby54 (by assumption)
 refine gS<|hK k59<|sG (oM 1 rfl<|.nl)<|gK fun _ k68=>sG (oM 1 rfl<|.nl)<|gB<|fun a71 w71 h71=>x_loop (fun m a w=>∃(t:Nat) (rk:Bool),(t≤code.l.length)∧(rk=false→∀t2,t2<t→∀i,i<(nth code.l t2).l.length→(nth (nth code.l t2).l i).op≠10∧(nth (nth code.l t2).l i).op≠11)∧St 153 (fun _=>False) W a w [(2, .pointer (some ⟨b12,0,none⟩)),(11, .pointer (some ⟨g54,0,none⟩)),(12, .pointer (some ⟨g58,0,none⟩)),(13, .bool rk),(14, .int .i64 ((t:Nat):Int))] [.blk g58 44 [sv58,kv58,hv58,bv58,en58.v, .bool fu58], .own 49 en58, .blk g54 44 [sv54,kv54,hv54,bv54,en54.v, .bool fu54], .own 49 en54, .blk b47 30 [.int .i64 ((checkG (pgOf c36 u36 ((Lk:Nat):Int) 8)).code), .int .i64 ((checkG (pgOf c36 u36 ((Lk:Nat):Int) 8)).thread), .int .i64 ((checkG (pgOf c36 u36 ((Lk:Nat):Int) 8)).at_)], .blk b37 25 [c36.v,u36.v, .int .i64 ((Lk:Nat):Int), .int .i64 8], .deep 45 c36, .own 3 u36, .blk b23 30 [.int .i64 0, .int .i64 0, .int .i64 0], .deep 23 c22, .blk b19 30 [.int .i64 ((checkG (pgOf code words ((Lk:Nat):Int) ((R:Nat):Int))).code), .int .i64 ((checkG (pgOf code words ((Lk:Nat):Int) ((R:Nat):Int))).thread), .int .i64 ((checkG (pgOf code words ((Lk:Nat):Int) ((R:Nat):Int))).at_)], .blk b12 25 [code.v,words.v, .int .i64 ((Lk:Nat):Int), .int .i64 ((R:Nat):Int)], .at_ code, .at_ words, .at_ cols]∧m=code.l.length-t) ⟨_,0,false,(by omega),(fun _ t2 h9=>absurd h9 (by omega)),h71.nf ⟨rfl,rfl,rfl,rfl,rfl,trivial⟩,rfl⟩ ?_
 clear h71
 rintro m70 a70 w70 ⟨t,rk,ht,hrk,h70,hm70⟩
 refine gG h70<|gK fun _ k72=>sK fun _ k73=>gNl (aA 12 rfl) fun hl74=>gRn (oM 1 rfl<|ofB fl_25_0 rfl<|olB 11 ti_22 rfl rfl<|oln sl_22 (aA 12 rfl) rfl<|oltN _ _ rfl<|.nl)<|nK k73<|?_;clear h70
 refine gcd rfl (fun hb75 hp75=> ?_) fun hb75 hp75=> ?_
 ·skip
  refine gS<|hK k72<|gK fun _ k76=>gB<|sG (oM 1 rfl<|.nl)<|gB<|fun a79 w79 h79=>x_loop (fun m a w=>∃(i:Nat) (rk2:Bool),(i≤(nth code.l t).l.length)∧(rk2=false→∀t2,t2<t→∀i,i<(nth code.l t2).l.length→(nth (nth code.l t2).l i).op≠10∧(nth (nth code.l t2).l i).op≠11)∧(rk2=false→∀i2,i2<i→(nth (nth code.l t).l i2).op≠10∧(nth (nth code.l t).l i2).op≠11)∧St 153 (fun _=>False) W a w [(2, .pointer (some ⟨b12,0,none⟩)),(11, .pointer (some ⟨g54,0,none⟩)),(12, .pointer (some ⟨g58,0,none⟩)),(13, .bool rk2),(14, .int .i64 ((t:Nat):Int)),(15, .int .i64 ((i:Nat):Int))] [.blk g58 44 [sv58,kv58,hv58,bv58,en58.v, .bool fu58], .own 49 en58, .blk g54 44 [sv54,kv54,hv54,bv54,en54.v, .bool fu54], .own 49 en54, .blk b47 30 [.int .i64 ((checkG (pgOf c36 u36 ((Lk:Nat):Int) 8)).code), .int .i64 ((checkG (pgOf c36 u36 ((Lk:Nat):Int) 8)).thread), .int .i64 ((checkG (pgOf c36 u36 ((Lk:Nat):Int) 8)).at_)], .blk b37 25 [c36.v,u36.v, .int .i64 ((Lk:Nat):Int), .int .i64 8], .deep 45 c36, .own 3 u36, .blk b23 30 [.int .i64 0, .int .i64 0, .int .i64 0], .deep 23 c22, .blk b19 30 [.int .i64 ((checkG (pgOf code words ((Lk:Nat):Int) ((R:Nat):Int))).code), .int .i64 ((checkG (pgOf code words ((Lk:Nat):Int) ((R:Nat):Int))).thread), .int .i64 ((checkG (pgOf code words ((Lk:Nat):Int) ((R:Nat):Int))).at_)], .blk b12 25 [code.v,words.v, .int .i64 ((Lk:Nat):Int), .int .i64 ((R:Nat):Int)], .at_ code, .at_ words, .at_ cols]∧m=(nth code.l t).l.length-i) ⟨_,0,rk,(by omega),(hrk),(fun _ i2 h9=>absurd h9 (by omega)),h79.nf ⟨rfl,rfl,rfl,rfl,rfl,rfl,trivial⟩,rfl⟩ ?_
  clear h79
  rintro m78 a78 w78 ⟨i,rk2,hi,hrk,hrk2,h78,hm78⟩
  refine gG h78<|gK fun _ k80=>sK fun _ k81=>gNl (fun w h=>((h.at 12 rfl).nth t (show t<code.l.length from (by omega)))) fun (hl82:((nth code.l t).l).length≤140737488355328)=>gRn (oM 1 rfl<|ofB fl_25_0 rfl<|olB 11 ti_22 rfl rfl<|oM 1 rfl<|oxN sl_22 ti_45 (aA 12 rfl) _ om9 rfl<|olE ((nth code.l t).v) ti_45 (aA 12 rfl) om9 rfl<|oln (n:=((nth code.l t).l).length) sl_45 (fun w h=>((h.at 12 rfl).nth t (show t<code.l.length from (by omega)))) rfl<|oltN _ _ rfl<|.nl)<|nK k81<|?_;clear h78
  refine gcd rfl (fun hb83 hp83=> ?_) fun hb83 hp83=> ?_
  ·skip
   refine gS<|hK k80<|gK fun _ k84=>gB<|sG (ofB fl_25_0 rfl<|olB 11 ti_22 rfl rfl<|oM 1 rfl<|oxN sl_22 ti_45 (aA 12 rfl) _ om9 rfl<|olE ((nth code.l t).v) ti_45 (aA 12 rfl) om9 rfl<|oM 1 rfl<|oxN sl_45 ti_47 (fun w h=>((h.at 12 rfl).nth t (show t<code.l.length from (by omega)))) _ om9 rfl<|ofE fl_47_0 rfl<|olE (.int .i64 ((nth ((nth code.l t).l) i).op)) ti_3 (fun w h=>((h.at 12 rfl).nth t (show t<code.l.length from (by omega)))) om9 rfl<|oM 1 rfl<|.nl)<|gL<|gRn (oM 2 rfl<|.nl)<|?_
   rcases Bool.eq_false_or_eq_true rk2 with hb86|hb86
   ·skip
    refine gRn (oKs 2 hb86 rfl rfl<|opT hb86 rfl<|oM 1 rfl<|oKs 2 rfl rfl rfl<|opT rfl rfl<|oM 1 rfl<|.nl)<|nK k84<|gF [2,11,12,13,14,15] rfl<|gL<|gRn (oM 1 rfl<|oadN _ 1 om9 rfl<|oM 1 rfl<|.nl)<|nN<|fun a87 w87 h87=>x_again ⟨_, ?_,i+1,true, ?_, ?_, ?_,h87.nf ⟨rfl,rfl,rfl,rfl,rfl,rfl,trivial⟩,rfl⟩
    · rw [hm78];first|omega|(simp only [lens9];omega)
    · omega
    · first|exact fun h9=>absurd h9 (by decide)|exact fun _=>hrk (by assumption)
    · first|exact fun h9=>absurd h9 (by decide)|exact fun h9=>all_step (P:=fun i2=>(nth (nth code.l t).l i2).op≠10∧(nth (nth code.l t).l i2).op≠11) (hrk2 (by assumption)) ⟨by assumption,of_decide_eq_false h9⟩
   refine gRn (oG hb86 (r_move rfl rfl) rfl<|oG hb86 (r_eqlI (p:=(nth ((nth code.l t).l) i).op) (q:=10) rfl rfl rfl) rfl<|opF hb86 rfl<|oM 1 rfl<|.nl)<|?_
   rcases dsp ((nth ((nth code.l t).l) i).op=10) with ⟨hb88,hp88⟩|⟨hb88,hp88⟩
   ·skip
    refine gRn (oKs 2 hb88 rfl rfl<|opT hb88 rfl<|oM 1 rfl<|.nl)<|nK k84<|gF [2,11,12,13,14,15] rfl<|gL<|gRn (oM 1 rfl<|oadN _ 1 om9 rfl<|oM 1 rfl<|.nl)<|nN<|fun a89 w89 h89=>x_again ⟨_, ?_,i+1,true, ?_, ?_, ?_,h89.nf ⟨rfl,rfl,rfl,rfl,rfl,rfl,trivial⟩,rfl⟩
    · rw [hm78];first|omega|(simp only [lens9];omega)
    · omega
    · first|exact fun h9=>absurd h9 (by decide)|exact fun _=>hrk (by assumption)
    · first|exact fun h9=>absurd h9 (by decide)|exact fun h9=>all_step (P:=fun i2=>(nth (nth code.l t).l i2).op≠10∧(nth (nth code.l t).l i2).op≠11) (hrk2 (by assumption)) ⟨by assumption,of_decide_eq_false h9⟩
   refine gRn (oG hb88 (r_move rfl rfl) rfl<|oG hb88 (r_eqlI (p:=(nth ((nth code.l t).l) i).op) (q:=11) rfl rfl rfl) rfl<|opF hb88 rfl<|oM 1 rfl<|.nl)<|nK k84<|gF [2,11,12,13,14,15] rfl<|gL<|gRn (oM 1 rfl<|oadN _ 1 om9 rfl<|oM 1 rfl<|.nl)<|nN<|fun a90 w90 h90=>x_again ⟨_, ?_,i+1,decide ((nth ((nth code.l t).l) i).op=11), ?_, ?_, ?_,h90.nf ⟨rfl,rfl,rfl,rfl,rfl,rfl,trivial⟩,rfl⟩
   · rw [hm78];first|omega|(simp only [lens9];omega)
   · omega
   · first|exact fun h9=>absurd h9 (by decide)|exact fun _=>hrk (by assumption)
   · first|exact fun h9=>absurd h9 (by decide)|exact fun h9=>all_step (P:=fun i2=>(nth (nth code.l t).l i2).op≠10∧(nth (nth code.l t).l i2).op≠11) (hrk2 (by assumption)) ⟨by assumption,of_decide_eq_false h9⟩
  refine gX<|hK k76<|gL<|gRn (oM 1 rfl<|oadN _ 1 om9 rfl<|oM 1 rfl<|.nl)<|nN<|fun a91 w91 h91=>x_again ⟨_, ?_,t+1,rk2, ?_, ?_,h91.nf ⟨rfl,rfl,rfl,rfl,rfl,trivial⟩,rfl⟩
  · rw [hm70];first|omega|(simp only [lens9];omega)
  · omega
  · exact fun h9=>all_step (P:=fun t2=>∀i,i<(nth code.l t2).l.length→(nth (nth code.l t2).l i).op≠10∧(nth (nth code.l t2).l i).op≠11) (hrk h9) (fun i hi=>hrk2 h9 i (by omega))
 refine gX<|hK k68<|gK fun _ k92=>sG (oM 1 rfl<|.nl)<|gB<|fun a95 w95 h95=>x_loop (fun m a w=>∃(k:Nat),(k≤en54.l.length)∧(rk=true→∀i,i<k→(nth en54.l i).st≠1)∧St 153 (fun _=>False) W a w [(2, .pointer (some ⟨b12,0,none⟩)),(11, .pointer (some ⟨g54,0,none⟩)),(12, .pointer (some ⟨g58,0,none⟩)),(13, .bool rk),(17, .int .i64 ((k:Nat):Int))] [.blk g58 44 [sv58,kv58,hv58,bv58,en58.v, .bool fu58], .own 49 en58, .blk g54 44 [sv54,kv54,hv54,bv54,en54.v, .bool fu54], .own 49 en54, .blk b47 30 [.int .i64 ((checkG (pgOf c36 u36 ((Lk:Nat):Int) 8)).code), .int .i64 ((checkG (pgOf c36 u36 ((Lk:Nat):Int) 8)).thread), .int .i64 ((checkG (pgOf c36 u36 ((Lk:Nat):Int) 8)).at_)], .blk b37 25 [c36.v,u36.v, .int .i64 ((Lk:Nat):Int), .int .i64 8], .deep 45 c36, .own 3 u36, .blk b23 30 [.int .i64 0, .int .i64 0, .int .i64 0], .deep 23 c22, .blk b19 30 [.int .i64 ((checkG (pgOf code words ((Lk:Nat):Int) ((R:Nat):Int))).code), .int .i64 ((checkG (pgOf code words ((Lk:Nat):Int) ((R:Nat):Int))).thread), .int .i64 ((checkG (pgOf code words ((Lk:Nat):Int) ((R:Nat):Int))).at_)], .blk b12 25 [code.v,words.v, .int .i64 ((Lk:Nat):Int), .int .i64 ((R:Nat):Int)], .at_ code, .at_ words, .at_ cols]∧m=en54.l.length-k) ⟨_,0,(by omega),(fun _ i h9=>absurd h9 (by omega)),h95.nf ⟨rfl,rfl,rfl,rfl,rfl,trivial⟩,rfl⟩ ?_
 clear h95
 rintro m94 a94 w94 ⟨k,hk,hnf,h94,hm94⟩
 refine gG h94<|gK fun _ k96=>sK fun _ k97=>gNl (aO 3 rfl) fun hl98=>gRn (oM 2 rfl<|onfl 2 fl_44_4 ti_42 rfl rfl<|oln sl_42 (aO 3 rfl) rfl<|oltN _ _ rfl<|.nl)<|nK k97<|?_;clear h94
 refine gcd rfl (fun hb99 hp99=> ?_) fun hb99 hp99=> ?_
 ·skip
  refine gS<|hK k96<|gK fun _ k100=>gB<|sK fun _ k101=>gRn (oM 1 rfl<|onfl 2 fl_44_4 ti_42 rfl rfl<|oM 1 rfl<|oxN sl_42 ti_49 (aO 3 rfl) _ om9 rfl<|ofE fl_49_0 rfl<|olI ti_3 (aO 3 rfl) om9 rfl<|oeqI _ _ rfl<|oM 1 rfl<|.nl)<|?_
  rcases dsp ((nth en54.l k).st=1) with ⟨hb102,hp102⟩|⟨hb102,hp102⟩
  ·skip
   refine gRn (oG hb102 (r_move rfl rfl) rfl<|opT hb102 rfl<|.nl)<|nK k101<|gCb rfl (fun hb103=> ?_) fun hb103=> ?_
   ·skip
    refine sG (oM 1 rfl<|.nl)<|gF [4] rfl<|gR<|uB<|uT<|uT<|uB<|uT<|fun a105 w105 h105=>x_ret1 (fn:=Try.f4) (t:=4) rfl h105 rfl ?_
    exact ⟨rfl,(h105.sh.sel [] rfl)⟩
   refine gS<|hK k100<|gL<|gRn (oM 1 rfl<|oadN _ 1 om9 rfl<|oM 1 rfl<|.nl)<|nN<|fun a106 w106 h106=>x_again ⟨_, ?_,k+1, ?_, ?_,h106.nf ⟨rfl,rfl,rfl,rfl,rfl,trivial⟩,rfl⟩
   · rw [hm94];first|omega|(simp only [lens9];omega)
   · omega
   · intro h9;first|exact all_step (P:=fun i=>(nth en54.l i).st≠1) (hnf h9) (by assumption)|exact absurd (h9.symm.trans (by assumption:rk=false)) (by decide)
  refine gRn (oK hb102 rfl<|opF hb102 rfl<|.nl)<|nK k101<|gcF rfl rfl<|gS<|hK k100<|gL<|gRn (oM 1 rfl<|oadN _ 1 om9 rfl<|oM 1 rfl<|.nl)<|nN<|fun a107 w107 h107=>x_again ⟨_, ?_,k+1, ?_, ?_,h107.nf ⟨rfl,rfl,rfl,rfl,rfl,trivial⟩,rfl⟩
  · rw [hm94];first|omega|(simp only [lens9];omega)
  · omega
  · intro h9;first|exact all_step (P:=fun i=>(nth en54.l i).st≠1) (hnf h9) (by assumption)|exact absurd (h9.symm.trans (by assumption:rk=false)) (by decide)
 refine gX<|hK k92<|gK fun _ k108=>gNl (aA 13 rfl) fun hl109=>rT 7 [] (oM 1 rfl<|onfl 0 fl_44_4 ti_42 rfl rfl<|ofB fl_25_1 rfl<|olB 11 ti_23 rfl rfl<|oln sl_23 (aA 13 rfl) rfl<|.nl)<|fun a111 w111 h111=>wl_ex (x_call h111 bd_15 rfl rfl rfl rfl rfl (first_c en58 words.l.length _ (h111.sh.own 1 rfl) (few_len hfew hou2) (show en58.l.length≤100000000 from by omega))) (wanted_none rfl _) ?_
 rintro a112 w112 ⟨_,⟨s112,rfl,hos112,hoo112,hs112⟩,hf112⟩
 have h112:=(⟨hf112,h111.sh.call hs112 (by intro A hA b hb;obtain rfl:=List.mem_singleton.1 hA;obtain ⟨i9,hi9,hb9⟩:=hb;obtain ⟨j9,hj9,hb8⟩:=hoo112 _ (nth_mem _ _ hi9) b hb9;exact .inr ⟨_,List.mem_of_getElem? (i:=1) rfl,j9,hj9,hb8⟩)⟩:St 153 (fun _=>False) W a112 w112 _ _)
 clear hf112 hs112
 clear h111
 refine gG h112<|gRn (oM 1 rfl<|.nl)<|nK k108<|sK fun _ k113=>gRn (oM 1 rfl<|onfl 3 fl_44_4 ti_42 rfl rfl<|oM 1 rfl<|.nl)<|gP (fun _ _ h_=>xCl h_ bd_16 rfl (sameO_c en54 s112 _ (h_.sh.own 4 rfl) (h_.sh.own 0 rfl))) rfl<|gRn (oM 1 rfl<|.nl)<|nK k113<|gF [4] rfl<|gR<|fun a115 w115 h115=>x_ret1 (fn:=Try.f4) (t:=4) rfl h115 rfl ?_;clear h112
 exact ⟨congrArg Value.bool (decide_eq_true (few_same hok hfew hof1 hou2 (fun h9 t2 ht2=>hrk h9 t2 (by omega)) (fun h9 i hi=>hnf h9 i (by omega)) hos112)),(h115.sh.sel [] rfl)⟩
theorem allocHolds_any (code:Ls (Ls Ins))(words:Ls Int)(cols:Ls (Ls Int))(locks regs:Int)(W:World)(hcode:code.At W)(hwords:words.At W)(hcols:cols.At W):Rets Try.prog 4 [.agg #[code.v,words.v, .int .i64 locks, .int .i64 regs],cols.v] W (fun v w' =>v= .bool true∧Sh0 W w' []):=by
 cases hv:vastG (code.l.map (·.l)) words.l with
 |true=>exact allocHolds_v code words locks regs cols W hcode hwords hcols hv
 |false=>
  rcases Nat.lt_or_ge 100 cols.l.length with hc9|hc9
  ·exact allocHolds_n code words locks regs cols W hcode hwords hcols hv hc9
  by_cases hok:OkPg (pgOf code words locks regs)
  ·obtain ⟨f,hF⟩:=liveF3 code
   obtain ⟨Lk,rfl⟩:=Int.eq_ofNat_of_zero_le hok.locks.1
   obtain ⟨R,rfl⟩:=Int.eq_ofNat_of_zero_le (show 0≤regs by have:=hok.regs.1;have e:(pgOf code words (Lk:Int) regs).regs=regs:=rfl;omega)
   exact allocHolds_k code words Lk R cols f W hcode hwords hcols hv hc9 hok (fun t _=>hF t)
  ·exact allocHolds_b code words locks regs cols W hcode hwords hcols hv hc9 (fun h=>hok (checkG_code_pos.1 h))
end Go.Proofs.Ytmbfcgpneflbmaa
namespace Go.Proofs.Ytmbfcgpneflbmaa
open Go.ChangeShapes Go.WideShapes Go.ChangeAt Go.RowKit
set_option linter.unusedSimpArgs false
set_option linter.unusedVariables false
theorem open_Sl {α:Type}[Rd α]{H:Type}{enc:TypeId×Value→H}{P:Program}{w:World}{base:Nat}{spare:Nat→Bool}{held:Bool}{r:Go.Reach}{b0:Nat}{T e:TypeId}{v:Value}{d:DataW H}{p:List MemPlace}
  (hT:P.underlying T=some (.slice e)) (hR:Rd.ty (Sl α) P T) (hv:Value.okWide P w r b0 T v) (h:DataW.Trod enc P w base spare held T v d p) (hw:∀n∈DataW.weights P T d,n≤reachBytes):∃s:Ls α,v=s.v∧s.At w:=by
 obtain ⟨a,len,cap,rfl⟩:=okWide_slice hT hv
 obtain ⟨fuel,hf⟩:=h
 obtain ⟨s,e1,hat,_⟩:=Rd.read hR hf hw
 have e2:(Value.slice a len cap)= .slice s.A s.l.length s.cap:=by
  have: [(Value.slice a len cap)]= [.slice s.A s.l.length s.cap]:=e1
  exact (List.cons.inj this).1
 exact ⟨⟨.slice s.A s.l.length s.cap,s.l⟩,e2,s.A,s.cap,rfl,hat⟩
theorem ty_intss :Rd.ty (Sl (Sl Int)) Try.prog 26:=⟨_,Try.underlying26,by kernel_rfl,of_decide_eq_true (by kernel_rfl),by decide,ty_ints⟩
theorem ls_ls {s:Ls (Sl Int)}{w:World}(h:s.At w):∃r:Ls (Ls Int),s.v=r.v∧r.At w:=by
 obtain ⟨A,c,e,hs⟩:=h
 exact ⟨ofSl2 ⟨A,c,s.l⟩,e,ofSl2_at hs⟩
set_option maxRecDepth 100000 in
theorem allocHolds_lifted (os:Os)(started:os.Started)(H:Type)(enc:TypeId×Value→H):
  ReturnsInHanded {} Try.checked os 4 .any (Rows.allocHoldsSpec.pre6 enc Try.prog Try.f4 Rows.allocHoldsRow.domain false) (Rows.allocHoldsSpec.post enc Try.prog Try.f4 false true false false):=by
 refine returnsInHanded_of_change_sized (C:=Try.checked) own started (by kernel_rfl) Try.func4
  (ChangeSpec.witness6 (enc:=enc) (C:=Try.checked) false ⟨#[], #[.agg #[.slice none 0 0, .slice none 0 0, .int .i64 0, .int .i64 0], .slice none 0 0], []⟩ 8 (by kernel_rfl) (by kernel_rfl) (by kernel_rfl) (by kernel_rfl)) ?_
 intro W base args ds gs before hval0 hW _ hsz0 _
 have hsz:(DataW.weightsEach Try.prog (Try.f4.params.toList++Rows.allocHoldsSpec.plain.varTypes Try.prog) (ds++gs)).all (· ≤reachBytes)=true:=hsz0
 have hval:∀(j:Nat) t v,Try.f4.params[j]? =some t→args[j]? =some v→Value.okWide Try.prog W .any base t v:=hval0
 have hW' :=hW
 obtain ⟨p,q,hA0,hV,rfl,hfz,hnd⟩:=hW
 have hA:DataW.TrodAll enc Try.prog W 0 (fun _=>true) true Try.f4.params.toList args.toList ds p:=hA0
 rw [Try.params4] at hA hval hsz
 obtain ⟨v0,v1,d0,d1,p0,p1,rfl,rfl,rfl,h0,h1⟩:=trodAll_two hA
 obtain ⟨rfl,rfl⟩:=trodVars_none hV
 clear hA0 hval0
 simp only [List.append_nil] at hW'
 have hw0:∀n∈DataW.weights Try.prog 25 d0,n≤reachBytes:=by
  intro n hn
  have:=List.all_eq_true.1 hsz n (by simp [DataW.weightsEach,hn])
  simpa using this
 have hw1:∀n∈DataW.weights Try.prog 26 d1,n≤reachBytes:=by
  intro n hn
  have:=List.all_eq_true.1 hsz n (by simp [DataW.weightsEach,hn])
  simpa using this
 obtain ⟨fs,hfs,hpf⟩:=ty_pr
 obtain ⟨pr,rfl,hAt,_⟩:=open_PR hfs hpf (by kernel_rfl) (hval 0 25 v0 rfl rfl) h0 hw0
 obtain ⟨sc0,hv1,hsc0⟩:=open_Sl (α:=Sl Int) Try.underlying26 ty_intss (hval 1 26 v1 rfl rfl) h1 hw1
 obtain ⟨sc,hv2,hsc⟩:=ls_ls hsc0
 rw [hv2] at hv1
 have hlt:∀x∈p0++p1,x.block<W.heap.size:=fun x hx=>by simpa using hW'.lt x hx
 obtain ⟨code,words,locks,regs,hv,hc,hw⟩:=pr_ls pr W hAt
 subst hv1
 have hcall:=allocHolds_any code words sc locks regs W hc hw hsc
 rw [←hv] at hcall
 refine Calls.mono hcall fun e W' ⟨v',he,hv',hg0⟩=> ?_
 have hg:=hg0.chg.to_below
 subst he
 subst hv'
 have hm:=trodAll_mk2 (Below.trod laidOut (by kernel_rfl) (of_decide_eq_true (by kernel_rfl)) h0 hg (fun x hx=>hlt x (by simp [hx]))) (Below.trod laidOut (by kernel_rfl) (of_decide_eq_true (by kernel_rfl)) h1 hg (fun x hx=>hlt x (by simp [hx])))
 exact ⟨_,rfl,_,_,_, [],p0++p1, [],hW',trodAll_mk1 (shut_bool Try.underlying4 true),hm,rfl,hg.frame _,fun h=>by cases h⟩
theorem allocHolds_holds :Rows.AllocHoldsSaid:=
 OpenClaim.holds_of_wide 4 Try.f4 rfl rfl rfl rfl rfl rfl rfl ⟨rfl,rfl,rfl,rfl,rfl⟩ rfl rfl rfl rfl rfl (by kernel_rfl) Try.func4 (by kernel_rfl)
  (of_decide_eq_true (by kernel_rfl)) (by unfold Func.isWrapper;first|(rw [if_pos (by decide+kernel)];kernel_rfl)|(rw [if_neg (by decide+kernel)];exact ⟨rfl,rfl⟩))
  (fun os started H enc _=>allocHolds_lifted os started H enc)
end Go.Proofs.Ytmbfcgpneflbmaa
