/- The machine of the program, over any memory: orders, what can be done, moves, ends, words. -/
import Derived.Test.YtmjkobhkkjgplaaGreatDoorM2
import Derived.Test.YtmjkobhkkjgplaaGreatDoorS26
import Derived.Test.YtmjkobhkkjgplaaGreatDoorX3
namespace Go.Proofs.YtmjkobhkkjgplaaGreatDoor
open Go.RowKit
set_option linter.unusedSimpArgs false
set_option linter.unusedVariables false
set_option maxRecDepth 100000
set_option maxHeartbeats 2000000
theorem ti_97 :tyI Tryz.prog 97=some (false,1,16, [.nilIface]):=by kernel_rfl
theorem dec_neg {x:Int} (h: -1≤x):decide (x<0)=decide (x= -1):=decide_eq_decide.2 ⟨fun h9=>by omega,fun h9=>by omega⟩
def movF (m:Int) (code:Ls (Ls Ins)) (thr:List ThQ) (q:List (List Wt)) (owner:List Int) (t:Nat):List Mv:=mvsV m (nth code.l t).l t ⟨(nth thr t).pc, [],nth q t, [],owner, [],false⟩
def movesF (m:Int) (code:Ls (Ls Ins)) (thr:List ThQ) (q:List (List Wt)) (owner:List Int) (n:Nat):List Mv:=(List.range n).flatMap (movF m code thr q owner)
theorem movesF_succ (m:Int) (code:Ls (Ls Ins)) (thr:List ThQ) (q:List (List Wt)) (owner:List Int) (n:Nat):movesF m code thr q owner (n+1)=movesF m code thr q owner n++movF m code thr q owner n:=by simp [movesF,List.range_succ]
def ableF (code:Ls (Ls Ins)) (thr:List ThQ) (q:List (List Wt)) (owner:List Int) (t:Nat):Bool:=decide ((nth thr t).pc<((nth code.l t).l.length:Int))&&ableL owner (nth q t).length (nextIns (nth code.l t).l (nth thr t).pc)
theorem movF_eq {m:Int} {code:Ls (Ls Ins)} {thr:List ThQ} {q:List (List Wt)} {owner rl:List Int} {t:Nat} (hr:rl=((List.range (nth q t).length).filter (mayK m (nth q t))).map (fun k=>((k:Nat):Int))):
  movF m code thr q owner t=(if ableF code thr q owner t=true then [⟨(t:Int),-1⟩] else [])++rl.map (fun x=>(⟨(t:Int),x⟩:Mv)):=by
 rw [hr,List.map_map];rfl
theorem movF_len {m:Int} {code:Ls (Ls Ins)} {thr:List ThQ} {q:List (List Wt)} {owner:List Int} {t:Nat} :(movF m code thr q owner t).length≤1+(nth q t).length:=by
 unfold movF mvsV
 rw [List.length_append,List.length_map]
 have h1:∀c:Bool,(if c=true then [(⟨(t:Int),-1⟩:Mv)] else []).length≤1:=fun c=>by cases c<;>simp
 have h2:((List.range (nth q t).length).filter (mayK m (nth q t))).length≤(nth q t).length:=Nat.le_trans (List.length_filter_le _ _) (by simp)
 have h3:=h1 (ableV (nth code.l t).l ⟨(nth thr t).pc, [],nth q t, [],owner, [],false⟩)
 show _+((List.range (nth q t).length).filter (mayK m (nth q t))).length≤_
 omega
def endF2 (code:Ls (Ls Ins)) (thr:List ThQ) (q:List (List Wt)) (t:Nat):Bool:=decide (¬(nth thr t).pc<((nth code.l t).l.length:Int))&&decide ((nth q t).length=0)
def endedF (code:Ls (Ls Ins)) (thr:List ThQ) (q:List (List Wt)):Bool:=(List.range code.l.length).all (endF2 code thr q)
theorem endF2_t {code:Ls (Ls Ins)} {thr:List ThQ} {q:List (List Wt)} {t:Nat} (h:¬(nth thr t).pc<((nth code.l t).l.length:Int)) (h2:(nth q t).length=0):endF2 code thr q t=true:=by unfold endF2;rw [decide_eq_true h,decide_eq_true h2];rfl
theorem endedF_t {code:Ls (Ls Ins)} {thr:List ThQ} {q:List (List Wt)} (h:∀j,j<code.l.length→endF2 code thr q j=true):endedF code thr q=true:=by
 unfold endedF;rw [List.all_eq_true];intro j hj;exact h j (by simpa using hj)
theorem endedF_f {code:Ls (Ls Ins)} {thr:List ThQ} {q:List (List Wt)} {t:Nat} (ht:t<code.l.length) (h:(nth thr t).pc<((nth code.l t).l.length:Int)∨¬(nth q t).length=0):endedF code thr q=false:=by
 unfold endedF;rw [List.all_eq_false]
 refine ⟨t,by simpa using ht, ?_⟩
 unfold endF2
 rcases h with h|h
 ·rw [decide_eq_false (by omega)];simp
 ·rw [decide_eq_false h];simp
theorem pnext_c (M:MemS) (g gp:Nat) (code:Ls (Ls Ins)) (thr:Ls ThQ) (words owner:Ls Int) (q:M.σ) (pw pv:Value) (locks nregs:Int) (fell:Bool) (t:Nat) (W:World) (hM:MemI Tryz.prog 182 3 M) (hB:Blk W g 173 #[.iface M.T (.pointer (some M.u)), .pointer (some ⟨gp,0,none⟩),thr.v,pv, .bool fell]) (hP:Blk W gp 25 #[code.v,pw, .int .i64 locks, .int .i64 nregs]) (h_code:code.At W) (h_thr:thr.At W) (hR:MemRd 182 M W words owner q) (ht:t<code.l.length) (ht2:t<thr.l.length) (hpc:0≤(nth thr.l t).pc∧(nth thr.l t).pc≤(nth code.l t).l.length):
    Rets Tryz.prog 128 [.pointer (some ⟨g,0,none⟩), .int .i64 ((t:Nat):Int)] W (fun v w' =>v= .tuple #[(nextIns (nth code.l t).l (nth thr.l t).pc).val, .bool (decide ((nth thr.l t).pc<((nth code.l t).l.length:Int)))]∧Sh0 W w' []):=by
 refine gen Tryz.func128 Tryz.ntmps128 (Sh0.ext (by intro A hA;simp only [List.mem_cons,List.not_mem_nil,or_false] at hA;rcases hA with rfl|rfl|rfl|rfl|rfl|rfl|rfl|rfl;exact hB;exact hP;exact h_code;exact h_thr;exact hR.blk;exact hR.wa;exact hR.oa;exact (fun A hA=>by obtain rfl:=List.mem_singleton.1 hA;exact hR.x)) (by intro A hA b hb;simp only [List.mem_cons,List.not_mem_nil,or_false] at hA;rcases hA with rfl|rfl|rfl|rfl|rfl|rfl|rfl|rfl<;>exact hb):Sh (fun _=>False) W W [.rblk g 173 [.iface M.T (.pointer (some M.u)), .pointer (some ⟨gp,0,none⟩),thr.v,pv, .bool fell], .rblk gp 25 [code.v,pw, .int .i64 locks, .int .i64 nregs], .at_ code, .at_ thr, .rblk M.g0 182 [words.v,owner.v], .at_ words, .at_ owner, .ro [M.X q]]) rfl fun a10 h10=>gG h10<|sK fun _ k11=>gal ti_32 rfl fun b12=>gRn (oM 1 rfl<|.nl)<|nK k11<|gK fun _ k13=>gK fun _ k14=>gNl (aA 4 rfl) fun hl15=>gNl (aA 3 rfl) fun hl16=>gNl (fun w h=>((h.at 3 rfl).nth t (show t<code.l.length from (by omega)))) fun (hl17:((nth code.l t).l).length≤140737488355328)=>rQ (by kernel_rfl) (by kernel_rfl) (oM 1 rfl<|onf fl_173_2 rfl<|olR 1 ti_171 rfl rfl<|oM 1 rfl<|oxN sl_171 ti_189 (aA 4 rfl) _ om9 rfl<|ofE fl_189_0 rfl<|olI ti_3 (aA 4 rfl) om9 rfl<|oM 1 rfl<|onf fl_173_1 rfl<|olR 1 ti_148 rfl rfl<|onf fl_25_0 rfl<|olR 2 ti_22 rfl rfl<|oM 1 rfl<|oxN sl_22 ti_33 (aA 3 rfl) _ om9 rfl<|olE ((nth code.l t).v) ti_33 (aA 3 rfl) om9 rfl<|oln (n:=((nth code.l t).l).length) sl_33 (fun w h=>((h.at 3 rfl).nth t (show t<code.l.length from (by omega)))) rfl<|oeqI _ _ rfl<|.nl)<|hK k14<|?_;clear h10
 refine gcd rfl (fun hb18 hp18=> ?_) fun hb18 hp18=> ?_
 ·skip
  refine sK fun _ k19=>gRn (oV (r_build (cs:= [.int .i64 0, .int .i64 0, .int .i64 0, .int .i64 0]) rfl rfl (by kernel_rfl)) rfl<|.nl)<|gsw 0 ti_32 rfl rfl rfl<|gRn (oM 1 rfl<|.nl)<|nK k19<|gF [4,5] rfl<|gR<|fun a21 w21 h21=> ?_
  try simp only [Exit.then,Exit.inBlock]
  refine x_retct (fn:=Tryz.f128) (t:=4) (u:=5) (i:=0) ti_32 rfl h21 rfl rfl rfl rfl<|⟨?_,(h21.sh.sel [] rfl)⟩
  first|(rw [nextIns_t (by omega),decide_eq_true (by omega)];rfl)|(rw [nextIns_f (by omega),decide_eq_false (by omega)];rfl)
 refine gS<|hK k13<|gK fun _ k22=>rT 20 [] (by kernel_rfl) (by kernel_rfl) (oM 1 rfl<|onf fl_173_1 rfl<|olR 1 ti_148 rfl rfl<|onf fl_25_0 rfl<|olR 2 ti_22 rfl rfl<|oM 1 rfl<|oxN sl_22 ti_33 (aA 3 rfl) _ om9 rfl<|olE ((nth code.l t).v) ti_33 (aA 3 rfl) om9 rfl<|oM 1 rfl<|onf fl_173_2 rfl<|olR 1 ti_171 rfl rfl<|oM 1 rfl<|oxN sl_171 ti_189 (aA 4 rfl) _ om9 rfl<|ofE fl_189_0 rfl<|olI ti_3 (aA 4 rfl) om9 rfl<|oxI sl_33 ti_32 (fun w h=>((h.at 3 rfl).nth t (show t<code.l.length from (by omega)))) om9 rfl<|olw2 [.int .i64 ((nth ((nth code.l t).l) (((nth thr.l t).pc).toNat)).op), .int .i64 ((nth ((nth code.l t).l) (((nth thr.l t).pc).toNat)).a), .int .i64 ((nth ((nth code.l t).l) (((nth thr.l t).pc).toNat)).b), .int .i64 ((nth ((nth code.l t).l) (((nth thr.l t).pc).toNat)).c)] ti_32 (fun w h=>((h.at 3 rfl).nth t (show t<code.l.length from (by omega)))) om9 rfl<|.nl)<|gsw 0 ti_32 rfl rfl rfl<|gRn (oM 1 rfl<|.nl)<|nK k22<|gF [4,5] rfl<|gR<|fun a24 w24 h24=> ?_
 try simp only [Exit.then,Exit.inBlock]
 refine x_retct (fn:=Tryz.f128) (t:=4) (u:=5) (i:=0) ti_32 rfl h24 rfl rfl rfl rfl<|⟨?_,(h24.sh.sel [] rfl)⟩
 first|(rw [nextIns_t (by omega),decide_eq_true (by omega)];rfl)|(rw [nextIns_f (by omega),decide_eq_false (by omega)];rfl)
theorem pable_c (M:MemS) (g gp:Nat) (code:Ls (Ls Ins)) (thr:Ls ThQ) (words owner:Ls Int) (q:M.σ) (pw pv:Value) (locks nregs:Int) (fell:Bool) (t:Nat) (W:World) (hM:MemI Tryz.prog 182 3 M) (hB:Blk W g 173 #[.iface M.T (.pointer (some M.u)), .pointer (some ⟨gp,0,none⟩),thr.v,pv, .bool fell]) (hP:Blk W gp 25 #[code.v,pw, .int .i64 locks, .int .i64 nregs]) (h_code:code.At W) (h_thr:thr.At W) (hR:MemRd 182 M W words owner q) (hql:(M.qs q).length=code.l.length) (hw3:∀t,t<code.l.length→(nth (M.qs q) t).length≤3) (htl:thr.l.length=code.l.length) (hpc:∀t,t<code.l.length→0≤(nth thr.l t).pc∧(nth thr.l t).pc≤(nth code.l t).l.length) (hlk:∀t,t<code.l.length→∀i,i<(nth code.l t).l.length→(nth (nth code.l t).l i).op=17→0≤(nth (nth code.l t).l i).a∧(nth (nth code.l t).l i).a<owner.l.length) (hge:∀v∈owner.l,-1≤v) (ht:t<code.l.length):
    Rets Tryz.prog 129 [.pointer (some ⟨g,0,none⟩), .int .i64 ((t:Nat):Int)] W (fun v w' =>v= .bool (ableF code thr.l (M.qs q) owner.l t)∧Sh0 W w' []):=by
 have hpct:=hpc t (by omega)
 refine gen Tryz.func129 Tryz.ntmps129 (Sh0.ext (by intro A hA;simp only [List.mem_cons,List.not_mem_nil,or_false] at hA;rcases hA with rfl|rfl|rfl|rfl|rfl|rfl|rfl|rfl;exact hB;exact hP;exact h_code;exact h_thr;exact hR.blk;exact hR.wa;exact hR.oa;exact (fun A hA=>by obtain rfl:=List.mem_singleton.1 hA;exact hR.x)) (by intro A hA b hb;simp only [List.mem_cons,List.not_mem_nil,or_false] at hA;rcases hA with rfl|rfl|rfl|rfl|rfl|rfl|rfl|rfl<;>exact hb):Sh (fun _=>False) W W [.rblk g 173 [.iface M.T (.pointer (some M.u)), .pointer (some ⟨gp,0,none⟩),thr.v,pv, .bool fell], .rblk gp 25 [code.v,pw, .int .i64 locks, .int .i64 nregs], .at_ code, .at_ thr, .rblk M.g0 182 [words.v,owner.v], .at_ words, .at_ owner, .ro [M.X q]]) rfl fun a10 h10=>gG h10<|sG (oM 1 rfl<|.nl)<|sK fun _ k12=>gRn (oM 2 rfl<|.nl)<|fun a14 w14 h14=>wl_ex (x_call h14 bd_128 rfl rfl rfl rfl rfl (pnext_c M g gp code thr words owner q _ _ _ _ _ t _ hM (h14.sh.rblk 0 rfl) (h14.sh.rblk 1 rfl) (h14.sh.at 2 rfl) (h14.sh.at 3 rfl) ⟨h14.sh.rblk 4 rfl,h14.sh.at 5 rfl,h14.sh.at 6 rfl,(h14.sh.ok _ (List.mem_of_getElem? (i:=7) rfl)) _ (List.mem_singleton.2 rfl)⟩ (by omega) (by omega) (by omega))) (wanted_none rfl _) ?_;clear h10
 rintro a15 w15 ⟨_,⟨hv15,hs15⟩,hf15⟩
 subst hv15
 have h15:St 54 (fun _=>False) W a15 w15 _ _:=⟨hf15,h14.sh.call0 hs15⟩
 clear hf15 hs15
 clear h14
 refine gG h15<|gRn (oM 1 rfl<|oxt rfl<|oxt rfl<|.nl)<|gal ti_32 rfl fun b16=>gsw 0 ti_32 rfl rfl rfl<|gRn (oM 1 rfl<|.nl)<|nK k12<|gK fun _ k18=>sG (oM 1 rfl<|ont rfl<|.nl)<|?_;clear h15
 refine gCb rfl (fun hb20=> ?_) fun hb20=> ?_
 ·have hp20:¬((nth thr.l t).pc<((nth code.l t).l.length:Int)):=by simpa using hb20
  refine sG (oM 1 rfl<|.nl)<|gR<|fun a22 w22 h22=> ?_
  try simp only [Exit.then,Exit.inBlock]
  refine x_ret1 (fn:=Tryz.f129) (t:=4) rfl h22 rfl<|⟨?_,(h22.sh.sel [] rfl)⟩
  congr 1
  unfold ableF
  first|exact and_f' (by omega)|(refine and_t' (by omega) ?_;unfold ableL;first|(rw [if_pos (by omega)];done)|(rw [if_neg (by omega),if_pos (by omega)];done)|(rw [if_neg (by omega),if_neg (by omega),if_pos (by omega)];first|exact and_f' (by omega)|exact and_t' (by omega) (dec_neg hge2))|(rw [if_neg (by omega),if_neg (by omega),if_neg (by omega)]))
 have hp20:(nth thr.l t).pc<((nth code.l t).l.length:Int):=by simpa using hb20
 refine gS<|hK k18<|?_
 have hnx:=nextIns_t (c:=(nth code.l t).l) (pc:=(nth thr.l t).pc) (by omega)
 have hlk2:=hlk t ht (nth thr.l t).pc.toNat (by omega)
 rw [←hnx] at hlk2
 refine sK fun _ k23=>gRn (oM 1 rfl<|onf fl_173_0 rfl<|olR 1 ti_97 rfl rfl<|oM 1 rfl<|.nl)<|gP (fun _ _ h_=>x_inv2 h_ rfl rfl rfl rfl rfl (hM.waits _ words owner q t ⟨h_.sh.rblk 5 rfl,h_.sh.at 6 rfl,h_.sh.at 7 rfl,(h_.sh.ok _ (List.mem_of_getElem? (i:=8) rfl)) _ (List.mem_singleton.2 rfl)⟩ (by omega) (hw3 t (by omega)))) rfl<|gRn (oM 1 rfl<|.nl)<|nK k23<|gK fun _ k25=>sG (ofB fl_32_0 rfl<|olB 0 ti_3 rfl rfl<|.nl)<|gB<|gK fun _ k27=>sG (oeqI _ _ rfl<|oM 1 rfl<|.nl)<|gcd rfl (fun hb29 hp29=> ?_) fun hb29 hp29=> ?_
 ·skip
  refine gS<|hK k27<|gcT rfl hb29<|sG (oM 1 rfl<|oltN _ 3 rfl<|oM 1 rfl<|.nl)<|gF [4] rfl<|gR<|fun a31 w31 h31=> ?_
  try simp only [Exit.then,Exit.inBlock]
  refine x_ret1 (fn:=Tryz.f129) (t:=4) rfl h31 rfl<|⟨?_,(h31.sh.sel [] rfl)⟩
  congr 1
  unfold ableF
  first|exact and_f' (by omega)|(refine and_t' (by omega) ?_;unfold ableL;first|(rw [if_pos (by omega)];done)|(rw [if_neg (by omega),if_pos (by omega)];done)|(rw [if_neg (by omega),if_neg (by omega),if_pos (by omega)];first|exact and_f' (by omega)|exact and_t' (by omega) (dec_neg hge2))|(rw [if_neg (by omega),if_neg (by omega),if_neg (by omega)]))
 refine sG (oeqI _ _ rfl<|oM 1 rfl<|.nl)<|gcd rfl (fun hb33 hp33=> ?_) fun hb33 hp33=> ?_
 ·skip
  refine gS<|hK k27<|gcT rfl hb33<|sG (oM 1 rfl<|oltN _ 3 rfl<|oM 1 rfl<|.nl)<|gF [4] rfl<|gR<|fun a35 w35 h35=> ?_
  try simp only [Exit.then,Exit.inBlock]
  refine x_ret1 (fn:=Tryz.f129) (t:=4) rfl h35 rfl<|⟨?_,(h35.sh.sel [] rfl)⟩
  congr 1
  unfold ableF
  first|exact and_f' (by omega)|(refine and_t' (by omega) ?_;unfold ableL;first|(rw [if_pos (by omega)];done)|(rw [if_neg (by omega),if_pos (by omega)];done)|(rw [if_neg (by omega),if_neg (by omega),if_pos (by omega)];first|exact and_f' (by omega)|exact and_t' (by omega) (dec_neg hge2))|(rw [if_neg (by omega),if_neg (by omega),if_neg (by omega)]))
 refine gL<|gRn (oeqI _ _ rfl<|oM 1 rfl<|.nl)<|nK k27<|gcd rfl (fun hb36 hp36=> ?_) fun hb36 hp36=> ?_
 ·skip
  refine sG (oM 1 rfl<|oltN _ 3 rfl<|oM 1 rfl<|.nl)<|gF [4] rfl<|gR<|fun a38 w38 h38=> ?_
  try simp only [Exit.then,Exit.inBlock]
  refine x_ret1 (fn:=Tryz.f129) (t:=4) rfl h38 rfl<|⟨?_,(h38.sh.sel [] rfl)⟩
  congr 1
  unfold ableF
  first|exact and_f' (by omega)|(refine and_t' (by omega) ?_;unfold ableL;first|(rw [if_pos (by omega)];done)|(rw [if_neg (by omega),if_pos (by omega)];done)|(rw [if_neg (by omega),if_neg (by omega),if_pos (by omega)];first|exact and_f' (by omega)|exact and_t' (by omega) (dec_neg hge2))|(rw [if_neg (by omega),if_neg (by omega),if_neg (by omega)]))
 refine gK fun _ k39=>sG (oeqI _ _ rfl<|oM 1 rfl<|.nl)<|gF [0,5,7,23,30] rfl<|gcd rfl (fun hb41 hp41=> ?_) fun hb41 hp41=> ?_
 ·skip
  refine gS<|hK k39<|gcT rfl hb41<|sG (oM 1 rfl<|oeqN _ 0 rfl<|oM 1 rfl<|.nl)<|gR<|fun a43 w43 h43=> ?_
  try simp only [Exit.then,Exit.inBlock]
  refine x_ret1 (fn:=Tryz.f129) (t:=4) rfl h43 rfl<|⟨?_,(h43.sh.sel [] rfl)⟩
  congr 1
  unfold ableF
  first|exact and_f' (by omega)|(refine and_t' (by omega) ?_;unfold ableL;first|(rw [if_pos (by omega)];done)|(rw [if_neg (by omega),if_pos (by omega)];done)|(rw [if_neg (by omega),if_neg (by omega),if_pos (by omega)];first|exact and_f' (by omega)|exact and_t' (by omega) (dec_neg hge2))|(rw [if_neg (by omega),if_neg (by omega),if_neg (by omega)]))
 refine gL<|gRn (oeqI _ _ rfl<|oM 1 rfl<|.nl)<|nK k39<|gcd rfl (fun hb44 hp44=> ?_) fun hb44 hp44=> ?_
 ·skip
  refine sG (oM 1 rfl<|oeqN _ 0 rfl<|oM 1 rfl<|.nl)<|gR<|fun a46 w46 h46=> ?_
  try simp only [Exit.then,Exit.inBlock]
  refine x_ret1 (fn:=Tryz.f129) (t:=4) rfl h46 rfl<|⟨?_,(h46.sh.sel [] rfl)⟩
  congr 1
  unfold ableF
  first|exact and_f' (by omega)|(refine and_t' (by omega) ?_;unfold ableL;first|(rw [if_pos (by omega)];done)|(rw [if_neg (by omega),if_pos (by omega)];done)|(rw [if_neg (by omega),if_neg (by omega),if_pos (by omega)];first|exact and_f' (by omega)|exact and_t' (by omega) (dec_neg hge2))|(rw [if_neg (by omega),if_neg (by omega),if_neg (by omega)]))
 refine sG (oeqI _ _ rfl<|oM 1 rfl<|.nl)<|gcd rfl (fun hb48 hp48=> ?_) fun hb48 hp48=> ?_
 ·skip
  have hlk3:=hlk2 (by assumption)
  have hge2:=hge _ (nth_mem owner.l (nextIns (nth code.l t).l (nth thr.l t).pc).a.toNat (by omega))
  refine gK fun _ k49=>fun a50 w50 h50=>x_quiet (by kernel_rfl) (by kernel_rfl) h50 fun _ z51=>qQ h50.fr<|qRn (oM 1 rfl<|oeqN _ 0 rfl<|oM 1 rfl<|.nl)<|?_
  rcases dsp ((nth (M.qs q) t).length=0) with ⟨hb52,hp52⟩|⟨hb52,hp52⟩
  ·skip
   refine qRn (oG hb52 (r_move rfl rfl) rfl<|oG hb52 (r_nil rfl rfl) rfl<|oG hb52 (r_fieldB (r:=0) fl_173_0 rfl rfl rfl) rfl<|oG hb52 (r_ldbR ti_97 rfl rfl (fun w h=>h.rblk 1 rfl) rfl) rfl<|.nl)<|fun _ hq=>wq_inv hq rfl rfl rfl (wanted_yes hq rfl rfl rfl rfl hb52) rfl rfl (fun w h=>(hM.base _ words owner q ⟨h.rblk 5 rfl,h.at 6 rfl,h.at 7 rfl,(h.ok _ (List.mem_of_getElem? (i:=8) rfl)) _ (List.mem_singleton.2 rfl)⟩))<|qRn (oG hb52 (r_nil rfl rfl) rfl<|oG hb52 (r_fieldB (r:=1) fl_182_1 rfl rfl rfl) rfl<|oG hb52 (r_ldbR ti_23 rfl rfl (fun w h=>h.rblk 5 rfl) rfl) rfl<|oG hb52 (r_fieldB (r:=1) fl_32_1 rfl rfl rfl) rfl<|oG hb52 (r_ldb (i:=0) ti_3 rfl rfl rfl rfl) rfl<|.nl)<|?_
   have hl64:owner.l.length≤140737488355328:=(h50.sh.at 7 rfl).len
   refine qRn (oG hb52 (r_ixI (s:=owner) (q:=(nextIns (nth code.l t).l (nth thr.l t).pc).a) sl_23 ti_3 rfl rfl rfl (fun w h=>(h.at 7 rfl)) (show 0≤(nextIns (nth code.l t).l (nth thr.l t).pc).a∧(nextIns (nth code.l t).l (nth thr.l t).pc).a<owner.l.length from om9)) rfl<|oG hb52 (r_lde (s:=owner) (i:=((nextIns (nth code.l t).l (nth thr.l t).pc).a).toNat) (v:= .int .i64 (nth owner.l (((nextIns (nth code.l t).l (nth thr.l t).pc).a).toNat))) ti_3 rfl rfl rfl (fun w h=>(h.at 7 rfl)) (show ((nextIns (nth code.l t).l (nth thr.l t).pc).a).toNat<owner.l.length from om9) (Nat.le_of_ble_eq_true rfl) rfl) rfl<|oG hb52 (r_lssI (p:=nth owner.l (((nextIns (nth code.l t).l (nth thr.l t).pc).a).toNat)) (q:=0) rfl rfl rfl) rfl<|opT hb52 rfl<|oM 1 rfl<|.nl)<|qN z51<|hK k49<|gF [4] rfl<|gR<|fun a67 w67 h67=> ?_;clear h50
   try simp only [Exit.then,Exit.inBlock]
   refine x_ret1 (fn:=Tryz.f129) (t:=4) rfl h67 rfl<|⟨?_,(h67.sh.sel [] rfl)⟩
   congr 1
   unfold ableF
   first|exact and_f' (by omega)|(refine and_t' (by omega) ?_;unfold ableL;first|(rw [if_pos (by omega)];done)|(rw [if_neg (by omega),if_pos (by omega)];done)|(rw [if_neg (by omega),if_neg (by omega),if_pos (by omega)];first|exact and_f' (by omega)|exact and_t' (by omega) (dec_neg hge2))|(rw [if_neg (by omega),if_neg (by omega),if_neg (by omega)]))
  refine qRn (oKs 13 hb52 rfl rfl<|opF hb52 rfl<|oM 1 rfl<|.nl)<|qN z51<|hK k49<|gF [4] rfl<|gR<|fun a69 w69 h69=> ?_;clear h50
  try simp only [Exit.then,Exit.inBlock]
  refine x_ret1 (fn:=Tryz.f129) (t:=4) rfl h69 rfl<|⟨?_,(h69.sh.sel [] rfl)⟩
  congr 1
  unfold ableF
  first|exact and_f' (by omega)|(refine and_t' (by omega) ?_;unfold ableL;first|(rw [if_pos (by omega)];done)|(rw [if_neg (by omega),if_pos (by omega)];done)|(rw [if_neg (by omega),if_neg (by omega),if_pos (by omega)];first|exact and_f' (by omega)|exact and_t' (by omega) (dec_neg hge2))|(rw [if_neg (by omega),if_neg (by omega),if_neg (by omega)]))
 refine gS<|hK k25<|sG (oM 1 rfl<|.nl)<|gR<|fun a71 w71 h71=> ?_
 try simp only [Exit.then,Exit.inBlock]
 refine x_ret1 (fn:=Tryz.f129) (t:=4) rfl h71 rfl<|⟨?_,(h71.sh.sel [] rfl)⟩
 congr 1
 unfold ableF
 first|exact and_f' (by omega)|(refine and_t' (by omega) ?_;unfold ableL;first|(rw [if_pos (by omega)];done)|(rw [if_neg (by omega),if_pos (by omega)];done)|(rw [if_neg (by omega),if_neg (by omega),if_pos (by omega)];first|exact and_f' (by omega)|exact and_t' (by omega) (dec_neg hge2))|(rw [if_neg (by omega),if_neg (by omega),if_neg (by omega)]))
theorem pmoves_c (M:MemS) (g gp:Nat) (code:Ls (Ls Ins)) (thr:Ls ThQ) (words owner:Ls Int) (q:M.σ) (pw pv:Value) (locks nregs:Int) (fell:Bool) (W:World) (hM:MemI Tryz.prog 182 3 M) (hB:Blk W g 173 #[.iface M.T (.pointer (some M.u)), .pointer (some ⟨gp,0,none⟩),thr.v,pv, .bool fell]) (hP:Blk W gp 25 #[code.v,pw, .int .i64 locks, .int .i64 nregs]) (h_code:code.At W) (h_thr:thr.At W) (hR:MemRd 182 M W words owner q) (hql:(M.qs q).length=code.l.length) (hw3:∀t,t<code.l.length→(nth (M.qs q) t).length≤3) (htl:thr.l.length=code.l.length) (hpc:∀t,t<code.l.length→0≤(nth thr.l t).pc∧(nth thr.l t).pc≤(nth code.l t).l.length) (hlk:∀t,t<code.l.length→∀i,i<(nth code.l t).l.length→(nth (nth code.l t).l i).op=17→0≤(nth (nth code.l t).l i).a∧(nth (nth code.l t).l i).a<owner.l.length) (hge:∀v∈owner.l,-1≤v) (hcl:code.l.length≤4):
    Rets Tryz.prog 121 [.pointer (some ⟨g,0,none⟩)] W (fun v w' =>∃s:Ls Mv,v=s.v∧s.l=movesF M.m code thr.l (M.qs q) owner.l code.l.length∧Sh0 W w' [.own 179 s]):=by
 refine gen Tryz.func121 Tryz.ntmps121 (Sh0.ext (by intro A hA;simp only [List.mem_cons,List.not_mem_nil,or_false] at hA;rcases hA with rfl|rfl|rfl|rfl|rfl|rfl|rfl|rfl;exact hB;exact hP;exact h_code;exact h_thr;exact hR.blk;exact hR.wa;exact hR.oa;exact (fun A hA=>by obtain rfl:=List.mem_singleton.1 hA;exact hR.x)) (by intro A hA b hb;simp only [List.mem_cons,List.not_mem_nil,or_false] at hA;rcases hA with rfl|rfl|rfl|rfl|rfl|rfl|rfl|rfl<;>exact hb):Sh (fun _=>False) W W [.rblk g 173 [.iface M.T (.pointer (some M.u)), .pointer (some ⟨gp,0,none⟩),thr.v,pv, .bool fell], .rblk gp 25 [code.v,pw, .int .i64 locks, .int .i64 nregs], .at_ code, .at_ thr, .rblk M.g0 182 [words.v,owner.v], .at_ words, .at_ owner, .ro [M.X q]]) rfl fun a10 h10=>gG h10<|sG (oM 1 rfl<|.nl)<|sG (oM 1 rfl<|.nl)<|gK fun _ k13=>sK fun _ k14=>gNl (aA 3 rfl) fun hl15=>gRn (oM 1 rfl<|onf fl_173_2 rfl<|olR 0 ti_171 rfl rfl<|oln sl_171 (aA 3 rfl) rfl<|oM 1 rfl<|.nl)<|nK k14<|gB<|fun a18 w18 h18=> ?_;clear h10
 have h17:=h18.nil (α:=Mv) 179
 clear h18
 refine x_loop (fun m a w=>∃(t:Nat) (ml:List Mv) (vm:Value),(t≤thr.l.length)∧(ml=movesF M.m code thr.l (M.qs q) owner.l t)∧(ml.length≤4*t)∧St 43 (fun _=>False) W a w [(0, .pointer (some ⟨g,0,none⟩)),(3,vm),(11, .int .i64 ((thr.l.length:Nat):Int)),(12, .int .i64 ((t:Nat):Int))] [.rblk g 173 [.iface M.T (.pointer (some M.u)), .pointer (some ⟨gp,0,none⟩),thr.v,pv, .bool fell], .rblk gp 25 [code.v,pw, .int .i64 locks, .int .i64 nregs], .at_ code, .at_ thr, .rblk M.g0 182 [words.v,owner.v], .at_ words, .at_ owner, .ro [M.X q], .own 179 (⟨vm,ml⟩:Ls Mv)]∧m=thr.l.length-t) ⟨_,0, [],(.slice none 0 0),(by omega),(rfl),(by simp),h17.nrm ⟨rfl,rfl,rfl,rfl,trivial⟩ [1,2,3,4,5,6,7,8,0] rfl,rfl⟩ ?_
 clear h17
 rintro m16 a16 w16 ⟨t,ml,vm,ht,hml,hmn,h16,hm16⟩
 refine gG h16<|sG (oltN _ _ rfl<|.nl)<|gK fun _ k20=>gcd rfl (fun hb21 hp21=> ?_) fun hb21 hp21=> ?_;clear h16
 ·skip
  refine gS<|hK k20<|gK fun _ k22=>gB<|sG (oM 2 rfl<|.nl)<|gK fun _ k24=>sK fun _ k25=>gRn (oM 2 rfl<|.nl)<|gC (fun _ _ h_=>xCl h_ bd_129 rfl (pable_c M g gp code thr words owner q _ _ _ _ _ t _ hM (h_.sh.rblk 0 rfl) (h_.sh.rblk 1 rfl) (h_.sh.at 2 rfl) (h_.sh.at 3 rfl) ⟨h_.sh.rblk 4 rfl,h_.sh.at 5 rfl,h_.sh.at 6 rfl,(h_.sh.ok _ (List.mem_of_getElem? (i:=7) rfl)) _ (List.mem_singleton.2 rfl)⟩ hql hw3 htl hpc hlk hge (by omega))) rfl<|?_
  rintro _ _ w26 ⟨rfl,hs26⟩
  refine gWk hs26 rfl<|gU<|nK k25<|?_;clear hs26
  refine gCb rfl (fun hb27=> ?_) fun hb27=> ?_
  ·skip
   refine gL<|gRn (oM 2 rfl<|oV (r_build (cs:= [.int .i64 ((t:Nat):Int), .int .i64 (-1)]) rfl rfl (by kernel_rfl)) rfl<|.nl)<|gE1 (fun _ _ h_=>x_lit (n:=1) (cs:= [.int .i64 ((t:Nat):Int), .int .i64 (-1)]) ([(⟨((t:Nat):Int),(-1)⟩:Mv)]:List Mv) h_ sl_175 ti_179 rfl rfl rfl (by decide) rfl (by kernel_rfl) rfl (fun q hq w h=>Flat.inner _ _) (fun q hq b hb=>(Flat.on _ _ hb).elim) rfl rfl) rfl fun v28=>gE1 (fun _ _ h_=>x_app (r:=9) (rm:=0) (s:=(⟨vm,ml⟩:Ls Mv)) (m:=(⟨v28, [(⟨((t:Nat):Int),(-1)⟩:Mv)]⟩:Ls Mv)) h_ sl_175 ti_179 rfl rfl rfl rfl rfl rfl rfl (fun w h=>(h.own 0 rfl)) (fun b hb=>own_on (h_.sh.ok _ (List.mem_of_getElem? (i:=0) rfl)) hb) (fun q hq b hb=>⟨q,hq,hb⟩) rfl rfl rfl inferInstance (show (ml.length+([(⟨((t:Nat):Int),(-1)⟩:Mv)]).length)*16≤140737488355328∧ml.length+([(⟨((t:Nat):Int),(-1)⟩:Mv)]).length≤140737488355328 from om9) rfl rfl) rfl fun v29=>gRn (oM 1 rfl<|.nl)<|nK k24<|sK fun _ k30=>gRn (oM 1 rfl<|onf fl_173_0 rfl<|olR 1 ti_97 rfl rfl<|oM 1 rfl<|.nl)<|gC (fun _ _ h_=>x_inv2 h_ rfl rfl rfl rfl rfl (hM.ready _ words owner q t ⟨h_.sh.rblk 5 rfl,h_.sh.at 6 rfl,h_.sh.at 7 rfl,(h_.sh.ok _ (List.mem_of_getElem? (i:=8) rfl)) _ (List.mem_singleton.2 rfl)⟩ (by omega) (hw3 t (by omega)))) rfl<|?_
   rintro _ _ w31 ⟨rl,rfl,hrl,hs31⟩
   refine gWk hs31 rfl<|gU<|gNl (aO 0 rfl) fun hl32=>gRn (oln sl_23 (aO 0 rfl) rfl<|oM 1 rfl<|.nl)<|nK k30<|gB<|?_;clear hs31
   have hwt:=hw3 t (by omega)
   have hrn:rl.l.length≤3:=by rw [hrl,List.length_map];exact Nat.le_trans (List.length_filter_le _ _) (by simpa using hwt)
   intro a34 w34 h34
   refine x_loop (fun m a w=>∃(k:Nat) (ml2:List Mv) (vm2:Value),(k≤rl.l.length)∧(ml2=ml++((if ableF code thr.l (M.qs q) owner.l t=true then [⟨(t:Int),-1⟩] else [])++(rl.l.take k).map (fun x=>(⟨(t:Int),x⟩:Mv))))∧(ml2.length≤4*t+1+k)∧St 43 (fun _=>False) W a w [(0, .pointer (some ⟨g,0,none⟩)),(3,vm2),(4, .int .i64 ((t:Nat):Int)),(11, .int .i64 ((thr.l.length:Nat):Int)),(12, .int .i64 ((t:Nat):Int)),(28,rl.v),(29, .int .i64 ((rl.l.length:Nat):Int)),(30, .int .i64 ((k:Nat):Int))] [.own 3 rl, .own 179 (⟨v28, [(⟨((t:Nat):Int),(-1)⟩:Mv)]⟩:Ls Mv), .rblk g 173 [.iface M.T (.pointer (some M.u)), .pointer (some ⟨gp,0,none⟩),thr.v,pv, .bool fell], .rblk gp 25 [code.v,pw, .int .i64 locks, .int .i64 nregs], .at_ code, .at_ thr, .rblk M.g0 182 [words.v,owner.v], .at_ words, .at_ owner, .ro [M.X q], .own 179 (⟨vm2,ml2⟩:Ls Mv)]∧m=rl.l.length-k) ⟨_,0,ml++([(⟨((t:Nat):Int),(-1)⟩:Mv)]),v29,(by omega),(by first|(rw [if_pos (by assumption)];simp)|(rw [if_neg (by rw [show ableF code thr.l (M.qs q) owner.l t=false by assumption];decide)];simp)),(by simp;omega),h34.nf ⟨rfl,rfl,rfl,rfl,rfl,rfl,rfl,rfl,trivial⟩,rfl⟩ ?_
   clear h34
   rintro m33 a33 w33 ⟨k,ml2,vm2,hk,hml2,hmn2,h33,hm33⟩
   refine gG h33<|sG (oltN _ _ rfl<|.nl)<|gK fun _ k36=>gcd rfl (fun hb37 hp37=> ?_) fun hb37 hp37=> ?_;clear h33
   ·skip
    refine gS<|hK k36<|gK fun _ k38=>gB<|sG (oxN sl_23 ti_3 (aO 0 rfl) _ om9 rfl<|olI ti_3 (aO 0 rfl) om9 rfl<|oM 1 rfl<|.nl)<|gL<|gRn (oM 3 rfl<|oV (r_build (cs:= [.int .i64 ((t:Nat):Int), .int .i64 (nth rl.l k)]) rfl rfl (by kernel_rfl)) rfl<|.nl)<|gE1 (fun _ _ h_=>x_lit (n:=1) (cs:= [.int .i64 ((t:Nat):Int), .int .i64 (nth rl.l k)]) ([(⟨((t:Nat):Int),nth rl.l k⟩:Mv)]:List Mv) h_ sl_175 ti_179 rfl rfl rfl (by decide) rfl (by kernel_rfl) rfl (fun q hq w h=>Flat.inner _ _) (fun q hq b hb=>(Flat.on _ _ hb).elim) rfl rfl) rfl fun v40=>gE1 (fun _ _ h_=>x_app (r:=11) (rm:=0) (s:=(⟨vm2,ml2⟩:Ls Mv)) (m:=(⟨v40, [(⟨((t:Nat):Int),nth rl.l k⟩:Mv)]⟩:Ls Mv)) h_ sl_175 ti_179 rfl rfl rfl rfl rfl rfl rfl (fun w h=>(h.own 0 rfl)) (fun b hb=>own_on (h_.sh.ok _ (List.mem_of_getElem? (i:=0) rfl)) hb) (fun q hq b hb=>⟨q,hq,hb⟩) rfl rfl rfl inferInstance (show (ml2.length+([(⟨((t:Nat):Int),nth rl.l k⟩:Mv)]).length)*16≤140737488355328∧ml2.length+([(⟨((t:Nat):Int),nth rl.l k⟩:Mv)]).length≤140737488355328 from om9) rfl rfl) rfl fun v41=>gRn (oM 1 rfl<|.nl)<|nK k38<|gL<|gRn (oadN _ 1 om9 rfl<|oM 1 rfl<|.nl)<|nN<|fun a42 w42 h42=>x_again ⟨_, ?_,k+1,ml2++([(⟨((t:Nat):Int),nth rl.l k⟩:Mv)]),v41, ?_, ?_, ?_,h42.nrm ⟨rfl,rfl,rfl,rfl,rfl,rfl,rfl,rfl,trivial⟩ [1,2,3,4,5,6,7,8,9,10,11] rfl,rfl⟩
    · rw [hm33];first|omega|(simp only [lens9];omega)
    · omega
    · rw [take_succ_nth _ _ (by omega),List.map_append,hml2];simp only [List.append_assoc,List.map_cons,List.map_nil]
    · first|omega|(simp;omega)
   refine gX<|hK k22<|gL<|gRn (oadN _ 1 om9 rfl<|oM 1 rfl<|.nl)<|nN<|fun a43 w43 h43=>x_again ⟨_, ?_,t+1,ml2,vm2, ?_, ?_, ?_,h43.nrm ⟨rfl,rfl,rfl,rfl,trivial⟩ [2,3,4,5,6,7,8,9,10] rfl,rfl⟩
   · rw [hm16];first|omega|(simp only [lens9];omega)
   · omega
   · rw [movesF_succ,←hml,movF_eq hrl,hml2,List.take_of_length_le (by omega)]
   · omega
  refine gS<|hK k24<|sK fun _ k44=>gRn (oM 1 rfl<|onf fl_173_0 rfl<|olR 0 ti_97 rfl rfl<|oM 1 rfl<|.nl)<|gC (fun _ _ h_=>x_inv2 h_ rfl rfl rfl rfl rfl (hM.ready _ words owner q t ⟨h_.sh.rblk 4 rfl,h_.sh.at 5 rfl,h_.sh.at 6 rfl,(h_.sh.ok _ (List.mem_of_getElem? (i:=7) rfl)) _ (List.mem_singleton.2 rfl)⟩ (by omega) (hw3 t (by omega)))) rfl<|?_
  rintro _ _ w45 ⟨rl,rfl,hrl,hs45⟩
  refine gWk hs45 rfl<|gU<|gNl (aO 0 rfl) fun hl46=>gRn (oln sl_23 (aO 0 rfl) rfl<|oM 1 rfl<|.nl)<|nK k44<|gB<|?_;clear hs45
  have hwt:=hw3 t (by omega)
  have hrn:rl.l.length≤3:=by rw [hrl,List.length_map];exact Nat.le_trans (List.length_filter_le _ _) (by simpa using hwt)
  intro a48 w48 h48
  refine x_loop (fun m a w=>∃(k:Nat) (ml2:List Mv) (vm2:Value),(k≤rl.l.length)∧(ml2=ml++((if ableF code thr.l (M.qs q) owner.l t=true then [⟨(t:Int),-1⟩] else [])++(rl.l.take k).map (fun x=>(⟨(t:Int),x⟩:Mv))))∧(ml2.length≤4*t+1+k)∧St 43 (fun _=>False) W a w [(0, .pointer (some ⟨g,0,none⟩)),(3,vm2),(4, .int .i64 ((t:Nat):Int)),(11, .int .i64 ((thr.l.length:Nat):Int)),(12, .int .i64 ((t:Nat):Int)),(28,rl.v),(29, .int .i64 ((rl.l.length:Nat):Int)),(30, .int .i64 ((k:Nat):Int))] [.own 3 rl, .rblk g 173 [.iface M.T (.pointer (some M.u)), .pointer (some ⟨gp,0,none⟩),thr.v,pv, .bool fell], .rblk gp 25 [code.v,pw, .int .i64 locks, .int .i64 nregs], .at_ code, .at_ thr, .rblk M.g0 182 [words.v,owner.v], .at_ words, .at_ owner, .ro [M.X q], .own 179 (⟨vm2,ml2⟩:Ls Mv)]∧m=rl.l.length-k) ⟨_,0,ml,vm,(by omega),(by first|(rw [if_pos (by assumption)];simp)|(rw [if_neg (by rw [show ableF code thr.l (M.qs q) owner.l t=false by assumption];decide)];simp)),(by simp;omega),h48.nf ⟨rfl,rfl,rfl,rfl,rfl,rfl,rfl,rfl,trivial⟩,rfl⟩ ?_
  clear h48
  rintro m47 a47 w47 ⟨k,ml2,vm2,hk,hml2,hmn2,h47,hm47⟩
  refine gG h47<|sG (oltN _ _ rfl<|.nl)<|gK fun _ k50=>gcd rfl (fun hb51 hp51=> ?_) fun hb51 hp51=> ?_;clear h47
  ·skip
   refine gS<|hK k50<|gK fun _ k52=>gB<|sG (oxN sl_23 ti_3 (aO 0 rfl) _ om9 rfl<|olI ti_3 (aO 0 rfl) om9 rfl<|oM 1 rfl<|.nl)<|gL<|gRn (oM 3 rfl<|oV (r_build (cs:= [.int .i64 ((t:Nat):Int), .int .i64 (nth rl.l k)]) rfl rfl (by kernel_rfl)) rfl<|.nl)<|gE1 (fun _ _ h_=>x_lit (n:=1) (cs:= [.int .i64 ((t:Nat):Int), .int .i64 (nth rl.l k)]) ([(⟨((t:Nat):Int),nth rl.l k⟩:Mv)]:List Mv) h_ sl_175 ti_179 rfl rfl rfl (by decide) rfl (by kernel_rfl) rfl (fun q hq w h=>Flat.inner _ _) (fun q hq b hb=>(Flat.on _ _ hb).elim) rfl rfl) rfl fun v54=>gE1 (fun _ _ h_=>x_app (r:=10) (rm:=0) (s:=(⟨vm2,ml2⟩:Ls Mv)) (m:=(⟨v54, [(⟨((t:Nat):Int),nth rl.l k⟩:Mv)]⟩:Ls Mv)) h_ sl_175 ti_179 rfl rfl rfl rfl rfl rfl rfl (fun w h=>(h.own 0 rfl)) (fun b hb=>own_on (h_.sh.ok _ (List.mem_of_getElem? (i:=0) rfl)) hb) (fun q hq b hb=>⟨q,hq,hb⟩) rfl rfl rfl inferInstance (show (ml2.length+([(⟨((t:Nat):Int),nth rl.l k⟩:Mv)]).length)*16≤140737488355328∧ml2.length+([(⟨((t:Nat):Int),nth rl.l k⟩:Mv)]).length≤140737488355328 from om9) rfl rfl) rfl fun v55=>gRn (oM 1 rfl<|.nl)<|nK k52<|gL<|gRn (oadN _ 1 om9 rfl<|oM 1 rfl<|.nl)<|nN<|fun a56 w56 h56=>x_again ⟨_, ?_,k+1,ml2++([(⟨((t:Nat):Int),nth rl.l k⟩:Mv)]),v55, ?_, ?_, ?_,h56.nrm ⟨rfl,rfl,rfl,rfl,rfl,rfl,rfl,rfl,trivial⟩ [1,2,3,4,5,6,7,8,9,10] rfl,rfl⟩
   · rw [hm47];first|omega|(simp only [lens9];omega)
   · omega
   · rw [take_succ_nth _ _ (by omega),List.map_append,hml2];simp only [List.append_assoc,List.map_cons,List.map_nil]
   · first|omega|(simp;omega)
  refine gX<|hK k22<|gL<|gRn (oadN _ 1 om9 rfl<|oM 1 rfl<|.nl)<|nN<|fun a57 w57 h57=>x_again ⟨_, ?_,t+1,ml2,vm2, ?_, ?_, ?_,h57.nrm ⟨rfl,rfl,rfl,rfl,trivial⟩ [1,2,3,4,5,6,7,8,9] rfl,rfl⟩
  · rw [hm16];first|omega|(simp only [lens9];omega)
  · omega
  · rw [movesF_succ,←hml,movF_eq hrl,hml2,List.take_of_length_le (by omega)]
  · omega
 refine gX<|hK k13<|sG (oM 2 rfl<|.nl)<|gR<|fun a59 w59 h59=> ?_
 try simp only [Exit.then,Exit.inBlock]
 refine x_ret1 (fn:=Tryz.f121) (t:=2) rfl h59 rfl<|⟨⟨vm,ml⟩,rfl, ?_,(h59.sh.sel [8] rfl)⟩
 rw [←show t=code.l.length by omega];exact hml
theorem pended_c (M:MemS) (g gp:Nat) (code:Ls (Ls Ins)) (thr:Ls ThQ) (words owner:Ls Int) (q:M.σ) (pw pv:Value) (locks nregs:Int) (fell:Bool) (W:World) (hM:MemI Tryz.prog 182 3 M) (hB:Blk W g 173 #[.iface M.T (.pointer (some M.u)), .pointer (some ⟨gp,0,none⟩),thr.v,pv, .bool fell]) (hP:Blk W gp 25 #[code.v,pw, .int .i64 locks, .int .i64 nregs]) (h_code:code.At W) (h_thr:thr.At W) (hR:MemRd 182 M W words owner q) (hql:(M.qs q).length=code.l.length) (hw3:∀t,t<code.l.length→(nth (M.qs q) t).length≤3) (htl:thr.l.length=code.l.length) (hpc:∀t,t<code.l.length→0≤(nth thr.l t).pc∧(nth thr.l t).pc≤(nth code.l t).l.length) (hcl:code.l.length≤4):
    Rets Tryz.prog 122 [.pointer (some ⟨g,0,none⟩)] W (fun v w' =>v= .bool (endedF code thr.l (M.qs q))∧Sh0 W w' []):=by
 refine gen Tryz.func122 Tryz.ntmps122 (Sh0.ext (by intro A hA;simp only [List.mem_cons,List.not_mem_nil,or_false] at hA;rcases hA with rfl|rfl|rfl|rfl|rfl|rfl|rfl|rfl;exact hB;exact hP;exact h_code;exact h_thr;exact hR.blk;exact hR.wa;exact hR.oa;exact (fun A hA=>by obtain rfl:=List.mem_singleton.1 hA;exact hR.x)) (by intro A hA b hb;simp only [List.mem_cons,List.not_mem_nil,or_false] at hA;rcases hA with rfl|rfl|rfl|rfl|rfl|rfl|rfl|rfl<;>exact hb):Sh (fun _=>False) W W [.rblk g 173 [.iface M.T (.pointer (some M.u)), .pointer (some ⟨gp,0,none⟩),thr.v,pv, .bool fell], .rblk gp 25 [code.v,pw, .int .i64 locks, .int .i64 nregs], .at_ code, .at_ thr, .rblk M.g0 182 [words.v,owner.v], .at_ words, .at_ owner, .ro [M.X q]]) rfl fun a10 h10=>gG h10<|sG (oM 1 rfl<|.nl)<|gK fun _ k12=>sK fun _ k13=>gNl (aA 3 rfl) fun hl14=>gRn (oM 1 rfl<|onf fl_173_2 rfl<|olR 0 ti_171 rfl rfl<|oln sl_171 (aA 3 rfl) rfl<|oM 1 rfl<|.nl)<|nK k13<|gB<|fun a16 w16 h16=>x_loop (fun m a w=>∃(t:Nat),(t≤thr.l.length)∧(∀j,j<t→endF2 code thr.l (M.qs q) j=true)∧St 31 (fun _=>False) W a w [(0, .pointer (some ⟨g,0,none⟩)),(10, .int .i64 ((thr.l.length:Nat):Int)),(11, .int .i64 ((t:Nat):Int))] [.rblk g 173 [.iface M.T (.pointer (some M.u)), .pointer (some ⟨gp,0,none⟩),thr.v,pv, .bool fell], .rblk gp 25 [code.v,pw, .int .i64 locks, .int .i64 nregs], .at_ code, .at_ thr, .rblk M.g0 182 [words.v,owner.v], .at_ words, .at_ owner, .ro [M.X q]]∧m=thr.l.length-t) ⟨_,0,(by omega),(fun j hj=>absurd hj (by omega)),h16.nf ⟨rfl,rfl,rfl,trivial⟩,rfl⟩ ?_;clear h10
 clear h16
 rintro m15 a15 w15 ⟨t,ht,hall,h15,hm15⟩
 refine gG h15<|sG (oltN _ _ rfl<|.nl)<|gK fun _ k18=>gcd rfl (fun hb19 hp19=> ?_) fun hb19 hp19=> ?_;clear h15
 ·skip
  refine gS<|hK k18<|gK fun _ k20=>gB<|sG (oM 2 rfl<|.nl)<|?_
  have hpct:=hpc t (by omega)
  refine sK fun _ k22=>gRn (oM 2 rfl<|.nl)<|fun a24 w24 h24=>wl_ex (x_call h24 bd_128 rfl rfl rfl rfl rfl (pnext_c M g gp code thr words owner q _ _ _ _ _ t _ hM (h24.sh.rblk 0 rfl) (h24.sh.rblk 1 rfl) (h24.sh.at 2 rfl) (h24.sh.at 3 rfl) ⟨h24.sh.rblk 4 rfl,h24.sh.at 5 rfl,h24.sh.at 6 rfl,(h24.sh.ok _ (List.mem_of_getElem? (i:=7) rfl)) _ (List.mem_singleton.2 rfl)⟩ (by omega) (by omega) (by omega))) (wanted_none rfl _) ?_
  rintro a25 w25 ⟨_,⟨hv25,hs25⟩,hf25⟩
  subst hv25
  have h25:St 31 (fun _=>False) W a25 w25 _ _:=⟨hf25,h24.sh.call0 hs25⟩
  clear hf25 hs25
  clear h24
  refine gG h25<|gRn (oM 1 rfl<|oxt rfl<|oxt rfl<|.nl)<|gal ti_32 rfl fun b26=>gsw 0 ti_32 rfl rfl rfl<|gRn (oM 1 rfl<|.nl)<|nK k22<|sK fun _ k28=>gRn (oM 2 rfl<|.nl)<|?_;clear h25
  rcases dsp ((nth thr.l t).pc<((nth code.l t).l.length:Int)) with ⟨hb29,hp29⟩|⟨hb29,hp29⟩
  ·skip
   refine gRn (oKs 7 hb29 rfl rfl<|opT hb29 rfl<|.nl)<|nK k28<|gcT rfl rfl<|sG (oM 1 rfl<|.nl)<|gF [2] rfl<|gR<|fun a31 w31 h31=> ?_
   try simp only [Exit.then,Exit.inBlock]
   refine x_ret1 (fn:=Tryz.f122) (t:=2) rfl h31 rfl<|⟨?_,(h31.sh.sel [] rfl)⟩
   congr 1
   first|exact (endedF_t (fun j hj=>hall j (by omega))).symm|exact (endedF_f (t:=t) (by omega) (by first|exact .inl (by omega)|exact .inr (by omega))).symm
  refine gRn (oG hb29 (r_move rfl rfl) rfl<|oG hb29 (r_nil rfl rfl) rfl<|oG hb29 (r_fieldB (r:=0) fl_173_0 rfl rfl rfl) rfl<|oG hb29 (r_ldbR ti_97 rfl rfl (fun w h=>h.rblk 1 rfl) rfl) rfl<|oG hb29 (r_move rfl rfl) rfl<|.nl)<|fun a32 w32 h32=>wl_ex (x_inv2 h32 rfl rfl rfl rfl rfl (hM.waits _ words owner q t ⟨h32.sh.rblk 5 rfl,h32.sh.at 6 rfl,h32.sh.at 7 rfl,(h32.sh.ok _ (List.mem_of_getElem? (i:=8) rfl)) _ (List.mem_singleton.2 rfl)⟩ (by omega) (hw3 t (by omega)))) (wanted_yes h32.fr rfl rfl rfl rfl hb29) ?_
  rintro a33 w33 ⟨_,⟨rfl,hs33⟩,hf33⟩
  have h33:St 31 (fun _=>False) W a33 w33 _ _:=⟨hf33,h32.sh.call0 hs33⟩
  clear hf33 hs33
  clear h32
  refine gG h33<|gRn (oG hb29 (r_gtrN (p:=(nth (M.qs q) t).length) (q:=0) rfl rfl rfl) rfl<|opF hb29 rfl<|.nl)<|nK k28<|?_;clear h33
  refine gcd rfl (fun hb34 hp34=> ?_) fun hb34 hp34=> ?_
  ·skip
   refine sG (oM 1 rfl<|.nl)<|gF [2] rfl<|gR<|fun a36 w36 h36=> ?_
   try simp only [Exit.then,Exit.inBlock]
   refine x_ret1 (fn:=Tryz.f122) (t:=2) rfl h36 rfl<|⟨?_,(h36.sh.sel [] rfl)⟩
   congr 1
   first|exact (endedF_t (fun j hj=>hall j (by omega))).symm|exact (endedF_f (t:=t) (by omega) (by first|exact .inl (by omega)|exact .inr (by omega))).symm
  refine gS<|hK k20<|gL<|gRn (oadN _ 1 om9 rfl<|oM 1 rfl<|.nl)<|nN<|fun a37 w37 h37=>x_again ⟨_, ?_,t+1, ?_, ?_,h37.nrm ⟨rfl,rfl,rfl,trivial⟩ [1,2,3,4,5,6,7,8] rfl,rfl⟩
  · rw [hm15];first|omega|(simp only [lens9];omega)
  · omega
  · intro j hj;rcases Nat.lt_or_ge j t with h9|h9;(exact hall j h9);obtain rfl:j=t:=(by omega);exact endF2_t (by omega) (by omega)
 refine gX<|hK k12<|sG (oM 1 rfl<|.nl)<|gR<|fun a39 w39 h39=> ?_
 try simp only [Exit.then,Exit.inBlock]
 refine x_ret1 (fn:=Tryz.f122) (t:=2) rfl h39 rfl<|⟨?_,(h39.sh.sel [] rfl)⟩
 congr 1
 first|exact (endedF_t (fun j hj=>hall j (by omega))).symm|exact (endedF_f (t:=t) (by omega) (by first|exact .inl (by omega)|exact .inr (by omega))).symm
theorem pbit_c (b:Bool) (W:World):
    Rets Tryz.prog 145 [.bool b] W (fun v w' =>v= .int .i64 (bit b)∧Sh0 W w' []):=by
 refine gen Tryz.func145 Tryz.ntmps145 (Sh0.start _:Sh (fun _=>False) W W []) rfl fun a10 h10=>gG h10<|sG (oM 1 rfl<|.nl)<|gK fun _ k12=>sG (oM 1 rfl<|.nl)<|?_;clear h10
 refine gCb rfl (fun hb14=> ?_) fun hb14=> ?_
 ·skip
  refine sG (oM 1 rfl<|.nl)<|gR<|fun a16 w16 h16=> ?_
  try simp only [Exit.then,Exit.inBlock]
  refine x_ret1 (fn:=Tryz.f145) (t:=2) rfl h16 rfl<|⟨?_,(h16.sh.sel [] rfl)⟩
  first|(rw [show b=true by assumption];rfl)|(rw [show b=false by assumption];rfl)
 refine gS<|hK k12<|sG (oM 1 rfl<|.nl)<|gR<|fun a18 w18 h18=> ?_
 try simp only [Exit.then,Exit.inBlock]
 refine x_ret1 (fn:=Tryz.f145) (t:=2) rfl h18 rfl<|⟨?_,(h18.sh.sel [] rfl)⟩
 first|(rw [show b=true by assumption];rfl)|(rw [show b=false by assumption];rfl)
theorem pwords_c (M:MemS) (g gp:Nat) (code:Ls (Ls Ins)) (thr:Ls ThQ) (words owner:Ls Int) (q:M.σ) (pw pv:Value) (locks nregs:Int) (fell:Bool) (W:World) (hM:MemI Tryz.prog 182 3 M) (hB:Blk W g 173 #[.iface M.T (.pointer (some M.u)), .pointer (some ⟨gp,0,none⟩),thr.v,pv, .bool fell]) (hP:Blk W gp 25 #[code.v,pw, .int .i64 locks, .int .i64 nregs]) (h_code:code.At W) (h_thr:thr.At W) (hR:MemRd 182 M W words owner q) (hwn:words.l.length≤100000):
    Rets Tryz.prog 120 [.pointer (some ⟨g,0,none⟩)] W (fun v w' =>∃s:Ls Int,v=s.v∧s.l=words.l∧Sh0 W w' [.own 3 s]):=by
 refine gen Tryz.func120 Tryz.ntmps120 (Sh0.ext (by intro A hA;simp only [List.mem_cons,List.not_mem_nil,or_false] at hA;rcases hA with rfl|rfl|rfl|rfl|rfl|rfl|rfl|rfl;exact hB;exact hP;exact h_code;exact h_thr;exact hR.blk;exact hR.wa;exact hR.oa;exact (fun A hA=>by obtain rfl:=List.mem_singleton.1 hA;exact hR.x)) (by intro A hA b hb;simp only [List.mem_cons,List.not_mem_nil,or_false] at hA;rcases hA with rfl|rfl|rfl|rfl|rfl|rfl|rfl|rfl<;>exact hb):Sh (fun _=>False) W W [.rblk g 173 [.iface M.T (.pointer (some M.u)), .pointer (some ⟨gp,0,none⟩),thr.v,pv, .bool fell], .rblk gp 25 [code.v,pw, .int .i64 locks, .int .i64 nregs], .at_ code, .at_ thr, .rblk M.g0 182 [words.v,owner.v], .at_ words, .at_ owner, .ro [M.X q]]) rfl fun a10 h10=>gG h10<|sG (oM 1 rfl<|.nl)<|sK fun _ k12=>gRn (oM 1 rfl<|onf fl_173_0 rfl<|olR 0 ti_97 rfl rfl<|.nl)<|gP (fun _ _ h_=>x_inv2 h_ rfl rfl rfl rfl rfl (hM.base _ words owner q ⟨h_.sh.rblk 4 rfl,h_.sh.at 5 rfl,h_.sh.at 6 rfl,(h_.sh.ok _ (List.mem_of_getElem? (i:=7) rfl)) _ (List.mem_singleton.2 rfl)⟩)) rfl<|gRn (onf fl_182_0 rfl<|olR 4 ti_23 rfl rfl<|.nl)<|gC (fun _ _ h_=>xCl h_ bd_44 rfl (cloneI_c words _ (h_.sh.at 5 rfl) (by first|omega|(simp only [lens9];omega)))) rfl<|?_;clear h10
 rintro _ _ w14 ⟨s14,rfl,hs14⟩
 refine gWk hs14 rfl<|gU<|gRn (oM 1 rfl<|.nl)<|nK k12<|gR<|fun a15 w15 h15=> ?_;clear hs14
 try simp only [Exit.then,Exit.inBlock]
 refine x_ret1 (fn:=Tryz.f120) (t:=2) rfl h15 rfl ?_
 exact ⟨⟨s14.v,words.l⟩,rfl,rfl,(h15.sh.sel [0] rfl)⟩
theorem pbit_t {b:Bool} (h:b=true) (W:World):Rets Tryz.prog 145 [.bool b] W (fun v w' =>v= .int .i64 1∧Sh0 W w' []):=by subst h;exact pbit_c true W
theorem pbit_f {b:Bool} (h:b=false) (W:World):Rets Tryz.prog 145 [.bool b] W (fun v w' =>v= .int .i64 0∧Sh0 W w' []):=by subst h;exact pbit_c false W
end Go.Proofs.YtmjkobhkkjgplaaGreatDoor
