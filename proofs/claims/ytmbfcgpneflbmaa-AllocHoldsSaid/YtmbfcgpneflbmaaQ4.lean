/- Part 4 of the texts. -/
import Derived.Test.YtmbfcgpneflbmaaQ3
import Derived.Maps.RangeRun
import Derived.Laws.Externs
namespace Go.Proofs.Ytmbfcgpneflbmaa
open Go.RowKit
set_option linter.unusedSimpArgs false
set_option linter.unusedVariables false
set_option maxRecDepth 100000
set_option maxHeartbeats 1000000
theorem findsL_some {l:List Wt}{words:List Int}{w:Int}{i:Nat}(hi:i<l.length)(h1:(nth l i).lock=false)(h2:(nth l i).wh=w)(ha:∀j,i<j→j<l.length→¬((nth l j).lock=false∧(nth l j).wh=w)):findsL l words w=(nth l i).what:=by
 have e:l.reverse.find? (fun x=> !x.lock&&decide (x.wh=w))=some (nth l i):=by
  have hs:l=l.take i++nth l i::l.drop (i+1):=by
   have:=List.take_append_drop i l
   rw [List.drop_eq_getElem_cons hi] at this
   rw [show nth l i=l[i] from by simp [nth,hi]]
   exact this.symm
  rw [hs,List.reverse_append,List.reverse_cons,List.find?_append,List.find?_append]
  have hn:(l.drop (i+1)).reverse.find? (fun x=> !x.lock&&decide (x.wh=w))=none:=by
   rw [List.find?_eq_none]
   intro x hx
   rw [List.mem_reverse] at hx
   obtain ⟨k,hk,rfl⟩:=List.mem_iff_getElem.1 hx
   have hk2:i+1+k<l.length:=by simpa [Nat.lt_sub_iff_add_lt,Nat.add_comm] using hk
   have:=ha (i+1+k) (by omega) hk2
   rw [show nth l (i+1+k)=(l.drop (i+1))[k] from by simp [nth,hk2]] at this
   intro hc
   simp only [Bool.and_eq_true,Bool.not_eq_true',decide_eq_true_eq] at hc
   exact this hc
  rw [←hs,hn]
  simp [h1,h2]
 unfold findsL
 rw [e]
theorem findsL_none {l:List Wt}{words:List Int}{w:Int}(ha:∀j,j<l.length→¬((nth l j).lock=false∧(nth l j).wh=w)):findsL l words w=nth words w.toNat:=by
 have e:l.reverse.find? (fun x=> !x.lock&&decide (x.wh=w))=none:=by
  rw [List.find?_eq_none]
  intro x hx
  rw [List.mem_reverse] at hx
  obtain ⟨k,hk,rfl⟩:=List.mem_iff_getElem.1 hx
  have:=ha k hk
  rw [show nth l k=l[k] from by simp [nth,hk]] at this
  intro hc
  simp only [Bool.and_eq_true,Bool.not_eq_true',decide_eq_true_eq] at hc
  exact this hc
 unfold findsL
 rw [e]
theorem finds_c (g t:Nat)(word:Int)(thr:Ls ThV)(words:Ls Int)(wait:Ls Wt)(cv pw:Value)(locks regs mode:Int)(ov pv:Value)(fell:Bool)(W:World)(hB:Blk W g 100 #[cv,pw, .int .i64 locks, .int .i64 regs, .int .i64 mode,thr.v,words.v,ov,pv, .bool fell])(h_thr:thr.At W)(h_words:words.At W)(h_wait:wait.At W)(ht:t<thr.l.length)(hwv:(nth thr.l t).wv=wait.v)(hwo:0≤word∧word<words.l.length):
    Rets Try.prog 85 [.pointer (some ⟨g,0,none⟩), .int .i64 ((t:Nat):Int), .int .i64 word] W (fun v w' =>v= .int .i64 (findsL wait.l words.l word)∧Sh0 W w' []):=by
 refine gen Try.func85 Try.ntmps85 (Sh0.ext (by intro A hA;simp at hA;rcases hA with rfl|rfl|rfl|rfl;exact hB;exact h_thr;exact h_words;exact h_wait) (by intro A hA b hb;simp at hA;rcases hA with rfl|rfl|rfl|rfl<;>exact hb):Sh (fun _=>False) W W [.rblk g 100 [cv,pw, .int .i64 locks, .int .i64 regs, .int .i64 mode,thr.v,words.v,ov,pv, .bool fell], .at_ thr, .at_ words, .at_ wait]) rfl fun a10 h10=>gG h10<|sG (oM 1 rfl<|.nl)<|sK fun _ k12=>gNl (aA 1 rfl) fun hl13=>gRn (oM 1 rfl<|onf fl_100_2 rfl<|olR 0 ti_98 rfl rfl<|oM 1 rfl<|oxN sl_98 ti_136 (aA 1 rfl) _ om9 rfl<|ofE fl_136_2 rfl<|oV (Rn.same (r_lde (s:=thr) (i:=t) (v:=((nth thr.l t).wv)) ti_134 rfl rfl rfl (fun w h=>(h.at 1 rfl)) (show t<thr.l.length from om9) (Nat.le_of_ble_eq_true rfl) rfl) hwv) rfl<|oM 1 rfl<|.nl)<|nK k12<|gK fun _ k14=>sK fun _ k15=>gNl (aA 3 rfl) fun hl16=>gRn (oM 1 rfl<|oln sl_134 (aA 3 rfl) rfl<|osbI _ _ om9 rfl<|oM 1 rfl<|.nl)<|nK k15<|gB<|fun a18 w18 h18=>x_loop (fun m a w=>∃(i:Int),(-1≤i∧i<wait.l.length)∧(∀j:Nat,i<j→j<wait.l.length→¬((nth wait.l j).lock=false∧(nth wait.l j).wh=word))∧St 51 (fun _=>False) W a w [(0, .pointer (some ⟨g,0,none⟩)),(2, .int .i64 word),(7,wait.v),(8, .int .i64 i)] [.rblk g 100 [cv,pw, .int .i64 locks, .int .i64 regs, .int .i64 mode,thr.v,words.v,ov,pv, .bool fell], .at_ thr, .at_ words, .at_ wait]∧m=(i+1).toNat) ⟨_,((wait.l.length:Nat):Int)-1,(by omega),(fun j hj hj2=>absurd hj (by omega)),h18.nf ⟨rfl,rfl,rfl,rfl,trivial⟩,rfl⟩ ?_;clear h10
 clear h18
 rintro m17 a17 w17 ⟨i,hi,hall,h17,hm17⟩
 refine gG h17<|gK fun _ k19=>sG (oM 1 rfl<|ogeI _ _ rfl<|.nl)<|?_;clear h17
 refine gcd rfl (fun hb21 hp21=> ?_) fun hb21 hp21=> ?_
 ·skip
  refine gS<|hK k19<|gK fun _ k22=>gB<|sK fun _ k23=>gRn (oM 2 rfl<|oxI sl_134 ti_144 (aA 3 rfl) om9 rfl<|ofE fl_144_0 rfl<|olE (.bool ((nth wait.l i.toNat).lock)) ti_4 (aA 3 rfl) om9 rfl<|ont rfl<|oM 1 rfl<|.nl)<|?_
  rcases Bool.eq_false_or_eq_true (!((nth wait.l i.toNat).lock)) with hb24|hb24
  ·have hn24:(nth wait.l i.toNat).lock=false:=(Bool.not_eq_true' _).mp hb24
   refine gRn (oG hb24 (r_move rfl rfl) rfl<|oG hb24 (r_move rfl rfl) rfl<|oG hb24 (r_ixI (s:=wait) (q:=i) sl_134 ti_144 rfl rfl rfl (fun w h=>(h.at 3 rfl)) (show 0≤i∧i<wait.l.length from om9)) rfl<|oG hb24 (r_fieldE (r:=1) fl_144_1 rfl rfl rfl) rfl<|oG hb24 (r_lde (s:=wait) (i:=i.toNat) (v:= .int .i64 ((nth wait.l i.toNat).wh)) ti_3 rfl rfl rfl (fun w h=>(h.at 3 rfl)) (show i.toNat<wait.l.length from om9) (Nat.le_of_ble_eq_true rfl) rfl) rfl<|oG hb24 (r_move rfl rfl) rfl<|oG hb24 (r_eqlI (p:=(nth wait.l i.toNat).wh) (q:=word) rfl rfl rfl) rfl<|opT hb24 rfl<|.nl)<|nK k23<|gcd rfl (fun hb25 hp25=> ?_) fun hb25 hp25=> ?_
   ·skip
    refine sG (oM 2 rfl<|oxI sl_134 ti_144 (aA 3 rfl) om9 rfl<|ofE fl_144_2 rfl<|olI ti_3 (aA 3 rfl) om9 rfl<|oM 1 rfl<|.nl)<|gF [6] rfl<|gR<|uB<|uT<|uT<|uB<|uT<|fun a27 w27 h27=>x_ret1 (fn:=Try.f85) (t:=6) rfl h27 rfl<|⟨?_,(h27.sh.sel [] rfl)⟩
    congr 1
    first|exact (findsL_some (i:=i.toNat) (by omega) (by assumption) (by omega) (fun j hj hj2=>hall j (by omega) hj2)).symm|exact (findsL_none (fun j hj=>hall j (by omega) hj)).symm
   refine gS<|hK k22<|gL<|gRn (oM 1 rfl<|osbI _ _ om9 rfl<|oM 1 rfl<|.nl)<|nN<|fun a28 w28 h28=>x_again ⟨_, ?_,i-1, ?_, ?_,h28.nf ⟨rfl,rfl,rfl,rfl,trivial⟩,rfl⟩
   · rw [hm17];first|omega|(simp only [lens9];omega)
   · omega
   · intro j hj hj2;by_cases h9:i<j;(exact hall j h9 hj2);obtain rfl:j=i.toNat:=(by omega);first|(rintro ⟨h8,_⟩;exact absurd (h8.symm.trans (show _=true by assumption)) (by decide))|(rintro ⟨_,h8⟩;omega)
  have hn24:(nth wait.l i.toNat).lock=true:=(Bool.not_eq_false' _).mp hb24
  refine gRn (oKs 7 hb24 rfl rfl<|opF hb24 rfl<|.nl)<|nK k23<|gcF rfl rfl<|gS<|hK k22<|gL<|gRn (oM 1 rfl<|osbI _ _ om9 rfl<|oM 1 rfl<|.nl)<|nN<|fun a29 w29 h29=>x_again ⟨_, ?_,i-1, ?_, ?_,h29.nf ⟨rfl,rfl,rfl,rfl,trivial⟩,rfl⟩
  · rw [hm17];first|omega|(simp only [lens9];omega)
  · omega
  · intro j hj hj2;by_cases h9:i<j;(exact hall j h9 hj2);obtain rfl:j=i.toNat:=(by omega);first|(rintro ⟨h8,_⟩;exact absurd (h8.symm.trans (show _=true by assumption)) (by decide))|(rintro ⟨_,h8⟩;omega)
 refine gX<|hK k14<|sK fun _ k30=>gNl (aA 2 rfl) fun hl31=>gRn (oM 1 rfl<|onf fl_100_3 rfl<|olR 0 ti_23 rfl rfl<|oM 1 rfl<|oxI sl_23 ti_3 (aA 2 rfl) om9 rfl<|olI ti_3 (aA 2 rfl) om9 rfl<|oM 1 rfl<|.nl)<|nK k30<|gR<|fun a32 w32 h32=>x_ret1 (fn:=Try.f85) (t:=6) rfl h32 rfl<|⟨?_,(h32.sh.sel [] rfl)⟩
 congr 1
 first|exact (findsL_some (i:=i.toNat) (by omega) (by assumption) (by omega) (fun j hj hj2=>hall j (by omega) hj2)).symm|exact (findsL_none (fun j hj=>hall j (by omega) hj)).symm
set_option maxHeartbeats 4000000
theorem set_same {l:List ThV}{t:Nat}{v:Value}(h:t<l.length)(e:(nth l t).wv=v):l.set t { nth l t with wv:=v } =l:=by
 subst e
 refine ext_nth _ _ (by simp) fun i hi=> ?_
 rw [nth_set]
 split
 ·rename_i hh;rw [←hh.1]
 ·rfl
theorem done_c (K:Nat→Prop)(g:Nat)(x:Wt)(words owner:Ls Int)(cv pw:Value)(locks regs mode:Int)(tv pv:Value)(fell:Bool)(W:World)(hS:Sh K W W [.blk g 100 [cv,pw, .int .i64 locks, .int .i64 regs, .int .i64 mode,tv,words.v,owner.v,pv, .bool fell], .own 3 words, .own 3 owner])(hx:if x.lock=true then 0≤x.wh∧x.wh<owner.l.length else 0≤x.wh∧x.wh<words.l.length):
    Rets Try.prog 83 [.pointer (some ⟨g,0,none⟩), .agg #[.bool x.lock, .int .i64 x.wh, .int .i64 x.what]] W (fun v w' =>v= .tuple #[]∧Sh K W w' [.blk g 100 [cv,pw, .int .i64 locks, .int .i64 regs, .int .i64 mode,tv,words.v,owner.v,pv, .bool fell], .own 3 (⟨words.v,if x.lock=true then words.l else words.l.set x.wh.toNat x.what⟩:Ls Int), .own 3 (⟨owner.v,if x.lock=true then owner.l.set x.wh.toNat (-1) else owner.l⟩:Ls Int)]):=by
 refine gen Try.func83 Try.ntmps83 hS rfl fun a10 h10=>gG h10<|sK fun _ k11=>gbx rfl rfl fun b12=>nK k11<|sG (ofB fl_144_0 rfl<|olB 0 ti_4 rfl rfl<|.nl)<|?_;clear h10
 refine gCb rfl (fun hb14=> ?_) fun hb14=> ?_
 ·skip
  rw [if_pos (by assumption)] at hx
  rw [if_pos (by assumption),if_pos (by assumption)]
  refine gNl (aO 3 rfl) fun hl15=>rT 7 [] (oM 1 rfl<|onfl 1 fl_100_4 ti_23 rfl rfl<|ofB fl_144_1 rfl<|olB 0 ti_3 rfl rfl<|oxI sl_23 ti_3 (aO 3 rfl) om9 rfl<|.nl)<|gte 3 ((-1):Int) ti_3 om9 rfl rfl<|nN<|fun a17 w17 h17=> ?_
  try simp only [Exit.then,Exit.inBlock,if_true]
  refine x_end0 (fn:=Try.f83) rfl h17 ?_
  exact ⟨rfl,(h17.sh.sel [1,2,3] rfl)⟩
 rw [if_neg (by rw [show x.lock=false by assumption];decide)] at hx
 rw [if_neg (by rw [show x.lock=false by assumption];decide),if_neg (by rw [show x.lock=false by assumption];decide)]
 refine gNl (aO 2 rfl) fun hl18=>rT 9 [] (oM 1 rfl<|onfl 1 fl_100_3 ti_23 rfl rfl<|ofB fl_144_1 rfl<|olB 0 ti_3 rfl rfl<|ofB fl_144_2 rfl<|olB 0 ti_3 rfl rfl<|oxI sl_23 ti_3 (aO 2 rfl) om9 rfl<|.nl)<|gte 2 (x.what:Int) ti_3 om9 rfl rfl<|nN<|fun a20 w20 h20=> ?_
 try simp only [Exit.then,Exit.inBlock,if_true]
 refine x_end0 (fn:=Try.f83) rfl h20 ?_
 exact ⟨rfl,(h20.sh.sel [1,2,3] rfl)⟩
theorem word_c (K:Nat→Prop)(g:Nat)(n:Int)(words:Ls Int)(cv pw:Value)(locks regs mode:Int)(tv ov pv:Value)(fell:Bool)(W:World)(hS:Sh K W W [.blk g 100 [cv,pw, .int .i64 locks, .int .i64 regs, .int .i64 mode,tv,words.v,ov,pv, .bool fell], .own 3 words]):
    Rets Try.prog 87 [.pointer (some ⟨g,0,none⟩), .int .i64 n] W (fun v w' =>v= .bool (decide (0≤n∧n<(words.l.length:Int)))∧Sh K W w' [.blk g 100 [cv,pw, .int .i64 locks, .int .i64 regs, .int .i64 mode,tv,words.v,ov,pv, .bool (fell|| !decide (0≤n∧n<(words.l.length:Int)))], .own 3 words]):=by
 refine gen Try.func87 Try.ntmps87 hS rfl fun a10 h10=>gG h10<|sG (oM 1 rfl<|.nl)<|gK fun _ k12=>sK fun _ k13=>gRn (oM 1 rfl<|oltI _ _ rfl<|oM 1 rfl<|.nl)<|?_;clear h10
 rcases dsp (n<0) with ⟨hb14,hp14⟩|⟨hb14,hp14⟩
 ·skip
  refine gRn (oKs 7 hb14 rfl rfl<|opT hb14 rfl<|.nl)<|nK k13<|gcT rfl rfl<|sK fun _ k15=>gRn (oM 1 rfl<|onf fl_100_6 rfl<|.nl)<|gst (v:= .bool true) 0 ti_4 rfl rfl rfl<|nK k15<|sG (oM 1 rfl<|.nl)<|gR<|uT<|fun a18 w18 h18=>x_ret1 (fn:=Try.f87) (t:=4) rfl h18 rfl ?_
  first|(have e9:decide (0≤n∧n<(words.l.length:Int))=true:=decide_eq_true (by omega))|(have e9:decide (0≤n∧n<(words.l.length:Int))=false:=decide_eq_false (by omega))
  rw [e9]
  refine ⟨rfl, ?_⟩
  first|(simp only [Bool.not_true,Bool.or_false];exact h18.sh)|(simp only [Bool.not_false,Bool.or_true];exact h18.sh)
 refine gNl (aO 1 rfl) fun hl19=>gRn (oG hb14 (r_move rfl rfl) rfl<|oG hb14 (r_move rfl rfl) rfl<|oG hb14 (r_nil rfl rfl) rfl<|oG hb14 (r_fieldB (r:=6) fl_100_3 rfl rfl rfl) rfl<|oG hb14 (r_ldb (i:=0) ti_23 rfl rfl rfl rfl) rfl<|oG hb14 (r_len (s:=words) (n:=words.l.length) sl_23 rfl rfl (fun w h=>(h.own 1 rfl)) rfl) rfl<|oG hb14 (r_geqI (p:=n) (q:=((words.l.length:Nat):Int)) rfl rfl rfl) rfl<|opF hb14 rfl<|.nl)<|nK k13<|gcd rfl (fun hb20 hp20=> ?_) fun hb20 hp20=> ?_
 ·skip
  refine sK fun _ k21=>gRn (oM 1 rfl<|onf fl_100_6 rfl<|.nl)<|gst (v:= .bool true) 0 ti_4 rfl rfl rfl<|nK k21<|sG (oM 1 rfl<|.nl)<|gR<|uT<|fun a24 w24 h24=>x_ret1 (fn:=Try.f87) (t:=4) rfl h24 rfl ?_
  first|(have e9:decide (0≤n∧n<(words.l.length:Int))=true:=decide_eq_true (by omega))|(have e9:decide (0≤n∧n<(words.l.length:Int))=false:=decide_eq_false (by omega))
  rw [e9]
  refine ⟨rfl, ?_⟩
  first|(simp only [Bool.not_true,Bool.or_false];exact h24.sh)|(simp only [Bool.not_false,Bool.or_true];exact h24.sh)
 refine gS<|hK k12<|sG (oM 1 rfl<|.nl)<|gR<|fun a26 w26 h26=>x_ret1 (fn:=Try.f87) (t:=4) rfl h26 rfl ?_
 first|(have e9:decide (0≤n∧n<(words.l.length:Int))=true:=decide_eq_true (by omega))|(have e9:decide (0≤n∧n<(words.l.length:Int))=false:=decide_eq_false (by omega))
 rw [e9]
 refine ⟨rfl, ?_⟩
 first|(simp only [Bool.not_true,Bool.or_false];exact h26.sh)|(simp only [Bool.not_false,Bool.or_true];exact h26.sh)
theorem store_c (K:Nat→Prop)(g t:Nat)(x:Wt)(thr:Ls ThV)(wait:Ls Wt)(words owner:Ls Int)(cv pw:Value)(locks regs mode:Int)(pv:Value)(fell:Bool)(W:World)(hS:Sh K W W [.blk g 100 [cv,pw, .int .i64 locks, .int .i64 regs, .int .i64 mode,thr.v,words.v,owner.v,pv, .bool fell], .own 136 thr, .own 144 wait, .own 3 words, .own 3 owner])(hx:if x.lock=true then 0≤x.wh∧x.wh<owner.l.length else 0≤x.wh∧x.wh<words.l.length)(ht:t<thr.l.length)(hwv:(nth thr.l t).wv=wait.v)(hwl:wait.l.length≤100):
    Rets Try.prog 86 [.pointer (some ⟨g,0,none⟩), .int .i64 ((t:Nat):Int), .agg #[.bool x.lock, .int .i64 x.wh, .int .i64 x.what]] W (fun v w' =>v= .tuple #[]∧∃(wait' :Ls Wt) (words' owner' :Ls Int),(if 0<mode then wait'.l=wait.l++ [x]∧words' =words∧owner' =owner else wait' =wait∧words' =(⟨words.v,if x.lock=true then words.l else words.l.set x.wh.toNat x.what⟩:Ls Int)∧owner' =(⟨owner.v,if x.lock=true then owner.l.set x.wh.toNat (-1) else owner.l⟩:Ls Int))∧Sh K W w' [.blk g 100 [cv,pw, .int .i64 locks, .int .i64 regs, .int .i64 mode,thr.v,words'.v,owner'.v,pv, .bool fell], .own 136 (⟨thr.v,thr.l.set t { nth thr.l t with wv:=wait'.v }⟩:Ls ThV), .own 144 wait', .own 3 words', .own 3 owner']):=by
 refine gen Try.func86 Try.ntmps86 hS rfl fun a10 h10=>gG h10<|sK fun _ k11=>gbx rfl rfl fun b12=>nK k11<|sG (oM 1 rfl<|onfl 1 fl_100_1 ti_3 rfl rfl<|ogtI _ _ rfl<|.nl)<|?_;clear h10
 refine gcd rfl (fun hb14 hp14=> ?_) fun hb14 hp14=> ?_
 ·skip
  refine gNl (aO 2 rfl) fun hl15=>rC [14,15,18] rfl<|pR [0,1,2,3,4,5,6,7,8,9,10,11,12,13] rfl (oM 1 rfl<|onfl 1 fl_100_2 ti_98 rfl rfl<|oM 2 rfl<|onfl 1 fl_100_2 ti_98 rfl rfl<|oM 1 rfl<|oxN sl_98 ti_136 (aO 2 rfl) _ om9 rfl<|ofE fl_136_2 rfl<|oV (Rn.same (r_lde (s:=thr) (i:=t) (v:=((nth thr.l t).wv)) ti_134 rfl rfl rfl (fun w h=>(h.own 2 rfl)) (show t<thr.l.length from om9) (Nat.le_of_ble_eq_true rfl) rfl) hwv) rfl<|olw 0 ti_144 rfl rfl<|.nl) rfl<|pX (fun _ _ h_=>x_lit (n:=1) (cs:= [.bool x.lock, .int .i64 x.wh, .int .i64 x.what]) ([x]:List Wt) h_ sl_134 ti_144 rfl rfl rfl (by decide) rfl (by kernel_rfl) rfl (fun q hq w h=>Flat.inner _ _) (fun q hq b hb=>(Flat.on _ _ hb).elim) rfl rfl) rfl fun v16=>pR [0,1,2,3,4,5,6,7,8,9,10,11,12] rfl (oM 1 rfl<|onfl 2 fl_100_2 ti_98 rfl rfl<|oM 2 rfl<|onfl 2 fl_100_2 ti_98 rfl rfl<|oM 1 rfl<|oxN sl_98 ti_136 (aO 3 rfl) _ om9 rfl<|ofE fl_136_2 rfl<|oV (Rn.same (r_lde (s:=thr) (i:=t) (v:=((nth thr.l t).wv)) ti_134 rfl rfl rfl (fun w h=>(h.own 3 rfl)) (show t<thr.l.length from om9) (Nat.le_of_ble_eq_true rfl) rfl) hwv) rfl<|.nl) rfl<|pX (fun _ _ h_=>x_app (r:=4) (rm:=0) (s:=wait) (m:=(⟨v16, [x]⟩:Ls Wt)) h_ sl_134 ti_144 rfl rfl rfl rfl rfl rfl rfl (fun w h=>(h.own 0 rfl)) (fun b hb=>own_on (h_.sh.ok _ (List.mem_of_getElem? (i:=0) rfl)) hb) (fun q hq b hb=>⟨q,hq,hb⟩) rfl rfl rfl inferInstance (show (wait.l.length+([x]).length)*24≤140737488355328∧wait.l.length+([x]).length≤140737488355328 from om9) rfl rfl) rfl fun v17=>pR [0,1,2,3,4,16,17] rfl (oM 1 rfl<|onfl 2 fl_100_2 ti_98 rfl rfl<|oM 1 rfl<|oxN sl_98 ti_136 (aO 3 rfl) _ om9 rfl<|ofE fl_136_2 rfl<|.nl) rfl<|pS (fun _ _ h_=>x_ste (r:=3) (i:=t) (j:=2) (x' :=({ nth thr.l t with wv:=v17 } :ThV)) h_ ti_134 rfl rfl rfl rfl rfl (show t<thr.l.length from om9) (Nat.le_of_ble_eq_true rfl) rfl (cells_oneL ((h_.sh.own 4 rfl)).one) ((h_.sh.own 4 rfl)).one (by intro q hq;rcases q with _|_|_|q<;>first|rfl|omega) (fun w h=>Flat.inner _ _) (fun b hb=>(Flat.on _ _ hb).elim)) rfl<|pE [] rfl (.nl) rfl<|fun a19 w19 h19=> ?_
  try simp only [Exit.then,Exit.inBlock,if_true]
  refine x_end0 (fn:=Try.f86) rfl h19<|⟨rfl,⟨v17,wait.l++([x])⟩,words,owner, ?_⟩
  first|(rw [if_pos (by omega)];exact ⟨⟨rfl,rfl,rfl⟩,(h19.sh.sel (L' := [_,_,_,_,_]) [2,3,4,5,6] rfl)⟩)|(rw [if_neg (by omega)];refine ⟨⟨rfl,rfl,rfl⟩, ?_⟩;rw [set_same (by omega) hwv];exact (h19.sh.sel (L' := [_,_,_,_,_]) [2,3,4,5,6] rfl))
 refine gL<|gRn (oM 1 rfl<|olw 0 ti_144 rfl rfl<|.nl)<|gO [1,4,5,0,2,3] rfl<|gM 3 rfl (fun _ _ h_=>xCl h_ bd_83 rfl (done_c _ _ x words owner _ _ _ _ _ _ _ _ _ (pKl 3 h_ rfl) hx)) rfl<|?_
 rintro _ _ w22 ⟨rfl,hs22⟩
 refine gBk hs22 rfl<|gU<|nN<|fun a23 w23 h23=> ?_;clear hs22
 try simp only [Exit.then,Exit.inBlock,if_true]
 refine x_end0 (fn:=Try.f86) rfl h23<|⟨rfl,wait,⟨words.v,if x.lock=true then words.l else words.l.set x.wh.toNat x.what⟩,⟨owner.v,if x.lock=true then owner.l.set x.wh.toNat (-1) else owner.l⟩, ?_⟩
 first|(rw [if_pos (by omega)];exact ⟨⟨rfl,rfl,rfl⟩,(h23.sh.sel (L' := [_,_,_,_,_]) [0,4,5,1,2] rfl)⟩)|(rw [if_neg (by omega)];refine ⟨⟨rfl,rfl,rfl⟩, ?_⟩;rw [set_same (by omega) hwv];exact (h23.sh.sel (L' := [_,_,_,_,_]) [0,4,5,1,2] rfl))
set_option maxHeartbeats 20000000
structure InsR (R W L:Nat)(i:Ins):Prop where
 o1:i.op=1→0≤i.a∧i.a<R
 o2:i.op=2→(0≤i.a∧i.a<R)∧0≤i.b∧i.b<R
 o3:i.op=3∨i.op=4∨i.op=5∨i.op=6∨i.op=7→(0≤i.a∧i.a<R)∧(0≤i.b∧i.b<R)∧0≤i.c∧i.c<R
 o8:i.op=8→(0≤i.a∧i.a<R)∧0≤i.b∧i.b<W
 o9:i.op=9→(0≤i.a∧i.a<W)∧0≤i.b∧i.b<R
 o10:i.op=10∨i.op=11→(0≤i.a∧i.a<R)∧0≤i.b∧i.b<R
 o13:i.op=13→(0≤i.a∧i.a<W)∧(0≤i.b∧i.b<R)∧0≤i.c∧i.c<R
 o15:i.op=15∨i.op=16→0≤i.a∧i.a<R
 o17:i.op=17∨i.op=18→0≤i.a∧i.a<L
theorem thset_pc {l tl:List ThV}{n:Nat}{p q:Int}{r v:Value}(h:n<l.length)(e:tl=l.set n ⟨p,r,v⟩):tl.set n { nth tl n with pc:=q } =l.set n ⟨q,r,v⟩:=by
 subst e
 rw [nth_set,if_pos ⟨rfl,h⟩,List.set_set]
theorem thset_wv {l tl:List ThV}{n:Nat}{p:Int}{r v v' :Value}(h:n<l.length)(e:tl=l.set n ⟨p,r,v⟩):tl.set n { nth tl n with wv:=v' } =l.set n ⟨p,r,v'⟩:=by
 subst e
 rw [nth_set,if_pos ⟨rfl,h⟩,List.set_set]
theorem thset_0 {l:List ThV}{n:Nat}{q:Int}{r v:Value}(hr:(nth l n).rv=r)(hv:(nth l n).wv=v):l.set n { nth l n with pc:=q } =l.set n ⟨q,r,v⟩:=by
 subst hr;subst hv;rfl
theorem thset_w0 {l:List ThV}{n:Nat}{r v:Value}(hr:(nth l n).rv=r):l.set n { nth l n with wv:=v } =l.set n ⟨(nth l n).pc,r,v⟩:=by
 subst hr;rfl
def DoPost (K:Nat→Prop)(W:World)(ST TH WT INT:Nat)(g n k:Nat)(mode:Int)(c:List Ins)(thr:Ls ThV)(hd:List Value)(x:TS)(code:Ls (Ls Ins))(w' :World):Prop:=
 ∃(regs' :Ls Int) (wait' :Ls Wt) (words' owner' prints' :Ls Int) (pc' :Int) (fell' :Bool),(⟨pc',regs'.l,wait'.l,words'.l,owner'.l,prints'.l,fell'⟩:TS)=doT mode n c k x∧
  Sh K W w' [.blk g ST (hd++ [thr.v,words'.v,owner'.v,prints'.v, .bool fell']), .own TH (⟨thr.v,thr.l.set n ⟨pc',regs'.v,wait'.v⟩⟩:Ls ThV), .own INT regs', .own WT wait', .own INT words', .own INT owner', .own INT prints', .at_ code]
section
variable {m:Int}{n:Nat}{i:Ins}{x:TS}
theorem execT_1 (h:i.op=1):execT m n i x=x.put i.a i.b:=by simp [execT,h]
theorem execT_2 (h:i.op=2):execT m n i x=x.put i.a (x.reg i.b):=by simp [execT,h]
theorem execT_3 (h:i.op=3):execT m n i x=x.put i.a (wrap64 (x.reg i.b+x.reg i.c)):=by simp [execT,h]
theorem execT_4 (h:i.op=4):execT m n i x=x.put i.a (wrap64 (x.reg i.b-x.reg i.c)):=by simp [execT,h]
theorem execT_5 (h:i.op=5):execT m n i x=x.put i.a (wrap64 (x.reg i.b*x.reg i.c)):=by simp [execT,h]
theorem execT_6 (h:i.op=6):execT m n i x=x.put i.a (bit (decide (x.reg i.b<x.reg i.c))):=by simp [execT,h]
theorem execT_7 (h:i.op=7):execT m n i x=x.put i.a (bit (decide (x.reg i.b=x.reg i.c))):=by simp [execT,h]
theorem execT_8 (h:i.op=8):execT m n i x=x.put i.a (x.finds i.b):=by simp [execT,h]
theorem execT_9 (h:i.op=9):execT m n i x=x.store m ⟨false,i.a,x.reg i.b⟩:=by simp [execT,h]
theorem execT_10t (h:i.op=10)(h1:0≤x.reg i.b∧x.reg i.b<(x.words.length:Int)):execT m n i x=x.put i.a (x.finds (x.reg i.b)):=by simp [execT,h,TS.isWord,h1]
theorem execT_10f (h:i.op=10)(h1:¬(0≤x.reg i.b∧x.reg i.b<(x.words.length:Int))):execT m n i x= { x with fell:=true } :=by
 have e:x.isWord (x.reg i.b)=false:=decide_eq_false h1
 simp [execT,h,e]
theorem execT_11t (h:i.op=11)(h1:0≤x.reg i.a∧x.reg i.a<(x.words.length:Int)):execT m n i x=x.store m ⟨false,x.reg i.a,x.reg i.b⟩:=by simp [execT,h,TS.isWord,h1]
theorem execT_11f (h:i.op=11)(h1:¬(0≤x.reg i.a∧x.reg i.a<(x.words.length:Int))):execT m n i x= { x with fell:=true } :=by
 have e:x.isWord (x.reg i.a)=false:=decide_eq_false h1
 simp [execT,h,e]
theorem execT_13t (h:i.op=13)(h1:nth x.words i.a.toNat=x.reg i.b):execT m n i x= { x with words:=x.words.set i.a.toNat (x.reg i.c),regs:=x.regs.set i.b.toNat 1 } :=by simp [execT,h,h1]
theorem execT_13f (h:i.op=13)(h1:¬nth x.words i.a.toNat=x.reg i.b):execT m n i x=x.put i.b 0:=by simp [execT,h,h1]
theorem execT_14 (h:i.op=14):execT m n i x= { x with pc:=i.a } :=by simp [execT,h]
theorem execT_15t (h:i.op=15)(h1:x.reg i.a=0):execT m n i x= { x with pc:=i.b } :=by simp [execT,h,h1]
theorem execT_15f (h:i.op=15)(h1:¬x.reg i.a=0):execT m n i x=x:=by simp [execT,h,h1]
theorem execT_16 (h:i.op=16):execT m n i x= { x with prints:=x.prints++ [(n:Int),x.reg i.a] } :=by simp [execT,h]
theorem execT_17 (h:i.op=17):execT m n i x= { x with owner:=x.owner.set i.a.toNat n } :=by simp [execT,h]
theorem execT_18a (h:i.op=18)(h1:nth x.owner i.a.toNat≠n):execT m n i x= { x with fell:=true } :=by simp [execT,h,h1]
theorem execT_18b (h:i.op=18)(h1:¬nth x.owner i.a.toNat≠n)(j:Nat)(hj:j<x.wait.length)(hl:(nth x.wait j).lock=true)(hw:(nth x.wait j).wh=i.a):execT m n i x= { x with fell:=true } :=by
 have e:x.holds i.a=true:=List.any_eq_true.2 ⟨_,nth_mem _ _ hj,by simp [hl,hw]⟩
 simp [execT,h,e]
theorem execT_18c (h:i.op=18)(h1:¬nth x.owner i.a.toNat≠n)(hall:∀q,q<x.wait.length→¬((nth x.wait q).lock=true∧(nth x.wait q).wh=i.a)):execT m n i x=x.store m ⟨true,i.a,0⟩:=by
 have e:x.holds i.a=false:=by
  unfold TS.holds
  rw [List.any_eq_false]
  intro y hy
  obtain ⟨k,hk,rfl⟩:=List.mem_iff_getElem.1 hy
  have:=hall k hk
  rw [show nth x.wait k=x.wait[k] from nth_lt _ _ hk] at this
  simpa using this
 have h1' :nth x.owner i.a.toNat=n:=Decidable.not_not.1 h1
 simp [execT,h,h1',e]
theorem execT_no (h:¬i.op=1∧¬i.op=2∧¬i.op=3∧¬i.op=4∧¬i.op=5∧¬i.op=6∧¬i.op=7∧¬i.op=8∧¬i.op=9∧¬i.op=10∧¬i.op=11∧¬i.op=13∧¬i.op=14∧¬i.op=15∧¬i.op=16∧¬i.op=17∧¬i.op=18):execT m n i x=x:=by
 obtain ⟨h1,h2,h3,h4,h5,h6,h7,h8,h9,h10,h11,h13,h14,h15,h16,h17,h18⟩:=h
 simp [execT,h1,h2,h3,h4,h5,h6,h7,h8,h9,h10,h11,h13,h14,h15,h16,h17,h18]
theorem store_eq {pc:Int}{regs prints:List Int}{fell:Bool}{wait wait' :Ls Wt}{words words' owner owner' :Ls Int}{y:Wt}(hst:if 0<m then wait'.l=wait.l++ [y]∧words' =words∧owner' =owner else wait' =wait∧words' =(⟨words.v,if y.lock=true then words.l else words.l.set y.wh.toNat y.what⟩:Ls Int)∧owner' =(⟨owner.v,if y.lock=true then owner.l.set y.wh.toNat (-1) else owner.l⟩:Ls Int)):
  (⟨pc,regs,wait'.l,words'.l,owner'.l,prints,fell⟩:TS)=TS.store m ⟨pc,regs,wait.l,words.l,owner.l,prints,fell⟩ y:=by
 unfold TS.store TS.done
 split at hst
 ·rename_i h
  obtain ⟨h1,rfl,rfl⟩:=hst
  rw [if_pos h,h1]
 ·rename_i h
  obtain ⟨rfl,rfl,rfl⟩:=hst
  rw [if_neg h]
theorem doT_k {c:List Ins}{k:Nat}(hk:0<k):doT m n c k x= { x.done (nth x.wait (k-1)) with wait:=x.wait.take (k-1)++x.wait.drop k } :=by
 unfold doT
 rw [if_pos hk,List.eraseIdx_eq_take_drop_succ,show k-1+1=k by omega]
theorem or_f {b:Bool}{p:Prop}[Decidable p](h:decide p=true):(b|| !decide p)=b:=by rw [h];simp
theorem or_t {b:Bool}{p:Prop}[Decidable p](h:decide p=false):(b|| !decide p)=true:=by rw [h];simp
end
theorem doT_0 {m:Int}{n:Nat}{c:List Ins}{k:Nat}{x:TS}(hk:k=0):doT m n c k x=execT m n (nextIns c x.pc) { x with pc:=x.pc+1 } :=by subst hk;rfl
theorem do_c (K:Nat→Prop)(g mv:Nat)(code:Ls (Ls Ins))(thr:Ls ThV)(regs:Ls Int)(wait:Ls Wt)(words owner prints:Ls Int)(pw:Value)(locks nregs mode:Int)(fell:Bool)(W:World)(hS:Sh K W W [.blk g 100 [code.v,pw, .int .i64 locks, .int .i64 nregs, .int .i64 mode,thr.v,words.v,owner.v,prints.v, .bool fell], .own 136 thr, .own 3 regs, .own 144 wait, .own 3 words, .own 3 owner, .own 3 prints, .at_ code])(ht:mv/8<thr.l.length)(htc:mv/8<code.l.length)(hmv:mv<1000000)(hrv:(nth thr.l (mv/8)).rv=regs.v)(hwv:(nth thr.l (mv/8)).wv=wait.v)(hpc:0≤(nth thr.l (mv/8)).pc∧(nth thr.l (mv/8)).pc<1000000)(hwl:wait.l.length≤3)(hkw:mv%8≤wait.l.length)(hpl:prints.l.length≤100000000)(hol:owner.l.length≤100)(hwt:∀j,j<wait.l.length→if (nth wait.l j).lock=true then 0≤(nth wait.l j).wh∧(nth wait.l j).wh<owner.l.length else 0≤(nth wait.l j).wh∧(nth wait.l j).wh<words.l.length)(hio:mv%8=0→InsR regs.l.length words.l.length owner.l.length (nextIns (nth code.l (mv/8)).l (nth thr.l (mv/8)).pc)):
    Rets Try.prog 50 [.pointer (some ⟨g,0,none⟩), .int .i64 ((mv:Nat):Int)] W (fun v w' =>v= .tuple #[]∧DoPost K W 100 136 144 3 g (mv/8) (mv%8) mode (nth code.l (mv/8)).l thr [code.v,pw, .int .i64 locks, .int .i64 nregs, .int .i64 mode] (⟨(nth thr.l (mv/8)).pc,regs.l,wait.l,words.l,owner.l,prints.l,fell⟩:TS) code w'):=by
 refine gen Try.func50 Try.ntmps50 hS rfl fun a10 h10=>gG h10<|sG (oM 1 rfl<|oquN _ 8 om9 rfl<|oM 1 rfl<|.nl)<|sK fun _ k12=>gNl (aO 1 rfl) fun hl13=>gRn (oM 1 rfl<|onfl 0 fl_100_2 ti_98 rfl rfl<|oM 1 rfl<|oxN sl_98 ti_136 (aO 1 rfl) _ om9 rfl<|oM 1 rfl<|.nl)<|nK k12<|sG (oM 1 rfl<|ormN _ 8 om9 rfl<|oM 1 rfl<|.nl)<|gK fun _ k15=>sG (oM 1 rfl<|ogtN _ 0 rfl<|.nl)<|?_;clear h10
 refine gcd rfl (fun hb17 hp17=> ?_) fun hb17 hp17=> ?_
 ·skip
  have hwk:=hwt (mv%8-1) (by omega)
  refine sK fun _ k18=>gNl (aO 3 rfl) fun hl19=>gRn (oM 2 rfl<|onl rfl<|ofE fl_136_2 rfl<|oV (Rn.same (r_lde (s:=thr) (i:=mv/8) (v:=((nth thr.l (mv/8)).wv)) ti_134 rfl rfl rfl (fun w h=>(h.own 1 rfl)) (show mv/8<thr.l.length from om9) (Nat.le_of_ble_eq_true rfl) rfl) hwv) rfl<|oM 1 rfl<|osbN _ 1 om9 rfl<|oxN sl_134 ti_144 (aO 3 rfl) _ om9 rfl<|olw2 [.bool ((nth wait.l ((mv%8)-1)).lock), .int .i64 ((nth wait.l ((mv%8)-1)).wh), .int .i64 ((nth wait.l ((mv%8)-1)).what)] ti_144 (aO 3 rfl) om9 rfl<|.nl)<|gO [0,4,5,1,2,3,6,7] rfl<|gM 3 rfl (fun _ _ h_=>xCl h_ bd_83 rfl (done_c _ _ (nth wait.l ((mv%8)-1)) words owner _ _ _ _ _ _ _ _ _ (pKl 3 h_ rfl) hwk)) rfl<|?_
  rintro _ _ w22 ⟨rfl,hs22⟩
  refine gBk hs22 rfl<|gU<|nK k18<|gF [5,6] rfl<|gK fun _ k23=>rT 14 [0] (oM 2 rfl<|onl rfl<|ofE fl_136_2 rfl<|oV (Rn.same (r_lde (s:=thr) (i:=mv/8) (v:=((nth thr.l (mv/8)).wv)) ti_134 rfl rfl rfl (fun w h=>(h.own 3 rfl)) (show mv/8<thr.l.length from om9) (Nat.le_of_ble_eq_true rfl) rfl) hwv) rfl<|oM 1 rfl<|osbN _ 1 om9 rfl<|oV (r_slH (s:=wait) (j:=(mv%8)-1) sl_134 ti_144 rfl rfl rfl (fun w h=>(h.own 5 rfl)) (show (mv%8)-1≤wait.l.length from om9) (show 0<wait.l.length from om9)) rfl<|oM 1 rfl<|onl rfl<|ofE fl_136_2 rfl<|oV (Rn.same (r_lde (s:=thr) (i:=mv/8) (v:=((nth thr.l (mv/8)).wv)) ti_134 rfl rfl rfl (fun w h=>(h.own 3 rfl)) (show mv/8<thr.l.length from om9) (Nat.le_of_ble_eq_true rfl) rfl) hwv) rfl<|oM 1 rfl<|oV (r_slL (s:=wait) (k:=mv%8) sl_134 ti_144 rfl rfl rfl (fun w h=>(h.own 5 rfl)) (show mv%8≤wait.l.length from om9)) rfl<|.nl)<|gE1 (fun _ _ h_=>x_del (r:=5) (j:=(mv%8)-1) (k:=mv%8) (s:=wait) h_ sl_134 ti_144 rfl rfl rfl rfl rfl rfl inferInstance (show (mv%8)-1≤mv%8∧mv%8≤wait.l.length∧0<wait.l.length from om9) rfl rfl) rfl fun v24=>gRn (onl rfl<|ofE fl_136_2 rfl<|.nl)<|gtr 3 ({ nth thr.l (mv/8) with wv:=v24 } :ThV) ti_134 om9 (aO 5 rfl) rfl<|nK k23<|gR<|uT<|fun a26 w26 h26=> ?_;clear hs22
  refine x_ret0 (fn:=Try.f50) rfl h26<|⟨rfl,⟨regs.v,regs.l⟩,⟨v24,wait.l.take ((mv%8)-1)++wait.l.drop (mv%8)⟩,⟨words.v,if (nth wait.l ((mv%8)-1)).lock=true then words.l else words.l.set (nth wait.l ((mv%8)-1)).wh.toNat (nth wait.l ((mv%8)-1)).what⟩,⟨owner.v,if (nth wait.l ((mv%8)-1)).lock=true then owner.l.set (nth wait.l ((mv%8)-1)).wh.toNat (-1) else owner.l⟩,⟨prints.v,prints.l⟩,(nth thr.l (mv/8)).pc,fell, ?_, ?_⟩
  · rw [doT_k (by omega)];rfl
  ·have hz:=(h26.sh.sel (L' := [_,_,_,_,_,_,_,_]) [0,3,4,5,1,2,6,7] rfl)
   rw [thset_w0 hrv] at hz;exact hz
 refine gS<|hK k15<|sK fun _ k27=>gRn (oM 2 rfl<|.nl)<|fun a29 w29 h29=>wl_ex (x_call h29 bd_80 rfl rfl rfl rfl rfl (next_c g (mv/8) code thr _ _ _ _ _ _ _ _ _ (h29.sh.blk 0 rfl) (h29.sh.at 7 rfl) (h29.sh.own 1 rfl) htc ht (by omega))) (wanted_none rfl _) ?_
 rintro a30 w30 ⟨_,⟨hv30,hs30⟩,hf30⟩
 obtain ⟨ins,hins⟩:∃i,i=nextIns (nth code.l (mv/8)).l (nth thr.l (mv/8)).pc:=⟨_,rfl⟩
 rw [←hins] at hv30
 subst hv30
 have hR:=hio (by omega)
 rw [←hins] at hR
 have h30:St 384 K W a30 w30 _ _:=⟨hf30,h29.sh.call0 hs30⟩
 clear hf30 hs30
 clear h29
 refine gG h30<|gRn (oM 1 rfl<|oxt rfl<|oxt rfl<|.nl)<|gal ti_47 rfl fun b31=>gsw 0 ti_47 rfl rfl rfl<|gRn (oM 1 rfl<|.nl)<|nK k27<|sK fun _ k33=>gRn (oM 1 rfl<|onl rfl<|ofE fl_136_0 rfl<|olI ti_3 (aO 2 rfl) om9 rfl<|oadI _ _ om9 rfl<|onl rfl<|ofE fl_136_0 rfl<|.nl)<|gte 2 ({ nth thr.l (mv/8) with pc:=((nth thr.l (mv/8)).pc)+1 } :ThV) ti_3 om9 rfl rfl<|nK k33<|gF [0,4,5,7] rfl<|?_;clear h30
 obtain ⟨tl,htl⟩:∃tl,tl=thr.l.set (mv/8) ({ nth thr.l (mv/8) with pc:=((nth thr.l (mv/8)).pc)+1 }):=⟨_,rfl⟩
 intro a35 w35 h35
 have h359:=h35.relist (i:=2) (l' :=tl) rfl htl.symm
 clear h35
 rw [thset_0 hrv hwv] at htl
 have htll:tl.length=thr.l.length:=by rw [htl,List.length_set]
 have hrv2:(nth tl (mv/8)).rv=regs.v:=by rw [htl,nth_set,if_pos ⟨rfl,ht⟩]
 have hwv2:(nth tl (mv/8)).wv=wait.v:=by rw [htl,nth_set,if_pos ⟨rfl,ht⟩]
 refine gG h359<|sG (oM 1 rfl<|onl rfl<|ofE fl_136_1 rfl<|oV (Rn.same (r_lde (s:=(⟨thr.v,tl⟩:Ls ThV)) (i:=mv/8) (v:=((nth tl (mv/8)).rv)) ti_23 rfl rfl rfl (fun w h=>(h.own 2 rfl)) (show mv/8<tl.length from om9) (Nat.le_of_ble_eq_true rfl) rfl) hrv2) rfl<|oM 1 rfl<|.nl)<|sG (ofB fl_47_0 rfl<|olB 0 ti_3 rfl rfl<|.nl)<|gB<|sG (oeqI _ _ rfl<|oM 1 rfl<|.nl)<|?_;clear h359
 refine gcd rfl (fun hb39 hp39=> ?_) fun hb39 hp39=> ?_
 ·skip
  have q9:=hR.o1 (by omega)
  refine gL<|gNl (aO 3 rfl) fun hl40=>gRn (oM 1 rfl<|ofB fl_47_1 rfl<|olB 0 ti_3 rfl rfl<|ofB fl_47_2 rfl<|olB 0 ti_3 rfl rfl<|oxI sl_23 ti_3 (aO 3 rfl) om9 rfl<|.nl)<|gte 3 (ins.b:Int) ti_3 om9 rfl rfl<|nN<|fun a42 w42 h42=> ?_
  try simp only [Exit.then,Exit.inBlock,if_true]
  refine x_end0 (fn:=Try.f50) rfl h42<|⟨rfl,⟨regs.v,regs.l.set ins.a.toNat ins.b⟩,⟨wait.v,wait.l⟩,⟨words.v,words.l⟩,⟨owner.v,owner.l⟩,⟨prints.v,prints.l⟩,(nth thr.l (mv/8)).pc+1,fell, ?_, ?_⟩
  · refine Eq.trans ?_ (doT_0 (by omega)).symm;show _=execT mode (mv/8) (nextIns (nth code.l (mv/8)).l (nth thr.l (mv/8)).pc) _;rw [←hins];(refine Eq.trans ?_ (execT_1 (by assumption)).symm;rfl)
  ·have hz:=(h42.sh.sel (L' := [_,_,_,_,_,_,_,_]) [1,2,3,4,5,6,7,8] rfl)
   rw [htl] at hz;exact hz
 refine sG (oeqI _ _ rfl<|oM 1 rfl<|.nl)<|gcd rfl (fun hb44 hp44=> ?_) fun hb44 hp44=> ?_
 ·skip
  have q9:=hR.o2 (by omega)
  refine gNl (aO 3 rfl) fun hl45=>rT 9 [] (oM 1 rfl<|ofB fl_47_1 rfl<|olB 0 ti_3 rfl rfl<|oM 1 rfl<|ofB fl_47_2 rfl<|olB 0 ti_3 rfl rfl<|oxI sl_23 ti_3 (aO 3 rfl) om9 rfl<|olI ti_3 (aO 3 rfl) om9 rfl<|oxI sl_23 ti_3 (aO 3 rfl) om9 rfl<|.nl)<|gte 3 (nth regs.l ins.b.toNat:Int) ti_3 om9 rfl rfl<|nN<|fun a47 w47 h47=> ?_
  try simp only [Exit.then,Exit.inBlock,if_true]
  refine x_end0 (fn:=Try.f50) rfl h47<|⟨rfl,⟨regs.v,regs.l.set ins.a.toNat (nth regs.l ins.b.toNat)⟩,⟨wait.v,wait.l⟩,⟨words.v,words.l⟩,⟨owner.v,owner.l⟩,⟨prints.v,prints.l⟩,(nth thr.l (mv/8)).pc+1,fell, ?_, ?_⟩
  · refine Eq.trans ?_ (doT_0 (by omega)).symm;show _=execT mode (mv/8) (nextIns (nth code.l (mv/8)).l (nth thr.l (mv/8)).pc) _;rw [←hins];(refine Eq.trans ?_ (execT_2 (by assumption)).symm;rfl)
  ·have hz:=(h47.sh.sel (L' := [_,_,_,_,_,_,_,_]) [1,2,3,4,5,6,7,8] rfl)
   rw [htl] at hz;exact hz
 refine sG (oeqI _ _ rfl<|oM 1 rfl<|.nl)<|gcd rfl (fun hb49 hp49=> ?_) fun hb49 hp49=> ?_
 ·skip
  have q9:=hR.o3 (by omega)
  refine gNl (aO 3 rfl) fun hl50=>rT 15 [] (oM 1 rfl<|ofB fl_47_1 rfl<|olB 0 ti_3 rfl rfl<|oM 1 rfl<|ofB fl_47_2 rfl<|olB 0 ti_3 rfl rfl<|oxI sl_23 ti_3 (aO 3 rfl) om9 rfl<|olI ti_3 (aO 3 rfl) om9 rfl<|oM 1 rfl<|ofB fl_47_3 rfl<|olB 0 ti_3 rfl rfl<|oxI sl_23 ti_3 (aO 3 rfl) om9 rfl<|olI ti_3 (aO 3 rfl) om9 rfl<|oV (r_addW (p:=nth regs.l ins.b.toNat) (q:=nth regs.l ins.c.toNat) rfl rfl rfl) rfl<|oxI sl_23 ti_3 (aO 3 rfl) om9 rfl<|.nl)<|gte 3 (wrap64 ((nth regs.l ins.b.toNat)+(nth regs.l ins.c.toNat)):Int) ti_3 om9 rfl rfl<|nN<|fun a52 w52 h52=> ?_
  try simp only [Exit.then,Exit.inBlock,if_true]
  refine x_end0 (fn:=Try.f50) rfl h52<|⟨rfl,⟨regs.v,regs.l.set ins.a.toNat (wrap64 ((nth regs.l ins.b.toNat)+(nth regs.l ins.c.toNat)))⟩,⟨wait.v,wait.l⟩,⟨words.v,words.l⟩,⟨owner.v,owner.l⟩,⟨prints.v,prints.l⟩,(nth thr.l (mv/8)).pc+1,fell, ?_, ?_⟩
  · refine Eq.trans ?_ (doT_0 (by omega)).symm;show _=execT mode (mv/8) (nextIns (nth code.l (mv/8)).l (nth thr.l (mv/8)).pc) _;rw [←hins];(refine Eq.trans ?_ (execT_3 (by assumption)).symm;rfl)
  ·have hz:=(h52.sh.sel (L' := [_,_,_,_,_,_,_,_]) [1,2,3,4,5,6,7,8] rfl)
   rw [htl] at hz;exact hz
 refine sG (oeqI _ _ rfl<|oM 1 rfl<|.nl)<|gcd rfl (fun hb54 hp54=> ?_) fun hb54 hp54=> ?_
 ·skip
  have q9:=hR.o3 (by omega)
  refine gNl (aO 3 rfl) fun hl55=>rT 15 [] (oM 1 rfl<|ofB fl_47_1 rfl<|olB 0 ti_3 rfl rfl<|oM 1 rfl<|ofB fl_47_2 rfl<|olB 0 ti_3 rfl rfl<|oxI sl_23 ti_3 (aO 3 rfl) om9 rfl<|olI ti_3 (aO 3 rfl) om9 rfl<|oM 1 rfl<|ofB fl_47_3 rfl<|olB 0 ti_3 rfl rfl<|oxI sl_23 ti_3 (aO 3 rfl) om9 rfl<|olI ti_3 (aO 3 rfl) om9 rfl<|oV (r_subW (p:=nth regs.l ins.b.toNat) (q:=nth regs.l ins.c.toNat) rfl rfl rfl) rfl<|oxI sl_23 ti_3 (aO 3 rfl) om9 rfl<|.nl)<|gte 3 (wrap64 ((nth regs.l ins.b.toNat)-(nth regs.l ins.c.toNat)):Int) ti_3 om9 rfl rfl<|nN<|fun a57 w57 h57=> ?_
  try simp only [Exit.then,Exit.inBlock,if_true]
  refine x_end0 (fn:=Try.f50) rfl h57<|⟨rfl,⟨regs.v,regs.l.set ins.a.toNat (wrap64 ((nth regs.l ins.b.toNat)-(nth regs.l ins.c.toNat)))⟩,⟨wait.v,wait.l⟩,⟨words.v,words.l⟩,⟨owner.v,owner.l⟩,⟨prints.v,prints.l⟩,(nth thr.l (mv/8)).pc+1,fell, ?_, ?_⟩
  · refine Eq.trans ?_ (doT_0 (by omega)).symm;show _=execT mode (mv/8) (nextIns (nth code.l (mv/8)).l (nth thr.l (mv/8)).pc) _;rw [←hins];(refine Eq.trans ?_ (execT_4 (by assumption)).symm;rfl)
  ·have hz:=(h57.sh.sel (L' := [_,_,_,_,_,_,_,_]) [1,2,3,4,5,6,7,8] rfl)
   rw [htl] at hz;exact hz
 refine sG (oeqI _ _ rfl<|oM 1 rfl<|.nl)<|gcd rfl (fun hb59 hp59=> ?_) fun hb59 hp59=> ?_
 ·skip
  have q9:=hR.o3 (by omega)
  refine gNl (aO 3 rfl) fun hl60=>rT 15 [] (oM 1 rfl<|ofB fl_47_1 rfl<|olB 0 ti_3 rfl rfl<|oM 1 rfl<|ofB fl_47_2 rfl<|olB 0 ti_3 rfl rfl<|oxI sl_23 ti_3 (aO 3 rfl) om9 rfl<|olI ti_3 (aO 3 rfl) om9 rfl<|oM 1 rfl<|ofB fl_47_3 rfl<|olB 0 ti_3 rfl rfl<|oxI sl_23 ti_3 (aO 3 rfl) om9 rfl<|olI ti_3 (aO 3 rfl) om9 rfl<|oV (r_mulW (p:=nth regs.l ins.b.toNat) (q:=nth regs.l ins.c.toNat) rfl rfl rfl) rfl<|oxI sl_23 ti_3 (aO 3 rfl) om9 rfl<|.nl)<|gte 3 (wrap64 ((nth regs.l ins.b.toNat)*(nth regs.l ins.c.toNat)):Int) ti_3 om9 rfl rfl<|nN<|fun a62 w62 h62=> ?_
  try simp only [Exit.then,Exit.inBlock,if_true]
  refine x_end0 (fn:=Try.f50) rfl h62<|⟨rfl,⟨regs.v,regs.l.set ins.a.toNat (wrap64 ((nth regs.l ins.b.toNat)*(nth regs.l ins.c.toNat)))⟩,⟨wait.v,wait.l⟩,⟨words.v,words.l⟩,⟨owner.v,owner.l⟩,⟨prints.v,prints.l⟩,(nth thr.l (mv/8)).pc+1,fell, ?_, ?_⟩
  · refine Eq.trans ?_ (doT_0 (by omega)).symm;show _=execT mode (mv/8) (nextIns (nth code.l (mv/8)).l (nth thr.l (mv/8)).pc) _;rw [←hins];(refine Eq.trans ?_ (execT_5 (by assumption)).symm;rfl)
  ·have hz:=(h62.sh.sel (L' := [_,_,_,_,_,_,_,_]) [1,2,3,4,5,6,7,8] rfl)
   rw [htl] at hz;exact hz
 refine sG (oeqI _ _ rfl<|oM 1 rfl<|.nl)<|gcd rfl (fun hb64 hp64=> ?_) fun hb64 hp64=> ?_
 ·skip
  have q9:=hR.o3 (by omega)
  intro a66 w66 h66
  refine x_tail 16 [] (by kernel_rfl) (by kernel_rfl) h66 fun _ z67=>qQ h66.fr<|qRn (oM 1 rfl<|ofB fl_47_1 rfl<|olB 0 ti_3 rfl rfl<|oM 1 rfl<|ofB fl_47_2 rfl<|olB 0 ti_3 rfl rfl<|.nl)<|?_
  have hl68:regs.l.length≤140737488355328:=(h66.sh.own 3 rfl).len
  refine qRn (oxI sl_23 ti_3 (aO 3 rfl) om9 rfl<|olI ti_3 (aO 3 rfl) om9 rfl<|oM 1 rfl<|ofB fl_47_3 rfl<|olB 0 ti_3 rfl rfl<|oxI sl_23 ti_3 (aO 3 rfl) om9 rfl<|olI ti_3 (aO 3 rfl) om9 rfl<|oltI _ _ rfl<|.nl)<|qP bd_84 rfl (fun w h=>(bit_c (decide (nth regs.l ins.b.toNat<nth regs.l ins.c.toNat)) _))<|qRn (oxI sl_23 ti_3 (aO 3 rfl) om9 rfl<|.nl)<|qN z67<|gte 3 (bit (decide (nth regs.l ins.b.toNat<nth regs.l ins.c.toNat)):Int) ti_3 om9 rfl rfl<|nN<|fun a70 w70 h70=> ?_;clear h66
  try simp only [Exit.then,Exit.inBlock,if_true]
  refine x_end0 (fn:=Try.f50) rfl h70<|⟨rfl,⟨regs.v,regs.l.set ins.a.toNat (bit (decide (nth regs.l ins.b.toNat<nth regs.l ins.c.toNat)))⟩,⟨wait.v,wait.l⟩,⟨words.v,words.l⟩,⟨owner.v,owner.l⟩,⟨prints.v,prints.l⟩,(nth thr.l (mv/8)).pc+1,fell, ?_, ?_⟩
  · refine Eq.trans ?_ (doT_0 (by omega)).symm;show _=execT mode (mv/8) (nextIns (nth code.l (mv/8)).l (nth thr.l (mv/8)).pc) _;rw [←hins];(refine Eq.trans ?_ (execT_6 (by assumption)).symm;rfl)
  ·have hz:=(h70.sh.sel (L' := [_,_,_,_,_,_,_,_]) [1,2,3,4,5,6,7,8] rfl)
   rw [htl] at hz;exact hz
 refine sG (oeqI _ _ rfl<|oM 1 rfl<|.nl)<|gcd rfl (fun hb72 hp72=> ?_) fun hb72 hp72=> ?_
 ·skip
  have q9:=hR.o3 (by omega)
  intro a74 w74 h74
  refine x_tail 16 [] (by kernel_rfl) (by kernel_rfl) h74 fun _ z75=>qQ h74.fr<|qRn (oM 1 rfl<|ofB fl_47_1 rfl<|olB 0 ti_3 rfl rfl<|oM 1 rfl<|ofB fl_47_2 rfl<|olB 0 ti_3 rfl rfl<|.nl)<|?_
  have hl76:regs.l.length≤140737488355328:=(h74.sh.own 3 rfl).len
  refine qRn (oxI sl_23 ti_3 (aO 3 rfl) om9 rfl<|olI ti_3 (aO 3 rfl) om9 rfl<|oM 1 rfl<|ofB fl_47_3 rfl<|olB 0 ti_3 rfl rfl<|oxI sl_23 ti_3 (aO 3 rfl) om9 rfl<|olI ti_3 (aO 3 rfl) om9 rfl<|oeqI _ _ rfl<|.nl)<|qP bd_84 rfl (fun w h=>(bit_c (decide (nth regs.l ins.b.toNat=nth regs.l ins.c.toNat)) _))<|qRn (oxI sl_23 ti_3 (aO 3 rfl) om9 rfl<|.nl)<|qN z75<|gte 3 (bit (decide (nth regs.l ins.b.toNat=nth regs.l ins.c.toNat)):Int) ti_3 om9 rfl rfl<|nN<|fun a78 w78 h78=> ?_;clear h74
  try simp only [Exit.then,Exit.inBlock,if_true]
  refine x_end0 (fn:=Try.f50) rfl h78<|⟨rfl,⟨regs.v,regs.l.set ins.a.toNat (bit (decide (nth regs.l ins.b.toNat=nth regs.l ins.c.toNat)))⟩,⟨wait.v,wait.l⟩,⟨words.v,words.l⟩,⟨owner.v,owner.l⟩,⟨prints.v,prints.l⟩,(nth thr.l (mv/8)).pc+1,fell, ?_, ?_⟩
  · refine Eq.trans ?_ (doT_0 (by omega)).symm;show _=execT mode (mv/8) (nextIns (nth code.l (mv/8)).l (nth thr.l (mv/8)).pc) _;rw [←hins];(refine Eq.trans ?_ (execT_7 (by assumption)).symm;rfl)
  ·have hz:=(h78.sh.sel (L' := [_,_,_,_,_,_,_,_]) [1,2,3,4,5,6,7,8] rfl)
   rw [htl] at hz;exact hz
 refine sG (oeqI _ _ rfl<|oM 1 rfl<|.nl)<|gcd rfl (fun hb80 hp80=> ?_) fun hb80 hp80=> ?_
 ·skip
  have q9:=hR.o8 (by omega)
  intro a81 w81 h81
  refine x_tail 9 [] (by kernel_rfl) (by kernel_rfl) h81 fun _ z82=>qQ h81.fr<|qRn (oM 1 rfl<|ofB fl_47_1 rfl<|olB 0 ti_3 rfl rfl<|oM 2 rfl<|ofB fl_47_2 rfl<|olB 0 ti_3 rfl rfl<|.nl)<|qP bd_85 rfl (fun w h=>(finds_c g (mv/8) ins.b (⟨thr.v,tl⟩:Ls ThV) words wait _ _ _ _ _ _ _ _ _ (h.blk 1 rfl) (h.own 2 rfl) (h.own 5 rfl) (h.own 4 rfl) (show mv/8<tl.length by omega) hwv2 (by omega)))<|?_
  have hl83:regs.l.length≤140737488355328:=(h81.sh.own 3 rfl).len
  refine qRn (oxI sl_23 ti_3 (aO 3 rfl) om9 rfl<|.nl)<|qN z82<|gte 3 (findsL wait.l words.l ins.b:Int) ti_3 om9 rfl rfl<|nN<|fun a85 w85 h85=> ?_;clear h81
  try simp only [Exit.then,Exit.inBlock,if_true]
  refine x_end0 (fn:=Try.f50) rfl h85<|⟨rfl,⟨regs.v,regs.l.set ins.a.toNat (findsL wait.l words.l ins.b)⟩,⟨wait.v,wait.l⟩,⟨words.v,words.l⟩,⟨owner.v,owner.l⟩,⟨prints.v,prints.l⟩,(nth thr.l (mv/8)).pc+1,fell, ?_, ?_⟩
  · refine Eq.trans ?_ (doT_0 (by omega)).symm;show _=execT mode (mv/8) (nextIns (nth code.l (mv/8)).l (nth thr.l (mv/8)).pc) _;rw [←hins];(refine Eq.trans ?_ (execT_8 (by assumption)).symm;rfl)
  ·have hz:=(h85.sh.sel (L' := [_,_,_,_,_,_,_,_]) [1,2,3,4,5,6,7,8] rfl)
   rw [htl] at hz;exact hz
 refine sG (oeqI _ _ rfl<|oM 1 rfl<|.nl)<|gcd rfl (fun hb87 hp87=> ?_) fun hb87 hp87=> ?_
 ·skip
  have q9:=hR.o9 (by omega)
  refine gNl (aO 3 rfl) fun hl88=>rT 10 [] (oM 2 rfl<|ofB fl_47_1 rfl<|olB 0 ti_3 rfl rfl<|oM 1 rfl<|ofB fl_47_2 rfl<|olB 0 ti_3 rfl rfl<|oxI sl_23 ti_3 (aO 3 rfl) om9 rfl<|olI ti_3 (aO 3 rfl) om9 rfl<|oV (r_build (cs:= [.bool false, .int .i64 ins.a, .int .i64 (nth regs.l ins.b.toNat)]) rfl rfl (by kernel_rfl)) rfl<|.nl)<|gO [1,2,4,5,6,0,3,7,8] rfl<|gM 5 rfl (fun _ _ h_=>xCl h_ bd_86 rfl (store_c _ _ (mv/8) (⟨false,ins.a,nth regs.l ins.b.toNat⟩:Wt) (⟨thr.v,tl⟩:Ls ThV) wait words owner _ _ _ _ _ _ _ _ (pKl 5 h_ rfl) (by first|(simp only [if_true];omega)|(simp only [Bool.false_eq_true,if_false];omega)) (show mv/8<tl.length by omega) hwv2 (by omega))) rfl<|?_
  rintro _ _ w91 ⟨rfl,wait91,words91,owner91,hst,hs91⟩
  refine gBk hs91 rfl<|gU<|nN<|fun a92 w92 h92=> ?_;clear hs91
  try simp only [Exit.then,Exit.inBlock,if_true]
  refine x_end0 (fn:=Try.f50) rfl h92<|⟨rfl,⟨regs.v,regs.l⟩,⟨wait91.v,wait91.l⟩,⟨words91.v,words91.l⟩,⟨owner91.v,owner91.l⟩,⟨prints.v,prints.l⟩,(nth thr.l (mv/8)).pc+1,fell, ?_, ?_⟩
  · refine Eq.trans ?_ (doT_0 (by omega)).symm;show _=execT mode (mv/8) (nextIns (nth code.l (mv/8)).l (nth thr.l (mv/8)).pc) _;rw [←hins];exact Eq.trans (store_eq hst) (execT_9 (by assumption)).symm
  ·have hz:=(h92.sh.sel (L' := [_,_,_,_,_,_,_,_]) [0,1,6,2,3,4,7,8] rfl)
   rw [thset_wv ht htl] at hz;exact hz
 refine sG (oeqI _ _ rfl<|oM 1 rfl<|.nl)<|gF [0,4,5,7,9,70,201] rfl<|gcd rfl (fun hb94 hp94=> ?_) fun hb94 hp94=> ?_
 ·skip
  have q9:=hR.o10 (by omega)
  refine sK fun _ k95=>gNl (aO 3 rfl) fun hl96=>gRn (oM 2 rfl<|ofB fl_47_2 rfl<|olB 0 ti_3 rfl rfl<|oxI sl_23 ti_3 (aO 3 rfl) om9 rfl<|olI ti_3 (aO 3 rfl) om9 rfl<|.nl)<|gO [1,5,0,2,3,4,6,7,8] rfl<|gM 2 rfl (fun _ _ h_=>xCl h_ bd_87 rfl (word_c _ _ (nth regs.l ins.b.toNat) _ _ _ _ _ _ _ _ _ _ _ (pKl 2 h_ rfl))) rfl<|?_
  rintro _ _ w99 ⟨rfl,hs99⟩
  refine gBk hs99 rfl<|gU<|gRn (oM 1 rfl<|.nl)<|nK k95<|sG (oM 1 rfl<|.nl)<|?_;clear hs99
  refine gcd rfl (fun hb101 hp101=> ?_) fun hb101 hp101=> ?_
  ·skip
   intro a102 w102 h102
   refine x_tail 12 [] (by kernel_rfl) (by kernel_rfl) h102 fun _ z103=>qQ h102.fr<|qRn (oM 1 rfl<|ofB fl_47_1 rfl<|olB 2 ti_3 rfl rfl<|oM 3 rfl<|ofB fl_47_2 rfl<|olB 2 ti_3 rfl rfl<|oxI sl_23 ti_3 (aO 4 rfl) om9 rfl<|olI ti_3 (aO 4 rfl) om9 rfl<|.nl)<|qP bd_85 rfl (fun w h=>(finds_c g (mv/8) (nth regs.l ins.b.toNat) (⟨thr.v,tl⟩:Ls ThV) words wait _ _ _ _ _ _ _ _ _ (h.blk 0 rfl) (h.own 3 rfl) (h.own 1 rfl) (h.own 5 rfl) (show mv/8<tl.length by omega) hwv2 (by omega)))<|qRn (oxI sl_23 ti_3 (aO 4 rfl) om9 rfl<|.nl)<|qN z103<|gte 4 (findsL wait.l words.l (nth regs.l ins.b.toNat):Int) ti_3 om9 rfl rfl<|nN<|fun a105 w105 h105=> ?_;clear h102
   try simp only [Exit.then,Exit.inBlock,if_true]
   refine x_end0 (fn:=Try.f50) rfl h105 ?_
   have hf9:(fell|| !decide (0≤nth regs.l ins.b.toNat∧nth regs.l ins.b.toNat<(words.l.length:Int)))=fell:=or_f hb101
   refine ⟨rfl,⟨regs.v,regs.l.set ins.a.toNat (findsL wait.l words.l (nth regs.l ins.b.toNat))⟩,⟨wait.v,wait.l⟩,⟨words.v,words.l⟩,⟨owner.v,owner.l⟩,⟨prints.v,prints.l⟩,(nth thr.l (mv/8)).pc+1,fell, ?_, ?_⟩
   · refine Eq.trans ?_ (doT_0 (by omega)).symm;show _=execT mode (mv/8) (nextIns (nth code.l (mv/8)).l (nth thr.l (mv/8)).pc) _;rw [←hins];first|(refine Eq.trans ?_ (execT_10t (by assumption) (by assumption)).symm;rfl)|(refine Eq.trans ?_ (execT_10f (by assumption) (by assumption)).symm;rfl)
   ·have hz:=(h105.sh.sel (L' := [_,_,_,_,_,_,_,_]) [0,3,4,5,1,6,7,8] rfl)
    rw [hf9,htl] at hz;exact hz
  refine gS<|fun a106 w106 h106=> ?_
  try simp only [Exit.then,Exit.inBlock,if_true]
  refine x_end0 (fn:=Try.f50) rfl h106 ?_
  have hf9:(fell|| !decide (0≤nth regs.l ins.b.toNat∧nth regs.l ins.b.toNat<(words.l.length:Int)))=true:=or_t hb101
  refine ⟨rfl,⟨regs.v,regs.l⟩,⟨wait.v,wait.l⟩,⟨words.v,words.l⟩,⟨owner.v,owner.l⟩,⟨prints.v,prints.l⟩,(nth thr.l (mv/8)).pc+1,true, ?_, ?_⟩
  · refine Eq.trans ?_ (doT_0 (by omega)).symm;show _=execT mode (mv/8) (nextIns (nth code.l (mv/8)).l (nth thr.l (mv/8)).pc) _;rw [←hins];first|(refine Eq.trans ?_ (execT_10t (by assumption) (by assumption)).symm;rfl)|(refine Eq.trans ?_ (execT_10f (by assumption) (by assumption)).symm;rfl)
  ·have hz:=(h106.sh.sel (L' := [_,_,_,_,_,_,_,_]) [0,3,4,5,1,6,7,8] rfl)
   rw [hf9,htl] at hz;exact hz
 refine sG (oeqI _ _ rfl<|oM 1 rfl<|.nl)<|gcd rfl (fun hb108 hp108=> ?_) fun hb108 hp108=> ?_
 ·skip
  have q9:=hR.o10 (by omega)
  refine sK fun _ k109=>gNl (aO 3 rfl) fun hl110=>gRn (oM 2 rfl<|ofB fl_47_1 rfl<|olB 0 ti_3 rfl rfl<|oxI sl_23 ti_3 (aO 3 rfl) om9 rfl<|olI ti_3 (aO 3 rfl) om9 rfl<|.nl)<|gO [1,5,0,2,3,4,6,7,8] rfl<|gM 2 rfl (fun _ _ h_=>xCl h_ bd_87 rfl (word_c _ _ (nth regs.l ins.a.toNat) _ _ _ _ _ _ _ _ _ _ _ (pKl 2 h_ rfl))) rfl<|?_
  rintro _ _ w113 ⟨rfl,hs113⟩
  refine gBk hs113 rfl<|gU<|gRn (oM 1 rfl<|.nl)<|nK k109<|sG (oM 1 rfl<|.nl)<|?_;clear hs113
  refine gcd rfl (fun hb115 hp115=> ?_) fun hb115 hp115=> ?_
  ·skip
   refine rT 13 [] (oM 3 rfl<|ofB fl_47_1 rfl<|olB 2 ti_3 rfl rfl<|oxI sl_23 ti_3 (aO 4 rfl) om9 rfl<|olI ti_3 (aO 4 rfl) om9 rfl<|oM 1 rfl<|ofB fl_47_2 rfl<|olB 2 ti_3 rfl rfl<|oxI sl_23 ti_3 (aO 4 rfl) om9 rfl<|olI ti_3 (aO 4 rfl) om9 rfl<|oV (r_build (cs:= [.bool false, .int .i64 (nth regs.l ins.a.toNat), .int .i64 (nth regs.l ins.b.toNat)]) rfl rfl (by kernel_rfl)) rfl<|.nl)<|gO [0,3,5,1,6,2,4,7,8] rfl<|gM 5 rfl (fun _ _ h_=>xCl h_ bd_86 rfl (store_c _ _ (mv/8) (⟨false,nth regs.l ins.a.toNat,nth regs.l ins.b.toNat⟩:Wt) (⟨thr.v,tl⟩:Ls ThV) wait words owner _ _ _ _ _ _ _ _ (pKl 5 h_ rfl) (by first|(simp only [if_true];omega)|(simp only [Bool.false_eq_true,if_false];omega)) (show mv/8<tl.length by omega) hwv2 (by omega))) rfl<|?_
   rintro _ _ w118 ⟨rfl,wait118,words118,owner118,hst,hs118⟩
   refine gBk hs118 rfl<|gU<|nN<|fun a119 w119 h119=> ?_;clear hs118
   try simp only [Exit.then,Exit.inBlock,if_true]
   refine x_end0 (fn:=Try.f50) rfl h119 ?_
   have hf9:(fell|| !decide (0≤nth regs.l ins.a.toNat∧nth regs.l ins.a.toNat<(words.l.length:Int)))=fell:=or_f hb115
   refine ⟨rfl,⟨regs.v,regs.l⟩,⟨wait118.v,wait118.l⟩,⟨words118.v,words118.l⟩,⟨owner118.v,owner118.l⟩,⟨prints.v,prints.l⟩,(nth thr.l (mv/8)).pc+1,fell, ?_, ?_⟩
   · refine Eq.trans ?_ (doT_0 (by omega)).symm;show _=execT mode (mv/8) (nextIns (nth code.l (mv/8)).l (nth thr.l (mv/8)).pc) _;rw [←hins];first|exact Eq.trans (store_eq hst) (execT_11t (by assumption) (by assumption)).symm|(refine Eq.trans ?_ (execT_11f (by assumption) (by assumption)).symm;rfl)
   ·have hz:=(h119.sh.sel (L' := [_,_,_,_,_,_,_,_]) [0,1,6,2,3,4,7,8] rfl)
    rw [hf9,thset_wv ht htl] at hz;exact hz
  refine gS<|fun a120 w120 h120=> ?_
  try simp only [Exit.then,Exit.inBlock,if_true]
  refine x_end0 (fn:=Try.f50) rfl h120 ?_
  have hf9:(fell|| !decide (0≤nth regs.l ins.a.toNat∧nth regs.l ins.a.toNat<(words.l.length:Int)))=true:=or_t hb115
  refine ⟨rfl,⟨regs.v,regs.l⟩,⟨wait.v,wait.l⟩,⟨words.v,words.l⟩,⟨owner.v,owner.l⟩,⟨prints.v,prints.l⟩,(nth thr.l (mv/8)).pc+1,true, ?_, ?_⟩
  · refine Eq.trans ?_ (doT_0 (by omega)).symm;show _=execT mode (mv/8) (nextIns (nth code.l (mv/8)).l (nth thr.l (mv/8)).pc) _;rw [←hins];first|exact Eq.trans (store_eq hst) (execT_11t (by assumption) (by assumption)).symm|(refine Eq.trans ?_ (execT_11f (by assumption) (by assumption)).symm;rfl)
  ·have hz:=(h120.sh.sel (L' := [_,_,_,_,_,_,_,_]) [0,3,4,5,1,6,7,8] rfl)
   rw [hf9,htl] at hz;exact hz
 refine sG (oeqI _ _ rfl<|oM 1 rfl<|.nl)<|gcd rfl (fun hb122 hp122=> ?_) fun hb122 hp122=> ?_
 ·skip
  have q9:=hR.o13 (by omega)
  refine gK fun _ k123=>gNl (aO 5 rfl) fun hl124=>gNl (aO 3 rfl) fun hl125=>rQ (oM 1 rfl<|onfl 1 fl_100_3 ti_23 rfl rfl<|ofB fl_47_1 rfl<|olB 0 ti_3 rfl rfl<|oxI sl_23 ti_3 (aO 5 rfl) om9 rfl<|olI ti_3 (aO 5 rfl) om9 rfl<|oM 1 rfl<|ofB fl_47_2 rfl<|olB 0 ti_3 rfl rfl<|oxI sl_23 ti_3 (aO 3 rfl) om9 rfl<|olI ti_3 (aO 3 rfl) om9 rfl<|oeqI _ _ rfl<|.nl)<|hK k123<|gcd rfl (fun hb126 hp126=> ?_) fun hb126 hp126=> ?_
  ·skip
   have q9:=hR.o13 (by omega)
   refine gK fun _ k127=>rT 12 [] (oM 1 rfl<|onfl 1 fl_100_3 ti_23 rfl rfl<|ofB fl_47_1 rfl<|olB 0 ti_3 rfl rfl<|oM 1 rfl<|ofB fl_47_3 rfl<|olB 0 ti_3 rfl rfl<|oxI sl_23 ti_3 (aO 3 rfl) om9 rfl<|olI ti_3 (aO 3 rfl) om9 rfl<|oxI sl_23 ti_3 (aO 5 rfl) om9 rfl<|.nl)<|gte 5 (nth regs.l ins.c.toNat:Int) ti_3 om9 rfl rfl<|nK k127<|gF [7,9] rfl<|gL<|gRn (oM 1 rfl<|ofB fl_47_2 rfl<|olB 0 ti_3 rfl rfl<|oxI sl_23 ti_3 (aO 3 rfl) om9 rfl<|.nl)<|gte 3 (1:Int) ti_3 om9 rfl rfl<|nN<|fun a130 w130 h130=> ?_
   try simp only [Exit.then,Exit.inBlock,if_true]
   refine x_end0 (fn:=Try.f50) rfl h130<|⟨rfl,⟨regs.v,regs.l.set ins.b.toNat 1⟩,⟨wait.v,wait.l⟩,⟨words.v,words.l.set ins.a.toNat (nth regs.l ins.c.toNat)⟩,⟨owner.v,owner.l⟩,⟨prints.v,prints.l⟩,(nth thr.l (mv/8)).pc+1,fell, ?_, ?_⟩
   · refine Eq.trans ?_ (doT_0 (by omega)).symm;show _=execT mode (mv/8) (nextIns (nth code.l (mv/8)).l (nth thr.l (mv/8)).pc) _;rw [←hins];first|(refine Eq.trans ?_ (execT_13t (by assumption) (by assumption)).symm;rfl)|(refine Eq.trans ?_ (execT_13f (by assumption) (by assumption)).symm;rfl)
   ·have hz:=(h130.sh.sel (L' := [_,_,_,_,_,_,_,_]) [1,2,3,4,5,6,7,8] rfl)
    rw [htl] at hz;exact hz
  refine gL<|gRn (oM 1 rfl<|ofB fl_47_2 rfl<|olB 0 ti_3 rfl rfl<|oxI sl_23 ti_3 (aO 3 rfl) om9 rfl<|.nl)<|gte 3 (0:Int) ti_3 om9 rfl rfl<|nN<|fun a132 w132 h132=> ?_
  try simp only [Exit.then,Exit.inBlock,if_true]
  refine x_end0 (fn:=Try.f50) rfl h132<|⟨rfl,⟨regs.v,regs.l.set ins.b.toNat 0⟩,⟨wait.v,wait.l⟩,⟨words.v,words.l⟩,⟨owner.v,owner.l⟩,⟨prints.v,prints.l⟩,(nth thr.l (mv/8)).pc+1,fell, ?_, ?_⟩
  · refine Eq.trans ?_ (doT_0 (by omega)).symm;show _=execT mode (mv/8) (nextIns (nth code.l (mv/8)).l (nth thr.l (mv/8)).pc) _;rw [←hins];first|(refine Eq.trans ?_ (execT_13t (by assumption) (by assumption)).symm;rfl)|(refine Eq.trans ?_ (execT_13f (by assumption) (by assumption)).symm;rfl)
  ·have hz:=(h132.sh.sel (L' := [_,_,_,_,_,_,_,_]) [1,2,3,4,5,6,7,8] rfl)
   rw [htl] at hz;exact hz
 refine sG (oeqI _ _ rfl<|oM 1 rfl<|.nl)<|gcd rfl (fun hb134 hp134=> ?_) fun hb134 hp134=> ?_
 ·skip
  refine gL<|gRn (oM 1 rfl<|ofB fl_47_1 rfl<|olB 0 ti_3 rfl rfl<|onl rfl<|ofE fl_136_0 rfl<|.nl)<|gte 2 ({ nth tl (mv/8) with pc:=ins.a } :ThV) ti_3 om9 rfl rfl<|nN<|fun a136 w136 h136=> ?_
  try simp only [Exit.then,Exit.inBlock,if_true]
  refine x_end0 (fn:=Try.f50) rfl h136<|⟨rfl,⟨regs.v,regs.l⟩,⟨wait.v,wait.l⟩,⟨words.v,words.l⟩,⟨owner.v,owner.l⟩,⟨prints.v,prints.l⟩,ins.a,fell, ?_, ?_⟩
  · refine Eq.trans ?_ (doT_0 (by omega)).symm;show _=execT mode (mv/8) (nextIns (nth code.l (mv/8)).l (nth thr.l (mv/8)).pc) _;rw [←hins];(refine Eq.trans ?_ (execT_14 (by assumption)).symm;rfl)
  ·have hz:=(h136.sh.sel (L' := [_,_,_,_,_,_,_,_]) [1,2,3,4,5,6,7,8] rfl)
   rw [thset_pc ht htl] at hz;exact hz
 refine sG (oeqI _ _ rfl<|oM 1 rfl<|.nl)<|gcd rfl (fun hb138 hp138=> ?_) fun hb138 hp138=> ?_
 ·skip
  have q9:=hR.o15 (by omega)
  refine sK fun _ k139=>gNl (aO 3 rfl) fun hl140=>gRn (oM 1 rfl<|ofB fl_47_1 rfl<|olB 0 ti_3 rfl rfl<|oxI sl_23 ti_3 (aO 3 rfl) om9 rfl<|olI ti_3 (aO 3 rfl) om9 rfl<|oeqI _ _ rfl<|.nl)<|nK k139<|gcd rfl (fun hb141 hp141=> ?_) fun hb141 hp141=> ?_
  ·skip
   refine gL<|gRn (oM 1 rfl<|ofB fl_47_2 rfl<|olB 0 ti_3 rfl rfl<|onl rfl<|ofE fl_136_0 rfl<|.nl)<|gte 2 ({ nth tl (mv/8) with pc:=ins.b } :ThV) ti_3 om9 rfl rfl<|nN<|fun a143 w143 h143=> ?_
   try simp only [Exit.then,Exit.inBlock,if_true]
   refine x_end0 (fn:=Try.f50) rfl h143<|⟨rfl,⟨regs.v,regs.l⟩,⟨wait.v,wait.l⟩,⟨words.v,words.l⟩,⟨owner.v,owner.l⟩,⟨prints.v,prints.l⟩,ins.b,fell, ?_, ?_⟩
   · refine Eq.trans ?_ (doT_0 (by omega)).symm;show _=execT mode (mv/8) (nextIns (nth code.l (mv/8)).l (nth thr.l (mv/8)).pc) _;rw [←hins];first|(refine Eq.trans ?_ (execT_15t (by assumption) (by assumption)).symm;rfl)|(refine Eq.trans ?_ (execT_15f (by assumption) (by assumption)).symm;rfl)
   ·have hz:=(h143.sh.sel (L' := [_,_,_,_,_,_,_,_]) [1,2,3,4,5,6,7,8] rfl)
    rw [thset_pc ht htl] at hz;exact hz
  refine gS<|fun a144 w144 h144=> ?_
  try simp only [Exit.then,Exit.inBlock,if_true]
  refine x_end0 (fn:=Try.f50) rfl h144<|⟨rfl,⟨regs.v,regs.l⟩,⟨wait.v,wait.l⟩,⟨words.v,words.l⟩,⟨owner.v,owner.l⟩,⟨prints.v,prints.l⟩,(nth thr.l (mv/8)).pc+1,fell, ?_, ?_⟩
  · refine Eq.trans ?_ (doT_0 (by omega)).symm;show _=execT mode (mv/8) (nextIns (nth code.l (mv/8)).l (nth thr.l (mv/8)).pc) _;rw [←hins];first|(refine Eq.trans ?_ (execT_15t (by assumption) (by assumption)).symm;rfl)|(refine Eq.trans ?_ (execT_15f (by assumption) (by assumption)).symm;rfl)
  ·have hz:=(h144.sh.sel (L' := [_,_,_,_,_,_,_,_]) [1,2,3,4,5,6,7,8] rfl)
   rw [htl] at hz;exact hz
 refine sG (oeqI _ _ rfl<|oM 1 rfl<|.nl)<|gcd rfl (fun hb146 hp146=> ?_) fun hb146 hp146=> ?_
 ·skip
  have q9:=hR.o15 (by omega)
  refine gNl (aO 3 rfl) fun hl147=>rC [11,12,15] rfl<|pR [0,1,2,3,4,5,6,7,8,9,10] rfl (oM 2 rfl<|onfl 1 fl_100_5 ti_23 rfl rfl<|oM 2 rfl<|ofB fl_47_1 rfl<|olB 0 ti_3 rfl rfl<|oxI sl_23 ti_3 (aO 3 rfl) om9 rfl<|olI ti_3 (aO 3 rfl) om9 rfl<|.nl) rfl<|pX (fun _ _ h_=>x_lit (n:=2) (cs:= [.int .i64 ((mv/8:Nat):Int), .int .i64 (nth regs.l ins.a.toNat)]) ([((mv/8:Nat):Int),nth regs.l ins.a.toNat]:List Int) h_ sl_23 ti_3 rfl rfl rfl (by decide) rfl (by kernel_rfl) rfl (fun q hq w h=>Flat.inner _ _) (fun q hq b hb=>(Flat.on _ _ hb).elim) rfl rfl) rfl fun v148=>pR [0,1,2,3,4] rfl (oM 2 rfl<|onfl 2 fl_100_5 ti_23 rfl rfl<|.nl) rfl<|pX (fun _ _ h_=>x_app (r:=8) (rm:=0) (s:=prints) (m:=(⟨v148, [((mv/8:Nat):Int),nth regs.l ins.a.toNat]⟩:Ls Int)) h_ sl_23 ti_3 rfl rfl rfl rfl rfl rfl rfl (fun w h=>(h.own 0 rfl)) (fun b hb=>own_on (h_.sh.ok _ (List.mem_of_getElem? (i:=0) rfl)) hb) (fun q hq b hb=>⟨q,hq,hb⟩) rfl rfl rfl inferInstance (show (prints.l.length+([((mv/8:Nat):Int),nth regs.l ins.a.toNat]).length)*8≤140737488355328∧prints.l.length+([((mv/8:Nat):Int),nth regs.l ins.a.toNat]).length≤140737488355328 from om9) rfl rfl) rfl fun v149=>pR [0,13,14] rfl (oM 1 rfl<|onf fl_100_5 rfl<|.nl) rfl<|pS (fun _ _ h_=>x_stb (i:=2) (vs:= [v149]) (cs' := [code.v,pw, .int .i64 locks, .int .i64 nregs, .int .i64 mode,thr.v,words.v,owner.v,v149, .bool fell]) h_ ti_23 rfl rfl rfl rfl rfl (cells_oneL ((h_.sh.own 8 rfl)).one) rfl (allOne_cons ((h_.sh.own 8 rfl)).one allOne_nil) (Nat.le_of_ble_eq_true rfl) rfl) rfl<|pE [] rfl (.nl) rfl<|fun a151 w151 h151=> ?_
  try simp only [Exit.then,Exit.inBlock,if_true]
  refine x_end0 (fn:=Try.f50) rfl h151<|⟨rfl,⟨regs.v,regs.l⟩,⟨wait.v,wait.l⟩,⟨words.v,words.l⟩,⟨owner.v,owner.l⟩,⟨v149,prints.l++([((mv/8:Nat):Int),nth regs.l ins.a.toNat])⟩,(nth thr.l (mv/8)).pc+1,fell, ?_, ?_⟩
  · refine Eq.trans ?_ (doT_0 (by omega)).symm;show _=execT mode (mv/8) (nextIns (nth code.l (mv/8)).l (nth thr.l (mv/8)).pc) _;rw [←hins];(refine Eq.trans ?_ (execT_16 (by assumption)).symm;rfl)
  ·have hz:=(h151.sh.sel (L' := [_,_,_,_,_,_,_,_]) [2,3,4,5,6,7,8,9] rfl)
   rw [htl] at hz;exact hz
 refine sG (oeqI _ _ rfl<|oM 1 rfl<|.nl)<|gcd rfl (fun hb153 hp153=> ?_) fun hb153 hp153=> ?_
 ·skip
  have q9:=hR.o17 (by omega)
  refine gNl (aO 6 rfl) fun hl154=>rT 8 [] (oM 1 rfl<|onfl 1 fl_100_4 ti_23 rfl rfl<|ofB fl_47_1 rfl<|olB 0 ti_3 rfl rfl<|oM 1 rfl<|oxI sl_23 ti_3 (aO 6 rfl) om9 rfl<|.nl)<|gte 6 (((mv/8:Nat):Int):Int) ti_3 om9 rfl rfl<|nN<|fun a156 w156 h156=> ?_
  try simp only [Exit.then,Exit.inBlock,if_true]
  refine x_end0 (fn:=Try.f50) rfl h156<|⟨rfl,⟨regs.v,regs.l⟩,⟨wait.v,wait.l⟩,⟨words.v,words.l⟩,⟨owner.v,owner.l.set ins.a.toNat ((mv/8:Nat):Int)⟩,⟨prints.v,prints.l⟩,(nth thr.l (mv/8)).pc+1,fell, ?_, ?_⟩
  · refine Eq.trans ?_ (doT_0 (by omega)).symm;show _=execT mode (mv/8) (nextIns (nth code.l (mv/8)).l (nth thr.l (mv/8)).pc) _;rw [←hins];(refine Eq.trans ?_ (execT_17 (by assumption)).symm;rfl)
  ·have hz:=(h156.sh.sel (L' := [_,_,_,_,_,_,_,_]) [1,2,3,4,5,6,7,8] rfl)
   rw [htl] at hz;exact hz
 refine sG (oeqI _ _ rfl<|oM 1 rfl<|.nl)<|gcd rfl (fun hb158 hp158=> ?_) fun hb158 hp158=> ?_
 ·skip
  have q9:=hR.o17 (by omega)
  refine gK fun _ k159=>gK fun _ k160=>gNl (aO 6 rfl) fun hl161=>rQ (oM 1 rfl<|onfl 1 fl_100_4 ti_23 rfl rfl<|ofB fl_47_1 rfl<|olB 0 ti_3 rfl rfl<|oxI sl_23 ti_3 (aO 6 rfl) om9 rfl<|olI ti_3 (aO 6 rfl) om9 rfl<|oM 1 rfl<|oneI _ _ rfl<|.nl)<|hK k160<|gF [0,4,5,7,341] rfl<|gcd rfl (fun hb162 hp162=> ?_) fun hb162 hp162=> ?_
  ·skip
   have q9:=hR.o17 (by omega)
   refine sK fun _ k163=>gRn (oM 1 rfl<|onf fl_100_6 rfl<|.nl)<|gst (v:= .bool true) 1 ti_4 rfl rfl rfl<|nK k163<|gR<|uT<|uB<|fun a165 w165 h165=>x_ret0 (fn:=Try.f50) rfl h165<|⟨rfl,⟨regs.v,regs.l⟩,⟨wait.v,wait.l⟩,⟨words.v,words.l⟩,⟨owner.v,owner.l⟩,⟨prints.v,prints.l⟩,(nth thr.l (mv/8)).pc+1,true, ?_, ?_⟩
   · refine Eq.trans ?_ (doT_0 (by omega)).symm;show _=execT mode (mv/8) (nextIns (nth code.l (mv/8)).l (nth thr.l (mv/8)).pc) _;rw [←hins];first|(refine Eq.trans ?_ (execT_18a (by assumption) (by assumption)).symm;rfl)|exact Eq.trans (store_eq hst) (execT_18c (by assumption) (by assumption) (fun q (hq:q<wait.l.length)=>hall q (by omega))).symm|(refine Eq.trans ?_ (execT_18b (by assumption) (by assumption) j (by assumption) (by assumption) (by assumption)).symm;rfl)
   ·have hz:=(h165.sh.sel (L' := [_,_,_,_,_,_,_,_]) [1,2,3,4,5,6,7,8] rfl)
    rw [htl] at hz;exact hz
  refine gS<|hK k159<|gK fun _ k166=>sG (oM 1 rfl<|.nl)<|gB<|fun a169 w169 h169=>x_loop (fun m a w=>∃(j:Nat),(j≤wait.l.length)∧(∀q,q<j→¬((nth wait.l q).lock=true∧(nth wait.l q).wh=ins.a))∧St 384 K W a w [(0, .pointer (some ⟨g,0,none⟩)),(4, .int .i64 ((mv/8:Nat):Int)),(5, .pointer (some (padr thr.v 3 (mv/8) 0))),(7, .pointer (some ⟨b31,0,none⟩)),(12, .int .i64 ((j:Nat):Int))] [.blk b31 47 [.int .i64 ins.op, .int .i64 ins.a, .int .i64 ins.b, .int .i64 ins.c], .blk g 100 [code.v,pw, .int .i64 locks, .int .i64 nregs, .int .i64 mode,thr.v,words.v,owner.v,prints.v, .bool fell], .own 136 (⟨thr.v,tl⟩:Ls ThV), .own 3 regs, .own 144 wait, .own 3 words, .own 3 owner, .own 3 prints, .at_ code]∧m=wait.l.length-j) ⟨_,0,(by omega),(fun q hq=>absurd hq (by omega)),h169.nf ⟨rfl,rfl,rfl,rfl,rfl,trivial⟩,rfl⟩ ?_
  clear h169
  rintro m168 a168 w168 ⟨j,hj,hall,h168,hm168⟩
  refine gG h168<|gK fun _ k170=>sK fun _ k171=>gNl (aO 4 rfl) fun hl172=>gRn (oM 2 rfl<|onl rfl<|ofE fl_136_2 rfl<|oV (Rn.same (r_lde (s:=(⟨thr.v,tl⟩:Ls ThV)) (i:=mv/8) (v:=((nth tl (mv/8)).wv)) ti_134 rfl rfl rfl (fun w h=>(h.own 2 rfl)) (show mv/8<tl.length from om9) (Nat.le_of_ble_eq_true rfl) rfl) hwv2) rfl<|oln sl_134 (aO 4 rfl) rfl<|oltN _ _ rfl<|.nl)<|nK k171<|?_;clear h168
  refine gcd rfl (fun hb173 hp173=> ?_) fun hb173 hp173=> ?_
  ·skip
   refine gS<|hK k170<|gK fun _ k174=>gB<|gK fun _ k175=>fun a176 w176 h176=>x_quiet (by kernel_rfl) (by kernel_rfl) h176 fun _ z177=>qQ h176.fr<|qRn (oM 1 rfl<|onl rfl<|ofE fl_136_2 rfl<|oV (Rn.same (r_lde (s:=(⟨thr.v,tl⟩:Ls ThV)) (i:=mv/8) (v:=((nth tl (mv/8)).wv)) ti_134 rfl rfl rfl (fun w h=>(h.own 2 rfl)) (show mv/8<tl.length from om9) (Nat.le_of_ble_eq_true rfl) rfl) hwv2) rfl<|oM 1 rfl<|oxN sl_134 ti_144 (aO 4 rfl) _ om9 rfl<|ofE fl_144_0 rfl<|olE (.bool ((nth wait.l j).lock)) ti_4 (aO 4 rfl) om9 rfl<|oM 1 rfl<|.nl)<|?_
   rcases Bool.eq_false_or_eq_true ((nth wait.l j).lock) with hb178|hb178
   ·skip
    refine qRn (oG hb178 (r_move rfl rfl) rfl<|oG hb178 (r_nil rfl rfl) rfl<|oG hb178 (r_fieldE (r:=2) fl_136_2 rfl rfl rfl) rfl<|oG hb178 (Rn.same (r_lde (s:=(⟨thr.v,tl⟩:Ls ThV)) (i:=mv/8) (v:=((nth tl (mv/8)).wv)) ti_134 rfl rfl rfl (fun w h=>(h.own 2 rfl)) (show mv/8<tl.length from om9) (Nat.le_of_ble_eq_true rfl) rfl) hwv2) rfl<|oG hb178 (r_move rfl rfl) rfl<|oG hb178 (r_ixN (s:=wait) (q:=j) sl_134 ti_144 rfl rfl rfl (fun w h=>(h.own 4 rfl)) (show j<wait.l.length from om9)) rfl<|oG hb178 (r_fieldE (r:=1) fl_144_1 rfl rfl rfl) rfl<|oG hb178 (r_lde (s:=wait) (i:=j) (v:= .int .i64 ((nth wait.l j).wh)) ti_3 rfl rfl rfl (fun w h=>(h.own 4 rfl)) (show j<wait.l.length from om9) (Nat.le_of_ble_eq_true rfl) rfl) rfl<|oG hb178 (r_fieldB (r:=1) fl_47_1 rfl rfl rfl) rfl<|oG hb178 (r_ldb (i:=0) ti_3 rfl rfl rfl rfl) rfl<|oG hb178 (r_eqlI (p:=(nth wait.l j).wh) (q:=ins.a) rfl rfl rfl) rfl<|opT hb178 rfl<|.nl)<|qN z177<|?_;clear h176
    refine hK k175<|gF [0,4,5,7,12,374] rfl<|gcd rfl (fun hb190 hp190=> ?_) fun hb190 hp190=> ?_
    ·skip
     refine sK fun _ k191=>gRn (oM 1 rfl<|onf fl_100_6 rfl<|.nl)<|gst (v:= .bool true) 1 ti_4 rfl rfl rfl<|nK k191<|gR<|uB<|uT<|uT<|uB<|uT<|uB<|fun a193 w193 h193=>x_ret0 (fn:=Try.f50) rfl h193<|⟨rfl,⟨regs.v,regs.l⟩,⟨wait.v,wait.l⟩,⟨words.v,words.l⟩,⟨owner.v,owner.l⟩,⟨prints.v,prints.l⟩,(nth thr.l (mv/8)).pc+1,true, ?_, ?_⟩
     · refine Eq.trans ?_ (doT_0 (by omega)).symm;show _=execT mode (mv/8) (nextIns (nth code.l (mv/8)).l (nth thr.l (mv/8)).pc) _;rw [←hins];first|(refine Eq.trans ?_ (execT_18a (by assumption) (by assumption)).symm;rfl)|exact Eq.trans (store_eq hst) (execT_18c (by assumption) (by assumption) (fun q (hq:q<wait.l.length)=>hall q (by omega))).symm|(refine Eq.trans ?_ (execT_18b (by assumption) (by assumption) j (by assumption) (by assumption) (by assumption)).symm;rfl)
     ·have hz:=(h193.sh.sel (L' := [_,_,_,_,_,_,_,_]) [1,2,3,4,5,6,7,8] rfl)
      rw [htl] at hz;exact hz
    refine gS<|hK k174<|gL<|gRn (oM 1 rfl<|oadN _ 1 om9 rfl<|oM 1 rfl<|.nl)<|nN<|fun a194 w194 h194=>x_again ⟨_, ?_,j+1, ?_, ?_,h194.nf ⟨rfl,rfl,rfl,rfl,rfl,trivial⟩,rfl⟩
    · rw [hm168];first|omega|(simp only [lens9];omega)
    · omega
    · intro q hq;rcases Nat.lt_or_ge q j with h9|h9;(exact hall q h9);obtain rfl:q=j:=(by omega);first|(rintro ⟨h8,_⟩;exact absurd (h8.symm.trans (show _=false by assumption)) (by decide))|(rintro ⟨_,h8⟩;omega)
   refine qRn (oKs 11 hb178 rfl rfl<|opF hb178 rfl<|.nl)<|qN z177<|?_;clear h176
   refine hK k175<|gF [0,4,5,7,12,374] rfl<|gcF rfl rfl<|gS<|hK k174<|gL<|gRn (oM 1 rfl<|oadN _ 1 om9 rfl<|oM 1 rfl<|.nl)<|nN<|fun a196 w196 h196=>x_again ⟨_, ?_,j+1, ?_, ?_,h196.nf ⟨rfl,rfl,rfl,rfl,rfl,trivial⟩,rfl⟩
   · rw [hm168];first|omega|(simp only [lens9];omega)
   · omega
   · intro q hq;rcases Nat.lt_or_ge q j with h9|h9;(exact hall q h9);obtain rfl:q=j:=(by omega);first|(rintro ⟨h8,_⟩;exact absurd (h8.symm.trans (show _=false by assumption)) (by decide))|(rintro ⟨_,h8⟩;omega)
  refine gX<|hK k166<|gL<|gRn (oM 2 rfl<|ofB fl_47_1 rfl<|olB 0 ti_3 rfl rfl<|oV (r_build (cs:= [.bool true, .int .i64 ins.a, .int .i64 0]) rfl rfl (by kernel_rfl)) rfl<|.nl)<|gO [1,2,4,5,6,0,3,7,8] rfl<|gM 5 rfl (fun _ _ h_=>xCl h_ bd_86 rfl (store_c _ _ (mv/8) (⟨true,ins.a,0⟩:Wt) (⟨thr.v,tl⟩:Ls ThV) wait words owner _ _ _ _ _ _ _ _ (pKl 5 h_ rfl) (by first|(simp only [if_true];omega)|(simp only [Bool.false_eq_true,if_false];omega)) (show mv/8<tl.length by omega) hwv2 (by omega))) rfl<|?_
  rintro _ _ w199 ⟨rfl,wait199,words199,owner199,hst,hs199⟩
  refine gBk hs199 rfl<|gU<|nN<|fun a200 w200 h200=> ?_;clear hs199
  try simp only [Exit.then,Exit.inBlock,if_true]
  refine x_end0 (fn:=Try.f50) rfl h200<|⟨rfl,⟨regs.v,regs.l⟩,⟨wait199.v,wait199.l⟩,⟨words199.v,words199.l⟩,⟨owner199.v,owner199.l⟩,⟨prints.v,prints.l⟩,(nth thr.l (mv/8)).pc+1,fell, ?_, ?_⟩
  · refine Eq.trans ?_ (doT_0 (by omega)).symm;show _=execT mode (mv/8) (nextIns (nth code.l (mv/8)).l (nth thr.l (mv/8)).pc) _;rw [←hins];first|(refine Eq.trans ?_ (execT_18a (by assumption) (by assumption)).symm;rfl)|exact Eq.trans (store_eq hst) (execT_18c (by assumption) (by assumption) (fun q (hq:q<wait.l.length)=>hall q (by omega))).symm|(refine Eq.trans ?_ (execT_18b (by assumption) (by assumption) j (by assumption) (by assumption) (by assumption)).symm;rfl)
  ·have hz:=(h200.sh.sel (L' := [_,_,_,_,_,_,_,_]) [0,1,6,2,3,4,7,8] rfl)
   rw [thset_wv ht htl] at hz;exact hz
 refine gS<|fun a201 w201 h201=> ?_
 try simp only [Exit.then,Exit.inBlock,if_true]
 refine x_end0 (fn:=Try.f50) rfl h201<|⟨rfl,⟨regs.v,regs.l⟩,⟨wait.v,wait.l⟩,⟨words.v,words.l⟩,⟨owner.v,owner.l⟩,⟨prints.v,prints.l⟩,(nth thr.l (mv/8)).pc+1,fell, ?_, ?_⟩
 · refine Eq.trans ?_ (doT_0 (by omega)).symm;show _=execT mode (mv/8) (nextIns (nth code.l (mv/8)).l (nth thr.l (mv/8)).pc) _;rw [←hins];(refine Eq.trans ?_ (execT_no (by omega)).symm;rfl)
 ·have hz:=(h201.sh.sel (L' := [_,_,_,_,_,_,_,_]) [1,2,3,4,5,6,7,8] rfl)
  rw [htl] at hz;exact hz
def wtN (x:Wt):List Int:= [if x.lock=true then 1 else 0,x.wh,x.what]
theorem wtN_t {x:Wt}(h:x.lock=true):wtN x= [1,x.wh,x.what]:=by simp [wtN,h]
theorem wtN_f {x:Wt}(h:x.lock=false):wtN x= [0,x.wh,x.what]:=by simp [wtN,h]
def thN (x:Th):List Int:= [x.pc,(x.wait.length:Int)]++x.regs++x.wait.flatMap wtN
def numbersL (ths:List Th)(words owner prints:List Int):List Int:=ths.flatMap thN++words++owner++prints
theorem flatMap_succ {α β:Type}[Inhabited α](f:α→List β)(l:List α)(i:Nat)(h:i<l.length):(l.take (i+1)).flatMap f=(l.take i).flatMap f++f (nth l i):=by
 rw [take_succ_nth _ _ h];simp
theorem numbers_c (g:Nat)(thr:Ls ThL)(words owner prints:Ls Int)(cv pw:Value)(locks nregs mode:Int)(fell:Bool)(W:World)(hB:Blk W g 100 #[cv,pw, .int .i64 locks, .int .i64 nregs, .int .i64 mode,thr.v,words.v,owner.v,prints.v, .bool fell])(h_thr:thr.At W)(h_words:words.At W)(h_owner:owner.At W)(h_prints:prints.At W)(hcl:thr.l.length≤4)(hrg:∀i,i<thr.l.length→(nth thr.l i).regs.l.length≤100000)(hwl:∀i,i<thr.l.length→(nth thr.l i).wait.l.length≤3)(hwn:words.l.length≤100000∧owner.l.length≤100000∧prints.l.length≤100000000):
    Rets Try.prog 78 [.pointer (some ⟨g,0,none⟩)] W (fun v w' =>∃s:Ls Int,v=s.v∧s.l=numbersL (thr.l.map ThL.th) words.l owner.l prints.l∧Sh0 W w' [.own 3 s]):=by
 refine gen Try.func78 Try.ntmps78 (Sh0.ext (by intro A hA;simp at hA;rcases hA with rfl|rfl|rfl|rfl|rfl;exact hB;exact h_thr;exact h_words;exact h_owner;exact h_prints) (by intro A hA b hb;simp at hA;rcases hA with rfl|rfl|rfl|rfl|rfl<;>exact hb):Sh (fun _=>False) W W [.rblk g 100 [cv,pw, .int .i64 locks, .int .i64 nregs, .int .i64 mode,thr.v,words.v,owner.v,prints.v, .bool fell], .at_ thr, .at_ words, .at_ owner, .at_ prints]) rfl fun a10 h10=>gG h10<|sG (oM 1 rfl<|.nl)<|sG (oM 1 rfl<|.nl)<|gK fun _ k13=>sG (oM 1 rfl<|.nl)<|gB<|fun a17 w17 h17=> ?_;clear h10
 have h16:=h17.nil (α:=Int) 3
 clear h17
 refine x_loop (fun m a w=>∃(i:Nat) (ml:List Int) (vm:Value),(i≤thr.l.length)∧(ml=((thr.l.take i).map ThL.th).flatMap thN)∧(ml.length≤200000*i)∧St 83 (fun _=>False) W a w [(0, .pointer (some ⟨g,0,none⟩)),(3,vm),(4, .int .i64 ((i:Nat):Int))] [.rblk g 100 [cv,pw, .int .i64 locks, .int .i64 nregs, .int .i64 mode,thr.v,words.v,owner.v,prints.v, .bool fell], .at_ thr, .at_ words, .at_ owner, .at_ prints, .own 3 (⟨vm,ml⟩:Ls Int)]∧m=thr.l.length-i) ⟨_,0, [],(.slice none 0 0),(by omega),(by simp),(by simp),h16.nrm ⟨rfl,rfl,rfl,trivial⟩ [1,2,3,4,5,0] rfl,rfl⟩ ?_
 clear h16
 rintro m15 a15 w15 ⟨i,ml,vm,hi,hml,hmn,h15,hm15⟩
 refine gG h15<|gK fun _ k18=>sK fun _ k19=>gNl (aA 1 rfl) fun hl20=>gRn (oM 2 rfl<|onf fl_100_2 rfl<|olR 0 ti_98 rfl rfl<|oln sl_98 (aA 1 rfl) rfl<|oltN _ _ rfl<|.nl)<|nK k19<|?_;clear h15
 refine gcd rfl (fun hb21 hp21=> ?_) fun hb21 hp21=> ?_
 ·skip
  refine gS<|hK k18<|?_
  have hrgi:=hrg i (by omega)
  have hwli:=hwl i (by omega)
  refine gK fun _ k22=>gB<|sK fun _ k23=>gRn (oM 1 rfl<|onf fl_100_2 rfl<|olR 0 ti_98 rfl rfl<|oM 1 rfl<|oxN sl_98 ti_136 (aA 1 rfl) _ om9 rfl<|olw2 [.int .i64 ((nth thr.l i).pc),((nth thr.l i).regs).v,((nth thr.l i).wait).v] ti_136 (aA 1 rfl) om9 rfl<|.nl)<|gal ti_136 rfl fun b24=>gE (fun _ _ h_=>x_stb (i:=0) (vs:= [.int .i64 ((nth thr.l i).pc),((nth thr.l i).regs).v,((nth thr.l i).wait).v]) (cs' := [.int .i64 ((nth thr.l i).pc),((nth thr.l i).regs).v,((nth thr.l i).wait).v]) h_ ti_136 rfl rfl rfl rfl rfl rfl rfl (allOne_cons rfl (allOne_cons (((h_.sh.at 2 rfl).inner i (show i<thr.l.length from om9)).1).one (allOne_cons (((h_.sh.at 2 rfl).inner i (show i<thr.l.length from om9)).2).one allOne_nil))) (Nat.le_of_ble_eq_true rfl) rfl) rfl<|nK k23<|sK fun _ k26=>gNl (fun w h=>((h.at 2 rfl).inner i (show i<thr.l.length from (by omega))).2) fun (hl27:(((nth thr.l i).wait).l).length≤140737488355328)=>gRn (oM 1 rfl<|ofB fl_136_0 rfl<|olB 0 ti_3 rfl rfl<|ofB fl_136_2 rfl<|olB 0 ti_134 rfl rfl<|oln (n:=(((nth thr.l i).wait).l).length) sl_134 (fun w h=>((h.at 2 rfl).inner i (show i<thr.l.length from (by omega))).2) rfl<|.nl)<|gE1 (fun _ _ h_=>x_lit (n:=2) (cs:= [.int .i64 ((nth thr.l i).pc), .int .i64 (((((nth thr.l i).wait).l).length:Nat):Int)]) ([(nth thr.l i).pc,(((((nth thr.l i).wait).l).length:Nat):Int)]:List Int) h_ sl_23 ti_3 rfl rfl rfl (by decide) rfl (by kernel_rfl) rfl (fun q hq w h=>Flat.inner _ _) (fun q hq b hb=>(Flat.on _ _ hb).elim) rfl rfl) rfl fun v28=>gE1 (fun _ _ h_=>x_app (r:=7) (rm:=0) (s:=(⟨vm,ml⟩:Ls Int)) (m:=(⟨v28, [(nth thr.l i).pc,(((((nth thr.l i).wait).l).length:Nat):Int)]⟩:Ls Int)) h_ sl_23 ti_3 rfl rfl rfl rfl rfl rfl rfl (fun w h=>(h.own 0 rfl)) (fun b hb=>own_on (h_.sh.ok _ (List.mem_of_getElem? (i:=0) rfl)) hb) (fun q hq b hb=>⟨q,hq,hb⟩) rfl rfl rfl inferInstance (show (ml.length+([(nth thr.l i).pc,(((((nth thr.l i).wait).l).length:Nat):Int)]).length)*8≤140737488355328∧ml.length+([(nth thr.l i).pc,(((((nth thr.l i).wait).l).length:Nat):Int)]).length≤140737488355328 from om9) rfl rfl) rfl fun v29=>gRn (oM 1 rfl<|.nl)<|nK k26<|sK fun _ k30=>gRn (oM 1 rfl<|ofB fl_136_1 rfl<|olB 1 ti_23 rfl rfl<|.nl)<|gE1 (fun _ _ h_=>x_app (r:=7) (rm:=3) (s:=(⟨v29,ml++([(nth thr.l i).pc,(((((nth thr.l i).wait).l).length:Nat):Int)])⟩:Ls Int)) (m:=(nth thr.l i).regs) h_ sl_23 ti_3 rfl rfl rfl rfl rfl rfl rfl (fun w h=>((h.at 3 rfl).inner i (show i<thr.l.length from om9)).1) (fun b hb=> .inr (.inr ⟨i,(show i<thr.l.length from om9), .inl hb⟩)) (fun q hq b hb=>(Flat.on _ _ hb).elim) rfl rfl rfl inferInstance (show ((ml++([(nth thr.l i).pc,(((((nth thr.l i).wait).l).length:Nat):Int)])).length+(((nth thr.l i).regs).l).length)*8≤140737488355328∧(ml++([(nth thr.l i).pc,(((((nth thr.l i).wait).l).length:Nat):Int)])).length+(((nth thr.l i).regs).l).length≤140737488355328 from om9) rfl rfl) rfl fun v31=>gRn (oM 1 rfl<|.nl)<|nK k30<|gF [0,3,4,5] rfl<|sG (oM 1 rfl<|.nl)<|gB<|fun a34 w34 h34=>x_loop (fun m a w=>∃(k:Nat) (ml2:List Int) (vm2:Value),(k≤(nth thr.l i).wait.l.length)∧(ml2=ml++([(nth thr.l i).pc,((nth thr.l i).wait.l.length:Int)]++(nth thr.l i).regs.l++((nth thr.l i).wait.l.take k).flatMap wtN))∧(ml2.length≤ml.length+2+(nth thr.l i).regs.l.length+3*k)∧St 83 (fun _=>False) W a w [(0, .pointer (some ⟨g,0,none⟩)),(3,vm2),(4, .int .i64 ((i:Nat):Int)),(5, .pointer (some ⟨b24,0,none⟩)),(6, .int .i64 ((k:Nat):Int))] [.own 3 (⟨v28, [(nth thr.l i).pc,(((((nth thr.l i).wait).l).length:Nat):Int)]⟩:Ls Int), .blk b24 136 [.int .i64 ((nth thr.l i).pc),((nth thr.l i).regs).v,((nth thr.l i).wait).v], .rblk g 100 [cv,pw, .int .i64 locks, .int .i64 nregs, .int .i64 mode,thr.v,words.v,owner.v,prints.v, .bool fell], .at_ thr, .at_ words, .at_ owner, .at_ prints, .own 3 (⟨vm2,ml2⟩:Ls Int)]∧m=(nth thr.l i).wait.l.length-k) ⟨_,0,(ml++([(nth thr.l i).pc,(((((nth thr.l i).wait).l).length:Nat):Int)]))++(((nth thr.l i).regs).l),v31,(by omega),(by simp),(by simp;omega),h34.nf ⟨rfl,rfl,rfl,rfl,rfl,trivial⟩,rfl⟩ ?_
  clear h34
  rintro m33 a33 w33 ⟨k,ml2,vm2,hk,hml2,hmn2,h33,hm33⟩
  refine gG h33<|gK fun _ k35=>sG (oM 1 rfl<|ofB fl_136_2 rfl<|olB 1 ti_134 rfl rfl<|oln (n:=(((nth thr.l i).wait).l).length) sl_134 (fun w h=>((h.at 3 rfl).inner i (show i<thr.l.length from (by omega))).2) rfl<|oltN _ _ rfl<|.nl)<|?_;clear h33
  refine gcd rfl (fun hb37 hp37=> ?_) fun hb37 hp37=> ?_
  ·skip
   refine gS<|hK k35<|gK fun _ k38=>gB<|sG (oM 1 rfl<|.nl)<|gK fun _ k40=>sG (ofB fl_136_2 rfl<|olB 1 ti_134 rfl rfl<|oM 1 rfl<|oxN sl_134 ti_144 (fun w h=>((h.at 3 rfl).inner i (show i<thr.l.length from (by omega))).2) _ om9 rfl<|ofE fl_144_0 rfl<|olE (.bool ((nth (((nth thr.l i).wait).l) k).lock)) ti_4 (fun w h=>((h.at 3 rfl).inner i (show i<thr.l.length from (by omega))).2) om9 rfl<|.nl)<|gCb rfl (fun hb42=> ?_) fun hb42=> ?_
   ·skip
    refine gL<|gRn (oM 1 rfl<|.nl)<|nK k40<|rT 14 [0] (oM 2 rfl<|ofB fl_136_2 rfl<|olB 1 ti_134 rfl rfl<|oM 1 rfl<|oxN sl_134 ti_144 (fun w h=>((h.at 3 rfl).inner i (show i<thr.l.length from (by omega))).2) _ om9 rfl<|ofE fl_144_1 rfl<|olE (.int .i64 ((nth (((nth thr.l i).wait).l) k).wh)) ti_3 (fun w h=>((h.at 3 rfl).inner i (show i<thr.l.length from (by omega))).2) om9 rfl<|ofB fl_136_2 rfl<|olB 1 ti_134 rfl rfl<|oM 1 rfl<|oxN sl_134 ti_144 (fun w h=>((h.at 3 rfl).inner i (show i<thr.l.length from (by omega))).2) _ om9 rfl<|ofE fl_144_2 rfl<|olE (.int .i64 ((nth (((nth thr.l i).wait).l) k).what)) ti_3 (fun w h=>((h.at 3 rfl).inner i (show i<thr.l.length from (by omega))).2) om9 rfl<|.nl)<|gE1 (fun _ _ h_=>x_lit (n:=3) (cs:= [.int .i64 1, .int .i64 ((nth (((nth thr.l i).wait).l) k).wh), .int .i64 ((nth (((nth thr.l i).wait).l) k).what)]) ([1,(nth (((nth thr.l i).wait).l) k).wh,(nth (((nth thr.l i).wait).l) k).what]:List Int) h_ sl_23 ti_3 rfl rfl rfl (by decide) rfl (by kernel_rfl) rfl (fun q hq w h=>Flat.inner _ _) (fun q hq b hb=>(Flat.on _ _ hb).elim) rfl rfl) rfl fun v43=>gE1 (fun _ _ h_=>x_app (r:=8) (rm:=0) (s:=(⟨vm2,ml2⟩:Ls Int)) (m:=(⟨v43, [1,(nth (((nth thr.l i).wait).l) k).wh,(nth (((nth thr.l i).wait).l) k).what]⟩:Ls Int)) h_ sl_23 ti_3 rfl rfl rfl rfl rfl rfl rfl (fun w h=>(h.own 0 rfl)) (fun b hb=>own_on (h_.sh.ok _ (List.mem_of_getElem? (i:=0) rfl)) hb) (fun q hq b hb=>⟨q,hq,hb⟩) rfl rfl rfl inferInstance (show (ml2.length+([1,(nth (((nth thr.l i).wait).l) k).wh,(nth (((nth thr.l i).wait).l) k).what]).length)*8≤140737488355328∧ml2.length+([1,(nth (((nth thr.l i).wait).l) k).wh,(nth (((nth thr.l i).wait).l) k).what]).length≤140737488355328 from om9) rfl rfl) rfl fun v44=>gRn (oM 1 rfl<|.nl)<|nK k38<|gF [0,3,4,5,6] rfl<|gL<|gRn (oM 1 rfl<|oadN _ 1 om9 rfl<|oM 1 rfl<|.nl)<|nN<|fun a45 w45 h45=>x_again ⟨_, ?_,k+1,ml2++([1,(nth (((nth thr.l i).wait).l) k).wh,(nth (((nth thr.l i).wait).l) k).what]),v44, ?_, ?_, ?_,h45.nrm ⟨rfl,rfl,rfl,rfl,rfl,trivial⟩ [1,2,3,4,5,6,7,8] rfl,rfl⟩
    · rw [hm33];first|omega|(simp only [lens9];omega)
    · omega
    · first|(rw [flatMap_succ _ _ _ (by omega),hml2,wtN_t (by assumption)];simp only [List.append_assoc];done)|(rw [flatMap_succ _ _ _ (by omega),hml2,wtN_f (by assumption)];simp only [List.append_assoc];done)
    · simp;omega
   refine gS<|hK k40<|rT 14 [0] (oM 2 rfl<|ofB fl_136_2 rfl<|olB 1 ti_134 rfl rfl<|oM 1 rfl<|oxN sl_134 ti_144 (fun w h=>((h.at 3 rfl).inner i (show i<thr.l.length from (by omega))).2) _ om9 rfl<|ofE fl_144_1 rfl<|olE (.int .i64 ((nth (((nth thr.l i).wait).l) k).wh)) ti_3 (fun w h=>((h.at 3 rfl).inner i (show i<thr.l.length from (by omega))).2) om9 rfl<|ofB fl_136_2 rfl<|olB 1 ti_134 rfl rfl<|oM 1 rfl<|oxN sl_134 ti_144 (fun w h=>((h.at 3 rfl).inner i (show i<thr.l.length from (by omega))).2) _ om9 rfl<|ofE fl_144_2 rfl<|olE (.int .i64 ((nth (((nth thr.l i).wait).l) k).what)) ti_3 (fun w h=>((h.at 3 rfl).inner i (show i<thr.l.length from (by omega))).2) om9 rfl<|.nl)<|gE1 (fun _ _ h_=>x_lit (n:=3) (cs:= [.int .i64 0, .int .i64 ((nth (((nth thr.l i).wait).l) k).wh), .int .i64 ((nth (((nth thr.l i).wait).l) k).what)]) ([0,(nth (((nth thr.l i).wait).l) k).wh,(nth (((nth thr.l i).wait).l) k).what]:List Int) h_ sl_23 ti_3 rfl rfl rfl (by decide) rfl (by kernel_rfl) rfl (fun q hq w h=>Flat.inner _ _) (fun q hq b hb=>(Flat.on _ _ hb).elim) rfl rfl) rfl fun v46=>gE1 (fun _ _ h_=>x_app (r:=8) (rm:=0) (s:=(⟨vm2,ml2⟩:Ls Int)) (m:=(⟨v46, [0,(nth (((nth thr.l i).wait).l) k).wh,(nth (((nth thr.l i).wait).l) k).what]⟩:Ls Int)) h_ sl_23 ti_3 rfl rfl rfl rfl rfl rfl rfl (fun w h=>(h.own 0 rfl)) (fun b hb=>own_on (h_.sh.ok _ (List.mem_of_getElem? (i:=0) rfl)) hb) (fun q hq b hb=>⟨q,hq,hb⟩) rfl rfl rfl inferInstance (show (ml2.length+([0,(nth (((nth thr.l i).wait).l) k).wh,(nth (((nth thr.l i).wait).l) k).what]).length)*8≤140737488355328∧ml2.length+([0,(nth (((nth thr.l i).wait).l) k).wh,(nth (((nth thr.l i).wait).l) k).what]).length≤140737488355328 from om9) rfl rfl) rfl fun v47=>gRn (oM 1 rfl<|.nl)<|nK k38<|gF [0,3,4,5,6] rfl<|gL<|gRn (oM 1 rfl<|oadN _ 1 om9 rfl<|oM 1 rfl<|.nl)<|nN<|fun a48 w48 h48=>x_again ⟨_, ?_,k+1,ml2++([0,(nth (((nth thr.l i).wait).l) k).wh,(nth (((nth thr.l i).wait).l) k).what]),v47, ?_, ?_, ?_,h48.nrm ⟨rfl,rfl,rfl,rfl,rfl,trivial⟩ [1,2,3,4,5,6,7,8] rfl,rfl⟩
   · rw [hm33];first|omega|(simp only [lens9];omega)
   · omega
   · first|(rw [flatMap_succ _ _ _ (by omega),hml2,wtN_t (by assumption)];simp only [List.append_assoc];done)|(rw [flatMap_succ _ _ _ (by omega),hml2,wtN_f (by assumption)];simp only [List.append_assoc];done)
   · simp;omega
  refine gX<|hK k22<|gL<|gRn (oM 1 rfl<|oadN _ 1 om9 rfl<|oM 1 rfl<|.nl)<|nN<|fun a49 w49 h49=>x_again ⟨_, ?_,i+1,ml2,vm2, ?_, ?_, ?_,h49.nrm ⟨rfl,rfl,rfl,trivial⟩ [2,3,4,5,6,7] rfl,rfl⟩
  · rw [hm15];first|omega|(simp only [lens9];omega)
  · omega
  · rw [take_succ_nth _ _ (by omega),List.map_append,List.flatMap_append,←hml,hml2,show k=(nth thr.l i).wait.l.length by omega];simp [thN,ThL.th,List.take_of_length_le]
  · have:=hrg i (by omega);have:=hwl i (by omega);omega
 refine gX<|hK k13<|sK fun _ k50=>gRn (oM 2 rfl<|onf fl_100_3 rfl<|olR 0 ti_23 rfl rfl<|.nl)<|gE1 (fun _ _ h_=>x_app (r:=5) (rm:=2) (s:=(⟨vm,ml⟩:Ls Int)) (m:=words) h_ sl_23 ti_3 rfl rfl rfl rfl rfl rfl rfl (fun w h=>(h.at 2 rfl)) (fun b hb=> .inr hb) (fun q hq b hb=> .inr ⟨q,hq,hb⟩) rfl rfl rfl inferInstance (show (ml.length+words.l.length)*8≤140737488355328∧ml.length+words.l.length≤140737488355328 from om9) rfl rfl) rfl fun v51=>gRn (oM 1 rfl<|.nl)<|nK k50<|sK fun _ k52=>gRn (oM 2 rfl<|onf fl_100_4 rfl<|olR 0 ti_23 rfl rfl<|.nl)<|gE1 (fun _ _ h_=>x_app (r:=5) (rm:=3) (s:=(⟨v51,ml++words.l⟩:Ls Int)) (m:=owner) h_ sl_23 ti_3 rfl rfl rfl rfl rfl rfl rfl (fun w h=>(h.at 3 rfl)) (fun b hb=> .inr hb) (fun q hq b hb=> .inr ⟨q,hq,hb⟩) rfl rfl rfl inferInstance (show ((ml++words.l).length+owner.l.length)*8≤140737488355328∧(ml++words.l).length+owner.l.length≤140737488355328 from om9) rfl rfl) rfl fun v53=>gRn (oM 1 rfl<|.nl)<|nK k52<|sK fun _ k54=>gRn (oM 2 rfl<|onf fl_100_5 rfl<|olR 0 ti_23 rfl rfl<|.nl)<|gE1 (fun _ _ h_=>x_app (r:=5) (rm:=4) (s:=(⟨v53,(ml++words.l)++owner.l⟩:Ls Int)) (m:=prints) h_ sl_23 ti_3 rfl rfl rfl rfl rfl rfl rfl (fun w h=>(h.at 4 rfl)) (fun b hb=> .inr hb) (fun q hq b hb=> .inr ⟨q,hq,hb⟩) rfl rfl rfl inferInstance (show (((ml++words.l)++owner.l).length+prints.l.length)*8≤140737488355328∧((ml++words.l)++owner.l).length+prints.l.length≤140737488355328 from om9) rfl rfl) rfl fun v55=>gRn (oM 1 rfl<|.nl)<|nK k54<|gF [2] rfl<|gR<|fun a56 w56 h56=>x_ret1 (fn:=Try.f78) (t:=2) rfl h56 rfl<|⟨⟨v55,((ml++words.l)++owner.l)++prints.l⟩,rfl, ?_,(h56.sh.sel [5] rfl)⟩
 show _++_++_++_=_;rw [hml,show i=thr.l.length by omega,List.take_length];rfl
theorem copy_c (g:Nat)(thr:Ls ThL)(words owner prints:Ls Int)(cv pw:Value)(locks nregs mode:Int)(fell:Bool)(W:World)(hB:Blk W g 100 #[cv,pw, .int .i64 locks, .int .i64 nregs, .int .i64 mode,thr.v,words.v,owner.v,prints.v, .bool fell])(h_thr:thr.At W)(h_words:words.At W)(h_owner:owner.At W)(h_prints:prints.At W)(hcl:thr.l.length≤4)(hrg:∀i,i<thr.l.length→(nth thr.l i).regs.l.length≤100000)(hwl:∀i,i<thr.l.length→(nth thr.l i).wait.l.length≤3)(hwn:words.l.length≤100000∧owner.l.length≤100000∧prints.l.length≤100000000):
    Rets Try.prog 49 [.pointer (some ⟨g,0,none⟩)] W (fun v w' =>∃(g2:Nat) (rows:List ThL) (vt:Value) (words' owner' prints' :Ls Int),v= .pointer (some ⟨g2,0,none⟩)∧rows.map ThL.th=thr.l.map ThL.th∧words'.l=words.l∧owner'.l=owner.l∧prints'.l=prints.l∧Sh0 W w' [.blk g2 100 [cv,pw, .int .i64 locks, .int .i64 nregs, .int .i64 mode,vt,words'.v,owner'.v,prints'.v, .bool fell], .own 136 (⟨vt,rows.map ThL.toV⟩:Ls ThV), .big (rowsA 3 144 rows), .own 3 words', .own 3 owner', .own 3 prints']):=by
 refine gen Try.func49 Try.ntmps49 (Sh0.ext (by intro A hA;simp at hA;rcases hA with rfl|rfl|rfl|rfl|rfl;exact hB;exact h_thr;exact h_words;exact h_owner;exact h_prints) (by intro A hA b hb;simp at hA;rcases hA with rfl|rfl|rfl|rfl|rfl<;>exact hb):Sh (fun _=>False) W W [.rblk g 100 [cv,pw, .int .i64 locks, .int .i64 nregs, .int .i64 mode,thr.v,words.v,owner.v,prints.v, .bool fell], .at_ thr, .at_ words, .at_ owner, .at_ prints]) rfl fun a10 h10=>gG h10<|sG (oM 1 rfl<|.nl)<|gK fun _ k12=>rT 13 [] (oM 1 rfl<|onf fl_100_0 rfl<|oV (r_ldbwR (vs:= [cv,pw, .int .i64 locks, .int .i64 nregs]) ti_25 rfl rfl (fun w h=>h.rblk 0 rfl) rfl rfl) rfl<|oM 1 rfl<|onf fl_100_1 rfl<|olR 0 ti_3 rfl rfl<|oM 1 rfl<|onf fl_100_6 rfl<|olR 0 ti_4 rfl rfl<|oV (r_build (cs:= [cv,pw, .int .i64 locks, .int .i64 nregs, .int .i64 mode,(.slice none 0 0),(.slice none 0 0),(.slice none 0 0),(.slice none 0 0), .bool fell]) rfl rfl (by kernel_rfl)) rfl<|.nl)<|gbx rfl rfl fun b13=>gRn (oM 1 rfl<|.nl)<|nK k12<|sK fun _ k14=>gRn (oM 1 rfl<|.nl)<|gE1 (fun _ _ h_=>x_lit0 (α:=Int) h_ sl_23 ti_3 rfl rfl rfl) rfl fun v15=>gRn (oM 1 rfl<|onf fl_100_3 rfl<|olR 2 ti_23 rfl rfl<|.nl)<|gE1 (fun _ _ h_=>x_app (r:=0) (rm:=4) (s:=(⟨v15, []⟩:Ls Int)) (m:=words) h_ sl_23 ti_3 rfl rfl rfl rfl rfl rfl rfl (fun w h=>(h.at 4 rfl)) (fun b hb=> .inr hb) (fun q hq b hb=> .inr ⟨q,hq,hb⟩) rfl rfl rfl inferInstance (show (([]).length+words.l.length)*8≤140737488355328∧([]).length+words.l.length≤140737488355328 from om9) rfl rfl) rfl fun v16=>gRn (onf fl_100_3 rfl<|.nl)<|gsr 1 ti_23 rfl (aO 0 rfl) rfl<|nK k14<|gF [0,3] rfl<|sK fun _ k18=>gRn (oM 1 rfl<|.nl)<|gE1 (fun _ _ h_=>x_lit0 (α:=Int) h_ sl_23 ti_3 rfl rfl rfl) rfl fun v19=>gRn (oM 1 rfl<|onf fl_100_4 rfl<|olR 3 ti_23 rfl rfl<|.nl)<|gE1 (fun _ _ h_=>x_app (r:=0) (rm:=6) (s:=(⟨v19, []⟩:Ls Int)) (m:=owner) h_ sl_23 ti_3 rfl rfl rfl rfl rfl rfl rfl (fun w h=>(h.at 6 rfl)) (fun b hb=> .inr hb) (fun q hq b hb=> .inr ⟨q,hq,hb⟩) rfl rfl rfl inferInstance (show (([]).length+owner.l.length)*8≤140737488355328∧([]).length+owner.l.length≤140737488355328 from om9) rfl rfl) rfl fun v20=>gRn (onf fl_100_4 rfl<|.nl)<|gsr 2 ti_23 rfl (aO 0 rfl) rfl<|nK k18<|sK fun _ k22=>gRn (oM 1 rfl<|.nl)<|gE1 (fun _ _ h_=>x_lit0 (α:=Int) h_ sl_23 ti_3 rfl rfl rfl) rfl fun v23=>gRn (oM 1 rfl<|onf fl_100_5 rfl<|olR 4 ti_23 rfl rfl<|.nl)<|gE1 (fun _ _ h_=>x_app (r:=0) (rm:=8) (s:=(⟨v23, []⟩:Ls Int)) (m:=prints) h_ sl_23 ti_3 rfl rfl rfl rfl rfl rfl rfl (fun w h=>(h.at 8 rfl)) (fun b hb=> .inr hb) (fun q hq b hb=> .inr ⟨q,hq,hb⟩) rfl rfl rfl inferInstance (show (([]).length+prints.l.length)*8≤140737488355328∧([]).length+prints.l.length≤140737488355328 from om9) rfl rfl) rfl fun v24=>gRn (onf fl_100_5 rfl<|.nl)<|gsr 3 ti_23 rfl (aO 0 rfl) rfl<|nK k22<|gK fun _ k26=>sG (oM 1 rfl<|.nl)<|gB<|fun a30 w30 h30=> ?_;clear h10
 have h29:=h30.nil (α:=ThV) 136
 clear h30
 have h31:=h29.big0 3 144
 clear h29
 refine x_loop (fun m a w=>∃(i:Nat) (rows:List ThL) (vt:Value),(i≤thr.l.length)∧(rows.length=i)∧(rows.map ThL.th=(thr.l.take i).map ThL.th)∧St 98 (fun _=>False) W a w [(0, .pointer (some ⟨g,0,none⟩)),(3, .pointer (some ⟨b13,0,none⟩)),(4, .int .i64 ((i:Nat):Int))] [.own 3 (⟨v24,prints.l⟩:Ls Int), .own 3 (⟨v20,owner.l⟩:Ls Int), .own 3 (⟨v16,words.l⟩:Ls Int), .blk b13 100 [cv,pw, .int .i64 locks, .int .i64 nregs, .int .i64 mode,vt,v16,v20,v24, .bool fell], .rblk g 100 [cv,pw, .int .i64 locks, .int .i64 nregs, .int .i64 mode,thr.v,words.v,owner.v,prints.v, .bool fell], .at_ thr, .at_ words, .at_ owner, .at_ prints, .own 136 (⟨vt,rows.map ThL.toV⟩:Ls ThV), .big (rowsA 3 144 rows)]∧m=thr.l.length-i) ⟨_,0, [],_,(by omega),(rfl),(by simp),h31.nrm ⟨rfl,rfl,rfl,trivial⟩ [2,3,4,5,6,7,8,9,10,1,0] rfl,rfl⟩ ?_
 clear h31
 rintro m28 a28 w28 ⟨i,rows,vt,hi,hrl,hrw,h28,hm28⟩
 refine gG h28<|gK fun _ k32=>sK fun _ k33=>gNl (aA 5 rfl) fun hl34=>gRn (oM 2 rfl<|onf fl_100_2 rfl<|olR 4 ti_98 rfl rfl<|oln sl_98 (aA 5 rfl) rfl<|oltN _ _ rfl<|.nl)<|nK k33<|?_;clear h28
 refine gcd rfl (fun hb35 hp35=> ?_) fun hb35 hp35=> ?_
 ·skip
  refine gS<|hK k32<|?_
  have hrgi:=hrg i (by omega)
  have hwli:=hwl i (by omega)
  refine gK fun _ k36=>gB<|sK fun _ k37=>gRn (oM 1 rfl<|onf fl_100_2 rfl<|olR 4 ti_98 rfl rfl<|oM 1 rfl<|oxN sl_98 ti_136 (aA 5 rfl) _ om9 rfl<|ofE fl_136_0 rfl<|olI ti_3 (aA 5 rfl) om9 rfl<|oV (r_build (cs:= [.int .i64 ((nth thr.l i).pc),(.slice none 0 0),(.slice none 0 0)]) rfl rfl (by kernel_rfl)) rfl<|.nl)<|gal ti_136 rfl fun b38=>gsw 0 ti_136 rfl rfl rfl<|nK k37<|sK fun _ k40=>gE1 (fun _ _ h_=>x_lit0 (α:=Int) h_ sl_23 ti_3 rfl rfl rfl) rfl fun v41=>gRn (oM 1 rfl<|onf fl_100_2 rfl<|olR 6 ti_98 rfl rfl<|oM 1 rfl<|oxN sl_98 ti_136 (aA 7 rfl) _ om9 rfl<|ofE fl_136_1 rfl<|olE (((nth thr.l i).regs).v) ti_23 (aA 7 rfl) om9 rfl<|.nl)<|gE1 (fun _ _ h_=>x_app (r:=0) (rm:=7) (s:=(⟨v41, []⟩:Ls Int)) (m:=(nth thr.l i).regs) h_ sl_23 ti_3 rfl rfl rfl rfl rfl rfl rfl (fun w h=>((h.at 7 rfl).inner i (show i<thr.l.length from om9)).1) (fun b hb=> .inr (.inr ⟨i,(show i<thr.l.length from om9), .inl hb⟩)) (fun q hq b hb=>(Flat.on _ _ hb).elim) rfl rfl rfl inferInstance (show (([]).length+(((nth thr.l i).regs).l).length)*8≤140737488355328∧([]).length+(((nth thr.l i).regs).l).length≤140737488355328 from om9) rfl rfl) rfl fun v42=>gRn (ofB fl_136_1 rfl<|.nl)<|gsr 1 ti_23 rfl (aO 0 rfl) rfl<|nK k40<|gF [0,3,4,5] rfl<|sK fun _ k44=>gE1 (fun _ _ h_=>x_lit0 (α:=Wt) h_ sl_134 ti_144 rfl rfl rfl) rfl fun v45=>gRn (oM 1 rfl<|onf fl_100_2 rfl<|olR 7 ti_98 rfl rfl<|oM 1 rfl<|oxN sl_98 ti_136 (aA 8 rfl) _ om9 rfl<|ofE fl_136_2 rfl<|olE (((nth thr.l i).wait).v) ti_134 (aA 8 rfl) om9 rfl<|.nl)<|gE1 (fun _ _ h_=>x_app (r:=0) (rm:=8) (s:=(⟨v45, []⟩:Ls Wt)) (m:=(nth thr.l i).wait) h_ sl_134 ti_144 rfl rfl rfl rfl rfl rfl rfl (fun w h=>((h.at 8 rfl).inner i (show i<thr.l.length from om9)).2) (fun b hb=> .inr (.inr ⟨i,(show i<thr.l.length from om9), .inr hb⟩)) (fun q hq b hb=>(Flat.on _ _ hb).elim) rfl rfl rfl inferInstance (show (([]).length+(((nth thr.l i).wait).l).length)*24≤140737488355328∧([]).length+(((nth thr.l i).wait).l).length≤140737488355328 from om9) rfl rfl) rfl fun v46=>gRn (ofB fl_136_2 rfl<|.nl)<|gsr 2 ti_134 rfl (aO 0 rfl) rfl<|nK k44<|rC [6,7,10] rfl<|pR [0,1,2,3,4,5] rfl (oM 2 rfl<|onfl 6 fl_100_2 ti_98 rfl rfl<|olw 2 ti_136 rfl rfl<|.nl) rfl<|pX (fun _ _ h_=>x_lit (n:=1) (cs:= [.int .i64 ((nth thr.l i).pc),v42,v46]) ([(⟨(nth thr.l i).pc,v42,v46⟩:ThV)]:List ThV) h_ sl_98 ti_136 rfl rfl rfl (by decide) rfl (by kernel_rfl) rfl (fun q hq w h=>Flat.inner _ _) (fun q hq b hb=>(Flat.on _ _ hb).elim) rfl rfl) rfl fun v48=>pR [0,1,2,3,4] rfl (oM 2 rfl<|onfl 7 fl_100_2 ti_98 rfl rfl<|.nl) rfl<|pX (fun _ _ h_=>x_app1 (r:=13) (rm:=0) (s:=(⟨vt,rows.map ThL.toV⟩:Ls ThV)) (m:=(⟨v48, [(⟨(nth thr.l i).pc,v42,v46⟩:ThV)]⟩:Ls ThV)) h_ sl_98 ti_136 rfl rfl rfl rfl rfl rfl rfl (fun w h=>(h.own 0 rfl)) (fun b hb=>own_on (h_.sh.ok _ (List.mem_of_getElem? (i:=0) rfl)) hb) (fun q hq b hb=>⟨q,hq,hb⟩) rfl rfl rfl (fun w h q hq j hj=>by obtain rfl:q=0:=(by simpa using hq);rcases j with _|_|_|j;exact rfl;exact ((h.own 2 rfl)).one;exact ((h.own 1 rfl)).one;exact absurd hj (by show¬(j+3<3);omega)) (show ((rows.map ThL.toV).length+([(⟨(nth thr.l i).pc,v42,v46⟩:ThV)]).length)*56≤140737488355328∧(rows.map ThL.toV).length+([(⟨(nth thr.l i).pc,v42,v46⟩:ThV)]).length≤140737488355328 from om9) rfl rfl) rfl fun v49=>pR [0,8,9] rfl (oM 1 rfl<|onf fl_100_2 rfl<|.nl) rfl<|pS (fun _ _ h_=>x_stb (i:=7) (vs:= [v49]) (cs' := [cv,pw, .int .i64 locks, .int .i64 nregs, .int .i64 mode,v49,v16,v20,v24, .bool fell]) h_ ti_98 rfl rfl rfl rfl rfl (cells_oneL ((h_.sh.own 13 rfl)).one) rfl (allOne_cons ((h_.sh.own 13 rfl)).one allOne_nil) (Nat.le_of_ble_eq_true rfl) rfl) rfl<|pE [] rfl (.nl) rfl<|hK k36<|gL<|gRn (oM 1 rfl<|oadN _ 1 om9 rfl<|oM 1 rfl<|.nl)<|nN<|gO [2,1,14,0,3,4,5,6,7,8,9,10,11,12,13] rfl<|fun a53 w53 h53=> ?_
  have h52:=h53.fold (x:=(⟨(nth thr.l i).pc,(⟨v42,((nth thr.l i).regs).l⟩:Ls Int),(⟨v46,((nth thr.l i).wait).l⟩:Ls Wt)⟩:ThL))
  clear h53
  have h54:=h52.relist (i:=12) (l' :=(rows++ [(⟨(nth thr.l i).pc,(⟨v42,((nth thr.l i).regs).l⟩:Ls Int),(⟨v46,((nth thr.l i).wait).l⟩:Ls Wt)⟩:ThL)]).map ThL.toV) rfl (by simp [ThL.toV])
  clear h52
  refine x_again ⟨_, ?_,(i+1),(rows++ [(⟨(nth thr.l i).pc,(⟨v42,((nth thr.l i).regs).l⟩:Ls Int),(⟨v46,((nth thr.l i).wait).l⟩:Ls Wt)⟩:ThL)]),v49, ?_, ?_, ?_,h54.nrm ⟨rfl,rfl,rfl,trivial⟩ [3,4,5,6,7,8,9,10,11,12,0] rfl,rfl⟩
  · rw [hm28];first|omega|(simp only [lens9];omega)
  · omega
  · simp [hrl]
  · rw [List.map_append,hrw,take_succ_nth _ _ (by omega),List.map_append];rfl
 refine gX<|hK k26<|sG (oM 2 rfl<|.nl)<|gR<|fun a56 w56 h56=>x_ret1 (fn:=Try.f49) (t:=2) rfl h56 rfl<|⟨b13,rows,vt,⟨v16,words.l⟩,⟨v20,owner.l⟩,⟨v24,prints.l⟩,rfl, ?_,rfl,rfl,rfl,(h56.sh.sel [3,9,10,2,1,0] rfl)⟩
 rw [hrw,show i=thr.l.length by omega,List.take_length]
theorem begin_c (code:Ls (Ls Ins))(words:Ls Int)(Lk R:Nat)(mode:Int)(W:World)(hcode:code.At W)(hwords:words.At W)(hcl:code.l.length≤4)(hlk:Lk≤4)(hR:R≤200)(hwn:words.l.length≤64):
    Rets Try.prog 44 [.agg #[code.v,words.v, .int .i64 ((Lk:Nat):Int), .int .i64 ((R:Nat):Int)], .int .i64 mode] W (fun v w' =>∃(g2:Nat) (rows:List ThL) (vt:Value) (words' owner' prints' :Ls Int),v= .pointer (some ⟨g2,0,none⟩)∧rows.map ThL.th=List.replicate code.l.length ⟨0,List.replicate R 0, []⟩∧words'.l=words.l∧owner'.l=List.replicate Lk (-1)∧prints'.l= []∧Sh0 W w' [.blk g2 100 [code.v,words.v, .int .i64 (Lk:Int), .int .i64 (R:Int), .int .i64 mode,vt,words'.v,owner'.v,prints'.v, .bool false], .own 136 (⟨vt,rows.map ThL.toV⟩:Ls ThV), .big (rowsA 3 144 rows), .own 3 words', .own 3 owner', .own 3 prints']):=by
 refine gen Try.func44 Try.ntmps44 (Sh0.ext2 hcode hwords:Sh (fun _=>False) W W [.at_ code, .at_ words]) rfl fun a10 h10=>gG h10<|sK fun _ k11=>gbx rfl rfl fun b12=>gRn (oM 1 rfl<|.nl)<|nK k11<|sK fun _ k13=>gRn (olw 0 ti_25 rfl rfl<|oM 1 rfl<|oV (r_build (cs:= [code.v,words.v, .int .i64 ((Lk:Nat):Int), .int .i64 ((R:Nat):Int), .int .i64 mode,(.slice none 0 0),(.slice none 0 0),(.slice none 0 0),(.slice none 0 0), .bool false]) rfl rfl (by kernel_rfl)) rfl<|.nl)<|gbx rfl rfl fun b14=>gRn (oM 1 rfl<|.nl)<|nK k13<|sK fun _ k15=>gRn (oM 1 rfl<|.nl)<|gE1 (fun _ _ h_=>x_lit0 (α:=Int) h_ sl_23 ti_3 rfl rfl rfl) rfl fun v16=>gRn (ofB fl_25_1 rfl<|olB 2 ti_23 rfl rfl<|.nl)<|gE1 (fun _ _ h_=>x_app (r:=0) (rm:=4) (s:=(⟨v16, []⟩:Ls Int)) (m:=words) h_ sl_23 ti_3 rfl rfl rfl rfl rfl rfl rfl (fun w h=>(h.at 4 rfl)) (fun b hb=> .inr hb) (fun q hq b hb=> .inr ⟨q,hq,hb⟩) rfl rfl rfl inferInstance (show (([]).length+words.l.length)*8≤140737488355328∧([]).length+words.l.length≤140737488355328 from om9) rfl rfl) rfl fun v17=>gRn (onf fl_100_3 rfl<|.nl)<|gsr 1 ti_23 rfl (aO 0 rfl) rfl<|nK k15<|gK fun _ k19=>sG (oM 1 rfl<|.nl)<|gB<|fun a23 w23 h23=> ?_;clear h10
 have h22:=h23.nil (α:=Int) 3
 clear h23
 refine x_loop (fun m a w=>∃(i:Nat) (ol:List Int) (vo:Value),(i≤Lk)∧(ol=List.replicate i (-1))∧(ol.length=i)∧St 55 (fun _=>False) W a w [(2, .pointer (some ⟨b12,0,none⟩)),(5, .pointer (some ⟨b14,0,none⟩)),(6, .int .i64 ((i:Nat):Int))] [.own 3 (⟨v17,words.l⟩:Ls Int), .blk b14 100 [code.v,words.v, .int .i64 ((Lk:Nat):Int), .int .i64 ((R:Nat):Int), .int .i64 mode,(.slice none 0 0),v17,vo,(.slice none 0 0), .bool false], .blk b12 25 [code.v,words.v, .int .i64 ((Lk:Nat):Int), .int .i64 ((R:Nat):Int)], .at_ code, .at_ words, .own 3 (⟨vo,ol⟩:Ls Int)]∧m=Lk-i) ⟨_,0, [],(.slice none 0 0),(by omega),(rfl),(rfl),h22.nrm ⟨rfl,rfl,rfl,trivial⟩ [1,2,3,4,5,0] rfl,rfl⟩ ?_
 clear h22
 rintro m21 a21 w21 ⟨i,ol,vo,hi,hol,holl,h21,hm21⟩
 refine gG h21<|gK fun _ k24=>sG (oM 1 rfl<|ofB fl_25_2 rfl<|olB 2 ti_3 rfl rfl<|oltN _ _ rfl<|.nl)<|?_;clear h21
 refine gcd rfl (fun hb26 hp26=> ?_) fun hb26 hp26=> ?_
 ·skip
  refine gS<|hK k24<|gK fun _ k27=>gB<|gL<|gRn (oM 2 rfl<|onfl 1 fl_100_4 ti_23 rfl rfl<|.nl)<|gE1 (fun _ _ h_=>x_lit (n:=1) (cs:= [.int .i64 (-1)]) ([(-1)]:List Int) h_ sl_23 ti_3 rfl rfl rfl (by decide) rfl (by kernel_rfl) rfl (fun q hq w h=>Flat.inner _ _) (fun q hq b hb=>(Flat.on _ _ hb).elim) rfl rfl) rfl fun v28=>gE1 (fun _ _ h_=>x_app (r:=6) (rm:=0) (s:=(⟨vo,ol⟩:Ls Int)) (m:=(⟨v28, [(-1)]⟩:Ls Int)) h_ sl_23 ti_3 rfl rfl rfl rfl rfl rfl rfl (fun w h=>(h.own 0 rfl)) (fun b hb=>own_on (h_.sh.ok _ (List.mem_of_getElem? (i:=0) rfl)) hb) (fun q hq b hb=>⟨q,hq,hb⟩) rfl rfl rfl inferInstance (show (ol.length+([(-1)]).length)*8≤140737488355328∧ol.length+([(-1)]).length≤140737488355328 from om9) rfl rfl) rfl fun v29=>gRn (onf fl_100_4 rfl<|.nl)<|gsr 2 ti_23 rfl (aO 6 rfl) rfl<|nK k27<|gL<|gRn (oM 1 rfl<|oadN _ 1 om9 rfl<|oM 1 rfl<|.nl)<|nN<|fun a31 w31 h31=>x_again ⟨_, ?_,i+1,ol++([(-1)]),v29, ?_, ?_, ?_,h31.nrm ⟨rfl,rfl,rfl,trivial⟩ [1,2,3,4,5,6] rfl,rfl⟩
  · rw [hm21];first|omega|(simp only [lens9];omega)
  · omega
  · rw [hol,List.replicate_succ']
  · simp [holl]
 refine gX<|hK k19<|?_
 have hol2:ol=List.replicate Lk (-1):=by rw [hol,show i=Lk by omega]
 clear hol hi holl
 refine gK fun _ k32=>sG (oM 1 rfl<|.nl)<|gB<|fun a36 w36 h36=> ?_
 have h35:=h36.nil (α:=ThV) 136
 clear h36
 have h37:=h35.big0 3 144
 clear h35
 refine x_loop (fun m a w=>∃(i:Nat) (rows:List ThL) (vt:Value),(i≤code.l.length)∧(rows.length=i)∧(rows.map ThL.th=List.replicate i ⟨0,List.replicate R 0, []⟩)∧St 55 (fun _=>False) W a w [(2, .pointer (some ⟨b12,0,none⟩)),(5, .pointer (some ⟨b14,0,none⟩)),(7, .int .i64 ((i:Nat):Int))] [.own 3 (⟨v17,words.l⟩:Ls Int), .blk b14 100 [code.v,words.v, .int .i64 ((Lk:Nat):Int), .int .i64 ((R:Nat):Int), .int .i64 mode,vt,v17,vo,(.slice none 0 0), .bool false], .blk b12 25 [code.v,words.v, .int .i64 ((Lk:Nat):Int), .int .i64 ((R:Nat):Int)], .at_ code, .at_ words, .own 3 (⟨vo,ol⟩:Ls Int), .own 136 (⟨vt,rows.map ThL.toV⟩:Ls ThV), .big (rowsA 3 144 rows)]∧m=code.l.length-i) ⟨_,0, [],_,(by omega),(rfl),(rfl),h37.nrm ⟨rfl,rfl,rfl,trivial⟩ [2,3,4,5,6,7,1,0] rfl,rfl⟩ ?_
 clear h37
 rintro m34 a34 w34 ⟨i,rows,vt,hi,hrl,hrw,h34,hm34⟩
 refine gG h34<|gK fun _ k38=>sK fun _ k39=>gNl (aA 3 rfl) fun hl40=>gRn (oM 1 rfl<|ofB fl_25_0 rfl<|olB 2 ti_22 rfl rfl<|oln sl_22 (aA 3 rfl) rfl<|oltN _ _ rfl<|.nl)<|nK k39<|?_;clear h34
 refine gcd rfl (fun hb41 hp41=> ?_) fun hb41 hp41=> ?_
 ·skip
  refine gS<|hK k38<|gK fun _ k42=>gB<|rC [7,9,10,13] rfl<|pR [0,1,2,3,4,5,6] rfl (oM 2 rfl<|onfl 1 fl_100_2 ti_98 rfl rfl<|ofB fl_25_3 rfl<|olB 2 ti_3 rfl rfl<|.nl) rfl<|pX (fun _ _ h_=>x_make (n:=R) (0:Int) h_ sl_23 ti_3 rfl rfl rfl rfl rfl (show 8*R≤140737488355328∧R≤140737488355328 from om9) (fun w=>Flat.inner _ _) (fun b=>Flat.on _ _) rfl rfl) rfl fun v43=>pR [0,1,2,3,4,8] rfl (oM 2 rfl<|onfl 2 fl_100_2 ti_98 rfl rfl<|oV (r_buildS (cs:= [.int .i64 0,v43,(.slice none 0 0)]) rfl rfl (fun w h=>by obtain ⟨A44,n44,c44,(e44:v43=_)⟩:=((h.own 0 rfl)).form;rw [e44];kernel_rfl)) rfl<|.nl) rfl<|pX (fun _ _ h_=>x_lit (n:=1) (cs:= [.int .i64 0,v43,(.slice none 0 0)]) ([(⟨0,v43,(.slice none 0 0)⟩:ThV)]:List ThV) h_ sl_98 ti_136 rfl rfl rfl (by decide) rfl (by kernel_rfl) rfl (fun q hq w h=>Flat.inner _ _) (fun q hq b hb=>(Flat.on _ _ hb).elim) rfl rfl) rfl fun v45=>pR [0,1,2,3,4] rfl (oM 2 rfl<|onfl 3 fl_100_2 ti_98 rfl rfl<|.nl) rfl<|pX (fun _ _ h_=>x_app1 (r:=8) (rm:=0) (s:=(⟨vt,rows.map ThL.toV⟩:Ls ThV)) (m:=(⟨v45, [(⟨0,v43,(.slice none 0 0)⟩:ThV)]⟩:Ls ThV)) h_ sl_98 ti_136 rfl rfl rfl rfl rfl rfl rfl (fun w h=>(h.own 0 rfl)) (fun b hb=>own_on (h_.sh.ok _ (List.mem_of_getElem? (i:=0) rfl)) hb) (fun q hq b hb=>⟨q,hq,hb⟩) rfl rfl rfl (fun w h q hq j hj=>by obtain rfl:q=0:=(by simpa using hq);rcases j with _|_|_|j;exact rfl;exact ((h.own 1 rfl)).one;exact rfl;exact absurd hj (by show¬(j+3<3);omega)) (show ((rows.map ThL.toV).length+([(⟨0,v43,(.slice none 0 0)⟩:ThV)]).length)*56≤140737488355328∧(rows.map ThL.toV).length+([(⟨0,v43,(.slice none 0 0)⟩:ThV)]).length≤140737488355328 from om9) rfl rfl) rfl fun v46=>pR [0,11,12] rfl (oM 1 rfl<|onf fl_100_2 rfl<|.nl) rfl<|pS (fun _ _ h_=>x_stb (i:=3) (vs:= [v46]) (cs' := [code.v,words.v, .int .i64 ((Lk:Nat):Int), .int .i64 ((R:Nat):Int), .int .i64 mode,v46,v17,vo,(.slice none 0 0), .bool false]) h_ ti_98 rfl rfl rfl rfl rfl (cells_oneL ((h_.sh.own 8 rfl)).one) rfl (allOne_cons ((h_.sh.own 8 rfl)).one allOne_nil) (Nat.le_of_ble_eq_true rfl) rfl) rfl<|pE [] rfl (.nl) rfl<|hK k42<|gL<|gRn (oM 1 rfl<|oadN _ 1 om9 rfl<|oM 1 rfl<|.nl)<|nN<|fun a49 w49 h49=> ?_
  have h48:=h49.nil (α:=Wt) 144
  clear h49
  have h50:=h48.sel (L' := [_,_,_,_,_,_,_,_,_,_,_]) [2,0,10,1,3,4,5,6,7,8,9] rfl
  have h51:=h50.fold (x:=(⟨0,(⟨v43,List.replicate R 0⟩:Ls Int),(⟨.slice none 0 0, []⟩:Ls Wt)⟩:ThL))
  clear h50
  have h52:=h51.relist (i:=8) (l' :=(rows++ [(⟨0,(⟨v43,List.replicate R 0⟩:Ls Int),(⟨.slice none 0 0, []⟩:Ls Wt)⟩:ThL)]).map ThL.toV) rfl (by simp [ThL.toV])
  clear h51
  refine x_again ⟨_, ?_,(i+1),(rows++ [(⟨0,(⟨v43,List.replicate R 0⟩:Ls Int),(⟨.slice none 0 0, []⟩:Ls Wt)⟩:ThL)]),v46, ?_, ?_, ?_,h52.nrm ⟨rfl,rfl,rfl,trivial⟩ [2,3,4,5,6,7,8,0] rfl,rfl⟩
  · rw [hm34];first|omega|(simp only [lens9];omega)
  · omega
  · simp [hrl]
  · rw [List.map_append,hrw,List.replicate_succ'];rfl
 refine gX<|hK k32<|sG (oM 2 rfl<|.nl)<|gR<|fun a54 w54 h54=>x_ret1 (fn:=Try.f44) (t:=4) rfl h54 rfl ?_
 have h56:=h54.nil (α:=Int) 3
 clear h54
 refine ⟨b14,rows,vt,⟨v17,words.l⟩,⟨vo,ol⟩,⟨.slice none 0 0, []⟩,rfl, ?_,rfl,hol2,rfl,(h56.sh.sel [2,7,8,1,6,0] rfl)⟩
 rw [hrw,show i=code.l.length by omega]
def stA (g:Nat)(hd:List Value)(vt:Value)(rows:List ThL)(words owner prints:Ls Int)(fell:Bool):List Asn:=
 [.blk g 100 (hd++ [vt,words.v,owner.v,prints.v, .bool fell]), .own 136 (⟨vt,rows.map ThL.toV⟩:Ls ThV), .big (rowsA 3 144 rows), .own 3 words, .own 3 owner, .own 3 prints]
theorem do_full (K:Nat→Prop)(g mv:Nat)(code:Ls (Ls Ins))(vt:Value)(rows:List ThL)(words owner prints:Ls Int)(pw:Value)(locks nregs mode:Int)(fell:Bool)(W:World)
  (hS:Sh K W W (stA g [code.v,pw, .int .i64 locks, .int .i64 nregs, .int .i64 mode] vt rows words owner prints fell++ [.at_ code]))
  (hn:mv/8<rows.length) (htc:mv/8<code.l.length) (hmv:mv<1000000) (hpc:0≤(nth rows (mv/8)).pc∧(nth rows (mv/8)).pc<1000000) (hwl:(nth rows (mv/8)).wait.l.length≤3) (hkw:mv%8≤(nth rows (mv/8)).wait.l.length) (hpl:prints.l.length≤100000000) (hol:owner.l.length≤100)
  (hwt:∀j,j<(nth rows (mv/8)).wait.l.length→if (nth (nth rows (mv/8)).wait.l j).lock=true then 0≤(nth (nth rows (mv/8)).wait.l j).wh∧(nth (nth rows (mv/8)).wait.l j).wh<owner.l.length else 0≤(nth (nth rows (mv/8)).wait.l j).wh∧(nth (nth rows (mv/8)).wait.l j).wh<words.l.length)
  (hio:mv%8=0→InsR (nth rows (mv/8)).regs.l.length words.l.length owner.l.length (nextIns (nth code.l (mv/8)).l (nth rows (mv/8)).pc)):
  Rets Try.prog 50 [.pointer (some ⟨g,0,none⟩), .int .i64 ((mv:Nat):Int)] W (fun v w' =>v= .tuple #[]∧∃(rows' :List ThL) (words' owner' prints' :Ls Int) (fell' :Bool) (y:TS),
   y=doT mode (mv/8) (nth code.l (mv/8)).l (mv%8) ⟨(nth rows (mv/8)).pc,(nth rows (mv/8)).regs.l,(nth rows (mv/8)).wait.l,words.l,owner.l,prints.l,fell⟩∧rows'.map ThL.th=(rows.map ThL.th).set (mv/8) ⟨y.pc,y.regs,y.wait⟩∧words'.l=y.words∧owner'.l=y.owner∧prints'.l=y.prints∧fell' =y.fell∧
   Sh K W w' (stA g [code.v,pw, .int .i64 locks, .int .i64 nregs, .int .i64 mode] vt rows' words' owner' prints' fell' ++ [.at_ code])):=by
 have h1:=hS.perm (L' := .big (rowsA 3 144 rows):: [.blk g 100 [code.v,pw, .int .i64 locks, .int .i64 nregs, .int .i64 mode,vt,words.v,owner.v,prints.v, .bool fell], .own 136 (⟨vt,rows.map ThL.toV⟩:Ls ThV), .own 3 words, .own 3 owner, .own 3 prints, .at_ code]) ((List.Perm.swap _ _ _).cons _|>.trans (List.Perm.swap _ _ _))
 have h2:=h1.openAt _ hn
 have h3:Sh K W W ([.blk g 100 [code.v,pw, .int .i64 locks, .int .i64 nregs, .int .i64 mode,vt,words.v,owner.v,prints.v, .bool fell], .own 136 (⟨vt,rows.map ThL.toV⟩:Ls ThV), .own 3 (nth rows (mv/8)).regs, .own 144 (nth rows (mv/8)).wait, .own 3 words, .own 3 owner, .own 3 prints, .at_ code]++ [.big (rowsA 3 144 (rows.eraseIdx (mv/8)))]):=h2.sel (L' := [.blk g 100 [code.v,pw, .int .i64 locks, .int .i64 nregs, .int .i64 mode,vt,words.v,owner.v,prints.v, .bool fell], .own 136 (⟨vt,rows.map ThL.toV⟩:Ls ThV), .own 3 (nth rows (mv/8)).regs, .own 144 (nth rows (mv/8)).wait, .own 3 words, .own 3 owner, .own 3 prints, .at_ code, .big (rowsA 3 144 (rows.eraseIdx (mv/8)))]) [3,4,0,1,5,6,7,8,2] rfl
 have hnt:nth (rows.map ThL.toV) (mv/8)=(nth rows (mv/8)).toV:=nth_map' _ _ _ hn
 refine Rets.mono (do_c _ g mv code ⟨vt,rows.map ThL.toV⟩ (nth rows (mv/8)).regs (nth rows (mv/8)).wait words owner prints pw locks nregs mode fell W h3.passL (by simpa using hn) htc hmv (by rw [hnt];rfl) (by rw [hnt];rfl) (by rw [hnt];exact hpc) hwl hkw hpl hol hwt (by rw [hnt];exact hio)) ?_
 rintro v w' ⟨rfl,regs',wait',words',owner',prints',pc',fell',he,hs⟩
 have h4:=h3.backL hs (by intro A hA b hb;simp only [List.mem_cons,List.not_mem_nil,or_false] at hA;rcases hA with rfl|rfl|rfl|rfl|rfl|rfl|rfl|rfl<;>first|exact (hb:False).elim|exact Flat.noRd hb|exact .inl ⟨_,List.mem_of_getElem? (i:=7) rfl, .inr hb⟩)
 have h5:=h4.sel (L' := .own 3 regs' :: .own 144 wait' :: .big (rowsA 3 144 (rows.eraseIdx (mv/8))):: [.blk g 100 ([code.v,pw, .int .i64 locks, .int .i64 nregs, .int .i64 mode]++ [vt,words'.v,owner'.v,prints'.v, .bool fell']), .own 136 (⟨vt,(rows.map ThL.toV).set (mv/8) ⟨pc',regs'.v,wait'.v⟩⟩:Ls ThV), .own 3 words', .own 3 owner', .own 3 prints', .at_ code]) [2,3,8,0,1,4,5,6,7] rfl
 have h6:=Sh.closeAt (x:=⟨pc',regs',wait'⟩) _ hn h5
 rw [show (rows.map ThL.toV).set (mv/8) ⟨pc',regs'.v,wait'.v⟩=(rows.set (mv/8) ⟨pc',regs',wait'⟩).map ThL.toV by rw [List.map_set];rfl] at h6
 have h7:=h6.perm (L' :=stA g [code.v,pw, .int .i64 locks, .int .i64 nregs, .int .i64 mode] vt (rows.set (mv/8) ⟨pc',regs',wait'⟩) words' owner' prints' fell' ++ [.at_ code]) ((List.Perm.swap _ _ _).trans ((List.Perm.swap _ _ _).cons _))
 rw [hnt] at he
 refine ⟨rfl,rows.set (mv/8) ⟨pc',regs',wait'⟩,words',owner',prints',fell',(⟨pc',regs'.l,wait'.l,words'.l,owner'.l,prints'.l,fell'⟩:TS),he, ?_,rfl,rfl,rfl,rfl,h7⟩
 rw [List.map_set];rfl
def sumStep (h:Nat)(x:Int):Nat:=((h^^^toU x)*1099511628211%18446744073709551616)^^^(((h^^^toU x)*1099511628211%18446744073709551616)/2^29)
def sumL (l:List Int):Nat:=l.foldl sumStep (toU (l.length:Int))%4096
theorem sumL_lt (l:List Int):sumL l<4096:=Nat.mod_lt _ (by decide)
def lessB :List Int→List Int→Bool
 |a::l,b::m=>if a=b then lessB l m else decide (a<b)
 |l,m=>decide (l.length<m.length)
theorem lessB_ne :∀ {l m:List Int} (i:Nat),i<l.length→i<m.length→(∀j,j<i→nth l j=nth m j)→nth l i≠nth m i→lessB l m=decide (nth l i<nth m i)
 |a::l,b::m,0,_,_,_,h=>by
  have h' :a≠b:=h
  unfold lessB;rw [if_neg h'];rfl
 |a::l,b::m,i+1,hl,hm,hall,h=>by
  have h0:a=b:=hall 0 (by omega)
  unfold lessB;rw [if_pos h0]
  exact lessB_ne i (by simpa using hl) (by simpa using hm) (fun j hj=>hall (j+1) (by omega)) h
theorem lessB_end :∀ {l m:List Int} (i:Nat),i≤l.length→i≤m.length→(i=l.length∨i=m.length)→(∀j,j<i→nth l j=nth m j)→lessB l m=decide (l.length<m.length)
 | [],m,i,_,_,_,_=>by unfold lessB;rfl
 |a::l, [],i,_,_,_,_=>by unfold lessB;rfl
 |a::l,b::m,0,_,_,h,_=>by simp at h
 |a::l,b::m,i+1,hl,hm,he,hall=>by
  have h0:a=b:=hall 0 (by omega)
  have ih:=lessB_end (l:=l) (m:=m) i (by simpa using hl) (by simpa using hm) (by simpa using he) (fun j hj=>hall (j+1) (by omega))
  unfold lessB;rw [if_pos h0,ih];simp
def aheadB (a b:Outc):Bool:=if a.st=b.st then (if a.words=b.words then lessB a.prints b.prints else lessB a.words b.words) else decide (a.st<b.st)
theorem sameOut {l m:List OutL}(hl:l.length=m.length)(h:∀i,i<l.length→(nth l i).out=(nth m i).out):l.map OutL.out=m.map OutL.out:=by
 refine ext_nth _ _ (by simpa using hl) fun i hi=> ?_
 have hi' :i<l.length:=by simpa using hi
 rw [nth_map' _ _ _ hi',nth_map' _ _ _ (by omega)]
 exact h i hi'
theorem sameAt {l m:List OutL}(h:l.map OutL.out=m.map OutL.out)(i:Nat)(hi:i<l.length):(nth l i).out=(nth m i).out:=by
 have hl:l.length=m.length:=by simpa using congrArg List.length h
 have:=congrArg (fun q=>nth q i) h
 rwa [nth_map' _ _ _ hi,nth_map' _ _ _ (by omega)] at this
theorem LsNil {α:Type}[Enc α](w:World):(⟨.slice none 0 0, []⟩:Ls α).At w:=own_at (E:=0) (World.ownsRow_nil w 0 0 _|>fun h=>⟨h,by simp,fun i hi=>absurd hi (by simp)⟩)
theorem sum_c (x:Ls Int)(W:World)(hx:x.At W):
    Rets Try.prog 79 [x.v] W (fun v w' =>v= .int .i64 ((sumL x.l:Nat):Int)∧Sh0 W w' []):=by
 refine gen Try.func79 Try.ntmps79 (Sh0.ext1 hx:Sh (fun _=>False) W W [.at_ x]) rfl fun a10 h10=>gG h10<|sG (oM 1 rfl<|.nl)<|sK fun _ k12=>gNl (aA 0 rfl) fun hl13=>gRn (oM 1 rfl<|oln sl_23 (aA 0 rfl) rfl<|oV (r_cvU Try.underlying3 Try.underlying151 rfl rfl) rfl<|oM 1 rfl<|.nl)<|nK k12<|gK fun _ k14=>sG (oM 1 rfl<|.nl)<|gB<|fun a17 w17 h17=>x_loop (fun m a w=>∃(i hh:Nat),(i≤x.l.length)∧(hh<18446744073709551616)∧(hh=(x.l.take i).foldl sumStep (toU (x.l.length:Int)))∧St 29 (fun _=>False) W a w [(0,x.v),(3, .int .u64 ((hh:Nat):Int)),(4, .int .i64 ((i:Nat):Int))] [.at_ x]∧m=x.l.length-i) ⟨_,0,toU ((x.l.length:Nat):Int),(by omega),(toU_lt _),(rfl),h17.nf ⟨rfl,rfl,rfl,trivial⟩,rfl⟩ ?_;clear h10
 clear h17
 rintro m16 a16 w16 ⟨i,hh,hi,hlt,hh2,h16,hm16⟩
 refine gG h16<|gK fun _ k18=>sG (oM 2 rfl<|oln sl_23 (aA 0 rfl) rfl<|oltN _ _ rfl<|.nl)<|?_;clear h16
 refine gcd rfl (fun hb20 hp20=> ?_) fun hb20 hp20=> ?_
 ·skip
  refine gS<|hK k18<|gK fun _ k21=>gB<|sG (oM 3 rfl<|oxN sl_23 ti_3 (aA 0 rfl) _ om9 rfl<|olI ti_3 (aA 0 rfl) om9 rfl<|oV (r_cvU Try.underlying3 Try.underlying151 rfl rfl) rfl<|oV (r_xorU (p:=hh) (q:=toU (nth x.l i)) rfl rfl rfl ⟨(by first|assumption|exact toU_lt _|omega),(by first|assumption|exact toU_lt _|omega)⟩) rfl<|oV (r_mulU (p:=hh^^^(toU (nth x.l i))) (q:=1099511628211) rfl rfl rfl) rfl<|oM 1 rfl<|.nl)<|gL<|gRn (oM 2 rfl<|oV (r_shrU (p:=(hh^^^(toU (nth x.l i)))*1099511628211%18446744073709551616) (k:=29) rfl rfl rfl (by decide)) rfl<|oV (r_xorU (p:=(hh^^^(toU (nth x.l i)))*1099511628211%18446744073709551616) (q:=((hh^^^(toU (nth x.l i)))*1099511628211%18446744073709551616)/2^29) rfl rfl rfl ⟨(by first|assumption|exact toU_lt _|omega),(by first|assumption|exact toU_lt _|omega)⟩) rfl<|oM 1 rfl<|.nl)<|nK k21<|gL<|gRn (oM 1 rfl<|oadN _ 1 om9 rfl<|oM 1 rfl<|.nl)<|nN<|fun a23 w23 h23=>x_again ⟨_, ?_,i+1,((hh^^^(toU (nth x.l i)))*1099511628211%18446744073709551616)^^^(((hh^^^(toU (nth x.l i)))*1099511628211%18446744073709551616)/2^29), ?_, ?_, ?_,h23.nf ⟨rfl,rfl,rfl,trivial⟩,rfl⟩
  · rw [hm16];first|omega|(simp only [lens9];omega)
  · omega
  · exact xor_lt64 (by omega) (by omega)
  · rw [take_succ_nth _ _ (by omega),List.foldl_append,←hh2,List.foldl_cons,List.foldl_nil,sumStep]
 refine gX<|hK k14<|sG (oM 1 rfl<|oV (r_remU (p:=hh) (q:=4096) rfl rfl rfl (by decide)) rfl<|oV (r_cvI Try.underlying151 Try.underlying3 rfl rfl (show hh%4096<9223372036854775808 from om9)) rfl<|oM 1 rfl<|.nl)<|gR<|fun a25 w25 h25=>x_ret1 (fn:=Try.f79) (t:=2) rfl h25 rfl<|⟨?_,(h25.sh.sel [] rfl)⟩
 rw [show hh%4096=sumL x.l by rw [sumL,hh2,show i=x.l.length by omega,List.take_length]]
theorem less_c (x y:Ls Int)(W:World)(hx:x.At W)(hy:y.At W):
    Rets Try.prog 94 [x.v,y.v] W (fun v w' =>v= .bool (lessB x.l y.l)∧Sh0 W w' []):=by
 refine gen Try.func94 Try.ntmps94 (Sh0.ext2 hx hy:Sh (fun _=>False) W W [.at_ x, .at_ y]) rfl fun a10 h10=>gG h10<|sG (oM 1 rfl<|.nl)<|gK fun _ k12=>sG (oM 1 rfl<|.nl)<|gB<|fun a15 w15 h15=>x_loop (fun m a w=>∃(i:Nat),(i≤x.l.length∧i≤y.l.length)∧(∀j,j<i→nth x.l j=nth y.l j)∧St 41 (fun _=>False) W a w [(0,x.v),(1,y.v),(5, .int .i64 ((i:Nat):Int))] [.at_ x, .at_ y]∧m=x.l.length-i) ⟨_,0,(by omega),(fun j hj=>absurd hj (by omega)),h15.nf ⟨rfl,rfl,rfl,trivial⟩,rfl⟩ ?_;clear h10
 clear h15
 rintro m14 a14 w14 ⟨i,hi,hall,h14,hm14⟩
 refine gG h14<|gK fun _ k16=>sK fun _ k17=>gNl (aA 0 rfl) fun hl18=>gRn (oM 2 rfl<|oln sl_23 (aA 0 rfl) rfl<|oltN _ _ rfl<|oM 1 rfl<|.nl)<|?_;clear h14
 rcases dsp (i<x.l.length) with ⟨hb19,hp19⟩|⟨hb19,hp19⟩
 ·skip
  refine gNl (aA 1 rfl) fun hl20=>gRn (oG hb19 (r_move rfl rfl) rfl<|oG hb19 (r_move rfl rfl) rfl<|oG hb19 (r_len (s:=y) (n:=y.l.length) sl_23 rfl rfl (fun w h=>(h.at 1 rfl)) rfl) rfl<|oG hb19 (r_lssN (p:=i) (q:=y.l.length) rfl rfl rfl) rfl<|opT hb19 rfl<|.nl)<|nK k17<|gcd rfl (fun hb21 hp21=> ?_) fun hb21 hp21=> ?_
  ·skip
   refine gS<|hK k16<|gK fun _ k22=>gB<|gK fun _ k23=>rQ (oM 2 rfl<|oxN sl_23 ti_3 (aA 0 rfl) _ om9 rfl<|olI ti_3 (aA 0 rfl) om9 rfl<|oM 2 rfl<|oxN sl_23 ti_3 (aA 1 rfl) _ om9 rfl<|olI ti_3 (aA 1 rfl) om9 rfl<|oneI _ _ rfl<|.nl)<|hK k23<|gcd rfl (fun hb24 hp24=> ?_) fun hb24 hp24=> ?_
   ·skip
    refine gK fun _ k25=>rQ (oM 2 rfl<|oxN sl_23 ti_3 (aA 0 rfl) _ om9 rfl<|olI ti_3 (aA 0 rfl) om9 rfl<|oM 2 rfl<|oxN sl_23 ti_3 (aA 1 rfl) _ om9 rfl<|olI ti_3 (aA 1 rfl) om9 rfl<|oltI _ _ rfl<|oM 1 rfl<|.nl)<|hK k25<|gF [4] rfl<|gR<|uB<|uT<|uT<|uB<|uT<|fun a26 w26 h26=>x_ret1 (fn:=Try.f94) (t:=4) rfl h26 rfl<|⟨?_,(h26.sh.sel [] rfl)⟩
    congr 1
    first|exact (lessB_ne i (by omega) (by omega) (fun j hj=>hall j hj) (by omega)).symm|exact (lessB_end i (by omega) (by omega) (by omega) (fun j hj=>hall j hj)).symm
   refine gS<|hK k22<|gL<|gRn (oM 1 rfl<|oadN _ 1 om9 rfl<|oM 1 rfl<|.nl)<|nN<|fun a27 w27 h27=>x_again ⟨_, ?_,i+1, ?_, ?_,h27.nf ⟨rfl,rfl,rfl,trivial⟩,rfl⟩
   · rw [hm14];first|omega|(simp only [lens9];omega)
   · omega
   · intro j hj;rcases Nat.lt_or_ge j i with h|h;exact hall j h;obtain rfl:j=i:=(by omega);omega
  refine gX<|hK k12<|sG (oM 1 rfl<|oln sl_23 (aA 0 rfl) rfl<|oM 1 rfl<|oln sl_23 (aA 1 rfl) rfl<|oltN _ _ rfl<|oM 1 rfl<|.nl)<|gR<|fun a29 w29 h29=>x_ret1 (fn:=Try.f94) (t:=4) rfl h29 rfl<|⟨?_,(h29.sh.sel [] rfl)⟩
  congr 1
  first|exact (lessB_ne i (by omega) (by omega) (fun j hj=>hall j hj) (by omega)).symm|exact (lessB_end i (by omega) (by omega) (by omega) (fun j hj=>hall j hj)).symm
 refine gRn (oKs 4 hb19 rfl rfl<|opF hb19 rfl<|.nl)<|nK k17<|gcF rfl rfl<|gX<|hK k12<|sK fun _ k30=>gNl (aA 1 rfl) fun hl31=>gRn (oM 1 rfl<|oln sl_23 (aA 0 rfl) rfl<|oM 1 rfl<|oln sl_23 (aA 1 rfl) rfl<|oltN _ _ rfl<|oM 1 rfl<|.nl)<|nK k30<|gR<|fun a32 w32 h32=>x_ret1 (fn:=Try.f94) (t:=4) rfl h32 rfl<|⟨?_,(h32.sh.sel [] rfl)⟩
 congr 1
 first|exact (lessB_ne i (by omega) (by omega) (fun j hj=>hall j hj) (by omega)).symm|exact (lessB_end i (by omega) (by omega) (by omega) (fun j hj=>hall j hj)).symm
theorem ahead_c (x y:OutL)(W:World)(hxw:x.words.At W)(hxp:x.prints.At W)(hyw:y.words.At W)(hyp:y.prints.At W):
    Rets Try.prog 72 [.agg #[.int .i64 x.st,x.words.v,x.prints.v], .agg #[.int .i64 y.st,y.words.v,y.prints.v]] W (fun v w' =>v= .bool (aheadB x.out y.out)∧Sh0 W w' []):=by
 refine gen Try.func72 Try.ntmps72 (Sh0.ext4 hxw hxp hyw hyp:Sh (fun _=>False) W W [.at_ x.words, .at_ x.prints, .at_ y.words, .at_ y.prints]) rfl fun a10 h10=>gG h10<|sK fun _ k11=>gbx rfl rfl fun b12=>gbx rfl rfl fun b13=>gRn (oM 1 rfl<|.nl)<|nK k11<|gK fun _ k14=>sG (ofB fl_49_0 rfl<|olB 1 ti_3 rfl rfl<|ofB fl_49_0 rfl<|olB 0 ti_3 rfl rfl<|oneI _ _ rfl<|.nl)<|?_;clear h10
 refine gcd rfl (fun hb16 hp16=> ?_) fun hb16 hp16=> ?_
 ·skip
  refine sG (ofB fl_49_0 rfl<|olB 1 ti_3 rfl rfl<|ofB fl_49_0 rfl<|olB 0 ti_3 rfl rfl<|oltI _ _ rfl<|oM 1 rfl<|.nl)<|gR<|uT<|fun a18 w18 h18=>x_ret1 (fn:=Try.f72) (t:=4) rfl h18 rfl<|⟨?_,(h18.sh.sel [] rfl)⟩
  congr 1
  unfold aheadB OutL.out
  first|(rw [if_neg (by assumption)];done)|(rw [if_pos (by omega),if_neg (by assumption)];done)|(rw [if_pos (by omega),if_pos (by assumption)];done)|(simp only [];rw [if_neg (by assumption)];done)|(simp only [];rw [if_pos (by omega),if_neg (by assumption)];done)|(simp only [];rw [if_pos (by omega),if_pos (by assumption)])
 refine gS<|hK k14<|sK fun _ k19=>gRn (ofB fl_49_1 rfl<|olB 1 ti_23 rfl rfl<|ofB fl_49_1 rfl<|olB 0 ti_23 rfl rfl<|.nl)<|gP (fun _ _ h_=>xCl h_ bd_24 rfl (ints_c x.words y.words _ (h_.sh.at 2 rfl) (h_.sh.at 4 rfl))) rfl<|gRn (oM 1 rfl<|.nl)<|nK k19<|gK fun _ k21=>sG (oM 1 rfl<|ont rfl<|.nl)<|gCb rfl (fun hb23=> ?_) fun hb23=> ?_
 ·have hp23:¬(x.words.l=y.words.l):=by simpa using hb23
  refine sK fun _ k24=>gRn (ofB fl_49_1 rfl<|olB 1 ti_23 rfl rfl<|ofB fl_49_1 rfl<|olB 0 ti_23 rfl rfl<|.nl)<|gP (fun _ _ h_=>xCl h_ bd_94 rfl (less_c x.words y.words _ (h_.sh.at 2 rfl) (h_.sh.at 4 rfl))) rfl<|gRn (oM 1 rfl<|.nl)<|nK k24<|gR<|uT<|fun a26 w26 h26=>x_ret1 (fn:=Try.f72) (t:=4) rfl h26 rfl<|⟨?_,(h26.sh.sel [] rfl)⟩
  congr 1
  unfold aheadB OutL.out
  first|(rw [if_neg (by assumption)];done)|(rw [if_pos (by omega),if_neg (by assumption)];done)|(rw [if_pos (by omega),if_pos (by assumption)];done)|(simp only [];rw [if_neg (by assumption)];done)|(simp only [];rw [if_pos (by omega),if_neg (by assumption)];done)|(simp only [];rw [if_pos (by omega),if_pos (by assumption)])
 have hp23:x.words.l=y.words.l:=by simpa using hb23
 refine gS<|hK k21<|sK fun _ k27=>gRn (ofB fl_49_2 rfl<|olB 1 ti_23 rfl rfl<|ofB fl_49_2 rfl<|olB 0 ti_23 rfl rfl<|.nl)<|gP (fun _ _ h_=>xCl h_ bd_94 rfl (less_c x.prints y.prints _ (h_.sh.at 3 rfl) (h_.sh.at 5 rfl))) rfl<|gRn (oM 1 rfl<|.nl)<|nK k27<|gR<|fun a29 w29 h29=>x_ret1 (fn:=Try.f72) (t:=4) rfl h29 rfl<|⟨?_,(h29.sh.sel [] rfl)⟩
 congr 1
 unfold aheadB OutL.out
 first|(rw [if_neg (by assumption)];done)|(rw [if_pos (by omega),if_neg (by assumption)];done)|(rw [if_pos (by omega),if_pos (by assumption)];done)|(simp only [];rw [if_neg (by assumption)];done)|(simp only [];rw [if_pos (by omega),if_neg (by assumption)];done)|(simp only [];rw [if_pos (by omega),if_pos (by assumption)])
theorem sameO_c (x y:Ls OutL)(W:World)(hx:x.At W)(hy:y.At W):
    Rets Try.prog 16 [x.v,y.v] W (fun v w' =>v= .bool (decide (x.l.map OutL.out=y.l.map OutL.out))∧Sh0 W w' []):=by
 refine gen Try.func16 Try.ntmps16 (Sh0.ext2 hx hy:Sh (fun _=>False) W W [.at_ x, .at_ y]) rfl fun a10 h10=>gG h10<|sG (oM 1 rfl<|.nl)<|gK fun _ k12=>sK fun _ k13=>gNl (aA 0 rfl) fun hl14=>gNl (aA 1 rfl) fun hl15=>gRn (oM 1 rfl<|oln sl_42 (aA 0 rfl) rfl<|oM 1 rfl<|oln sl_42 (aA 1 rfl) rfl<|oneN _ _ rfl<|.nl)<|nK k13<|?_;clear h10
 refine gcd rfl (fun hb16 hp16=> ?_) fun hb16 hp16=> ?_
 ·skip
  refine sG (oM 1 rfl<|.nl)<|gR<|uT<|fun a18 w18 h18=>x_ret1 (fn:=Try.f16) (t:=4) rfl h18 rfl<|⟨?_,(h18.sh.sel [] rfl)⟩
  congr 1
  first|(refine (decide_eq_true (sameOut (by omega) fun j hj=>hall j (by omega))).symm;done)|(refine (decide_eq_false fun e=> ?_).symm;have e1:=congrArg List.length e;simp only [List.length_map] at e1;first|omega|(have e2:=sameAt e i (by omega);have e3:=congrArg Outc.st e2;have e4:=congrArg Outc.words e2;have e5:=congrArg Outc.prints e2;simp only [OutL.out] at e3 e4 e5;first|omega|(exact absurd e4 (by assumption))|(exact absurd e5 (by assumption))))
 refine gS<|hK k12<|gK fun _ k19=>sG (oM 1 rfl<|.nl)<|gB<|fun a22 w22 h22=>x_loop (fun m a w=>∃(i:Nat),(i≤x.l.length)∧(∀j,j<i→(nth x.l j).out=(nth y.l j).out)∧St 60 (fun _=>False) W a w [(0,x.v),(1,y.v),(5, .int .i64 ((i:Nat):Int))] [.at_ x, .at_ y]∧m=x.l.length-i) ⟨_,0,(by omega),(fun j hj=>absurd hj (by omega)),h22.nf ⟨rfl,rfl,rfl,trivial⟩,rfl⟩ ?_
 clear h22
 rintro m21 a21 w21 ⟨i,hi,hall,h21,hm21⟩
 refine gG h21<|gK fun _ k23=>sG (oM 2 rfl<|oln sl_42 (aA 0 rfl) rfl<|oltN _ _ rfl<|.nl)<|?_;clear h21
 refine gcd rfl (fun hb25 hp25=> ?_) fun hb25 hp25=> ?_
 ·skip
  refine gS<|hK k23<|gK fun _ k26=>gB<|gK fun _ k27=>fun a28 w28 h28=>x_quiet (by kernel_rfl) (by kernel_rfl) h28 fun _ z29=>qQ h28.fr<|qRn (oM 2 rfl<|oxN sl_42 ti_49 (aA 0 rfl) _ om9 rfl<|ofE fl_49_1 rfl<|olE (((nth x.l i).words).v) ti_23 (aA 0 rfl) om9 rfl<|oM 2 rfl<|oxN sl_42 ti_49 (aA 1 rfl) _ om9 rfl<|ofE fl_49_1 rfl<|olE (((nth y.l i).words).v) ti_23 (aA 1 rfl) om9 rfl<|.nl)<|qP bd_24 rfl (fun w h=>(ints_c ((nth x.l i).words) ((nth y.l i).words) _ ((h.at 0 rfl).inner i (show i<x.l.length from (by omega))).1 ((h.at 1 rfl).inner i (show i<y.l.length from (by omega))).1))<|qRn (oM 1 rfl<|.nl)<|qN z29<|hK k27<|gK fun _ k30=>fun a31 w31 h31=>x_quiet (by kernel_rfl) (by kernel_rfl) h31 fun _ z32=>qQ h31.fr<|qRn (oM 2 rfl<|oxN sl_42 ti_49 (aA 0 rfl) _ om9 rfl<|ofE fl_49_2 rfl<|olE (((nth x.l i).prints).v) ti_23 (aA 0 rfl) om9 rfl<|oM 2 rfl<|oxN sl_42 ti_49 (aA 1 rfl) _ om9 rfl<|ofE fl_49_2 rfl<|olE (((nth y.l i).prints).v) ti_23 (aA 1 rfl) om9 rfl<|.nl)<|qP bd_24 rfl (fun w h=>(ints_c ((nth x.l i).prints) ((nth y.l i).prints) _ ((h.at 0 rfl).inner i (show i<x.l.length from (by omega))).2 ((h.at 1 rfl).inner i (show i<y.l.length from (by omega))).2))<|qRn (oM 1 rfl<|.nl)<|qN z32<|hK k30<|gF [0,1,5,6,7] rfl<|gK fun _ k33=>fun a34 w34 h34=>x_quiet (by kernel_rfl) (by kernel_rfl) h34 fun _ z35=>qQ h34.fr<|qRn (oM 2 rfl<|oxN sl_42 ti_49 (aA 0 rfl) _ om9 rfl<|ofE fl_49_0 rfl<|olI ti_3 (aA 0 rfl) om9 rfl<|oM 2 rfl<|oxN sl_42 ti_49 (aA 1 rfl) _ om9 rfl<|ofE fl_49_0 rfl<|olI ti_3 (aA 1 rfl) om9 rfl<|oneI _ _ rfl<|oM 1 rfl<|.nl)<|?_;clear h28 h31
  rcases dsp ((nth x.l i).st≠(nth y.l i).st) with ⟨hb36,hp36⟩|⟨hb36,hp36⟩
  ·skip
   refine qRn (oKs 2 hb36 rfl rfl<|opT hb36 rfl<|oM 1 rfl<|oKs 2 rfl rfl rfl<|opT rfl rfl<|.nl)<|qN z35<|?_;clear h34
   refine hK k33<|gcT rfl rfl<|sG (oM 1 rfl<|.nl)<|gF [4] rfl<|gR<|uB<|uT<|uT<|uB<|uT<|fun a40 w40 h40=>x_ret1 (fn:=Try.f16) (t:=4) rfl h40 rfl<|⟨?_,(h40.sh.sel [] rfl)⟩
   congr 1
   first|(refine (decide_eq_true (sameOut (by omega) fun j hj=>hall j (by omega))).symm;done)|(refine (decide_eq_false fun e=> ?_).symm;have e1:=congrArg List.length e;simp only [List.length_map] at e1;first|omega|(have e2:=sameAt e i (by omega);have e3:=congrArg Outc.st e2;have e4:=congrArg Outc.words e2;have e5:=congrArg Outc.prints e2;simp only [OutL.out] at e3 e4 e5;first|omega|(exact absurd e4 (by assumption))|(exact absurd e5 (by assumption))))
  refine qRn (oG hb36 (r_move rfl rfl) rfl<|oG hb36 (r_not rfl rfl) rfl<|opF hb36 rfl<|oM 1 rfl<|.nl)<|?_
  rcases Bool.eq_false_or_eq_true (!(decide (((nth x.l i).words).l=((nth y.l i).words).l))) with hb43|hb43
  ·have hp43:¬(((nth x.l i).words).l=((nth y.l i).words).l):=by simpa using hb43
   refine qRn (oKs 2 hb43 rfl rfl<|opT hb43 rfl<|.nl)<|qN z35<|?_;clear h34
   refine hK k33<|gcT rfl rfl<|sG (oM 1 rfl<|.nl)<|gF [4] rfl<|gR<|uB<|uT<|uT<|uB<|uT<|fun a46 w46 h46=>x_ret1 (fn:=Try.f16) (t:=4) rfl h46 rfl<|⟨?_,(h46.sh.sel [] rfl)⟩
   congr 1
   first|(refine (decide_eq_true (sameOut (by omega) fun j hj=>hall j (by omega))).symm;done)|(refine (decide_eq_false fun e=> ?_).symm;have e1:=congrArg List.length e;simp only [List.length_map] at e1;first|omega|(have e2:=sameAt e i (by omega);have e3:=congrArg Outc.st e2;have e4:=congrArg Outc.words e2;have e5:=congrArg Outc.prints e2;simp only [OutL.out] at e3 e4 e5;first|omega|(exact absurd e4 (by assumption))|(exact absurd e5 (by assumption))))
  have hp43:((nth x.l i).words).l=((nth y.l i).words).l:=by simpa using hb43
  refine qRn (oG hb43 (r_move rfl rfl) rfl<|oG hb43 (r_not rfl rfl) rfl<|opF hb43 rfl<|.nl)<|qN z35<|?_;clear h34
  refine hK k33<|gCb rfl (fun hb49=> ?_) fun hb49=> ?_
  ·have hp49:¬(((nth x.l i).prints).l=((nth y.l i).prints).l):=by simpa using hb49
   refine sG (oM 1 rfl<|.nl)<|gF [4] rfl<|gR<|uB<|uT<|uT<|uB<|uT<|fun a51 w51 h51=>x_ret1 (fn:=Try.f16) (t:=4) rfl h51 rfl<|⟨?_,(h51.sh.sel [] rfl)⟩
   congr 1
   first|(refine (decide_eq_true (sameOut (by omega) fun j hj=>hall j (by omega))).symm;done)|(refine (decide_eq_false fun e=> ?_).symm;have e1:=congrArg List.length e;simp only [List.length_map] at e1;first|omega|(have e2:=sameAt e i (by omega);have e3:=congrArg Outc.st e2;have e4:=congrArg Outc.words e2;have e5:=congrArg Outc.prints e2;simp only [OutL.out] at e3 e4 e5;first|omega|(exact absurd e4 (by assumption))|(exact absurd e5 (by assumption))))
  have hp49:((nth x.l i).prints).l=((nth y.l i).prints).l:=by simpa using hb49
  refine gS<|hK k26<|gL<|gRn (oM 1 rfl<|oadN _ 1 om9 rfl<|oM 1 rfl<|.nl)<|nN<|fun a52 w52 h52=>x_again ⟨_, ?_,i+1, ?_, ?_,h52.nf ⟨rfl,rfl,rfl,trivial⟩,rfl⟩
  · rw [hm21];first|omega|(simp only [lens9];omega)
  · omega
  · intro j hj;rcases Nat.lt_or_ge j i with h|h;exact hall j h;obtain rfl:j=i:=(by omega);unfold OutL.out;congr 1<;>first|assumption|omega
 refine gX<|hK k19<|sG (oM 1 rfl<|.nl)<|gR<|fun a54 w54 h54=>x_ret1 (fn:=Try.f16) (t:=4) rfl h54 rfl<|⟨?_,(h54.sh.sel [] rfl)⟩
 congr 1
 first|(refine (decide_eq_true (sameOut (by omega) fun j hj=>hall j (by omega))).symm;done)|(refine (decide_eq_false fun e=> ?_).symm;have e1:=congrArg List.length e;simp only [List.length_map] at e1;first|omega|(have e2:=sameAt e i (by omega);have e3:=congrArg Outc.st e2;have e4:=congrArg Outc.words e2;have e5:=congrArg Outc.prints e2;simp only [OutL.out] at e3 e4 e5;first|omega|(exact absurd e4 (by assumption))|(exact absurd e5 (by assumption))))
def LastSum (ks:List (List Int))(n h:Nat)(r:Int):Prop:=(r= -1∧∀j,j<n→sumL (nth ks j)≠h)∨∃k:Nat,r=k∧k<n∧sumL (nth ks k)=h∧∀j,k<j→j<n→sumL (nth ks j)≠h
theorem LastSum.lt {ks:List (List Int)}{n h:Nat}{r:Int}(hl:LastSum ks n h r): -1≤r∧r<n:=by
 rcases hl with ⟨h,_⟩|⟨k,h,h2,_⟩<;>omega
theorem LastSum.at {ks:List (List Int)}{n h:Nat}{r:Int}(hl:LastSum ks n h r)(h0:0≤r):sumL (nth ks r.toNat)=h∧∀j,r.toNat<j→j<n→sumL (nth ks j)≠h:=by
 rcases hl with ⟨h,_⟩|⟨k,rfl,h2,h3,h4⟩
 ·omega
 ·exact ⟨by simpa using h3,fun j hj=>h4 j (by simpa using hj)⟩
theorem LastSum.none {ks:List (List Int)}{n h:Nat}{r:Int}(hl:LastSum ks n h r)(h0:¬0≤r):∀j,j<n→sumL (nth ks j)≠h:=by
 rcases hl with ⟨_,h⟩|⟨k,rfl,_⟩
 ·exact h
 ·omega
structure HeadsOK (ks:List (List Int))(heads before:List Int):Prop where
 hl:heads.length=4096
 bl:before.length=ks.length
 hd:∀h,h<4096→LastSum ks ks.length h (nth heads h)
 bf:∀i,i<ks.length→LastSum ks i (sumL (nth ks i)) (nth before i)
theorem nth_app0 {α:Type}[Inhabited α](l m:List α)(k:Nat):nth (l++m) k=if k<l.length then nth l k else nth m (k-l.length):=by
 simp only [nth,List.getD]
 by_cases h:k<l.length
 ·rw [List.getElem?_append_left h,if_pos h]
 ·rw [List.getElem?_append_right (by omega),if_neg h]
theorem LastSum.more {ks:List (List Int)}{n h:Nat}{r:Int}(x:List Int)(hl:LastSum ks n h r)(hn:n≤ks.length):LastSum (ks++ [x]) n h r:=by
 have e:∀j,j<n→nth (ks++ [x]) j=nth ks j:=fun j hj=>by rw [nth_app0,if_pos (by omega)]
 rcases hl with ⟨h1,h2⟩|⟨k,h1,h2,h3,h4⟩
 ·exact .inl ⟨h1,fun j hj=>by rw [e j hj];exact h2 j hj⟩
 ·exact .inr ⟨k,h1,h2,by rw [e k h2];exact h3,fun j hj hj2=>by rw [e j hj2];exact h4 j hj hj2⟩
theorem HeadsOK.put {ks:List (List Int)}{heads before:List Int}(h:HeadsOK ks heads before)(x:List Int):HeadsOK (ks++ [x]) (heads.set (sumL x) ((ks.length:Nat):Int)) (before++ [nth heads (sumL x)]):=by
 have hx:nth (ks++ [x]) ks.length=x:=by rw [nth_app0,if_neg (by omega)];simp [nth]
 refine ⟨by simpa using h.hl,by simp [h.bl],fun s hs=> ?_,fun i hi=> ?_⟩
 ·rw [nth_set]
  by_cases e:sumL x=s
  ·rw [if_pos ⟨e,by rw [h.hl];exact sumL_lt x⟩]
   exact .inr ⟨ks.length,rfl,by simp,by rw [hx];exact e,fun j hj hj2=>by simp at hj2;omega⟩
  ·rw [if_neg (fun hh=>e hh.1)]
   rcases h.hd s hs with ⟨h1,h2⟩|⟨k,h1,h2,h3,h4⟩
   ·refine .inl ⟨h1,fun j hj=> ?_⟩
    simp at hj
    rcases Nat.lt_or_ge j ks.length with hlt|hge
    ·rw [nth_app0,if_pos hlt];exact h2 j hlt
    ·obtain rfl:j=ks.length:=by omega
     rw [hx];exact e
   ·refine .inr ⟨k,h1,by simp;omega,by rw [nth_app0,if_pos h2];exact h3,fun j hj hj2=> ?_⟩
    simp at hj2
    rcases Nat.lt_or_ge j ks.length with hlt|hge
    ·rw [nth_app0,if_pos hlt];exact h4 j hj hlt
    ·obtain rfl:j=ks.length:=by omega
     rw [hx];exact e
 ·simp at hi
  rcases Nat.lt_or_ge i ks.length with hlt|hge
  ·rw [nth_app0 ks,if_pos hlt,nth_app0 before,if_pos (by rw [h.bl];exact hlt)]
   exact (h.bf i hlt).more x (by omega)
  ·obtain rfl:i=ks.length:=by omega
   rw [hx,nth_app0 before,if_neg (by rw [h.bl];omega),h.bl]
   have:=(h.hd (sumL x) (sumL_lt x)).more x (Nat.le_refl _)
   simpa [nth] using this
def PutRel (o:OutL)(l l' :List OutL):Prop:=((∃i,i<l.length∧aheadB o.out (nth l i).out=false∧aheadB (nth l i).out o.out=false)∧l' =l)∨
 ∃k,k≤l.length∧(∀j,j<k→aheadB o.out (nth l j).out=false∧aheadB (nth l j).out o.out=true)∧(k<l.length→aheadB o.out (nth l k).out=true)∧l' =l.take k++o::l.drop k
def PutInv (o:OutL)(l:List OutL)(i:Nat)(dn:Bool)(ol:List OutL):Prop:=(dn=false∧ol=l.take i∧∀j,j<i→aheadB o.out (nth l j).out=false∧aheadB (nth l j).out o.out=true)∨
 (dn=true∧∃k,k<i∧k<l.length∧(∀j,j<k→aheadB o.out (nth l j).out=false∧aheadB (nth l j).out o.out=true)∧aheadB o.out (nth l k).out=true∧ol=l.take k++o::(l.drop k).take (i-k))
theorem PutInv.one {o:OutL}{l ol:List OutL}{i:Nat}(h:PutInv o l i false ol)(hi:i<l.length)(h1:aheadB o.out (nth l i).out=true):PutInv o l (i+1) true ((ol++ [o])++ [nth l i]):=by
 rcases h with ⟨_,h2,h3⟩|⟨h,_⟩
 ·refine .inr ⟨rfl,i,by omega,hi,h3,h1, ?_⟩
  have e1:(l.drop i).take 1= [nth l i]:=by rw [List.drop_eq_getElem_cons hi,nth_lt l i hi];rfl
  rw [h2,show i+1-i=1 by omega,e1]
  simp
 ·cases h
theorem PutInv.two {o:OutL}{l ol:List OutL}{i:Nat}{dn:Bool}(h:PutInv o l i dn ol)(hi:i<l.length)(h1:dn=true∨(aheadB o.out (nth l i).out=false∧aheadB (nth l i).out o.out=true)):PutInv o l (i+1) dn (ol++ [nth l i]):=by
 rcases h with ⟨h,h2,h3⟩|⟨h,k,h2,h3,h4,h5,h6⟩
 ·refine .inl ⟨h,by rw [h2,take_succ_nth _ _ hi],fun j hj=> ?_⟩
  rcases Nat.lt_or_ge j i with hlt|hge
  ·exact h3 j hlt
  ·obtain rfl:j=i:=by omega
   rcases h1 with h1|h1
   ·rw [h] at h1;cases h1
   ·exact h1
 ·refine .inr ⟨h,k,by omega,h3,h4,h5, ?_⟩
  rw [h6,show i+1-k=(i-k)+1 by omega,take_succ_nth _ _ (by simp;omega)]
  have:nth (l.drop k) (i-k)=nth l i:=by simp only [nth,List.getD,List.getElem?_drop,show k+(i-k)=i by omega]
  rw [this];simp
theorem PutInv.rel {o:OutL}{l ol:List OutL}{i:Nat}(h:PutInv o l i true ol)(hi:i=l.length):PutRel o l ol:=by
 rcases h with ⟨h,_⟩|⟨_,k,h2,h3,h4,h5,h6⟩
 ·cases h
 ·exact .inr ⟨k,by omega,h4,fun _=>h5,by rw [h6,List.take_of_length_le (l:=l.drop k) (by rw [List.length_drop];omega)]⟩
theorem PutInv.rel0 {o:OutL}{l ol:List OutL}{i:Nat}(h:PutInv o l i false ol)(hi:i=l.length):PutRel o l (ol++ [o]):=by
 rcases h with ⟨_,h2,h3⟩|⟨h,_⟩
 ·subst hi
  exact .inr ⟨l.length,Nat.le_refl _,h3,fun h=>absurd h (by omega),by rw [h2];simp⟩
 ·cases h
theorem PutInv.len {o:OutL}{l ol:List OutL}{i:Nat}{dn:Bool}(h:PutInv o l i dn ol)(hi:i≤l.length):ol.length≤i+1:=by
 rcases h with ⟨_,h2,_⟩|⟨_,k,h2,h3,_,_,h6⟩
 ·rw [h2];simp;omega
 ·rw [h6];simp;omega
def KeyRel (L:List Int)(x:SD)(states states' :List SD)(keys keys' :List (Ls Int))(heads before heads' before' :List Int)(full full' :Bool):Prop:=
 ((∃j,j<keys.length∧(nth keys j).l=L)∧states' =states∧keys'.map (·.l)=keys.map (·.l)∧HeadsOK (keys'.map (·.l)) heads' before' ∧full' =full)∨
 ((∀j,j<keys.length→(nth keys j).l≠L)∧states' =states++ [x]∧keys'.map (·.l)=keys.map (·.l)++ [L]∧HeadsOK (keys'.map (·.l)) heads' before' ∧full' =(full||decide (4000<states.length+1)))
theorem put_c (K:Nat→Prop)(gs:Nat)(x:SD)(states:Ls SD)(keys:Ls (Ls Int))(heads before:Ls Int)(ev:Value)(full:Bool)(cv pw:Value)(locks nregs mode:Int)(W:World)(hS:Sh K W W [.blk gs 44 [states.v,keys.v,heads.v,before.v,ev, .bool full], .own 92 states, .deep 23 keys, .own 3 heads, .own 3 before, .rd1 x])(hok:HeadsOK (keys.l.map (·.l)) heads.l before.l)(hlen:states.l.length=keys.l.length)(hkl:keys.l.length≤5000)(hhd:x.hd= [cv,pw, .int .i64 locks, .int .i64 nregs, .int .i64 mode])(hE:x.E=100)(hcl:x.thr.l.length≤4)(hrg:∀i,i<x.thr.l.length→(nth x.thr.l i).regs.l.length≤100000)(hwl:∀i,i<x.thr.l.length→(nth x.thr.l i).wait.l.length≤3)(hwn:x.words.l.length≤100000∧x.owner.l.length≤100000∧x.prints.l.length≤100000000):
    Rets Try.prog 45 [.pointer (some ⟨gs,0,none⟩), .pointer (some ⟨x.g,0,none⟩)] W (fun v w' =>v= .tuple #[]∧∃(states' :Ls SD) (keys' :Ls (Ls Int)) (heads' before' :Ls Int) (full' :Bool),KeyRel (numbersL (x.thr.l.map ThL.th) x.words.l x.owner.l x.prints.l) x states.l states'.l keys.l keys'.l heads.l before.l heads'.l before'.l full full' ∧Sh K W w' [.blk gs 44 [states'.v,keys'.v,heads'.v,before'.v,ev, .bool full'], .own 92 states', .deep 23 keys', .own 3 heads', .own 3 before', .rd1 x]):=by
 have hbl:before.l.length=keys.l.length:=by simpa using hok.bl
 have hhl:heads.l.length=4096:=hok.hl
 have hslt:=fun l=>sumL_lt l
 refine gen Try.func45 Try.ntmps45 hS rfl fun a10 h10=>gG h10<|sK fun _ k11=>gRn (oM 1 rfl<|.nl)<|fun a13 w13 h13=>wl_ex (x_call h13 bd_78 rfl rfl rfl rfl rfl (numbers_c x.g x.thr x.words x.owner x.prints _ _ _ _ _ _ _ (by have h9:=(show Enc.inner x _ from (h13.sh.ok _ (List.mem_of_getElem? (i:=5) rfl))).1;rw [hE,SD.cells,hhd] at h9;exact h9) (show Enc.inner x _ from (h13.sh.ok _ (List.mem_of_getElem? (i:=5) rfl))).2.1 (show Enc.inner x _ from (h13.sh.ok _ (List.mem_of_getElem? (i:=5) rfl))).2.2.1 (show Enc.inner x _ from (h13.sh.ok _ (List.mem_of_getElem? (i:=5) rfl))).2.2.2.1 (show Enc.inner x _ from (h13.sh.ok _ (List.mem_of_getElem? (i:=5) rfl))).2.2.2.2 hcl hrg hwl hwn)) (wanted_none rfl _) ?_;clear h10
 rintro a14 w14 ⟨_,⟨s14,rfl,hml14,hs14⟩,hf14⟩
 have hml:=hml14
 have h14:St _ K W a14 w14 _ _:=⟨hf14,h13.sh.callI hs14⟩
 clear hf14 hs14
 clear h13
 refine gG h14<|gRn (oM 1 rfl<|.nl)<|nK k11<|sK fun _ k15=>gRn (oM 1 rfl<|.nl)<|gP (fun _ _ h_=>xCl h_ bd_79 rfl (sum_c s14 _ (h_.sh.own 0 rfl))) rfl<|gRn (oM 1 rfl<|.nl)<|nK k15<|?_;clear h14
 have hsl:=sumL_lt s14.l
 refine gK fun _ k17=>sK fun _ k18=>gNl (aO 4 rfl) fun hl19=>gRn (oM 1 rfl<|onfl 1 fl_44_2 ti_23 rfl rfl<|oM 1 rfl<|oxN sl_23 ti_3 (aO 4 rfl) _ om9 rfl<|olI ti_3 (aO 4 rfl) om9 rfl<|oM 1 rfl<|.nl)<|nK k18<|gB<|fun a21 w21 h21=>x_loop (fun m a w=>∃(i:Int) (mm:Nat),(LastSum (keys.l.map (·.l)) mm (sumL s14.l) i)∧(mm≤keys.l.length)∧(∀j,mm≤j→j<keys.l.length→(nth keys.l j).l≠s14.l)∧St 100 K W a w [(0, .pointer (some ⟨gs,0,none⟩)),(1, .pointer (some ⟨x.g,0,none⟩)),(4,s14.v),(5, .int .i64 ((sumL s14.l:Nat):Int)),(6, .int .i64 i)] [.own 3 s14, .blk gs 44 [states.v,keys.v,heads.v,before.v,ev, .bool full], .own 92 states, .deep 23 keys, .own 3 heads, .own 3 before, .rd1 x]∧m=(i+1).toNat) ⟨_,_,keys.l.length,(by have:=hok.hd _ (sumL_lt s14.l);simpa using this),(Nat.le_refl _),(fun j hj hj2=>absurd hj2 (by omega)),h21.nf ⟨rfl,rfl,rfl,rfl,rfl,trivial⟩,rfl⟩ ?_
 clear h21
 rintro m20 a20 w20 ⟨i,mm,hls,hm,hno,h20,hm20⟩
 have hlt:=hls.lt
 refine gG h20<|gK fun _ k22=>sG (oM 1 rfl<|ogeI _ _ rfl<|.nl)<|?_;clear h20
 refine gcd rfl (fun hb24 hp24=> ?_) fun hb24 hp24=> ?_
 ·skip
  refine gS<|hK k22<|gK fun _ k25=>gB<|sK fun _ k26=>gNl (aD 3 rfl) fun hl27=>gRn (oM 1 rfl<|onfl 1 fl_44_1 ti_26 rfl rfl<|oM 1 rfl<|oxI sl_26 ti_23 (aD 3 rfl) om9 rfl<|olE ((nth keys.l i.toNat).v) ti_23 (aD 3 rfl) om9 rfl<|oM 1 rfl<|.nl)<|gP (fun _ _ h_=>xCl h_ bd_24 rfl (ints_c (nth keys.l i.toNat) s14 _ ((h_.sh.deep 3 rfl).nth i.toNat (show i.toNat<keys.l.length from (by omega))) (h_.sh.own 0 rfl))) rfl<|gRn (oM 1 rfl<|.nl)<|nK k26<|sG (oM 1 rfl<|.nl)<|gcd rfl (fun hb30 hp30=> ?_) fun hb30 hp30=> ?_
  ·skip
   refine gR<|uB<|uT<|uT<|uB<|uT<|fun a31 w31 h31=>x_ret0 (fn:=Try.f45) rfl h31<|⟨rfl,states,keys,heads,before,full, ?_,(h31.sh.sel [1,2,3,4,5,6] rfl)⟩
   exact .inl ⟨⟨i.toNat,by omega,by rw [←hml];assumption⟩,rfl,rfl,hok,rfl⟩
  refine gS<|hK k25<|gL<|gNl (aO 5 rfl) fun hl32=>gRn (oM 1 rfl<|onfl 1 fl_44_3 ti_23 rfl rfl<|oM 1 rfl<|oxI sl_23 ti_3 (aO 5 rfl) om9 rfl<|olI ti_3 (aO 5 rfl) om9 rfl<|oM 1 rfl<|.nl)<|nN<|fun a33 w33 h33=>x_again ⟨_, ?_,_,i.toNat, ?_, ?_, ?_,h33.nf ⟨rfl,rfl,rfl,rfl,rfl,trivial⟩,rfl⟩
  · rw [hm20];have h9:=(hok.bf i.toNat (by simp;omega)).lt;omega
  · have h9:=hok.bf i.toNat (by simp;omega);rw [(hls.at (by omega)).1] at h9;exact h9
  · omega
  · intro j hj hj2;rcases Nat.lt_or_ge j mm with h9|h9;(rcases Nat.lt_or_ge i.toNat j with h8|h8;(intro e9;have h7:=(hls.at (by omega)).2 j h8 h9;rw [nth_map' _ _ _ hj2,e9] at h7;exact h7 rfl);(obtain rfl:j=i.toNat:=(by omega);assumption));exact hno j h9 hj2
 refine gX<|hK k17<|gK fun _ k34=>rC [12,13,16] rfl<|pR [0,1,2,3,4,5,6,7,8,9,10,11] rfl (oM 2 rfl<|onfl 1 fl_44_3 ti_23 rfl rfl<|oM 1 rfl<|onfl 1 fl_44_2 ti_23 rfl rfl<|oM 1 rfl<|oxN sl_23 ti_3 (aO 4 rfl) _ om9 rfl<|olI ti_3 (aO 4 rfl) om9 rfl<|.nl) rfl<|pX (fun _ _ h_=>x_lit (n:=1) (cs:= [.int .i64 (nth heads.l (sumL s14.l))]) ([nth heads.l (sumL s14.l)]:List Int) h_ sl_23 ti_3 rfl rfl rfl (by decide) rfl (by kernel_rfl) rfl (fun q hq w h=>Flat.inner _ _) (fun q hq b hb=>(Flat.on _ _ hb).elim) rfl rfl) rfl fun v35=>pR [0,1,2,3,4] rfl (oM 2 rfl<|onfl 2 fl_44_3 ti_23 rfl rfl<|.nl) rfl<|pX (fun _ _ h_=>x_app (r:=6) (rm:=0) (s:=before) (m:=(⟨v35, [nth heads.l (sumL s14.l)]⟩:Ls Int)) h_ sl_23 ti_3 rfl rfl rfl rfl rfl rfl rfl (fun w h=>(h.own 0 rfl)) (fun b hb=>own_on (h_.sh.ok _ (List.mem_of_getElem? (i:=0) rfl)) hb) (fun q hq b hb=>⟨q,hq,hb⟩) rfl rfl rfl inferInstance (show (before.l.length+([nth heads.l (sumL s14.l)]).length)*8≤140737488355328∧before.l.length+([nth heads.l (sumL s14.l)]).length≤140737488355328 from om9) rfl rfl) rfl fun v36=>pR [0,14,15] rfl (oM 1 rfl<|onf fl_44_3 rfl<|.nl) rfl<|pS (fun _ _ h_=>x_stb (i:=2) (vs:= [v36]) (cs' := [states.v,keys.v,heads.v,v36,ev, .bool full]) h_ ti_23 rfl rfl rfl rfl rfl (cells_oneL ((h_.sh.own 6 rfl)).one) rfl (allOne_cons ((h_.sh.own 6 rfl)).one allOne_nil) (Nat.le_of_ble_eq_true rfl) rfl) rfl<|pE [] rfl (.nl) rfl<|hK k34<|gK fun _ k38=>gNl (aO 3 rfl) fun hl39=>rT 11 [] (oM 1 rfl<|onfl 2 fl_44_2 ti_23 rfl rfl<|oM 2 rfl<|onfl 2 fl_44_0 ti_41 rfl rfl<|oln sl_41 (aO 3 rfl) rfl<|oxN sl_23 ti_3 (aO 5 rfl) _ om9 rfl<|.nl)<|gte 5 (((states.l.length:Nat):Int):Int) ti_3 om9 rfl rfl<|nK k38<|gF [0,1,4] rfl<|sK fun _ k41=>gRn (oM 2 rfl<|onfl 2 fl_44_0 ti_41 rfl rfl<|oM 1 rfl<|.nl)<|gE1 (fun _ _ h_=>x_lit (n:=1) (cs:= [.pointer (some ⟨x.g,0,none⟩)]) ([x]:List SD) h_ sl_41 ti_92 rfl rfl rfl (by decide) rfl (by kernel_rfl) rfl (fun q hq w h=>by obtain rfl:q=0:=(by simpa using hq);exact h.ok _ (List.mem_of_getElem? (i:=7) rfl)) (fun q hq b hb=>by obtain rfl:q=0:=(by simpa using hq);exact ⟨_,List.mem_of_getElem? (i:=7) rfl,hb⟩) rfl rfl) rfl fun v42=>gE1 (fun _ _ h_=>x_app (r:=4) (rm:=0) (s:=states) (m:=(⟨v42, [x]⟩:Ls SD)) h_ sl_41 ti_92 rfl rfl rfl rfl rfl rfl rfl (fun w h=>(h.own 0 rfl)) (fun b hb=>own_on (h_.sh.ok _ (List.mem_of_getElem? (i:=0) rfl)) hb) (fun q hq b hb=>⟨q,hq,hb⟩) rfl rfl rfl inferInstance (show (states.l.length+([x]).length)*8≤140737488355328∧states.l.length+([x]).length≤140737488355328 from om9) rfl rfl) rfl fun v43=>gRn (onf fl_44_0 rfl<|.nl)<|gsr 3 ti_41 rfl (aO 4 rfl) rfl<|nK k41<|sK fun _ k45=>gRn (oM 2 rfl<|onfl 3 fl_44_1 ti_26 rfl rfl<|oM 1 rfl<|.nl)<|gO [2,0,1,3,4,5,6,7,8] rfl<|gE1 (fun _ _ h_=>x_litD (E:=0) (x:=s14) h_ sl_26 ti_23 rfl rfl rfl ((h_.sh.own 0 rfl)) (fun b hb=>(own_on (h_.sh.ok _ (List.mem_of_getElem? (i:=0) rfl)) hb).elim (fun h=>h) (fun h=>Flat.noRd h)) (fun b hb=>Flat.noRd hb) rfl rfl) rfl fun v47=>gO [5,0,1,2,3,4,6,7,8] rfl<|gE1 (fun _ _ h_=>x_appD (s:=keys) (m:=(⟨v47, [s14]⟩:Ls (Ls Int))) h_ sl_26 ti_23 rfl rfl rfl rfl rfl rfl rfl inferInstance (show (keys.l.length+([s14]).length)*24≤140737488355328∧keys.l.length+([s14]).length≤140737488355328 from om9) rfl rfl) rfl fun v49=>gRn (onf fl_44_1 rfl<|.nl)<|gsr 3 ti_26 rfl (aD 0 rfl) rfl<|nK k45<|gL<|gRn (oM 2 rfl<|onfl 3 fl_44_5 ti_4 rfl rfl<|oM 1 rfl<|.nl)<|?_
 rcases Bool.eq_false_or_eq_true full with hb51|hb51
 ·skip
  refine gRn (oKs 6 hb51 rfl rfl<|opT hb51 rfl<|onf fl_44_5 rfl<|.nl)<|gst (v:= .bool true) 3 ti_4 rfl rfl rfl<|nN<|fun a53 w53 h53=> ?_
  try simp only [Exit.then,Exit.inBlock,if_true]
  refine x_end0 (fn:=Try.f45) rfl h53<|⟨rfl,⟨v43,states.l++([x])⟩,⟨v49,keys.l++([s14])⟩,⟨heads.v,heads.l.set (sumL s14.l) ((states.l.length:Nat):Int)⟩,⟨v36,before.l++([nth heads.l (sumL s14.l)])⟩,true, ?_,(h53.sh.sel [3,4,0,5,6,7] rfl)⟩
  refine .inr ⟨fun j hj=> ?_,rfl, ?_, ?_, ?_⟩
  · rw [←hml];rcases Nat.lt_or_ge j mm with h9|h9;(intro e9;have h8:=hls.none (by omega) j h9;rw [nth_map' _ _ _ hj,e9] at h8;exact h8 rfl);exact hno j h9 hj
  · rw [List.map_append,←hml];rfl
  · have h9:=hok.put s14.l;rw [List.length_map,←hlen] at h9;rw [List.map_append];exact h9
  · first|rfl|(rw [show full=true by assumption];rfl)|(rw [show full=false by assumption];simp)
 refine gRn (oG hb51 (r_move rfl rfl) rfl<|oG hb51 (r_nil rfl rfl) rfl<|oG hb51 (r_fieldB (r:=0) fl_44_0 rfl rfl rfl) rfl<|oG hb51 (r_ldb (i:=3) ti_41 rfl rfl rfl rfl) rfl<|oG hb51 (r_len (s:=(⟨v43,states.l++([x])⟩:Ls SD)) (n:=(states.l++([x])).length) sl_41 rfl rfl (fun w h=>(h.own 4 rfl)) rfl) rfl<|oG hb51 (r_gtrN (p:=(states.l++([x])).length) (q:=4000) rfl rfl rfl) rfl<|opF hb51 rfl<|onf fl_44_5 rfl<|.nl)<|gst 3 ti_4 rfl rfl rfl<|nN<|fun a55 w55 h55=> ?_
 try simp only [Exit.then,Exit.inBlock,if_true]
 refine x_end0 (fn:=Try.f45) rfl h55<|⟨rfl,⟨v43,states.l++([x])⟩,⟨v49,keys.l++([s14])⟩,⟨heads.v,heads.l.set (sumL s14.l) ((states.l.length:Nat):Int)⟩,⟨v36,before.l++([nth heads.l (sumL s14.l)])⟩,decide (4000<(states.l++([x])).length), ?_,(h55.sh.sel [3,4,0,5,6,7] rfl)⟩
 refine .inr ⟨fun j hj=> ?_,rfl, ?_, ?_, ?_⟩
 · rw [←hml];rcases Nat.lt_or_ge j mm with h9|h9;(intro e9;have h8:=hls.none (by omega) j h9;rw [nth_map' _ _ _ hj,e9] at h8;exact h8 rfl);exact hno j h9 hj
 · rw [List.map_append,←hml];rfl
 · have h9:=hok.put s14.l;rw [List.length_map,←hlen] at h9;rw [List.map_append];exact h9
 · first|rfl|(rw [show full=true by assumption];rfl)|(rw [show full=false by assumption];simp)
theorem putO_c (K:Nat→Prop)(gs:Nat)(o:OutL)(ends:Ls OutL)(sv kv hv bv:Value)(full:Bool)(W:World)(hS:Sh K W W [.blk gs 44 [sv,kv,hv,bv,ends.v, .bool full], .own 49 ends, .at_ o.words, .at_ o.prints])(hel:ends.l.length≤100000000):
    Rets Try.prog 48 [.pointer (some ⟨gs,0,none⟩), .agg #[.int .i64 o.st,o.words.v,o.prints.v]] W (fun v w' =>v= .tuple #[]∧∃ends' :Ls OutL,PutRel o ends.l ends'.l∧Sh K W w' [.blk gs 44 [sv,kv,hv,bv,ends'.v, .bool full], .own 49 ends', .at_ o.words, .at_ o.prints]):=by
 refine gen Try.func48 Try.ntmps48 hS rfl fun a10 h10=>gG h10<|sK fun _ k11=>gbx rfl rfl fun b12=>nK k11<|sG (oM 1 rfl<|.nl)<|sG (oM 1 rfl<|.nl)<|gK fun _ k15=>sG (oM 1 rfl<|.nl)<|gB<|fun a19 w19 h19=> ?_;clear h10
 have h18:=h19.nil (α:=OutL) 49
 clear h19
 refine x_loop (fun m a w=>∃(i:Nat) (dn:Bool) (ol:List OutL) (vo:Value),(i≤ends.l.length)∧(PutInv o ends.l i dn ol)∧St 71 K W a w [(0, .pointer (some ⟨gs,0,none⟩)),(3, .pointer (some ⟨b12,0,none⟩)),(4,vo),(5, .bool dn),(6, .int .i64 ((i:Nat):Int))] [.blk b12 49 [.int .i64 o.st,o.words.v,o.prints.v], .blk gs 44 [sv,kv,hv,bv,ends.v, .bool full], .own 49 ends, .at_ o.words, .at_ o.prints, .own 49 (⟨vo,ol⟩:Ls OutL)]∧m=ends.l.length-i) ⟨_,0,false, [],_,(by omega),(.inl ⟨rfl,rfl,fun j hj=>absurd hj (by omega)⟩),h18.nrm ⟨rfl,rfl,rfl,rfl,rfl,trivial⟩ [1,2,3,4,5,0] rfl,rfl⟩ ?_
 clear h18
 rintro m17 a17 w17 ⟨i,dn,ol,vo,hi,hinv,h17,hm17⟩
 have hol:=hinv.len (by omega)
 refine gG h17<|gK fun _ k20=>sK fun _ k21=>gNl (aO 2 rfl) fun hl22=>gRn (oM 2 rfl<|onfl 1 fl_44_4 ti_42 rfl rfl<|oln sl_42 (aO 2 rfl) rfl<|oltN _ _ rfl<|.nl)<|nK k21<|?_;clear h17
 refine gcd rfl (fun hb23 hp23=> ?_) fun hb23 hp23=> ?_
 ·skip
  refine gS<|hK k20<|gK fun _ k24=>gB<|gK fun _ k25=>fun a26 w26 h26=>x_quiet (by kernel_rfl) (by kernel_rfl) h26 fun _ z27=>qQ h26.fr<|qRn (olw 0 ti_49 rfl rfl<|oM 1 rfl<|onfl 1 fl_44_4 ti_42 rfl rfl<|oM 1 rfl<|oxN sl_42 ti_49 (aO 2 rfl) _ om9 rfl<|olw2 [.int .i64 ((nth ends.l i).st),((nth ends.l i).words).v,((nth ends.l i).prints).v] ti_49 (aO 2 rfl) om9 rfl<|.nl)<|qP bd_72 rfl (fun w h=>(ahead_c o (nth ends.l i) _ (h.at 3 rfl) (h.at 4 rfl) ((h.own 2 rfl).inner i (show i<ends.l.length from (by omega))).1 ((h.own 2 rfl).inner i (show i<ends.l.length from (by omega))).2))<|qRn (oM 1 rfl<|.nl)<|qN z27<|hK k25<|gK fun _ k28=>fun a29 w29 h29=>x_quiet (by kernel_rfl) (by kernel_rfl) h29 fun _ z30=>qQ h29.fr<|qRn (oM 1 rfl<|onfl 1 fl_44_4 ti_42 rfl rfl<|oM 1 rfl<|oxN sl_42 ti_49 (aO 2 rfl) _ om9 rfl<|olw2 [.int .i64 ((nth ends.l i).st),((nth ends.l i).words).v,((nth ends.l i).prints).v] ti_49 (aO 2 rfl) om9 rfl<|olw 0 ti_49 rfl rfl<|.nl)<|qP bd_72 rfl (fun w h=>(ahead_c (nth ends.l i) o _ ((h.own 2 rfl).inner i (show i<ends.l.length from (by omega))).1 ((h.own 2 rfl).inner i (show i<ends.l.length from (by omega))).2 (h.at 3 rfl) (h.at 4 rfl)))<|qRn (oM 1 rfl<|.nl)<|qN z30<|hK k28<|gF [0,3,4,5,6,7,8] rfl<|gK fun _ k31=>sK fun _ k32=>gRn (oM 1 rfl<|ont rfl<|oM 1 rfl<|.nl)<|?_;clear h26 h29
  rcases Bool.eq_false_or_eq_true (!(aheadB (OutL.out o) (OutL.out (nth ends.l i)))) with hb33|hb33
  ·have hn33:aheadB (OutL.out o) (OutL.out (nth ends.l i))=false:=(Bool.not_eq_true' _).mp hb33
   refine gRn (oG hb33 (r_move rfl rfl) rfl<|oG hb33 (r_not rfl rfl) rfl<|opT hb33 rfl<|.nl)<|nK k32<|gCb rfl (fun hb34=> ?_) fun hb34=> ?_
   ·have hn34:aheadB (OutL.out (nth ends.l i)) (OutL.out o)=false:=(Bool.not_eq_true' _).mp hb34
    refine gR<|uT<|uB<|uT<|uT<|uB<|uT<|fun a35 w35 h35=>x_ret0 (fn:=Try.f48) rfl h35<|⟨rfl,ends, ?_,(h35.sh.sel [1,2,3,4] rfl)⟩
    first|exact .inl ⟨⟨i,by omega,by assumption,by assumption⟩,rfl⟩|exact PutInv.rel (by first|exact hinv|(rw [show dn=true by assumption] at hinv;exact hinv)) (by omega)|exact PutInv.rel0 (by first|exact hinv|(rw [show dn=false by assumption] at hinv;exact hinv)) (by omega)
   have hn34:aheadB (OutL.out (nth ends.l i)) (OutL.out o)=true:=(Bool.not_eq_false' _).mp hb34
   refine gS<|hK k31<|gK fun _ k36=>sG (oM 2 rfl<|oKs 2 hn33 rfl rfl<|opF hn33 rfl<|.nl)<|gcF rfl rfl<|gS<|hK k36<|gL<|gRn (oM 2 rfl<|onfl 1 fl_44_4 ti_42 rfl rfl<|oM 1 rfl<|oxN sl_42 ti_49 (aO 2 rfl) _ om9 rfl<|olw2 [.int .i64 ((nth ends.l i).st),((nth ends.l i).words).v,((nth ends.l i).prints).v] ti_49 (aO 2 rfl) om9 rfl<|.nl)<|gE1 (fun _ _ h_=>x_lit (n:=1) (cs:= [.int .i64 ((nth ends.l i).st),((nth ends.l i).words).v,((nth ends.l i).prints).v]) ([nth ends.l i]:List OutL) h_ sl_42 ti_49 rfl rfl rfl (by decide) rfl (by kernel_rfl) rfl (fun q hq w h=>by obtain rfl:q=0:=(by simpa using hq);exact ⟨((h.own 2 rfl).inner i (show i<ends.l.length from om9)).1,((h.own 2 rfl).inner i (show i<ends.l.length from om9)).2⟩) (fun q hq b hb=>by obtain rfl:q=0:=(by simpa using hq);rcases hb with hb|hb;exact ⟨_,List.mem_of_getElem? (i:=2) rfl,i,(show i<ends.l.length from om9), .inl hb⟩;exact ⟨_,List.mem_of_getElem? (i:=2) rfl,i,(show i<ends.l.length from om9), .inr hb⟩) rfl rfl) rfl fun v38=>gE1 (fun _ _ h_=>x_app (r:=6) (rm:=0) (s:=(⟨vo,ol⟩:Ls OutL)) (m:=(⟨v38, [nth ends.l i]⟩:Ls OutL)) h_ sl_42 ti_49 rfl rfl rfl rfl rfl rfl rfl (fun w h=>(h.own 0 rfl)) (fun b hb=>own_on (h_.sh.ok _ (List.mem_of_getElem? (i:=0) rfl)) hb) (fun q hq b hb=>⟨q,hq,hb⟩) rfl rfl rfl inferInstance (show (ol.length+([nth ends.l i]).length)*56≤140737488355328∧ol.length+([nth ends.l i]).length≤140737488355328 from om9) rfl rfl) rfl fun v39=>gRn (oM 1 rfl<|.nl)<|nK k24<|gF [0,3,4,5,6] rfl<|gL<|gRn (oM 1 rfl<|oadN _ 1 om9 rfl<|oM 1 rfl<|.nl)<|nN<|fun a40 w40 h40=>x_again ⟨_, ?_,i+1,dn,ol++([nth ends.l i]),v39, ?_, ?_,h40.nrm ⟨rfl,rfl,rfl,rfl,rfl,trivial⟩ [1,2,3,4,5,6] rfl,rfl⟩
   · rw [hm17];first|omega|(simp only [lens9];omega)
   · omega
   · first|exact PutInv.one hinv (by omega) (by assumption)|exact PutInv.two hinv (by omega) (.inl (by assumption))|exact PutInv.two hinv (by omega) (.inr ⟨by assumption,by assumption⟩)|(subst_vars;first|exact PutInv.one hinv (by omega) (by assumption)|exact PutInv.two hinv (by omega) (.inl rfl)|exact PutInv.two hinv (by omega) (.inr ⟨by assumption,by assumption⟩))
  have hn33:aheadB (OutL.out o) (OutL.out (nth ends.l i))=true:=(Bool.not_eq_false' _).mp hb33
  refine gRn (oKs 2 hb33 rfl rfl<|opF hb33 rfl<|.nl)<|nK k32<|gcF rfl rfl<|gS<|hK k31<|gK fun _ k41=>sG (oM 2 rfl<|oG hn33 (r_move rfl rfl) rfl<|oG hn33 (r_not rfl rfl) rfl<|opT hn33 rfl<|.nl)<|gCb rfl (fun hb43=> ?_) fun hb43=> ?_
  ·have hn43:dn=false:=(Bool.not_eq_true' _).mp hb43
   refine sK fun _ k44=>gRn (oM 1 rfl<|olw 0 ti_49 rfl rfl<|.nl)<|gE1 (fun _ _ h_=>x_lit (n:=1) (cs:= [.int .i64 o.st,o.words.v,o.prints.v]) ([o]:List OutL) h_ sl_42 ti_49 rfl rfl rfl (by decide) rfl (by kernel_rfl) rfl (fun q hq w h=>by obtain rfl:q=0:=(by simpa using hq);exact ⟨(h.at 3 rfl),(h.at 4 rfl)⟩) (fun q hq b hb=>by obtain rfl:q=0:=(by simpa using hq);rcases hb with hb|hb;exact ⟨_,List.mem_of_getElem? (i:=3) rfl,hb⟩;exact ⟨_,List.mem_of_getElem? (i:=4) rfl,hb⟩) rfl rfl) rfl fun v45=>gE1 (fun _ _ h_=>x_app (r:=6) (rm:=0) (s:=(⟨vo,ol⟩:Ls OutL)) (m:=(⟨v45, [o]⟩:Ls OutL)) h_ sl_42 ti_49 rfl rfl rfl rfl rfl rfl rfl (fun w h=>(h.own 0 rfl)) (fun b hb=>own_on (h_.sh.ok _ (List.mem_of_getElem? (i:=0) rfl)) hb) (fun q hq b hb=>⟨q,hq,hb⟩) rfl rfl rfl inferInstance (show (ol.length+([o]).length)*56≤140737488355328∧ol.length+([o]).length≤140737488355328 from om9) rfl rfl) rfl fun v46=>gRn (oM 1 rfl<|.nl)<|nK k44<|gL<|gRn (oM 1 rfl<|.nl)<|nK k41<|gL<|gRn (oM 2 rfl<|onfl 2 fl_44_4 ti_42 rfl rfl<|oM 1 rfl<|oxN sl_42 ti_49 (aO 3 rfl) _ om9 rfl<|olw2 [.int .i64 ((nth ends.l i).st),((nth ends.l i).words).v,((nth ends.l i).prints).v] ti_49 (aO 3 rfl) om9 rfl<|.nl)<|gE1 (fun _ _ h_=>x_lit (n:=1) (cs:= [.int .i64 ((nth ends.l i).st),((nth ends.l i).words).v,((nth ends.l i).prints).v]) ([nth ends.l i]:List OutL) h_ sl_42 ti_49 rfl rfl rfl (by decide) rfl (by kernel_rfl) rfl (fun q hq w h=>by obtain rfl:q=0:=(by simpa using hq);exact ⟨((h.own 3 rfl).inner i (show i<ends.l.length from om9)).1,((h.own 3 rfl).inner i (show i<ends.l.length from om9)).2⟩) (fun q hq b hb=>by obtain rfl:q=0:=(by simpa using hq);rcases hb with hb|hb;exact ⟨_,List.mem_of_getElem? (i:=3) rfl,i,(show i<ends.l.length from om9), .inl hb⟩;exact ⟨_,List.mem_of_getElem? (i:=3) rfl,i,(show i<ends.l.length from om9), .inr hb⟩) rfl rfl) rfl fun v47=>gE1 (fun _ _ h_=>x_app (r:=7) (rm:=0) (s:=(⟨v46,ol++([o])⟩:Ls OutL)) (m:=(⟨v47, [nth ends.l i]⟩:Ls OutL)) h_ sl_42 ti_49 rfl rfl rfl rfl rfl rfl rfl (fun w h=>(h.own 0 rfl)) (fun b hb=>own_on (h_.sh.ok _ (List.mem_of_getElem? (i:=0) rfl)) hb) (fun q hq b hb=>⟨q,hq,hb⟩) rfl rfl rfl inferInstance (show ((ol++([o])).length+([nth ends.l i]).length)*56≤140737488355328∧(ol++([o])).length+([nth ends.l i]).length≤140737488355328 from om9) rfl rfl) rfl fun v48=>gRn (oM 1 rfl<|.nl)<|nK k24<|gF [0,3,4,5,6] rfl<|gL<|gRn (oM 1 rfl<|oadN _ 1 om9 rfl<|oM 1 rfl<|.nl)<|nN<|fun a49 w49 h49=>x_again ⟨_, ?_,i+1,true,(ol++([o]))++([nth ends.l i]),v48, ?_, ?_,h49.nrm ⟨rfl,rfl,rfl,rfl,rfl,trivial⟩ [2,3,4,5,6,7] rfl,rfl⟩
   · rw [hm17];first|omega|(simp only [lens9];omega)
   · omega
   · first|exact PutInv.one hinv (by omega) (by assumption)|exact PutInv.two hinv (by omega) (.inl (by assumption))|exact PutInv.two hinv (by omega) (.inr ⟨by assumption,by assumption⟩)|(subst_vars;first|exact PutInv.one hinv (by omega) (by assumption)|exact PutInv.two hinv (by omega) (.inl rfl)|exact PutInv.two hinv (by omega) (.inr ⟨by assumption,by assumption⟩))
  have hn43:dn=true:=(Bool.not_eq_false' _).mp hb43
  refine gS<|hK k41<|gL<|gRn (oM 2 rfl<|onfl 1 fl_44_4 ti_42 rfl rfl<|oM 1 rfl<|oxN sl_42 ti_49 (aO 2 rfl) _ om9 rfl<|olw2 [.int .i64 ((nth ends.l i).st),((nth ends.l i).words).v,((nth ends.l i).prints).v] ti_49 (aO 2 rfl) om9 rfl<|.nl)<|gE1 (fun _ _ h_=>x_lit (n:=1) (cs:= [.int .i64 ((nth ends.l i).st),((nth ends.l i).words).v,((nth ends.l i).prints).v]) ([nth ends.l i]:List OutL) h_ sl_42 ti_49 rfl rfl rfl (by decide) rfl (by kernel_rfl) rfl (fun q hq w h=>by obtain rfl:q=0:=(by simpa using hq);exact ⟨((h.own 2 rfl).inner i (show i<ends.l.length from om9)).1,((h.own 2 rfl).inner i (show i<ends.l.length from om9)).2⟩) (fun q hq b hb=>by obtain rfl:q=0:=(by simpa using hq);rcases hb with hb|hb;exact ⟨_,List.mem_of_getElem? (i:=2) rfl,i,(show i<ends.l.length from om9), .inl hb⟩;exact ⟨_,List.mem_of_getElem? (i:=2) rfl,i,(show i<ends.l.length from om9), .inr hb⟩) rfl rfl) rfl fun v50=>gE1 (fun _ _ h_=>x_app (r:=6) (rm:=0) (s:=(⟨vo,ol⟩:Ls OutL)) (m:=(⟨v50, [nth ends.l i]⟩:Ls OutL)) h_ sl_42 ti_49 rfl rfl rfl rfl rfl rfl rfl (fun w h=>(h.own 0 rfl)) (fun b hb=>own_on (h_.sh.ok _ (List.mem_of_getElem? (i:=0) rfl)) hb) (fun q hq b hb=>⟨q,hq,hb⟩) rfl rfl rfl inferInstance (show (ol.length+([nth ends.l i]).length)*56≤140737488355328∧ol.length+([nth ends.l i]).length≤140737488355328 from om9) rfl rfl) rfl fun v51=>gRn (oM 1 rfl<|.nl)<|nK k24<|gF [0,3,4,5,6] rfl<|gL<|gRn (oM 1 rfl<|oadN _ 1 om9 rfl<|oM 1 rfl<|.nl)<|nN<|fun a52 w52 h52=>x_again ⟨_, ?_,i+1,dn,ol++([nth ends.l i]),v51, ?_, ?_,h52.nrm ⟨rfl,rfl,rfl,rfl,rfl,trivial⟩ [1,2,3,4,5,6] rfl,rfl⟩
  · rw [hm17];first|omega|(simp only [lens9];omega)
  · omega
  · first|exact PutInv.one hinv (by omega) (by assumption)|exact PutInv.two hinv (by omega) (.inl (by assumption))|exact PutInv.two hinv (by omega) (.inr ⟨by assumption,by assumption⟩)|(subst_vars;first|exact PutInv.one hinv (by omega) (by assumption)|exact PutInv.two hinv (by omega) (.inl rfl)|exact PutInv.two hinv (by omega) (.inr ⟨by assumption,by assumption⟩))
 refine gX<|hK k15<|gK fun _ k53=>sG (oM 1 rfl<|ont rfl<|.nl)<|gCb rfl (fun hb55=> ?_) fun hb55=> ?_
 ·have hn55:dn=false:=(Bool.not_eq_true' _).mp hb55
  refine gL<|gRn (oM 1 rfl<|olw 0 ti_49 rfl rfl<|.nl)<|gE1 (fun _ _ h_=>x_lit (n:=1) (cs:= [.int .i64 o.st,o.words.v,o.prints.v]) ([o]:List OutL) h_ sl_42 ti_49 rfl rfl rfl (by decide) rfl (by kernel_rfl) rfl (fun q hq w h=>by obtain rfl:q=0:=(by simpa using hq);exact ⟨(h.at 3 rfl),(h.at 4 rfl)⟩) (fun q hq b hb=>by obtain rfl:q=0:=(by simpa using hq);rcases hb with hb|hb;exact ⟨_,List.mem_of_getElem? (i:=3) rfl,hb⟩;exact ⟨_,List.mem_of_getElem? (i:=4) rfl,hb⟩) rfl rfl) rfl fun v56=>gE1 (fun _ _ h_=>x_app (r:=6) (rm:=0) (s:=(⟨vo,ol⟩:Ls OutL)) (m:=(⟨v56, [o]⟩:Ls OutL)) h_ sl_42 ti_49 rfl rfl rfl rfl rfl rfl rfl (fun w h=>(h.own 0 rfl)) (fun b hb=>own_on (h_.sh.ok _ (List.mem_of_getElem? (i:=0) rfl)) hb) (fun q hq b hb=>⟨q,hq,hb⟩) rfl rfl rfl inferInstance (show (ol.length+([o]).length)*56≤140737488355328∧ol.length+([o]).length≤140737488355328 from om9) rfl rfl) rfl fun v57=>gRn (oM 1 rfl<|.nl)<|nK k53<|gL<|gRn (oM 2 rfl<|onf fl_44_4 rfl<|.nl)<|gsr 2 ti_42 rfl (aO 6 rfl) rfl<|nN<|fun a59 w59 h59=> ?_
  try simp only [Exit.then,Exit.inBlock,if_true]
  refine x_end0 (fn:=Try.f48) rfl h59<|⟨rfl,⟨v57,ol++([o])⟩, ?_,(h59.sh.sel [2,6,4,5] rfl)⟩
  first|exact .inl ⟨⟨i,by omega,by assumption,by assumption⟩,rfl⟩|exact PutInv.rel (by first|exact hinv|(rw [show dn=true by assumption] at hinv;exact hinv)) (by omega)|exact PutInv.rel0 (by first|exact hinv|(rw [show dn=false by assumption] at hinv;exact hinv)) (by omega)
 have hn55:dn=true:=(Bool.not_eq_false' _).mp hb55
 refine gS<|hK k53<|gL<|gRn (oM 2 rfl<|onf fl_44_4 rfl<|.nl)<|gsr 1 ti_42 rfl (aO 5 rfl) rfl<|nN<|fun a61 w61 h61=> ?_
 try simp only [Exit.then,Exit.inBlock,if_true]
 refine x_end0 (fn:=Try.f48) rfl h61<|⟨rfl,⟨vo,ol⟩, ?_,(h61.sh.sel [1,5,3,4] rfl)⟩
 first|exact .inl ⟨⟨i,by omega,by assumption,by assumption⟩,rfl⟩|exact PutInv.rel (by first|exact hinv|(rw [show dn=true by assumption] at hinv;exact hinv)) (by omega)|exact PutInv.rel0 (by first|exact hinv|(rw [show dn=false by assumption] at hinv;exact hinv)) (by omega)
theorem fit_r {p:Pg}{size n:Int}(h:fitsG p size 114 n=true):0≤n∧n<p.regs:=by
 unfold fitsG at h
 simp only [Int.reduceEq,if_false,if_true,Bool.and_eq_true,decide_eq_true_eq] at h
 exact h
theorem fit_w {p:Pg}{size n:Int}(h:fitsG p size 119 n=true):0≤n∧n<p.words.length:=by
 unfold fitsG at h
 simp only [Int.reduceEq,if_false,if_true,Bool.and_eq_true,decide_eq_true_eq] at h
 exact h
theorem fit_l {p:Pg}{size n:Int}(h:fitsG p size 108 n=true):0≤n∧n<p.locks:=by
 unfold fitsG at h
 simp only [Int.reduceEq,if_false,if_true,Bool.and_eq_true,decide_eq_true_eq] at h
 exact h
theorem fit_c {p:Pg}{size n:Int}(hs:0≤size∧size≤100000)(h:fitsG p size 99 n=true):0≤n∧n≤size:=by
 unfold fitsG at h
 simp only [Int.reduceEq,if_false,if_true,Bool.and_eq_true,decide_eq_true_eq] at h
 rw [IntWalk.wrap64_in _ ⟨by omega,by omega⟩] at h
 omega
theorem num0 {p:Pg}{size:Int}{x:Ins}(h:okNumG p size x 0=true){b:UInt8}{r:List UInt8}(hk:kindsB x.op=⟨(b::r).toArray⟩):fitsG p size (b.toNat:Int) x.a=true:=by
 unfold okNumG at h
 rw [hk] at h
 rw [dif_pos (by simp [ByteArray.size])] at h
 exact h
theorem num1 {p:Pg}{size:Int}{x:Ins}(h:okNumG p size x 1=true){a b:UInt8}{r:List UInt8}(hk:kindsB x.op=⟨(a::b::r).toArray⟩):fitsG p size (b.toNat:Int) x.b=true:=by
 unfold okNumG at h
 rw [hk] at h
 rw [dif_pos (by simp [ByteArray.size])] at h
 exact h
theorem num2 {p:Pg}{size:Int}{x:Ins}(h:okNumG p size x 2=true){a b c:UInt8}{r:List UInt8}(hk:kindsB x.op=⟨(a::b::c::r).toArray⟩):fitsG p size (c.toNat:Int) x.c=true:=by
 unfold okNumG at h
 rw [hk] at h
 rw [dif_pos (by simp [ByteArray.size])] at h
 exact h
theorem insR_ok {p:Pg}{size:Int}{x:Ins}(hs:0≤size∧size≤100000)(hr:0≤p.regs)(hl:0≤p.locks)(h:OkIns p size x):InsR p.regs.toNat p.words.length p.locks.toNat x∧(x.op=14→0≤x.a∧x.a≤size)∧(x.op=15→0≤x.b∧x.b≤size):=by
 have er:(p.regs.toNat:Int)=p.regs:=Int.toNat_of_nonneg hr
 have el:(p.locks.toNat:Int)=p.locks:=Int.toNat_of_nonneg hl
 have h0:=h.n0
 have h1:=h.n1
 have h2:=h.n2
 refine ⟨⟨fun e=> ?_,fun e=> ?_,fun e=> ?_,fun e=> ?_,fun e=> ?_,fun e=> ?_,fun e=> ?_,fun e=> ?_,fun e=> ?_⟩,fun e=> ?_,fun e=> ?_⟩
 ·have k:kindsB x.op=⟨[114,110].toArray⟩:=by rw [e];unfold kindsB;simp
  rw [er];exact fit_r (num0 h0 k)
 ·have k:kindsB x.op=⟨[114,114].toArray⟩:=by rw [e];unfold kindsB;simp
  rw [er];exact ⟨fit_r (num0 h0 k),fit_r (num1 h1 k)⟩
 ·have k:kindsB x.op=⟨[114,114,114].toArray⟩:=by rcases e with e|e|e|e|e<;>(rw [e];unfold kindsB;simp)
  rw [er];exact ⟨fit_r (num0 h0 k),fit_r (num1 h1 k),fit_r (num2 h2 k)⟩
 ·have k:kindsB x.op=⟨[114,119].toArray⟩:=by rw [e];unfold kindsB;simp
  rw [er];exact ⟨fit_r (num0 h0 k),fit_w (num1 h1 k)⟩
 ·have k:kindsB x.op=⟨[119,114].toArray⟩:=by rw [e];unfold kindsB;simp
  rw [er];exact ⟨fit_w (num0 h0 k),fit_r (num1 h1 k)⟩
 ·have k:kindsB x.op=⟨[114,114].toArray⟩:=by rcases e with e|e<;>(rw [e];unfold kindsB;simp)
  rw [er];exact ⟨fit_r (num0 h0 k),fit_r (num1 h1 k)⟩
 ·have k:kindsB x.op=⟨[119,114,114].toArray⟩:=by rw [e];unfold kindsB;simp
  rw [er];exact ⟨fit_w (num0 h0 k),fit_r (num1 h1 k),fit_r (num2 h2 k)⟩
 ·rw [er]
  rcases e with e|e
  ·have k:kindsB x.op=⟨[114,99].toArray⟩:=by rw [e];unfold kindsB;simp
   exact fit_r (num0 h0 k)
  ·have k:kindsB x.op=⟨[114].toArray⟩:=by rw [e];unfold kindsB;simp
   exact fit_r (num0 h0 k)
 ·have k:kindsB x.op=⟨[108].toArray⟩:=by rcases e with e|e<;>(rw [e];unfold kindsB;simp)
  rw [el];exact fit_l (num0 h0 k)
 ·have k:kindsB x.op=⟨[99].toArray⟩:=by rw [e];unfold kindsB;simp
  exact fit_c hs (num0 h0 k)
 ·have k:kindsB x.op=⟨[114,99].toArray⟩:=by rw [e];unfold kindsB;simp
  exact fit_c hs (num1 h1 k)
theorem OkPg.insR {p:Pg}(h:OkPg p){t i:Nat}(ht:t<p.code.length)(hi:i<(nth p.code t).length):InsR p.regs.toNat p.words.length p.locks.toNat (nth (nth p.code t) i)∧((nth (nth p.code t) i).op=14→0≤(nth (nth p.code t) i).a∧(nth (nth p.code t) i).a≤(nth p.code t).length)∧((nth (nth p.code t) i).op=15→0≤(nth (nth p.code t) i).b∧(nth (nth p.code t) i).b≤(nth p.code t).length):=by
 have hl:=h.len t ht
 have:=h.regs
 have:=h.locks
 exact insR_ok ⟨by omega,by omega⟩ (by omega) (by omega) (h.ins t i ht hi)
structure WfS (R W L C:Nat)(x:TS):Prop where
 pc:0≤x.pc∧x.pc≤C
 regs:x.regs.length=R
 wait:x.wait.length≤3
 wt:∀w∈x.wait,if w.lock=true then 0≤w.wh∧w.wh<L else 0≤w.wh∧w.wh<W
 words:x.words.length=W
 owner:x.owner.length=L
section
variable {R W L C:Nat}{x:TS}
theorem WfS.put (h:WfS R W L C x)(k v:Int):WfS R W L C (x.put k v):=⟨h.pc,by simpa [TS.put] using h.regs,h.wait,h.wt,h.words,h.owner⟩
theorem WfS.fell (h:WfS R W L C x):WfS R W L C { x with fell:=true } :=⟨h.pc,h.regs,h.wait,h.wt,h.words,h.owner⟩
theorem WfS.done (h:WfS R W L C x)(w:Wt):WfS R W L C (x.done w):=by
 refine ⟨h.pc,h.regs,h.wait,h.wt, ?_, ?_⟩
 ·show (if w.lock=true then x.words else x.words.set w.wh.toNat w.what).length=W
  split
  ·exact h.words
  ·rw [List.length_set];exact h.words
 ·show (if w.lock=true then x.owner.set w.wh.toNat (-1) else x.owner).length=L
  split
  ·rw [List.length_set];exact h.owner
  ·exact h.owner
theorem WfS.store (h:WfS R W L C x){m:Int}{w:Wt}(hw:if w.lock=true then 0≤w.wh∧w.wh<L else 0≤w.wh∧w.wh<W)(hl:x.wait.length<3):WfS R W L C (x.store m w):=by
 unfold TS.store
 split
 ·refine ⟨h.pc,h.regs,by simp;omega,fun y hy=> ?_,h.words,h.owner⟩
  rcases List.mem_append.1 hy with hy|hy
  ·exact h.wt y hy
  ·obtain rfl:y=w:=by simpa using hy
   exact hw
 ·exact h.done w
theorem WfS.exec (h:WfS R W L C x){m:Int}{n:Nat}{i:Ins}(hR:InsR R W L i)(h14:i.op=14→0≤i.a∧i.a≤C)(h15:i.op=15→0≤i.b∧i.b≤C)(ha:ableL x.owner x.wait.length i=true):WfS R W L C (execT m n i x):=by
 have hst:i.op=9∨i.op=11∨i.op=18→x.wait.length<3:=by
  intro e
  unfold ableL at ha
  rw [if_pos e] at ha
  exact of_decide_eq_true ha
 by_cases e1:i.op=1
 ·rw [execT_1 e1];exact h.put _ _
 by_cases e2:i.op=2
 ·rw [execT_2 e2];exact h.put _ _
 by_cases e3:i.op=3
 ·rw [execT_3 e3];exact h.put _ _
 by_cases e4:i.op=4
 ·rw [execT_4 e4];exact h.put _ _
 by_cases e5:i.op=5
 ·rw [execT_5 e5];exact h.put _ _
 by_cases e6:i.op=6
 ·rw [execT_6 e6];exact h.put _ _
 by_cases e7:i.op=7
 ·rw [execT_7 e7];exact h.put _ _
 by_cases e8:i.op=8
 ·rw [execT_8 e8];exact h.put _ _
 by_cases e9:i.op=9
 ·rw [execT_9 e9]
  have q:=hR.o9 e9
  exact h.store (by show if (false=true) then _ else _;rw [if_neg Bool.false_ne_true];exact q.1) (hst (.inl e9))
 by_cases e10:i.op=10
 ·by_cases hw:0≤x.reg i.b∧x.reg i.b<(x.words.length:Int)
  ·rw [execT_10t e10 hw];exact h.put _ _
  ·rw [execT_10f e10 hw];exact h.fell
 by_cases e11:i.op=11
 ·by_cases hw:0≤x.reg i.a∧x.reg i.a<(x.words.length:Int)
  ·rw [execT_11t e11 hw]
   rw [h.words] at hw
   exact h.store (by show if (false=true) then _ else _;rw [if_neg Bool.false_ne_true];exact hw) (hst (.inr (.inl e11)))
  ·rw [execT_11f e11 hw];exact h.fell
 by_cases e13:i.op=13
 ·by_cases hw:nth x.words i.a.toNat=x.reg i.b
  ·rw [execT_13t e13 hw]
   exact ⟨h.pc,by simpa using h.regs,h.wait,h.wt,by simpa using h.words,h.owner⟩
  ·rw [execT_13f e13 hw];exact h.put _ _
 by_cases e14:i.op=14
 ·rw [execT_14 e14];exact ⟨h14 e14,h.regs,h.wait,h.wt,h.words,h.owner⟩
 by_cases e15:i.op=15
 ·by_cases hw:x.reg i.a=0
  ·rw [execT_15t e15 hw];exact ⟨h15 e15,h.regs,h.wait,h.wt,h.words,h.owner⟩
  ·rw [execT_15f e15 hw];exact h
 by_cases e16:i.op=16
 ·rw [execT_16 e16];exact ⟨h.pc,h.regs,h.wait,h.wt,h.words,h.owner⟩
 by_cases e17:i.op=17
 ·rw [execT_17 e17];exact ⟨h.pc,h.regs,h.wait,h.wt,h.words,by simpa using h.owner⟩
 by_cases e18:i.op=18
 ·have q:=hR.o17 (.inr e18)
  by_cases hw:nth x.owner i.a.toNat≠n
  ·rw [execT_18a e18 hw];exact h.fell
  ·by_cases hh:∃j,j<x.wait.length∧(nth x.wait j).lock=true∧(nth x.wait j).wh=i.a
   ·obtain ⟨j,hj,h1,h2⟩:=hh
    rw [execT_18b e18 hw j hj h1 h2];exact h.fell
   ·rw [execT_18c e18 hw (fun q hq hc=>hh ⟨q,hq,hc⟩)]
    exact h.store (by show if (true=true) then _ else _;rw [if_pos rfl];exact q) (hst (.inr (.inr e18)))
 rw [execT_no ⟨e1,e2,e3,e4,e5,e6,e7,e8,e9,e10,e11,e13,e14,e15,e16,e17,e18⟩]
 exact h
end
theorem mvOK_k {m:Int}{c:List Ins}{x:TS}{k:Nat}(h:mvOK m c x k=true):(k=0∧x.pc<c.length∧ableL x.owner x.wait.length (nextIns c x.pc)=true)∨(0<k∧k≤x.wait.length∧mayK m x.wait (k-1)=true):=by
 unfold mvOK at h
 split at h
 ·rename_i hk
  left
  unfold ableV at h
  simp only [Bool.and_eq_true,decide_eq_true_eq] at h
  exact ⟨hk,h⟩
 ·right
  simp only [Bool.and_eq_true,decide_eq_true_eq] at h
  exact ⟨by omega,h⟩
theorem WfS.doT {R W L:Nat}{x:TS}{m:Int}{n k:Nat}{c:List Ins}(h:WfS R W L c.length x)(hR:∀i,i<c.length→InsR R W L (nth c i)∧((nth c i).op=14→0≤(nth c i).a∧(nth c i).a≤c.length)∧((nth c i).op=15→0≤(nth c i).b∧(nth c i).b≤c.length))(hk:mvOK m c x k=true):WfS R W L c.length (Go.Proofs.Ytmbfcgpneflbmaa.doT m n c k x):=by
 have hpc:=h.pc
 rcases mvOK_k hk with ⟨rfl,h1,h2⟩|⟨h1,h2,h3⟩
 ·rw [doT_0 rfl]
  have hn:nextIns c x.pc=nth c x.pc.toNat:=nextIns_t h1
  obtain ⟨q1,q2,q3⟩:=hR x.pc.toNat (by omega)
  rw [hn] at h2⊢
  exact WfS.exec (x:= { x with pc:=x.pc+1 }) ⟨⟨by show 0≤x.pc+1;omega,by show x.pc+1≤_;omega⟩,h.regs,h.wait,h.wt,h.words,h.owner⟩ q1 q2 q3 h2
 ·unfold Go.Proofs.Ytmbfcgpneflbmaa.doT
  rw [if_pos h1]
  have hd:=h.done (nth x.wait (k-1))
  exact ⟨hd.pc,hd.regs,by show (x.wait.eraseIdx (k-1)).length≤3;have:=List.length_eraseIdx_le x.wait (k-1);have:=h.wait;omega,fun w hw=>h.wt w (List.mem_of_mem_eraseIdx hw),hd.words,hd.owner⟩
structure Wf (p:Pg)(s:MSt):Prop where
 ths:s.ths.length=p.code.length
 th:∀t,t<p.code.length→WfS p.regs.toNat p.words.length p.locks.toNat (nth p.code t).length (s.view t)
 words:s.words.length=p.words.length
 owner:s.owner.length=p.locks.toNat
theorem nth_set0 {α:Type}[Inhabited α](l:List α)(i k:Nat)(x:α):nth (l.set i x) k=if i=k∧i<l.length then x else nth l k:=by
 simp only [nth,List.getD,List.getElem?_set]
 by_cases h:i=k
 ·subst h
  by_cases h2:i<l.length<;>simp [h2]
 ·simp [h]
theorem putT_view {s:MSt}{t:Nat}{y:TS}(ht:t<s.ths.length):(s.putT t y).view t= { y with fell:=false } :=by
 unfold MSt.view MSt.putT
 simp [nth_set0,ht]
theorem putT_other {s:MSt}{t u:Nat}{y:TS}(h:t≠u):(s.putT t y).view u=⟨(s.view u).pc,(s.view u).regs,(s.view u).wait,y.words,y.owner,y.prints,false⟩:=by
 unfold MSt.view MSt.putT
 simp only [nth_set0]
 rw [if_neg (fun hh=>h hh.1)]
theorem Wf.begin_ {p:Pg}(h:OkPg p):Wf p (begin_ p):=by
 refine ⟨by simp [Go.Proofs.Ytmbfcgpneflbmaa.begin_],fun t ht=> ?_,rfl,by simp [Go.Proofs.Ytmbfcgpneflbmaa.begin_]⟩
 have e:nth (Go.Proofs.Ytmbfcgpneflbmaa.begin_ p).ths t=⟨0,List.replicate p.regs.toNat 0, []⟩:=by
  unfold Go.Proofs.Ytmbfcgpneflbmaa.begin_
  rw [nth_map' _ _ _ ht]
 unfold MSt.view
 rw [e]
 exact ⟨⟨Int.le_refl _,by simp⟩,by simp,by simp,fun w hw=>(by cases hw),rfl,by simp [Go.Proofs.Ytmbfcgpneflbmaa.begin_]⟩
theorem Wf.step {p:Pg}(hok:OkPg p){s:MSt}(h:Wf p s){m:Int}{t k:Nat}(ht:t<p.code.length)(hk:mvOK m (nth p.code t) (s.view t) k=true):Wf p (s.putT t (stepT p m s t k)):=by
 have h1:=(h.th t ht).doT (m:=m) (n:=t) (fun i hi=>hok.insR ht hi) hk
 refine ⟨by simpa [MSt.putT] using h.ths,fun u hu=> ?_,h1.words,h1.owner⟩
 by_cases e:t=u
 ·subst e
  rw [putT_view (by rw [h.ths];exact ht)]
  exact ⟨h1.pc,h1.regs,h1.wait,h1.wt,h1.words,h1.owner⟩
 ·rw [putT_other e]
  have h2:=h.th u hu
  exact ⟨h2.pc,h2.regs,h2.wait,h2.wt,h1.words,h1.owner⟩
inductive Reach (p:Pg)(m:Int):MSt→Prop
 |start:Reach p m (begin_ p)
 |step {s:MSt} {t k:Nat} :Reach p m s→t<p.code.length→mvOK m (nth p.code t) (s.view t) k=true→(stepT p m s t k).fell=false→Reach p m (s.putT t (stepT p m s t k))
def Stuck_ (p:Pg)(m:Int)(s:MSt):Prop:=∀t k,t<p.code.length→mvOK m (nth p.code t) (s.view t) k=false
inductive Outs (p:Pg)(m:Int):Outc→Prop
 |done {s:MSt} :Reach p m s→ended p s=true→Outs p m ⟨0,s.words,s.prints⟩
 |stuck {s:MSt} :Reach p m s→ended p s=false→Stuck_ p m s→Outs p m ⟨2,s.words,s.prints⟩
 |fell {s:MSt} {t k:Nat} :Reach p m s→t<p.code.length→mvOK m (nth p.code t) (s.view t) k=true→(stepT p m s t k).fell=true→Outs p m ⟨1, [],(stepT p m s t k).prints⟩
theorem Reach.wf {p:Pg}(hok:OkPg p){m:Int}{s:MSt}(h:Reach p m s):Wf p s:=by
 induction h with
 |start=>exact Wf.begin_ hok
 |step _ ht hk _ ih=>exact ih.step hok ht hk
theorem mem_mvs {m:Int}{c:List Ins}{t:Nat}{x:TS}{v:Int} :v∈mvs m c t x↔∃k,mvOK m c x k=true∧v=((8*t+k:Nat):Int):=by
 unfold mvs
 rw [List.mem_append]
 constructor
 ·rintro (h|h)
  ·split at h
   ·rename_i ha
    exact ⟨0,by unfold mvOK;rw [if_pos rfl];exact ha,by simpa using h⟩
   ·cases h
  ·obtain ⟨k,hk,rfl⟩:=List.mem_map.1 h
   obtain ⟨h1,h2⟩:=List.mem_filter.1 hk
   refine ⟨k+1, ?_,rfl⟩
   unfold mvOK
   rw [if_neg (by omega)]
   have:k+1≤x.wait.length:=by have:=List.mem_range.1 h1;omega
   simp [this,h2]
 ·rintro ⟨k,hk,rfl⟩
  rcases mvOK_k hk with ⟨rfl,h1,h2⟩|⟨h1,h2,h3⟩
  ·left
   have:ableV c x=true:=by unfold ableV;simp [h1,h2]
   rw [if_pos this];simp
  ·right
   refine List.mem_map.2 ⟨k-1,List.mem_filter.2 ⟨by simp;omega,h3⟩, ?_⟩
   rw [show 8*t+(k-1)+1=8*t+k by omega]
theorem mem_moves {p:Pg}{m:Int}{s:MSt}{v:Int} :v∈moves p m s↔∃t k,t<p.code.length∧mvOK m (nth p.code t) (s.view t) k=true∧v=((8*t+k:Nat):Int):=by
 unfold moves
 rw [List.mem_flatMap]
 constructor
 ·rintro ⟨t,ht,h⟩
  obtain ⟨k,hk,e⟩:=mem_mvs.1 h
  exact ⟨t,k,by simpa using ht,hk,e⟩
 ·rintro ⟨t,k,ht,hk,e⟩
  exact ⟨t,by simpa using ht,mem_mvs.2 ⟨k,hk,e⟩⟩
theorem mvOK_le {m:Int}{c:List Ins}{x:TS}{k:Nat}(h:mvOK m c x k=true)(hw:x.wait.length≤3):k≤3:=by
 rcases mvOK_k h with ⟨rfl,_⟩|⟨_,h2,_⟩<;>omega
theorem store_prints (m:Int)(x:TS)(w:Wt):(x.store m w).prints=x.prints:=by unfold TS.store;split<;>rfl
theorem execT_prints (m:Int)(n:Nat)(i:Ins)(x:TS):(execT m n i x).prints.length≤x.prints.length+2:=by
 by_cases e1:i.op=1
 ·rw [execT_1 e1];show x.prints.length≤_;omega
 by_cases e2:i.op=2
 ·rw [execT_2 e2];show x.prints.length≤_;omega
 by_cases e3:i.op=3
 ·rw [execT_3 e3];show x.prints.length≤_;omega
 by_cases e4:i.op=4
 ·rw [execT_4 e4];show x.prints.length≤_;omega
 by_cases e5:i.op=5
 ·rw [execT_5 e5];show x.prints.length≤_;omega
 by_cases e6:i.op=6
 ·rw [execT_6 e6];show x.prints.length≤_;omega
 by_cases e7:i.op=7
 ·rw [execT_7 e7];show x.prints.length≤_;omega
 by_cases e8:i.op=8
 ·rw [execT_8 e8];show x.prints.length≤_;omega
 by_cases e9:i.op=9
 ·rw [execT_9 e9,store_prints];omega
 by_cases e10:i.op=10
 ·by_cases hw:0≤x.reg i.b∧x.reg i.b<(x.words.length:Int)
  ·rw [execT_10t e10 hw];show x.prints.length≤_;omega
  ·rw [execT_10f e10 hw];show x.prints.length≤_;omega
 by_cases e11:i.op=11
 ·by_cases hw:0≤x.reg i.a∧x.reg i.a<(x.words.length:Int)
  ·rw [execT_11t e11 hw,store_prints];omega
  ·rw [execT_11f e11 hw];show x.prints.length≤_;omega
 by_cases e13:i.op=13
 ·by_cases hw:nth x.words i.a.toNat=x.reg i.b
  ·rw [execT_13t e13 hw];show x.prints.length≤_;omega
  ·rw [execT_13f e13 hw];show x.prints.length≤_;omega
 by_cases e14:i.op=14
 ·rw [execT_14 e14];show x.prints.length≤_;omega
 by_cases e15:i.op=15
 ·by_cases hw:x.reg i.a=0
  ·rw [execT_15t e15 hw];show x.prints.length≤_;omega
  ·rw [execT_15f e15 hw];omega
 by_cases e16:i.op=16
 ·rw [execT_16 e16];show (x.prints++_).length≤_;simp
 by_cases e17:i.op=17
 ·rw [execT_17 e17];show x.prints.length≤_;omega
 by_cases e18:i.op=18
 ·by_cases hw:nth x.owner i.a.toNat≠n
  ·rw [execT_18a e18 hw];show x.prints.length≤_;omega
  ·by_cases hh:∃j,j<x.wait.length∧(nth x.wait j).lock=true∧(nth x.wait j).wh=i.a
   ·obtain ⟨j,hj,h1,h2⟩:=hh
    rw [execT_18b e18 hw j hj h1 h2];show x.prints.length≤_;omega
   ·rw [execT_18c e18 hw (fun q hq hc=>hh ⟨q,hq,hc⟩),store_prints];omega
 rw [execT_no ⟨e1,e2,e3,e4,e5,e6,e7,e8,e9,e10,e11,e13,e14,e15,e16,e17,e18⟩]
 omega
theorem doT_prints (m:Int)(n:Nat)(c:List Ins)(k:Nat)(x:TS):(doT m n c k x).prints.length≤x.prints.length+2:=by
 unfold doT
 split
 ·show x.prints.length≤_;omega
 ·exact execT_prints _ _ _ _
theorem wt_inj :∀ {l m:List Wt} {r r' :List Int},l.length=m.length→l.flatMap wtN++r=m.flatMap wtN++r' →l=m∧r=r'
 | [], [],r,r',_,h=>⟨rfl,h⟩
 | [],_::_,_,_,hl,_=>by simp at hl
 |_::_, [],_,_,hl,_=>by simp at hl
 |x::l,y::m,r,r',hl,h=>by
  simp only [List.flatMap_cons,List.append_assoc] at h
  unfold wtN at h
  simp only [List.cons_append,List.nil_append,List.cons.injEq] at h
  obtain ⟨h1,h2,h3,h4⟩:=h
  obtain ⟨e1,e2⟩:=wt_inj (by simpa using hl) h4
  have hlk:x.lock=y.lock:=by
   cases hx:x.lock<;>cases hy:y.lock<;>simp [hx,hy] at h1⊢
  refine ⟨?_,e2⟩
  rw [e1]
  congr 1
  cases x;cases y
  simp only at hlk h2 h3
  rw [hlk,h2,h3]
theorem th_inj {R:Nat} :∀ {l m:List Th} {r r' :List Int},l.length=m.length→(∀x∈l,x.regs.length=R)→(∀x∈m,x.regs.length=R)→l.flatMap thN++r=m.flatMap thN++r' →l=m∧r=r'
 | [], [],r,r',_,_,_,h=>⟨rfl,h⟩
 | [],_::_,_,_,hl,_,_,_=>by simp at hl
 |_::_, [],_,_,hl,_,_,_=>by simp at hl
 |x::l,y::m,r,r',hl,h1,h2,h=>by
  simp only [List.flatMap_cons,List.append_assoc] at h
  unfold thN at h
  simp only [List.append_assoc,List.cons_append,List.nil_append,List.cons.injEq] at h
  obtain ⟨e1,e2,h3⟩:=h
  have hx:=h1 x (by simp)
  have hy:=h2 y (by simp)
  obtain ⟨e3,h4⟩:=List.append_inj h3 (by rw [hx,hy])
  obtain ⟨e4,h5⟩:=wt_inj (by omega) h4
  obtain ⟨e5,e6⟩:=th_inj (by simpa using hl) (fun z hz=>h1 z (by simp [hz])) (fun z hz=>h2 z (by simp [hz])) h5
  refine ⟨?_,e6⟩
  rw [e5]
  congr 1
  cases x;cases y
  simp only at e1 e3 e4
  rw [e1,e3,e4]
def keyOf (s:MSt):List Int:=numbersL s.ths s.words s.owner s.prints
theorem key_inj {p:Pg}{s s' :MSt}(h:Wf p s)(h' :Wf p s')(e:keyOf s=keyOf s'):s=s' :=by
 unfold keyOf numbersL at e
 simp only [List.append_assoc] at e
 have hr:∀ {s:MSt},Wf p s→∀x∈s.ths,x.regs.length=p.regs.toNat:=by
  intro s h x hx
  obtain ⟨i,hi⟩:=List.getElem?_of_mem hx
  obtain ⟨hlt,e⟩:=List.getElem?_eq_some_iff.1 hi
  have:=(h.th i (by rw [←h.ths];exact hlt)).regs
  have e2:nth s.ths i=x:=by rw [nth_lt _ _ hlt];exact e
  unfold MSt.view at this
  simpa [e2] using this
 obtain ⟨e1,h2⟩:=th_inj (by rw [h.ths,h'.ths]) (hr h) (hr h') e
 obtain ⟨e2,h3⟩:=List.append_inj h2 (by rw [h.words,h'.words])
 obtain ⟨e3,e4⟩:=List.append_inj h3 (by rw [h.owner,h'.owner])
 cases s;cases s'
 simp only at e1 e2 e3 e4
 rw [e1,e2,e3,e4]
theorem lessB_irr :∀l:List Int,lessB l l=false
 | []=>by simp [lessB]
 |a::l=>by unfold lessB;rw [if_pos rfl];exact lessB_irr l
theorem lessB_trans :∀ {l m n:List Int},lessB l m=true→lessB m n=true→lessB l n=true
 | [],m, [],h1,h2=>by cases m<;>simp [lessB] at h1 h2
 | [],m,c::n,h1,h2=>by simp [lessB]
 |a::l, [],n,h1,h2=>by simp [lessB] at h1
 |a::l,b::m, [],h1,h2=>by simp [lessB] at h2
 |a::l,b::m,c::n,h1,h2=>by
  unfold lessB at h1 h2⊢
  by_cases e1:a=b
  ·by_cases e2:b=c
   ·rw [if_pos e1] at h1;rw [if_pos e2] at h2;rw [if_pos (e1.trans e2)];exact lessB_trans h1 h2
   ·rw [if_neg e2] at h2;subst e1;rw [if_neg e2];exact h2
  ·rw [if_neg e1] at h1
   by_cases e2:b=c
   ·subst e2;rw [if_neg e1];exact h1
   ·rw [if_neg e2] at h2
    have h1' :a<b:=by simpa using h1
    have h2' :b<c:=by simpa using h2
    rw [if_neg (by omega)]
    simp;omega
theorem lessB_tri :∀ {l m:List Int},lessB l m=false→lessB m l=false→l=m
 | [], [],_,_=>rfl
 | [],b::m,h1,_=>by simp [lessB] at h1
 |a::l, [],_,h2=>by simp [lessB] at h2
 |a::l,b::m,h1,h2=>by
  unfold lessB at h1 h2
  by_cases e:a=b
  ·rw [if_pos e] at h1;rw [if_pos e.symm] at h2
   rw [e,lessB_tri h1 h2]
  ·rw [if_neg e] at h1;rw [if_neg (fun h=>e h.symm)] at h2
   simp at h1 h2;omega
theorem aheadB_irr (a:Outc):aheadB a a=false:=by unfold aheadB;rw [if_pos rfl,if_pos rfl];exact lessB_irr _
theorem aheadB_tri {a b:Outc}(h1:aheadB a b=false)(h2:aheadB b a=false):a=b:=by
 unfold aheadB at h1 h2
 by_cases e:a.st=b.st
 ·rw [if_pos e] at h1;rw [if_pos e.symm] at h2
  by_cases e2:a.words=b.words
  ·rw [if_pos e2] at h1;rw [if_pos e2.symm] at h2
   have e3:=lessB_tri h1 h2
   cases a;cases b;simp only at e e2 e3;rw [e,e2,e3]
  ·rw [if_neg e2] at h1;rw [if_neg (fun h=>e2 h.symm)] at h2
   exact absurd (lessB_tri h1 h2) e2
 ·rw [if_neg e] at h1;rw [if_neg (fun h=>e h.symm)] at h2
  simp at h1 h2;omega
theorem aheadB_trans {a b c:Outc}(h1:aheadB a b=true)(h2:aheadB b c=true):aheadB a c=true:=by
 unfold aheadB at h1 h2⊢
 by_cases e1:a.st=b.st
 ·rw [if_pos e1] at h1
  by_cases e2:b.st=c.st
  ·rw [if_pos e2] at h2
   rw [if_pos (e1.trans e2)]
   by_cases f1:a.words=b.words
   ·rw [if_pos f1] at h1
    by_cases f2:b.words=c.words
    ·rw [if_pos f2] at h2;rw [if_pos (f1.trans f2)];exact lessB_trans h1 h2
    ·rw [if_neg f2] at h2;rw [if_neg (fun h=>f2 (f1.symm.trans h)),f1];exact h2
   ·rw [if_neg f1] at h1
    by_cases f2:b.words=c.words
    ·rw [if_neg (fun h=>f1 (h.trans f2.symm)),←f2];exact h1
    ·rw [if_neg f2] at h2
     have h3:=lessB_trans h1 h2
     rw [if_neg (fun h=> ?_)]
     ·exact h3
     ·rw [h,lessB_irr] at h3;cases h3
  ·rw [if_neg e2] at h2;rw [if_neg (fun h=>e2 (e1.symm.trans h)),e1];exact h2
 ·rw [if_neg e1] at h1
  have h1' :a.st<b.st:=by simpa using h1
  by_cases e2:b.st=c.st
  ·rw [if_neg (by omega)];simp;omega
  ·rw [if_neg e2] at h2
   have h2' :b.st<c.st:=by simpa using h2
   rw [if_neg (by omega)];simp;omega
def Sorted_ (l:List Outc):Prop:=l.Pairwise fun a b=>aheadB a b=true
theorem sorted_ext :∀ {l m:List Outc},Sorted_ l→Sorted_ m→(∀o,o∈l↔o∈m)→l=m
 | [], [],_,_,_=>rfl
 | [],b::m,_,_,h=>by have:=(h b).2 (by simp);cases this
 |a::l, [],_,_,h=>by have:=(h a).1 (by simp);cases this
 |a::l,b::m,h1,h2,h=>by
  obtain ⟨p1,p2⟩:=List.pairwise_cons.1 h1
  obtain ⟨q1,q2⟩:=List.pairwise_cons.1 h2
  have e:a=b:=by
   rcases List.mem_cons.1 ((h a).1 (by simp)) with e|ha
   ·exact e
   ·rcases List.mem_cons.1 ((h b).2 (by simp)) with e|hb
    ·exact e.symm
    ·have:=aheadB_trans (p1 b hb) (q1 a ha)
     rw [aheadB_irr] at this;cases this
  subst e
  have e2:l=m:=by
   refine sorted_ext p2 q2 fun o=>⟨fun ho=> ?_,fun ho=> ?_⟩
   ·rcases List.mem_cons.1 ((h o).1 (by simp [ho])) with e|h3
    ·subst e;have:=p1 o ho;rw [aheadB_irr] at this;cases this
    ·exact h3
   ·rcases List.mem_cons.1 ((h o).2 (by simp [ho])) with e|h3
    ·subst e;have:=q1 o ho;rw [aheadB_irr] at this;cases this
    ·exact h3
  rw [e2]
theorem PutRel.sorted {o:OutL}{l l' :List OutL}(h:PutRel o l l')(hs:Sorted_ (l.map OutL.out)):Sorted_ (l'.map OutL.out)∧∀y,y∈l'.map OutL.out↔y∈l.map OutL.out∨y=o.out:=by
 rcases h with ⟨⟨i,hi,h1,h2⟩,rfl⟩|⟨k,hk,h1,h2,rfl⟩
 ·refine ⟨hs,fun y=>⟨.inl,fun h=>h.elim id fun e=> ?_⟩⟩
  rw [e,aheadB_tri h1 h2]
  exact List.mem_map.2 ⟨_,nth_mem _ _ hi,rfl⟩
 ·have hsplit:l=l.take k++l.drop k:=(List.take_append_drop k l).symm
  have hb:∀x∈l.take k,aheadB x.out o.out=true:=by
   intro x hx
   obtain ⟨j,hj⟩:=List.getElem?_of_mem hx
   obtain ⟨hlt,e⟩:=List.getElem?_eq_some_iff.1 hj
   have hjk:j<k:=by simp at hlt;omega
   have:=(h1 j hjk).2
   rw [nth_lt _ _ (by simp at hlt;omega)] at this
   rw [←e,List.getElem_take];exact this
  have hs2:Sorted_ (l.take k|>.map OutL.out)∧Sorted_ (l.drop k|>.map OutL.out)∧∀x∈l.take k,∀y∈l.drop k,aheadB x.out y.out=true:=by
   rw [hsplit,List.map_append] at hs
   obtain ⟨a1,a2,a3⟩:=List.pairwise_append.1 hs
   exact ⟨a1,a2,fun x hx y hy=>a3 _ (List.mem_map.2 ⟨x,hx,rfl⟩) _ (List.mem_map.2 ⟨y,hy,rfl⟩)⟩
  have ha:∀x∈l.drop k,aheadB o.out x.out=true:=by
   intro x hx
   rcases Nat.lt_or_ge k l.length with hlt|hge
   ·have hok:=h2 hlt
    rw [nth_lt l k hlt] at hok
    rw [List.drop_eq_getElem_cons hlt] at hx
    rcases List.mem_cons.1 hx with rfl|hx
    ·exact hok
    ·have h3:=hs2.2.1
     rw [List.drop_eq_getElem_cons hlt,List.map_cons] at h3
     exact aheadB_trans hok ((List.pairwise_cons.1 h3).1 _ (List.mem_map.2 ⟨x,hx,rfl⟩))
   ·rw [List.drop_eq_nil_of_le hge] at hx;cases hx
  constructor
  ·unfold Sorted_
   rw [List.map_append,List.map_cons]
   refine List.pairwise_append.2 ⟨hs2.1,List.pairwise_cons.2 ⟨fun y hy=> ?_,hs2.2.1⟩,fun x hx y hy=> ?_⟩
   ·obtain ⟨z,hz,rfl⟩:=List.mem_map.1 hy;exact ha z hz
   ·obtain ⟨z,hz,rfl⟩:=List.mem_map.1 hx
    rcases List.mem_cons.1 hy with rfl|hy
    ·exact hb z hz
    ·obtain ⟨u,hu,rfl⟩:=List.mem_map.1 hy;exact hs2.2.2 z hz u hu
  ·intro y
   conv=>rhs;rw [hsplit]
   simp only [List.map_append,List.map_cons,List.mem_append,List.mem_cons]
   constructor
   ·rintro (h|h|h)
    ·exact .inl (.inl h)
    ·exact .inr h
    ·exact .inl (.inr h)
   ·rintro ((h|h)|h)
    ·exact .inl h
    ·exact .inr (.inr h)
    ·exact .inr (.inl h)
def Handled (p:Pg)(m:Int)(S:List MSt)(E:List Outc)(s:MSt)(t k:Nat):Prop:=if (stepT p m s t k).fell=true then (⟨1, [],(stepT p m s t k).prints⟩:Outc)∈E else s.putT t (stepT p m s t k)∈S
structure Expanded (p:Pg)(m:Int)(S:List MSt)(E:List Outc)(s:MSt):Prop where
 done:ended p s=true→(⟨0,s.words,s.prints⟩:Outc)∈E
 stuck:ended p s=false→Stuck_ p m s→(⟨2,s.words,s.prints⟩:Outc)∈E
 moves:∀t k,t<p.code.length→mvOK m (nth p.code t) (s.view t) k=true→Handled p m S E s t k
structure Inv (p:Pg)(m:Int)(S:List MSt)(E:List Outc)(full:Bool)(i:Nat):Prop where
 start:begin_ p∈S
 reach:∀s∈S,Reach p m s
 pr:∀j,j<S.length→(nth S j).prints.length≤2*j
 len:S.length≤4001
 hfull:full=decide (4000<S.length)
 sound:∀o∈E,Outs p m o
 sorted:Sorted_ E
 done:full=false→∀j,j<i→Expanded p m S E (nth S j)
 nd:S.Nodup
def Big (p:Pg)(m:Int):Prop:=∃S:List MSt,S.Nodup∧(∀s∈S,Reach p m s)∧4000<S.length
theorem nodup_sub :∀ {S T:List MSt},S.Nodup→(∀s∈S,s∈T)→S.length≤T.length
 | [],_,_,_=>Nat.zero_le _
 |a::S,T,h,hs=>by
  obtain ⟨h1,h2⟩:=List.nodup_cons.1 h
  have ha:=hs a (by simp)
  have:=nodup_sub (S:=S) (T:=T.erase a) h2 fun s hm=>(List.mem_erase_of_ne (fun (e:s=a)=>h1 (by rw [←e];exact hm))).2 (hs s (by simp [hm]))
  rw [List.length_erase_of_mem ha] at this
  have:=List.length_pos_of_mem ha
  simp only [List.length_cons];omega
theorem Handled.mono {p:Pg}{m:Int}{S S' :List MSt}{E E' :List Outc}{s:MSt}{t k:Nat}(h:Handled p m S E s t k)(hS:∀x∈S,x∈S')(hE:∀x∈E,x∈E'):Handled p m S' E' s t k:=by
 unfold Handled at h⊢
 split at h
 ·rename_i hf;rw [if_pos hf];exact hE _ h
 ·rename_i hf;rw [if_neg hf];exact hS _ h
theorem Expanded.mono {p:Pg}{m:Int}{S S' :List MSt}{E E' :List Outc}{s:MSt}(h:Expanded p m S E s)(hS:∀x∈S,x∈S')(hE:∀x∈E,x∈E'):Expanded p m S' E' s:=
 ⟨fun e=>hE _ (h.done e),fun e e2=>hE _ (h.stuck e e2),fun t k ht hk=>(h.moves t k ht hk).mono hS hE⟩
theorem Inv.states {p:Pg}{m:Int}{S:List MSt}{E:List Outc}{i:Nat}(h:Inv p m S E false i)(hi:S.length≤i):∀s,s∈S↔Reach p m s:=by
 intro s
 refine ⟨h.reach s,fun hs=> ?_⟩
 induction hs with
 |start=>exact h.start
 | @step s t k hr ht hk hf ih=>
  obtain ⟨j,hj⟩:=List.getElem?_of_mem ih
  obtain ⟨hlt,e⟩:=List.getElem?_eq_some_iff.1 hj
  have h9:=h.done rfl j (by omega)
  rw [nth_lt _ _ hlt,e] at h9
  have:=h9.moves _ _ ht hk
  unfold Handled at this
  rw [if_neg (by rw [hf];decide)] at this
  exact this
theorem Inv.big {p:Pg}{m:Int}{S:List MSt}{E:List Outc}{full:Bool}{i:Nat}(h:Inv p m S E full i)(hi:full=true∨S.length≤i):full=true↔Big p m:=by
 constructor
 ·intro hf
  have:=h.hfull
  rw [hf] at this
  exact ⟨S,h.nd,h.reach,of_decide_eq_true this.symm⟩
 ·rintro ⟨T,h1,h2,h3⟩
  cases hf:full with
  |true=>rfl
  |false=>
   rw [hf] at hi h
   have h4:=nodup_sub h1 fun s hs=>(h.states (hi.resolve_left Bool.false_ne_true) s).2 (h2 s hs)
   have:=h.hfull
   have:=of_decide_eq_false this.symm
   omega
theorem Inv.all {p:Pg}{m:Int}{S:List MSt}{E:List Outc}{i:Nat}(h:Inv p m S E false i)(hi:S.length≤i):∀o,o∈E↔Outs p m o:=by
 have hex:∀s∈S,Expanded p m S E s:=by
  intro s hs
  obtain ⟨j,hj⟩:=List.getElem?_of_mem hs
  obtain ⟨hlt,e⟩:=List.getElem?_eq_some_iff.1 hj
  have:=h.done rfl j (by omega)
  rwa [nth_lt _ _ hlt,e] at this
 have hall:∀s,Reach p m s→s∈S:=by
  intro s hs
  induction hs with
  |start=>exact h.start
  |step hr ht hk hf ih=>
   have:=(hex _ ih).moves _ _ ht hk
   unfold Handled at this
   rw [if_neg (by rw [hf];decide)] at this
   exact this
 intro o
 refine ⟨h.sound o,fun ho=> ?_⟩
 cases ho with
 |done hr he=>exact (hex _ (hall _ hr)).done he
 |stuck hr he hst=>exact (hex _ (hall _ hr)).stuck he hst
 |fell hr ht hk hf=>
  have:=(hex _ (hall _ hr)).moves _ _ ht hk
  unfold Handled at this
  rwa [if_pos hf] at this
theorem flatMap_congr' {α β:Type}{f g:α→List β} :∀ {l:List α},(∀x∈l,f x=g x)→l.flatMap f=l.flatMap g
 | [],_=>rfl
 |x::l,h=>by simp only [List.flatMap_cons];rw [h x (by simp),flatMap_congr' fun y hy=>h y (by simp [hy])]
theorem all_congr' {α:Type}{f g:α→Bool} :∀ {l:List α},(∀x∈l,f x=g x)→l.all f=l.all g
 | [],_=>rfl
 |x::l,h=>by simp only [List.all_cons];rw [h x (by simp),all_congr' fun y hy=>h y (by simp [hy])]
section
variable {code:Ls (Ls Ins)}{words:Ls Int}{Lk R:Nat}{mode:Int}{x:SD}
abbrev pgN (code:Ls (Ls Ins))(words:Ls Int)(Lk R:Nat):Pg:=pgOf code words (Lk:Int) (R:Int)
theorem pgN_len :(pgN code words Lk R).code.length=code.l.length:=by simp [pgN,pgOf]
theorem pgN_code {t:Nat}(ht:t<code.l.length):nth (pgN code words Lk R).code t=(nth code.l t).l:=nth_map' _ _ _ ht
theorem st_th {t:Nat}(ht:t<x.thr.l.length):nth x.st.ths t=(nth x.thr.l t).th:=nth_map' _ _ _ ht
theorem st_view {t:Nat}(ht:t<x.thr.l.length):x.st.view t=⟨(nth x.thr.l t).pc,(nth x.thr.l t).regs.l,(nth x.thr.l t).wait.l,x.words.l,x.owner.l,x.prints.l,false⟩:=by
 unfold MSt.view
 rw [st_th ht];rfl
theorem ended_eq (hl:x.thr.l.length=code.l.length):endedL code x.thr=ended (pgN code words Lk R) x.st:=by
 unfold endedL ended
 rw [pgN_len]
 refine all_congr' fun t ht=> ?_
 have ht' :t<code.l.length:=by simpa using ht
 rw [pgN_code ht',st_th (by omega)];rfl
theorem moves_eq (hl:x.thr.l.length=code.l.length):movesL mode code x.thr x.owner.l code.l.length=moves (pgN code words Lk R) mode x.st:=by
 unfold movesL moves
 rw [pgN_len]
 refine flatMap_congr' fun t ht=> ?_
 have ht' :t<code.l.length:=by simpa using ht
 rw [pgN_code ht',st_view (by omega)];rfl
structure WfX (code:Ls (Ls Ins))(words:Ls Int)(Lk R:Nat)(x:SD):Prop where
 thl:x.thr.l.length=code.l.length
 pc:∀t,t<code.l.length→0≤(nth x.thr.l t).pc∧(nth x.thr.l t).pc≤(nth code.l t).l.length
 regs:∀t,t<x.thr.l.length→(nth x.thr.l t).regs.l.length=R
 wait:∀t,t<x.thr.l.length→(nth x.thr.l t).wait.l.length≤3
 wt:∀t,t<x.thr.l.length→∀j,j<(nth x.thr.l t).wait.l.length→if (nth (nth x.thr.l t).wait.l j).lock=true then 0≤(nth (nth x.thr.l t).wait.l j).wh∧(nth (nth x.thr.l t).wait.l j).wh<x.owner.l.length else 0≤(nth (nth x.thr.l t).wait.l j).wh∧(nth (nth x.thr.l t).wait.l j).wh<x.words.l.length
 words:x.words.l.length=words.l.length
 owner:x.owner.l.length=Lk
theorem Wf.toX (h:Wf (pgN code words Lk R) x.st):WfX code words Lk R x:=by
 have hl:x.thr.l.length=code.l.length:=by have:=h.ths;rw [pgN_len] at this;simpa [SD.st] using this
 have hw:x.words.l.length=words.l.length:=h.words
 have ho:x.owner.l.length=Lk:=by have:=h.owner;simpa [pgN,pgOf,SD.st] using this
 have hv:∀t,t<code.l.length→WfS R words.l.length Lk (nth code.l t).l.length ⟨(nth x.thr.l t).pc,(nth x.thr.l t).regs.l,(nth x.thr.l t).wait.l,x.words.l,x.owner.l,x.prints.l,false⟩:=by
  intro t ht
  have:=h.th t (by rw [pgN_len];exact ht)
  rw [pgN_code ht,st_view (by omega)] at this
  simpa [pgN,pgOf] using this
 refine ⟨hl,fun t ht=>(hv t ht).pc,fun t ht=>(hv t (by omega)).regs,fun t ht=>(hv t (by omega)).wait,fun t ht j hj=> ?_,hw,ho⟩
 rw [ho,hw]
 exact (hv t (by omega)).wt _ (nth_mem _ _ hj)
theorem rows_at {rows:List ThL}(e:rows.map ThL.th=x.thr.l.map ThL.th):rows.length=x.thr.l.length∧∀t,t<x.thr.l.length→(nth rows t).pc=(nth x.thr.l t).pc∧(nth rows t).regs.l=(nth x.thr.l t).regs.l∧(nth rows t).wait.l=(nth x.thr.l t).wait.l:=by
 have hl:rows.length=x.thr.l.length:=by simpa using congrArg List.length e
 refine ⟨hl,fun t ht=> ?_⟩
 have h1:=congrArg (fun l=>nth l t) e
 simp only [nth_map' ThL.th _ _ ht,nth_map' ThL.th rows t (by omega)] at h1
 exact ⟨congrArg Th.pc h1,congrArg Th.regs h1,congrArg Th.wait h1⟩
theorem insR_N (hok:OkPg (pgN code words Lk R)){t:Nat}(ht:t<code.l.length){pc:Int}(h0:0≤pc)(h1:pc<(nth code.l t).l.length):InsR R words.l.length Lk (nextIns (nth code.l t).l pc):=by
 have h:=(hok.insR (t:=t) (i:=pc.toNat) (by rw [pgN_len];exact ht) (by rw [pgN_code ht];omega)).1
 rw [pgN_code ht] at h
 rw [nextIns_t h1]
 simpa [pgN,pgOf] using h
theorem lock_N (hok:OkPg (pgN code words Lk R)){t i:Nat}(ht:t<code.l.length)(hi:i<(nth code.l t).l.length)(h17:(nth (nth code.l t).l i).op=17):0≤(nth (nth code.l t).l i).a∧(nth (nth code.l t).l i).a<(Lk:Int):=by
 have h:=(hok.insR (t:=t) (i:=i) (by rw [pgN_len];exact ht) (by rw [pgN_code ht];exact hi)).1
 rw [pgN_code ht] at h
 have:=h.o17 (.inl h17)
 simpa [pgN,pgOf] using this
theorem moves_len (hl:x.thr.l.length=code.l.length)(hc:code.l.length≤4)(hw:∀t,t<x.thr.l.length→(nth x.thr.l t).wait.l.length≤3):(moves (pgN code words Lk R) mode x.st).length≤16:=by
 rw [←moves_eq hl]
 have key:∀n,n≤code.l.length→(movesL mode code x.thr x.owner.l n).length≤4*n:=by
  intro n
  induction n with
  |zero=>intro _;simp [movesL]
  |succ n ih=>
   intro hn
   rw [movesL_succ,List.length_append]
   have h1:=ih (by omega)
   have h2:=hw n (by omega)
   have h3:=mayT_len mode x.thr n (nth x.thr.l n).wait.l.length
   have h4:(moveT mode code x.thr x.owner.l n).length≤4:=by
    unfold moveT
    rw [List.length_append]
    split<;>simp<;>omega
   omega
 have:=key _ (Nat.le_refl _)
 omega
end
theorem st_step {code:Ls (Ls Ins)}{words:Ls Int}{Lk R:Nat}{mode:Int}{x z:SD}{t k:Nat}{rows rows' :List ThL}{y:TS}{w0 o0 p0:Ls Int}(ht:t<code.l.length)(hl:x.thr.l.length=code.l.length)(e:rows.map ThL.th=x.thr.l.map ThL.th)(ew:w0.l=x.words.l)(eo:o0.l=x.owner.l)(ep:p0.l=x.prints.l)
  (hy:y=doT mode t (nth code.l t).l k ⟨(nth rows t).pc,(nth rows t).regs.l,(nth rows t).wait.l,w0.l,o0.l,p0.l,false⟩):y=stepT (pgN code words Lk R) mode x.st t k∧(z.thr.l=rows' →rows'.map ThL.th=(rows.map ThL.th).set t ⟨y.pc,y.regs,y.wait⟩→z.words.l=y.words→z.owner.l=y.owner→z.prints.l=y.prints→z.st=x.st.putT t y):=by
 obtain ⟨h1,h2⟩:=rows_at e
 obtain ⟨q1,q2,q3⟩:=h2 t (by omega)
 constructor
 ·rw [hy,q1,q2,q3,ew,eo,ep]
  unfold stepT
  rw [pgN_code ht,st_view (by omega)]
 ·intro e1 e2 e3 e4 e5
  unfold MSt.putT SD.st
  rw [e1,e2,e3,e4,e5,e]
section
variable {p:Pg}{m:Int}{S:List MSt}{E:List Outc}{full:Bool}{i:Nat}
theorem Inv.addOut (h:Inv p m S E full i){o:Outc}{E' :List Outc}(ho:Outs p m o)(hs:Sorted_ E')(hm:∀y,y∈E' ↔y∈E∨y=o):Inv p m S E' full i:=
 ⟨h.start,h.reach,h.pr,h.len,h.hfull,fun y hy=>((hm y).1 hy).elim (h.sound y) (fun e=>e▸ho),hs,fun hf j hj=>(h.done hf j hj).mono (fun _ h=>h) fun y hy=>(hm y).2 (.inl hy),h.nd⟩
theorem nth_left {α:Type}[Inhabited α](l m:List α)(j:Nat)(h:j<l.length):nth (l++m) j=nth l j:=by rw [nth_app0,if_pos h]
theorem nth_last {α:Type}[Inhabited α](l:List α)(x:α):nth (l++ [x]) l.length=x:=by rw [nth_app0,if_neg (by omega)];simp [nth]
theorem Inv.addState (h:Inv p m S E full i)(hf:full=false)(hi:i≤S.length){s:MSt}(hr:Reach p m s)(hp:s.prints.length≤2*S.length)(hnw:s∉S):Inv p m (S++ [s]) E (full||decide (4000<S.length+1)) i:=by
 have hl:S.length≤4000:=by
  have:=h.hfull
  rw [hf] at this
  have:=of_decide_eq_false this.symm
  omega
 refine ⟨by simp [h.start],fun x hx=> ?_,fun j hj=> ?_,by simp;omega,by rw [hf];simp,h.sound,h.sorted,fun _ j hj=> ?_, ?_⟩
 ·rcases List.mem_append.1 hx with hx|hx
  ·exact h.reach x hx
  ·obtain rfl:x=s:=by simpa using hx
   exact hr
 ·simp at hj
  rcases Nat.lt_or_ge j S.length with h1|h1
  ·rw [nth_left _ _ _ h1];exact h.pr j h1
  ·obtain rfl:j=S.length:=by omega
   rw [nth_last];exact hp
 ·rw [nth_left _ _ _ (by omega)]
  exact (h.done hf j hj).mono (fun x hx=>by simp [hx]) (fun _ h=>h)
 ·rw [List.nodup_append]
  exact ⟨h.nd,by simp,fun x hx y hy e=>by obtain rfl:y=s:=(by simpa using hy);exact hnw (e▸hx)⟩
theorem Inv.next (h:Inv p m S E full i)(hx:full=false→Expanded p m S E (nth S i)):Inv p m S E full (i+1):=
 ⟨h.start,h.reach,h.pr,h.len,h.hfull,h.sound,h.sorted,fun hf j hj=>by
  rcases Nat.lt_or_ge j i with h1|h1
  ·exact h.done hf j h1
  ·obtain rfl:j=i:=by omega
   exact hx hf,h.nd⟩
theorem Inv.first (s:MSt)(hs:s=begin_ p):Inv p m [s] [] (false||decide (4000<0+1)) 0:=by
 subst hs
 refine ⟨by simp,fun x hx=> ?_,fun j hj=> ?_,by simp,by simp,fun o ho=> ?_,List.Pairwise.nil,fun _ j hj=>absurd hj (by omega),by simp⟩
 ·obtain rfl:x=begin_ p:=by simpa using hx
  exact .start
 ·simp at hj;subst hj;exact Nat.zero_le _
 ·cases ho
theorem ended_no {s:MSt}(he:ended p s=true):∀t k,t<p.code.length→mvOK m (nth p.code t) (s.view t) k=false:=by
 intro t k ht
 have h1:=(List.all_eq_true.1 he) t (by simpa using ht)
 simp only [Bool.and_eq_true,decide_eq_true_eq] at h1
 cases hk:mvOK m (nth p.code t) (s.view t) k with
 |false=>rfl
 |true=>
  rcases mvOK_k hk with ⟨rfl,h2,_⟩|⟨h2,h3,_⟩
  ·exact absurd h2 h1.1
  ·have:(s.view t).wait.length=0:=h1.2
   omega
theorem Inv.ended (h:Inv p m S E full i)(hi:i<S.length)(he:ended p (nth S i)=true){E' :List Outc}(hs:Sorted_ E')(hm:∀y,y∈E' ↔y∈E∨y=⟨0,(nth S i).words,(nth S i).prints⟩):Inv p m S E' full (i+1):=by
 have h1:=h.addOut (.done (h.reach _ (nth_mem _ _ hi)) he) hs hm
 refine h1.next fun _=>⟨fun _=>(hm _).2 (.inr rfl),fun e=> ?_,fun t k ht hk=> ?_⟩
 ·rw [he] at e;cases e
 ·rw [ended_no he t k ht] at hk;cases hk
theorem stuck_of {s:MSt}(hm:moves p m s= []):Stuck_ p m s:=by
 intro t k ht
 cases hk:mvOK m (nth p.code t) (s.view t) k with
 |false=>rfl
 |true=>
  have:((8*t+k:Nat):Int)∈moves p m s:=mem_moves.2 ⟨t,k,ht,hk,rfl⟩
  rw [hm] at this;cases this
theorem Inv.stuck (h:Inv p m S E full i)(hi:i<S.length)(he:Go.Proofs.Ytmbfcgpneflbmaa.ended p (nth S i)=false)(hmv:moves p m (nth S i)= []){E' :List Outc}(hs:Sorted_ E')(hm:∀y,y∈E' ↔y∈E∨y=⟨2,(nth S i).words,(nth S i).prints⟩):Inv p m S E' full (i+1):=by
 have hst:=stuck_of hmv
 have h1:=h.addOut (.stuck (h.reach _ (nth_mem _ _ hi)) he hst) hs hm
 refine h1.next fun _=>⟨fun e=> ?_,fun _ _=>(hm _).2 (.inr rfl),fun t k ht hk=> ?_⟩
 ·rw [he] at e;cases e
 ·rw [hst t k ht] at hk;cases hk
def HandM (p:Pg)(m:Int)(S:List MSt)(E:List Outc)(s:MSt)(v:Int):Prop:=∀t k,v=((8*t+k:Nat):Int)→k≤3→Handled p m S E s t k
theorem HandM.mono {s:MSt}{v:Int}{S' :List MSt}{E' :List Outc}(h:HandM p m S E s v)(hS:∀x∈S,x∈S')(hE:∀x∈E,x∈E'):HandM p m S' E' s v:=fun t k e hk=>(h t k e hk).mono hS hE
theorem HandM.of {s:MSt}{v:Int}{t k:Nat}(hv:v=((8*t+k:Nat):Int))(hk:k≤3)(h:Handled p m S E s t k):HandM p m S E s v:=by
 intro t' k' e hk'
 rw [hv] at e
 have e' :8*t+k=8*t' +k' :=by omega
 obtain rfl:t=t' :=by omega
 obtain rfl:k=k' :=by omega
 exact h
theorem Inv.expanded (h:Inv p m S E full i)(hi:i<S.length)(he:Go.Proofs.Ytmbfcgpneflbmaa.ended p (nth S i)=false)(hne:moves p m (nth S i)≠ [])(hw:Wf p (nth S i))(hall:full=false→∀q,q<(moves p m (nth S i)).length→HandM p m S E (nth S i) (nth (moves p m (nth S i)) q)):Inv p m S E full (i+1):=by
 refine h.next fun hf=>⟨fun e=> ?_,fun _ hst=> ?_,fun t k ht hk=> ?_⟩
 ·rw [he] at e;cases e
 ·exfalso
  apply hne
  apply List.eq_nil_iff_forall_not_mem.2
  intro v hv
  obtain ⟨t,k,ht,hk,_⟩:=mem_moves.1 hv
  rw [hst t k ht] at hk;cases hk
 ·have hv:((8*t+k:Nat):Int)∈moves p m (nth S i):=mem_moves.2 ⟨t,k,ht,hk,rfl⟩
  obtain ⟨q,hq⟩:=List.getElem?_of_mem hv
  obtain ⟨hlt,e⟩:=List.getElem?_eq_some_iff.1 hq
  exact hall hf q hlt t k (by rw [nth_lt _ _ hlt];exact e) (mvOK_le hk (hw.th t ht).wait)
end
set_option maxHeartbeats 40000000
theorem do_tk (K:Nat→Prop)(g mv t k:Nat)(code:Ls (Ls Ins))(vt:Value)(rows:List ThL)(words owner prints:Ls Int)(pw:Value)(locks nregs mode:Int)(fell:Bool)(W:World)
  (hS:Sh K W W (stA g [code.v,pw, .int .i64 locks, .int .i64 nregs, .int .i64 mode] vt rows words owner prints fell++ [.at_ code])) (et:mv/8=t) (ek:mv%8=k)
  (hn:t<rows.length) (htc:t<code.l.length) (hmv:mv<1000000) (hpc:0≤(nth rows t).pc∧(nth rows t).pc<1000000) (hwl:(nth rows t).wait.l.length≤3) (hkw:k≤(nth rows t).wait.l.length) (hpl:prints.l.length≤100000000) (hol:owner.l.length≤100)
  (hwt:∀j,j<(nth rows t).wait.l.length→if (nth (nth rows t).wait.l j).lock=true then 0≤(nth (nth rows t).wait.l j).wh∧(nth (nth rows t).wait.l j).wh<owner.l.length else 0≤(nth (nth rows t).wait.l j).wh∧(nth (nth rows t).wait.l j).wh<words.l.length)
  (hio:k=0→InsR (nth rows t).regs.l.length words.l.length owner.l.length (nextIns (nth code.l t).l (nth rows t).pc)):
  Rets Try.prog 50 [.pointer (some ⟨g,0,none⟩), .int .i64 ((mv:Nat):Int)] W (fun v w' =>v= .tuple #[]∧∃(rows' :List ThL) (words' owner' prints' :Ls Int) (fell' :Bool) (y:TS),
   y=doT mode t (nth code.l t).l k ⟨(nth rows t).pc,(nth rows t).regs.l,(nth rows t).wait.l,words.l,owner.l,prints.l,fell⟩∧rows'.map ThL.th=(rows.map ThL.th).set t ⟨y.pc,y.regs,y.wait⟩∧words'.l=y.words∧owner'.l=y.owner∧prints'.l=y.prints∧fell' =y.fell∧
   Sh K W w' (stA g [code.v,pw, .int .i64 locks, .int .i64 nregs, .int .i64 mode] vt rows' words' owner' prints' fell' ++ [.at_ code])):=by
 subst et;subst ek
 exact do_full K g mv code vt rows words owner prints pw locks nregs mode fell W hS hn htc hmv hpc hwl hkw hpl hol hwt hio
theorem Sh.own_new {α:Type}[Enc α][Flat α]{K:Nat→Prop}{W w:World}{L:List Asn}{E:TypeId}{s:Ls α}(h:Sh K W w L)(i:Nat)(hi:L[i]? =some (.own E s)):∀b,s.on b→K b∨W.heap.size≤b:=fun b hb=>by
 have hm:=List.mem_of_getElem? hi
 rcases own_on (h.ok _ hm) hb with h1|h1
 ·exact h.mine _ hm b h1
 ·exact Flat.noRd h1
theorem nilOn {b:Nat}(h:(⟨.slice none 0 0, []⟩:Ls Int).on b):False:=by
 rcases h with ⟨h,_⟩|⟨_,h,_⟩<;>exact absurd h (by simp)
structure SData (W:World)(ST:TypeId)(hd:List Value)(states:List SD)(ends:List OutL):Prop where
 hd:∀x∈states,x.hd=hd∧x.E=ST∧x.fell=false∧∀b,Enc.on x b→W.heap.size≤b
 en:∀o∈ends,∀b,Enc.on o b→W.heap.size≤b
theorem SData.put {W:World}{ST:TypeId}{hd:List Value}{states:List SD}{ends ends' :List OutL}{o:OutL}(h:SData W ST hd states ends)(hr:PutRel o ends ends')(ho:∀b,Enc.on o b→W.heap.size≤b):SData W ST hd states ends' ∧ends'.length≤ends.length+1:=by
 rcases hr with ⟨_,rfl⟩|⟨k,hk,_,_,rfl⟩
 ·exact ⟨h,by omega⟩
 ·refine ⟨⟨h.hd,fun x hx=> ?_⟩,by simp;omega⟩
  rcases List.mem_append.1 hx with hx|hx
  ·exact h.en x (List.mem_of_mem_take hx)
  ·rcases List.mem_cons.1 hx with rfl|hx
   ·exact ho
   ·exact h.en x (List.mem_of_mem_drop hx)
theorem SData.more {W:World}{ST:TypeId}{hd:List Value}{states:List SD}{ends:List OutL}{x:SD}(h:SData W ST hd states ends)(hx:x.hd=hd∧x.E=ST∧x.fell=false∧∀b,Enc.on x b→W.heap.size≤b):SData W ST hd (states++ [x]) ends:=
 ⟨fun y hy=>(List.mem_append.1 hy).elim (h.hd y) (fun hy=>by
  obtain rfl:y=x:=by simpa using hy
  exact hx),h.en⟩
theorem key_put {p:Pg}(hok:OkPg p){m:Int}{x:SD}{states states' :List SD}{keys keys' :List (Ls Int)}{heads before heads' before' :List Int}{full full' :Bool}{E:List Outc}{i:Nat}
  (h:KeyRel (keyOf x.st) x states states' keys keys' heads before heads' before' full full') (hk:keys.map (·.l)=(states.map SD.st).map keyOf) (hlen:states.length=keys.length)
  (hi:Inv p m (states.map SD.st) E full i) (hf:full=false) (hil:i≤states.length) (hr:Reach p m x.st) (hp:x.st.prints.length≤2*states.length):
  Inv p m (states'.map SD.st) E full' i∧keys'.map (·.l)=(states'.map SD.st).map keyOf∧states'.length=keys'.length∧x.st∈states'.map SD.st∧(∀s∈states.map SD.st,s∈states'.map SD.st)∧(states' =states∨states' =states++ [x]):=by
 rcases h with ⟨⟨j,hj,e⟩,e1,e2,_,e5⟩|⟨hno,rfl,e2,_,rfl⟩
 ·have h1:(nth (states.map SD.st) j)∈states.map SD.st:=nth_mem _ _ (by simp;omega)
  have e3:keyOf (nth (states.map SD.st) j)=keyOf x.st:=by
   have:=congrArg (fun l=>nth l j) hk
   simp only [nth_map' (fun s:Ls Int=>s.l) _ _ hj,nth_map' keyOf (states.map SD.st) j (by simp;omega)] at this
   rw [←this];exact e
  have e4:=key_inj ((hi.reach _ h1).wf hok) (hr.wf hok) e3
  rw [e1,e5]
  refine ⟨hi,e2.trans hk, ?_,e4▸h1,fun s hs=>hs, .inl rfl⟩
  have:=congrArg List.length e2
  simp at this;omega
 ·refine ⟨?_, ?_, ?_,by simp,fun s hs=>by simp at hs⊢;exact .inl hs, .inr rfl⟩
  ·have:=hi.addState hf (by simpa using hil) hr (by simpa using hp) (fun hx=>by
    obtain ⟨j,hj⟩:=List.getElem?_of_mem hx
    obtain ⟨hlt,e⟩:=List.getElem?_eq_some_iff.1 hj
    have hlt' :j<keys.length:=by rw [←hlen];simpa using hlt
    refine hno j hlt' ?_
    have:=congrArg (fun l=>nth l j) hk
    simp only [nth_map' (fun s:Ls Int=>s.l) _ _ hlt',nth_map' keyOf (states.map SD.st) j hlt] at this
    rw [this,nth_lt _ _ hlt,e])
   simpa using this
  ·rw [e2,hk];simp
  ·have:=congrArg List.length e2
   simp at this⊢;omega
theorem keyRel_ok {L:List Int}{x:SD}{states states' :List SD}{keys keys' :List (Ls Int)}{heads before heads' before' :List Int}{full full' :Bool}(h:KeyRel L x states states' keys keys' heads before heads' before' full full'):HeadsOK (keys'.map (·.l)) heads' before' :=by
 rcases h with ⟨_,_,_,h,_⟩|⟨_,_,_,h,_⟩<;>exact h
theorem headsOK0 :HeadsOK (([]:List (Ls Int)).map (·.l)) (List.replicate 4096 (-1)) []:=by
 refine ⟨List.length_replicate,rfl,fun h hh=> .inl ⟨?_,fun j hj=>absurd hj (Nat.not_lt_zero _)⟩,fun i hi=>absurd hi (Nat.not_lt_zero _)⟩
 simp only [nth,List.getD,List.getElem?_replicate,if_pos hh];rfl
theorem bigNoRd {INT WT:TypeId}{rows:List ThL}{X:Prop}{b:Nat}(h:(Asn.big (rowsA INT WT rows)).rd b):X:=by
 obtain ⟨A,hA,hb⟩:=h
 obtain ⟨x,_,hx⟩:=List.mem_flatMap.1 hA
 simp only [thA,List.mem_cons,List.not_mem_nil,or_false] at hx
 rcases hx with rfl|rfl<;>exact Flat.noRd hb
theorem KeyRel.rd {L:List Int}{x:SD}{states states' :Ls SD}{keys keys' :List (Ls Int)}{heads before heads' before' :List Int}{full full' :Bool}(h:KeyRel L x states.l states'.l keys keys' heads before heads' before' full full'){E:TypeId}{b:Nat}(hb:(Asn.own E states').rd b):(Asn.own E states).rd b∨(Asn.rd1 x).rd b:=by
 obtain ⟨i,hi,hb⟩:=hb
 rcases h with ⟨_,e1,_⟩|⟨_,e1,_⟩
 ·rw [e1] at hi hb;exact .inl ⟨i,hi,hb⟩
 ·rw [e1] at hi hb
  simp at hi
  rcases Nat.lt_or_ge i states.l.length with h1|h1
  ·rw [nth_left _ _ _ h1] at hb;exact .inl ⟨i,h1,hb⟩
  ·obtain rfl:i=states.l.length:=by omega
   rw [nth_last] at hb;exact .inr hb
theorem PutRel.rd {o:OutL}{ends ends' :Ls OutL}(h:PutRel o ends.l ends'.l){E:TypeId}{b:Nat}(hb:(Asn.own E ends').rd b):(Asn.own E ends).rd b∨o.words.on b∨o.prints.on b:=by
 obtain ⟨i,hi,hb⟩:=hb
 have hm:=nth_mem _ _ hi
 have key:∀y∈ends.l,Enc.on y b→(Asn.own E ends).rd b:=fun y hy hyb=>by
  obtain ⟨j,hj⟩:=List.getElem?_of_mem hy
  obtain ⟨hlt,e⟩:=List.getElem?_eq_some_iff.1 hj
  exact ⟨j,hlt,by rw [nth_lt _ _ hlt,e];exact hyb⟩
 rcases h with ⟨_,e1⟩|⟨k,_,_,_,e1⟩
 ·exact .inl (key _ (e1▸hm) hb)
 ·rw [e1] at hm hb
  rcases List.mem_append.1 hm with h1|h1
  ·exact .inl (key _ (List.mem_of_mem_take h1) hb)
  ·rcases List.mem_cons.1 h1 with h1|h1
   ·rw [h1] at hb;exact .inr hb
   ·exact .inl (key _ (List.mem_of_mem_drop h1) hb)
theorem ok_lenN {code:Ls (Ls Ins)}{words:Ls Int}{Lk R:Nat}(h:OkPg (pgN code words Lk R)):1≤code.l.length∧code.l.length≤4∧words.l.length≤64∧0≤(Lk:Int)∧(Lk:Int)≤4∧1≤(R:Int)∧(R:Int)≤200:=by
 have h1:=h.code
 have h2:=h.words
 have h3:=h.locks
 have h4:=h.regs
 simp only [pgN,pgOf,List.length_map] at h1 h2 h3 h4
 omega
theorem st_mapAt {states:List SD}{i:Nat}(h:i<states.length):nth (states.map SD.st) i=(nth states i).st:=nth_map' _ _ _ h
theorem by_s (code:Ls (Ls Ins))(words:Ls Int)(Lk R:Nat)(mode:Int)(W:World)(hcode:code.At W)(hwords:words.At W)(hok:OkPg (pgN code words Lk R)):
    Rets Try.prog 18 [.agg #[code.v,words.v, .int .i64 ((Lk:Nat):Int), .int .i64 ((R:Nat):Int)], .int .i64 mode] W (fun v w' =>∃(g:Nat) (full:Bool) (kv hv bv:Value) (states:Ls SD) (ends:Ls OutL),v= .pointer (some ⟨g,0,none⟩)∧(full=true↔Big (pgN code words Lk R) mode)∧(full=false→Sorted_ (ends.l.map OutL.out)∧∀o,o∈ends.l.map OutL.out↔Outs (pgN code words Lk R) mode o)∧ends.l.length≤70000∧(∀o∈ends.l,∀b,Enc.on o b→W.heap.size≤b)∧((full=false→(states.l.map SD.st).Nodup∧∀s,s∈states.l.map SD.st↔Reach (pgN code words Lk R) mode s)∧states.l.length≤4001∧SData W 100 [code.v,words.v, .int .i64 ((Lk:Nat):Int), .int .i64 ((R:Nat):Int), .int .i64 mode] states.l ends.l)∧Sh0 W w' [.blk g 44 [states.v,kv,hv,bv,ends.v, .bool full], .own 92 states, .own 49 ends]):=by
 obtain ⟨hl1,hcl,hwn,_,hlk9,_,hR9⟩:=ok_lenN hok
 have hlk:Lk≤4:=by omega
 have hR:R≤200:=by omega
 refine gen Try.func18 Try.ntmps18 (Sh0.ext2 hcode hwords:Sh (fun _=>False) W W [.at_ code, .at_ words]) rfl fun a10 h10=>gG h10<|sK fun _ k11=>gbx rfl rfl fun b12=>gRn (oM 1 rfl<|.nl)<|nK k11<|sK fun _ k13=>gRn (oV (r_build (cs:= [(.slice none 0 0),(.slice none 0 0),(.slice none 0 0),(.slice none 0 0),(.slice none 0 0), .bool false]) rfl rfl (by kernel_rfl)) rfl<|.nl)<|gbx rfl rfl fun b14=>gRn (oM 1 rfl<|.nl)<|nK k13<|gK fun _ k15=>sG (oM 1 rfl<|.nl)<|gB<|fun a19 w19 h19=> ?_;clear h10
 have h18:=h19.nil (α:=Int) 3
 clear h19
 refine x_loop (fun m a w=>∃(i:Nat) (hl:List Int) (vh:Value),(i≤4096)∧(hl=List.replicate i (-1))∧(hl.length=i)∧St 124 (fun _=>False) W a w [(1, .int .i64 mode),(2, .pointer (some ⟨b12,0,none⟩)),(5, .pointer (some ⟨b14,0,none⟩)),(6, .int .i64 ((i:Nat):Int))] [.blk b14 44 [(.slice none 0 0),(.slice none 0 0),vh,(.slice none 0 0),(.slice none 0 0), .bool false], .blk b12 25 [code.v,words.v, .int .i64 ((Lk:Nat):Int), .int .i64 ((R:Nat):Int)], .at_ code, .at_ words, .own 3 (⟨vh,hl⟩:Ls Int)]∧m=4096-i) ⟨_,0, [],(.slice none 0 0),(by omega),(rfl),(rfl),h18.nrm ⟨rfl,rfl,rfl,rfl,trivial⟩ [1,2,3,4,0] rfl,rfl⟩ ?_
 clear h18
 rintro m17 a17 w17 ⟨i,hl,vh,hi,hhl,hhn,h17,hm17⟩
 refine gG h17<|gK fun _ k20=>sG (oM 1 rfl<|oltN _ 4096 rfl<|.nl)<|?_;clear h17
 refine gcd rfl (fun hb22 hp22=> ?_) fun hb22 hp22=> ?_
 ·skip
  refine gS<|hK k20<|gK fun _ k23=>gB<|gL<|gRn (oM 2 rfl<|onfl 0 fl_44_2 ti_23 rfl rfl<|.nl)<|gE1 (fun _ _ h_=>x_lit (n:=1) (cs:= [.int .i64 (-1)]) ([(-1)]:List Int) h_ sl_23 ti_3 rfl rfl rfl (by decide) rfl (by kernel_rfl) rfl (fun q hq w h=>Flat.inner _ _) (fun q hq b hb=>(Flat.on _ _ hb).elim) rfl rfl) rfl fun v24=>gE1 (fun _ _ h_=>x_app (r:=5) (rm:=0) (s:=(⟨vh,hl⟩:Ls Int)) (m:=(⟨v24, [(-1)]⟩:Ls Int)) h_ sl_23 ti_3 rfl rfl rfl rfl rfl rfl rfl (fun w h=>(h.own 0 rfl)) (fun b hb=>own_on (h_.sh.ok _ (List.mem_of_getElem? (i:=0) rfl)) hb) (fun q hq b hb=>⟨q,hq,hb⟩) rfl rfl rfl inferInstance (show (hl.length+([(-1)]).length)*8≤140737488355328∧hl.length+([(-1)]).length≤140737488355328 from om9) rfl rfl) rfl fun v25=>gRn (onf fl_44_2 rfl<|.nl)<|gsr 1 ti_23 rfl (aO 5 rfl) rfl<|nK k23<|gL<|gRn (oM 1 rfl<|oadN _ 1 om9 rfl<|oM 1 rfl<|.nl)<|nN<|fun a27 w27 h27=>x_again ⟨_, ?_,i+1,hl++([(-1)]),v25, ?_, ?_, ?_,h27.nrm ⟨rfl,rfl,rfl,rfl,trivial⟩ [1,2,3,4,5] rfl,rfl⟩
  · rw [hm17];first|omega|(simp only [lens9];omega)
  · omega
  · rw [hhl,List.replicate_succ']
  · simp [hhn]
 refine gX<|hK k15<|?_
 have hi9:i=4096:=by omega
 refine sK fun _ k28=>gRn (olw 1 ti_25 rfl rfl<|oM 1 rfl<|.nl)<|fun a30 w30 h30=>wl_ex (x_call h30 bd_44 rfl rfl rfl rfl rfl (begin_c code words Lk R mode _ (h30.sh.at 2 rfl) (h30.sh.at 3 rfl) hcl hlk hR hwn)) (wanted_none rfl _) ?_
 rintro a31 w31 ⟨_,⟨g31,rows31,vt31,w31w,o31w,p31w,rfl,hrw31,hw31,ho31,hp31,hs31⟩,hf31⟩
 have hyb:=hrw31;have hyw:=hw31;have hyo:=ho31;have hyp:=hp31
 have h31:=(⟨hf31,h30.sh.call hs31 (by intro A hA b hb;simp only [List.mem_cons,List.not_mem_nil,or_false] at hA;rcases hA with rfl|rfl|rfl|rfl|rfl|rfl<;>first|exact (hb:False).elim|exact Flat.noRd hb|exact bigNoRd hb)⟩:St 124 (fun _=>False) W a31 w31 _ _)
 clear hf31 hs31
 clear h30
 refine gG h31<|gRn (oM 1 rfl<|.nl)<|nK k28<|sK fun _ k32=>gRn (oM 2 rfl<|.nl)<|fun a34 w34 h34=> ?_;clear h31
 have h33:=h34.nil (α:=SD) 92
 clear h34
 have h35:=h33.nilDeep (α:=Ls Int) 23
 clear h33
 have h36:=h35.nil (α:=Int) 3
 clear h35
 have h37:=h36.nil (α:=OutL) 49
 clear h36
 have h38:=h37.sel (L' := [_,_,_,_,_,_,_,_,_,_,_,_,_,_,_]) [4,5,6,7,8,9,0,1,2,3,10,11,12,13,14] rfl
 obtain ⟨x39,hx39⟩:∃x,x=(⟨g31,100, [code.v,words.v, .int .i64 ((Lk:Nat):Int), .int .i64 ((R:Nat):Int), .int .i64 mode],⟨vt31,rows31⟩,w31w,o31w,p31w,false⟩:SD):=⟨_,rfl⟩
 have hfz39:=(Sh.freeze (hd:= [code.v,words.v, .int .i64 ((Lk:Nat):Int), .int .i64 ((R:Nat):Int), .int .i64 mode]) (rows:=rows31) (words:=w31w) (owner:=o31w) (prints:=p31w) (vt:=vt31) h38.sh)
 rw [←hx39] at hfz39
 have hz39:St 124 (fun _=>False) W a34 w34 _ [.rd1 x39, .own 49 (⟨.slice none 0 0, []⟩:Ls OutL), .own 3 (⟨.slice none 0 0, []⟩:Ls Int), .deep 23 (⟨.slice none 0 0, []⟩:Ls (Ls Int)), .own 92 (⟨.slice none 0 0, []⟩:Ls SD), .blk b14 44 [(.slice none 0 0),(.slice none 0 0),vh,(.slice none 0 0),(.slice none 0 0), .bool false], .blk b12 25 [code.v,words.v, .int .i64 ((Lk:Nat):Int), .int .i64 ((R:Nat):Int)], .at_ code, .at_ words, .own 3 (⟨vh,hl⟩:Ls Int)]:=⟨h38.fr,hfz39.1⟩
 clear h38
 have hg39:g31=x39.g:=by rw [hx39]
 have hst39:x39.st=begin_ (pgN code words Lk R):=by rw [hx39];unfold SD.st begin_;simp only [hyb,hyw,hyo,hyp];simp [pgN,pgOf,Function.comp_def,List.map_const']
 have hwf39:WfX code words Lk R x39:=by have h9:=Wf.begin_ hok;rw [←hst39] at h9;exact h9.toX
 have hpl39:x39.prints.l.length=0:=by rw [hx39];simp only [hyp];rfl
 have hdy39:x39.hd= [code.v,words.v, .int .i64 ((Lk:Nat):Int), .int .i64 ((R:Nat):Int), .int .i64 mode]∧x39.E=100∧x39.fell=false∧∀b,Enc.on x39 b→W.heap.size≤b:=⟨by rw [hx39],by rw [hx39],by rw [hx39],fun b hb=>(hfz39.2 b hb).elim (fun h=>h.elim) id⟩
 have h40:=hz39.sel (L' := [_,_,_,_,_,_,_,_,_,_]) [5,4,3,9,2,0,1,6,7,8] rfl
 have hp41:=h40.sh.passL (Lp:= [_,_,_,_,_,_])
 refine wl_ex (x_call h40 bd_45 rfl rfl rfl rfl rfl (by have h9:=put_c _ b14 x39 (⟨.slice none 0 0, []⟩:Ls SD) (⟨.slice none 0 0, []⟩:Ls (Ls Int)) (⟨vh,hl⟩:Ls Int) (⟨.slice none 0 0, []⟩:Ls Int) (.slice none 0 0) false _ _ _ _ _ _ hp41 (by rw [hhl,hi9];exact headsOK0) rfl (by simp) hdy39.1 hdy39.2.1 (by rw [hwf39.thl];exact hcl) (fun i hi=>by have h9:=hwf39.regs i hi;omega) hwf39.wait (by have h9:=hwf39.words;have h8:=hwf39.owner;have h7:=hpl39;omega);rw [←hg39] at h9;exact h9)) (wanted_none rfl _) ?_
 rintro a42 w42 ⟨_,⟨rfl,st42,ke42,he42,be42,fu42,hkr42,hs42⟩,hf42⟩
 have h42:St 124 (fun _=>False) W a42 w42 _ [_,_,_,_,_,_,_,_,_,_]:=⟨hf42,h40.sh.backL (Lp:= [_,_,_,_,_,_]) hs42 (by intro A hA b hb;simp only [List.mem_cons,List.not_mem_nil,or_false] at hA;rcases hA with rfl|rfl|rfl|rfl|rfl|rfl<;>first|exact (hb:False).elim|exact Flat.noRd hb|exact .inl ⟨_,List.mem_cons_self .., .inr hb⟩|exact (hkr42.rd hb).elim (fun h=> .inl ⟨_,List.mem_of_getElem? (i:=1) rfl, .inr h⟩) (fun h=> .inl ⟨_,List.mem_of_getElem? (i:=5) rfl, .inr h⟩)|exact .inl ⟨_,by simp, .inr hb⟩)⟩
 clear hf42 hs42
 clear h40
 refine gG h42<|nK k32<|?_;clear h42
 obtain ⟨hc1,hc2,hc3⟩:st42.l= [x39]∧ke42.l.map (·.l)= [keyOf x39.st]∧fu42=(false||decide (4000<0+1)):=by rcases hkr42 with ⟨⟨j,hj,_⟩,_⟩|⟨_,e1,e2,_,e3⟩;exact absurd hj (by simp);exact ⟨e1,e2,e3⟩
 have hinv0:Inv (pgN code words Lk R) mode (st42.l.map SD.st) (([]:List OutL).map OutL.out) fu42 0:=by rw [hc1,hc3];exact Inv.first _ hst39
 have hkey0:ke42.l.map (·.l)=(st42.l.map SD.st).map keyOf:=by rw [hc2,hc1];rfl
 have hhok0:=keyRel_ok hkr42
 have hlen0:st42.l.length=ke42.l.length:=by have h9:=congrArg List.length hc2;simp at h9;rw [hc1];simp [h9]
 have hsd0:SData W 100 [code.v,words.v, .int .i64 ((Lk:Nat):Int), .int .i64 ((R:Nat):Int), .int .i64 mode] st42.l ([]:List OutL):=⟨fun y hy=>(by rw [hc1] at hy;obtain rfl:y=x39:=(by simpa using hy);exact hdy39),fun o ho=>(by cases ho)⟩
 have hel0:([]:List OutL).length≤16*0:=by simp
 refine gK fun _ k43=>sG (oM 1 rfl<|.nl)<|gB<|fun a46 w46 h46=>x_loop (fun m a w=>∃(i:Nat) (full:Bool) (states:Ls SD) (keys:Ls (Ls Int)) (heads before:Ls Int) (ends:Ls OutL),(i≤states.l.length)∧(Inv (pgN code words Lk R) mode (states.l.map SD.st) (ends.l.map OutL.out) full i)∧(keys.l.map (·.l)=(states.l.map SD.st).map keyOf)∧(HeadsOK (keys.l.map (·.l)) heads.l before.l)∧(states.l.length=keys.l.length)∧(SData W 100 [code.v,words.v, .int .i64 ((Lk:Nat):Int), .int .i64 ((R:Nat):Int), .int .i64 mode] states.l ends.l)∧(ends.l.length≤16*i)∧St 124 (fun _=>False) W a w [(5, .pointer (some ⟨b14,0,none⟩)),(8, .int .i64 ((i:Nat):Int))] [.blk b14 44 [states.v,keys.v,heads.v,before.v,ends.v, .bool full], .own 92 states, .deep 23 keys, .own 3 heads, .own 3 before, .rd1 x39, .own 49 ends, .blk b12 25 [code.v,words.v, .int .i64 ((Lk:Nat):Int), .int .i64 ((R:Nat):Int)], .at_ code, .at_ words]∧m=4002-i) ⟨_,0,fu42,st42,ke42,he42,be42,(⟨.slice none 0 0, []⟩:Ls OutL),(by omega),(hinv0),(hkey0),(hhok0),(hlen0),(hsd0),(hel0),h46.nf ⟨rfl,rfl,trivial⟩,rfl⟩ ?_
 clear h46
 rintro m45 a45 w45 ⟨i,full,states,keys,heads,before,ends,hi,hinv,hkey,hhok,hlen,hsd,hel,h45,hm45⟩
 refine gG h45<|gK fun _ k47=>sK fun _ k48=>gNl (aO 1 rfl) fun hl49=>gRn (oM 2 rfl<|onfl 0 fl_44_0 ti_41 rfl rfl<|oln sl_41 (aO 1 rfl) rfl<|oltN _ _ rfl<|oM 1 rfl<|.nl)<|?_;clear h45
 rcases dsp (i<states.l.length) with ⟨hb50,hp50⟩|⟨hb50,hp50⟩
 ·skip
  refine gRn (oG hb50 (r_move rfl rfl) rfl<|oG hb50 (r_nil rfl rfl) rfl<|oG hb50 (r_fieldB (r:=5) fl_44_5 rfl rfl rfl) rfl<|oG hb50 (r_ldb (i:=0) ti_4 rfl rfl rfl rfl) rfl<|oG hb50 (r_not rfl rfl) rfl<|opT hb50 rfl<|.nl)<|nK k48<|gCb rfl (fun hb51=> ?_) fun hb51=> ?_
  ·have hn51:full=false:=(Bool.not_eq_true' _).mp hb51
   refine gS<|hK k47<|gK fun _ k52=>gB<|sG (oM 1 rfl<|onfl 0 fl_44_0 ti_41 rfl rfl<|oM 1 rfl<|oxN sl_41 ti_92 (aO 1 rfl) _ om9 rfl<|olE (.pointer (some ⟨(nth states.l i).g,0,none⟩)) ti_92 (aO 1 rfl) om9 rfl<|oM 1 rfl<|.nl)<|fun a55 w55 h55=> ?_
   obtain ⟨x,hxx⟩:∃x,x=nth states.l i:=⟨_,rfl⟩
   rw [←hxx] at h55
   have hil:i<states.l.length:=by omega
   have hxm:x∈states.l:=by rw [hxx];exact nth_mem _ _ hil
   have hxs:x.st∈states.l.map SD.st:=List.mem_map.2 ⟨x,hxm,rfl⟩
   have hxi:nth (states.l.map SD.st) i=x.st:=by rw [st_mapAt hil,←hxx]
   have hws:=(hinv.reach _ hxs).wf hok
   have hwx:=hws.toX
   obtain ⟨hd1,hd2,hd3,hd4⟩:=hsd.hd x hxm
   have hin54:=(h55.sh.own 1 rfl).inner i (by omega)
   rw [←hxx] at hin54
   obtain ⟨hn1,hn2,hn3,hn4,hn5⟩:=(show Enc.inner x _ from hin54)
   rw [hd2,SD.cells,hd1,hd3] at hn1
   have hprx:x.prints.l.length≤2*i:=by have h9:=hinv.pr i (by simpa using hil);rw [hxi] at h9;exact h9
   have hnl:states.l.length≤4001:=by have h9:=hinv.len;simpa using h9
   have hxl:x.words.l.length≤100000∧x.owner.l.length≤100000∧x.prints.l.length≤100000000:=by have h9:=hwx.words;have h8:=hwx.owner;omega
   have h56:=h55.addRd (A:= .rblk x.g 100 [code.v,words.v, .int .i64 ((Lk:Nat):Int), .int .i64 ((R:Nat):Int), .int .i64 mode,x.thr.v,x.words.v,x.owner.v,x.prints.v, .bool false]) hn1 (fun b hb=>hb) (fun b hb=>⟨.own 92 states,List.mem_of_getElem? (i:=1) rfl,i,hil,by rw [←hxx];exact .inl hb⟩)
   clear h55
   have h57:=h56.addRd (A:= .at_ x.thr) hn2 (fun b hb=>hb) (fun b hb=>⟨.own 92 states,List.mem_of_getElem? (i:=2) rfl,i,hil,by rw [←hxx];exact .inr (.inl hb)⟩)
   clear h56
   have h58:=h57.addRd (A:= .at_ x.words) hn3 (fun b hb=>hb) (fun b hb=>⟨.own 92 states,List.mem_of_getElem? (i:=3) rfl,i,hil,by rw [←hxx];exact .inr (.inr (.inl hb))⟩)
   clear h57
   have h59:=h58.addRd (A:= .at_ x.owner) hn4 (fun b hb=>hb) (fun b hb=>⟨.own 92 states,List.mem_of_getElem? (i:=4) rfl,i,hil,by rw [←hxx];exact .inr (.inr (.inr (.inl hb)))⟩)
   clear h58
   have h60:=h59.addRd (A:= .at_ x.prints) hn5 (fun b hb=>hb) (fun b hb=>⟨.own 92 states,List.mem_of_getElem? (i:=5) rfl,i,hil,by rw [←hxx];exact .inr (.inr (.inr (.inr hb)))⟩)
   clear h59
   skip
   refine gG h60<|sK fun _ k61=>gRn (oM 1 rfl<|.nl)<|gP (fun _ _ h_=>xCl h_ bd_46 rfl (ended_c x.g code x.thr _ _ _ _ _ _ _ _ _ (h_.sh.rblk 4 rfl) (h_.sh.at 13 rfl) (h_.sh.at 3 rfl) hcl hwx.thl (fun t ht=>(hwx.pc t ht).1))) rfl<|gRn (oM 1 rfl<|.nl)<|nK k61<|gF [5,8,9,10] rfl<|sK fun _ k63=>gRn (oM 1 rfl<|.nl)<|fun a65 w65 h65=>wl_ex (x_call h65 bd_47 rfl rfl rfl rfl rfl (moves_c x.g code x.thr x.owner _ _ _ _ _ _ _ _ (h65.sh.rblk 4 rfl) (h65.sh.at 13 rfl) (h65.sh.at 3 rfl) (h65.sh.at 1 rfl) hcl hwx.thl (fun t ht=>(hwx.pc t ht).1) (fun t ht i hi h17=>by have h9:=lock_N hok ht hi h17;rw [hwx.owner];exact h9) (fun t ht=>hwx.wait t (by rw [hwx.thl];exact ht)))) (wanted_none rfl _) ?_;clear h60
   rintro a66 w66 ⟨_,⟨ml66,rfl,hml66,hs66⟩,hf66⟩
   rw [moves_eq (Lk:=Lk) (R:=R) (words:=words) hwx.thl] at hml66
   have hmv:=hml66
   have hmvl:ml66.l.length≤16:=by rw [hmv];exact moves_len hwx.thl hcl hwx.wait
   have h66:St _ (fun _=>False) W a66 w66 _ _:=⟨hf66,h65.sh.callI hs66⟩
   clear hf66 hs66
   clear h65
   refine gG h66<|gRn (oM 1 rfl<|.nl)<|nK k63<|gK fun _ k67=>sG (oM 1 rfl<|.nl)<|?_;clear h66
   refine gCb rfl (fun hb69=> ?_) fun hb69=> ?_
   ·skip
    refine gK fun _ k70=>rT 10 [] (oM 2 rfl<|onf fl_100_3 rfl<|olR 5 ti_23 rfl rfl<|oM 1 rfl<|onf fl_100_5 rfl<|olR 5 ti_23 rfl rfl<|oV (r_buildS (cs:= [.int .i64 0,x.words.v,x.prints.v]) rfl rfl (fun w h=>by obtain ⟨A72,n72,c72,(e72:x.prints.v=_)⟩:=((h.at 1 rfl)).form;rw [e72];obtain ⟨A71,n71,c71,(e71:x.words.v=_)⟩:=((h.at 3 rfl)).form;rw [e71];kernel_rfl)) rfl<|.nl)<|gO [6,12,3,1,0,2,4,5,7,8,9,10,11,13,14,15] rfl<|fun a78 w78 h78=> ?_
    have hp77:=h78.sh.passL (Lp:= [_,_,_,_])
    refine wl_ex (x_call h78 bd_48 rfl rfl rfl rfl rfl (putO_c _ _ (⟨0,x.words,x.prints⟩:OutL) ends _ _ _ _ _ _ hp77 (by omega))) (wanted_none rfl _) ?_
    rintro a79 w79 ⟨_,⟨rfl,en79,hpr79,hs79⟩,hf79⟩
    have h79:St 124 (fun _=>False) W a79 w79 _ [_,_,_,_,_,_,_,_,_,_,_,_,_,_,_,_]:=⟨hf79,h78.sh.backL (Lp:= [_,_,_,_]) hs79 (by intro A hA b hb;simp only [List.mem_cons,List.not_mem_nil,or_false] at hA;rcases hA with rfl|rfl|rfl|rfl<;>first|exact (hb:False).elim|exact Flat.noRd hb|exact .inl ⟨_,List.mem_cons_self .., .inr hb⟩|exact (hpr79.rd hb).elim (fun h=> .inl ⟨_,List.mem_of_getElem? (i:=1) rfl, .inr h⟩) (fun h=>h.elim (fun h=> .inl ⟨_,List.mem_of_getElem? (i:=2) rfl, .inr h⟩) (fun h=> .inl ⟨_,List.mem_of_getElem? (i:=3) rfl, .inr h⟩))|exact .inl ⟨_,by simp, .inr hb⟩)⟩
    clear hf79 hs79
    clear h78
    refine gG h79<|nK k70<|gX<|hK k52<|gL<|gRn (oM 1 rfl<|oadN _ 1 om9 rfl<|oM 1 rfl<|.nl)<|nN<|?_;clear h79
    have hps:=hpr79.sorted hinv.sorted
    have hinvN:=hinv.ended (by simpa using hil) (by rw [hxi,←ended_eq hwx.thl];assumption) hps.1 (by intro y;rw [hps.2 y,hxi];rfl)
    obtain ⟨hsdN,hle9⟩:=hsd.put hpr79 (fun b hb=>hd4 b (hb.elim (fun hb=> .inr (.inr (.inl hb))) (fun hb=> .inr (.inr (.inr (.inr hb))))))
    have helN:en79.l.length≤16*(i+1):=by omega
    have hiN:i+1≤states.l.length:=by omega
    intro a80 w80 h80
    refine x_again ⟨_, ?_,(i+1),full,states,keys,heads,before,en79, ?_, ?_, ?_, ?_, ?_, ?_, ?_,h80.nrm ⟨rfl,rfl,trivial⟩ [0,8,9,10,11,12,1,13,14,15] rfl,rfl⟩
    · rw [hm45];omega
    · first|exact hiN|omega
    · first|exact hinvN|exact hinv
    · first|exact hkeyN|exact hkey
    · first|exact hhokN|exact hhok
    · first|exact hlenN|exact hlen
    · first|exact hsdN|exact hsd
    · first|exact helN|omega
   refine gS<|hK k67<|gK fun _ k81=>sK fun _ k82=>gNl (aO 0 rfl) fun hl83=>gRn (oM 1 rfl<|oln sl_23 (aO 0 rfl) rfl<|oeqN _ 0 rfl<|.nl)<|nK k82<|gcd rfl (fun hb84 hp84=> ?_) fun hb84 hp84=> ?_
   ·skip
    refine gK fun _ k85=>rT 10 [] (oM 2 rfl<|onf fl_100_3 rfl<|olR 5 ti_23 rfl rfl<|oM 1 rfl<|onf fl_100_5 rfl<|olR 5 ti_23 rfl rfl<|oV (r_buildS (cs:= [.int .i64 2,x.words.v,x.prints.v]) rfl rfl (fun w h=>by obtain ⟨A87,n87,c87,(e87:x.prints.v=_)⟩:=((h.at 1 rfl)).form;rw [e87];obtain ⟨A86,n86,c86,(e86:x.words.v=_)⟩:=((h.at 3 rfl)).form;rw [e86];kernel_rfl)) rfl<|.nl)<|gO [6,12,3,1,0,2,4,5,7,8,9,10,11,13,14,15] rfl<|fun a93 w93 h93=> ?_
    have hp92:=h93.sh.passL (Lp:= [_,_,_,_])
    refine wl_ex (x_call h93 bd_48 rfl rfl rfl rfl rfl (putO_c _ _ (⟨2,x.words,x.prints⟩:OutL) ends _ _ _ _ _ _ hp92 (by omega))) (wanted_none rfl _) ?_
    rintro a94 w94 ⟨_,⟨rfl,en94,hpr94,hs94⟩,hf94⟩
    have h94:St 124 (fun _=>False) W a94 w94 _ [_,_,_,_,_,_,_,_,_,_,_,_,_,_,_,_]:=⟨hf94,h93.sh.backL (Lp:= [_,_,_,_]) hs94 (by intro A hA b hb;simp only [List.mem_cons,List.not_mem_nil,or_false] at hA;rcases hA with rfl|rfl|rfl|rfl<;>first|exact (hb:False).elim|exact Flat.noRd hb|exact .inl ⟨_,List.mem_cons_self .., .inr hb⟩|exact (hpr94.rd hb).elim (fun h=> .inl ⟨_,List.mem_of_getElem? (i:=1) rfl, .inr h⟩) (fun h=>h.elim (fun h=> .inl ⟨_,List.mem_of_getElem? (i:=2) rfl, .inr h⟩) (fun h=> .inl ⟨_,List.mem_of_getElem? (i:=3) rfl, .inr h⟩))|exact .inl ⟨_,by simp, .inr hb⟩)⟩
    clear hf94 hs94
    clear h93
    refine gG h94<|nK k85<|gX<|hK k52<|gL<|gRn (oM 1 rfl<|oadN _ 1 om9 rfl<|oM 1 rfl<|.nl)<|nN<|?_;clear h94
    have hps:=hpr94.sorted hinv.sorted
    have hinvN:=hinv.stuck (by simpa using hil) (by rw [hxi,←ended_eq hwx.thl];assumption) (by rw [hxi,←hmv];exact List.eq_nil_of_length_eq_zero (by omega)) hps.1 (by intro y;rw [hps.2 y,hxi];rfl)
    obtain ⟨hsdN,hle9⟩:=hsd.put hpr94 (fun b hb=>hd4 b (hb.elim (fun hb=> .inr (.inr (.inl hb))) (fun hb=> .inr (.inr (.inr (.inr hb))))))
    have helN:en94.l.length≤16*(i+1):=by omega
    have hiN:i+1≤states.l.length:=by omega
    intro a95 w95 h95
    refine x_again ⟨_, ?_,(i+1),full,states,keys,heads,before,en94, ?_, ?_, ?_, ?_, ?_, ?_, ?_,h95.nrm ⟨rfl,rfl,trivial⟩ [0,8,9,10,11,12,1,13,14,15] rfl,rfl⟩
    · rw [hm45];omega
    · first|exact hiN|omega
    · first|exact hinvN|exact hinv
    · first|exact hkeyN|exact hkey
    · first|exact hhokN|exact hhok
    · first|exact hlenN|exact hlen
    · first|exact hsdN|exact hsd
    · first|exact helN|omega
   refine gS<|hK k81<|sG (oM 1 rfl<|.nl)<|gB<|?_
   have hmv0:ml66.l.length≠0:=by omega
   intro a98 w98 h98
   refine x_loop (fun m a w=>∃(k:Nat) (full2:Bool) (states2:Ls SD) (keys2:Ls (Ls Int)) (heads2 before2:Ls Int) (ends2:Ls OutL),(k≤ml66.l.length)∧(Inv (pgN code words Lk R) mode (states2.l.map SD.st) (ends2.l.map OutL.out) full2 i)∧(keys2.l.map (·.l)=(states2.l.map SD.st).map keyOf)∧(HeadsOK (keys2.l.map (·.l)) heads2.l before2.l)∧(states2.l.length=keys2.l.length)∧(SData W 100 [code.v,words.v, .int .i64 ((Lk:Nat):Int), .int .i64 ((R:Nat):Int), .int .i64 mode] states2.l ends2.l)∧(ends2.l.length≤16*i+k)∧(states.l.length≤states2.l.length)∧(nth (states2.l.map SD.st) i=x.st)∧(x∈states2.l)∧(full2=false→∀q,q<k→HandM (pgN code words Lk R) mode (states2.l.map SD.st) (ends2.l.map OutL.out) x.st (nth ml66.l q))∧St 124 (fun _=>False) W a w [(5, .pointer (some ⟨b14,0,none⟩)),(8, .int .i64 ((i:Nat):Int)),(9, .pointer (some ⟨x.g,0,none⟩)),(11,ml66.v),(12, .int .i64 ((k:Nat):Int))] [.own 3 ml66, .at_ x.prints, .at_ x.owner, .at_ x.words, .at_ x.thr, .rblk x.g 100 [code.v,words.v, .int .i64 ((Lk:Nat):Int), .int .i64 ((R:Nat):Int), .int .i64 mode,x.thr.v,x.words.v,x.owner.v,x.prints.v, .bool false], .blk b14 44 [states2.v,keys2.v,heads2.v,before2.v,ends2.v, .bool full2], .own 92 states2, .deep 23 keys2, .own 3 heads2, .own 3 before2, .rd1 x39, .own 49 ends2, .blk b12 25 [code.v,words.v, .int .i64 ((Lk:Nat):Int), .int .i64 ((R:Nat):Int)], .at_ code, .at_ words]∧m=ml66.l.length-k) ⟨_,0,full,states,keys,heads,before,ends,(by omega),(hinv),(hkey),(hhok),(hlen),(hsd),(by omega),(Nat.le_refl _),(hxi),(hxm),(fun _ q hq=>absurd hq (by omega)),h98.nf ⟨rfl,rfl,rfl,rfl,rfl,trivial⟩,rfl⟩ ?_
   clear h98
   rintro m97 a97 w97 ⟨k,full2,states2,keys2,heads2,before2,ends2,hk,hinv2,hkey2,hhok2,hlen2,hsd2,hel2,hle2,hx2,hrd2,hhand,h97,hm97⟩
   refine gG h97<|gK fun _ k99=>sK fun _ k100=>gRn (oM 2 rfl<|oln sl_23 (aO 0 rfl) rfl<|oltN _ _ rfl<|oM 1 rfl<|.nl)<|?_;clear h97
   rcases dsp (k<ml66.l.length) with ⟨hb101,hp101⟩|⟨hb101,hp101⟩
   ·skip
    refine gRn (oG hb101 (r_move rfl rfl) rfl<|oG hb101 (r_nil rfl rfl) rfl<|oG hb101 (r_fieldB (r:=5) fl_44_5 rfl rfl rfl) rfl<|oG hb101 (r_ldb (i:=6) ti_4 rfl rfl rfl rfl) rfl<|oG hb101 (r_not rfl rfl) rfl<|opT hb101 rfl<|.nl)<|nK k100<|gCb rfl (fun hb102=> ?_) fun hb102=> ?_
    ·have hn102:full2=false:=(Bool.not_eq_true' _).mp hb102
     refine gS<|hK k99<|gK fun _ k103=>gB<|sK fun _ k104=>gRn (oM 1 rfl<|.nl)<|fun a106 w106 h106=>wl_ex (x_call h106 bd_49 rfl rfl rfl rfl rfl (copy_c x.g x.thr x.words x.owner x.prints _ _ _ _ _ _ _ (h106.sh.rblk 5 rfl) (h106.sh.at 4 rfl) (h106.sh.at 3 rfl) (h106.sh.at 2 rfl) (h106.sh.at 1 rfl) (by rw [hwx.thl];exact hcl) (fun i hi=>by have h9:=hwx.regs i hi;omega) hwx.wait hxl)) (wanted_none rfl _) ?_
     rintro a107 w107 ⟨_,⟨g107,rows107,vt107,w107w,o107w,p107w,rfl,hrw107,hw107,ho107,hp107,hs107⟩,hf107⟩
     have h107:=(⟨hf107,h106.sh.call hs107 (by intro A hA b hb;simp only [List.mem_cons,List.not_mem_nil,or_false] at hA;rcases hA with rfl|rfl|rfl|rfl|rfl|rfl<;>first|exact (hb:False).elim|exact Flat.noRd hb|exact bigNoRd hb)⟩:St 124 (fun _=>False) W a107 w107 _ _)
     clear hf107 hs107
     clear h106
     refine gG h107<|gRn (oM 1 rfl<|.nl)<|nK k104<|sK fun _ k108=>gRn (oM 3 rfl<|oxN sl_23 ti_3 (aO 6 rfl) _ om9 rfl<|olI ti_3 (aO 6 rfl) om9 rfl<|.nl)<|?_;clear h107
     obtain ⟨t,kk,htt,hkk,hmt⟩:=mem_moves.1 (by rw [←hmv];exact nth_mem ml66.l k (by omega))
     rw [pgN_len] at htt
     have hk3:kk≤3:=mvOK_le hkk ((hws.th t (by rw [pgN_len];exact htt)).wait)
     obtain ⟨hrl,hra⟩:=rows_at hrw107
     obtain ⟨hr1,hr2,hr3⟩:=hra t (by rw [hwx.thl];exact htt)
     have hpcx:=hwx.pc t htt
     have h400:(nth code.l t).l.length≤400:=by have h9:=hok.len t (by rw [pgN_len];exact htt);rwa [pgN_code htt] at h9
     have hkw:kk≤(nth rows107 t).wait.l.length∧(kk=0→(nth x.thr.l t).pc<(nth code.l t).l.length):=by rw [hr3];rw [pgN_code htt,st_view (by rw [hwx.thl];exact htt)] at hkk;rcases mvOK_k hkk with ⟨e9,h9,_⟩|⟨h9,h8,_⟩;exact ⟨by omega,fun _=>h9⟩;exact ⟨h8,fun e=>by omega⟩
     intro a110 w110 h110
     have h109:=h110.same (d:=107) (v' := .int .i64 ((8*t+kk:Nat):Int)) rfl (by rw [hmt])
     clear h110
     have h111:=h109.sel (L' := [_,_,_,_,_,_,_,_,_,_,_,_,_,_,_,_,_,_,_,_,_,_]) [0,1,2,3,4,5,20,6,7,8,9,10,11,12,13,14,15,16,17,18,19,21] rfl
     have hp112:=h111.sh.passL (Lp:= [_,_,_,_,_,_,_])
     refine wl_ex (x_call h111 bd_50 rfl rfl rfl rfl rfl (do_tk _ g107 (8*t+kk) t kk code vt107 rows107 w107w o107w p107w _ _ _ mode false _ hp112 (by omega) (by omega) (by rw [hrl,hwx.thl];exact htt) htt (by omega) (by rw [hr1];omega) (by rw [hr3];exact hwx.wait t (by rw [hwx.thl];exact htt)) hkw.1 (by rw [hp107];exact hxl.2.2) (by rw [ho107];have h9:=hwx.owner;omega) (by rw [hr3,ho107,hw107];exact hwx.wt t (by rw [hwx.thl];exact htt)) (fun e=>by rw [hr1,hr2,hw107,ho107,hwx.regs t (by rw [hwx.thl];exact htt),hwx.words,hwx.owner];exact insR_N hok htt hpcx.1 (hkw.2 e)))) (wanted_none rfl _) ?_
     rintro a113 w113 ⟨_,⟨rfl,rows113,w113w,o113w,p113w,f113w,y113,hy113,hyr113,hyw113,hyo113,hyp113,hyf113,hs113⟩,hf113⟩
     change Sh _ _ _ [.blk g107 100 [code.v,words.v, .int .i64 ((Lk:Nat):Int), .int .i64 ((R:Nat):Int), .int .i64 mode,vt107,w113w.v,o113w.v,p113w.v, .bool f113w], .own 136 (⟨vt107,rows113.map ThL.toV⟩:Ls ThV), .big (rowsA 3 144 rows113), .own 3 w113w, .own 3 o113w, .own 3 p113w, .at_ code] at hs113
     have h113:St 124 (fun _=>False) W a113 w113 _ [_,_,_,_,_,_,_,_,_,_,_,_,_,_,_,_,_,_,_,_,_,_]:=⟨hf113,h111.sh.backL (Lp:= [_,_,_,_,_,_,_]) hs113 (by intro A hA b hb;simp only [List.mem_cons,List.not_mem_nil,or_false] at hA;rcases hA with rfl|rfl|rfl|rfl|rfl|rfl|rfl<;>first|exact (hb:False).elim|exact Flat.noRd hb|exact .inl ⟨_,List.mem_cons_self .., .inr hb⟩|exact bigNoRd hb|exact .inl ⟨_,List.mem_of_getElem? (i:=6) rfl, .inr hb⟩|exact .inl ⟨_,by simp, .inr hb⟩)⟩
     clear hf113 hs113
     clear h111
     refine gG h113<|nK k108<|sG (oM 1 rfl<|onfl 0 fl_100_6 ti_4 rfl rfl<|.nl)<|?_;clear h113
     refine gCb rfl (fun hb115=> ?_) fun hb115=> ?_
     ·skip
      obtain ⟨hya,_⟩:=st_step (x:=x) (z:=x) (rows' :=rows113) htt hwx.thl hrw107 hw107 ho107 hp107 hy113
      have hfy:(stepT (pgN code words Lk R) mode x.st t kk).fell=true:=by rw [←hya,←hyf113];assumption
      have hyps:p113w.l=(stepT (pgN code words Lk R) mode x.st t kk).prints:=by rw [hyp113,hya]
      refine gL<|gRn (oM 2 rfl<|onfl 0 fl_100_5 ti_23 rfl rfl<|oV (r_buildS (cs:= [.int .i64 1,(.slice none 0 0),p113w.v]) rfl rfl (fun w h=>by obtain ⟨A116,n116,c116,(e116:p113w.v=_)⟩:=((h.own 5 rfl)).form;rw [e116];kernel_rfl)) rfl<|.nl)<|fun a118 w118 h118=> ?_
      have h117:=h118.addRd (A:= .at_ (⟨.slice none 0 0, []⟩:Ls Int)) (LsNil _) (fun b hb=>hb) (fun b hb=>(nilOn hb).elim)
      clear h118
      have hnw119:=h117.sh.own_new 6 rfl
      have h119:St 124 (fun _=>False) W a118 w118 _ _:=⟨h117.fr,h117.sh.share 6 rfl⟩
      clear h117
      have h120:=h119.sel (L' := [_,_,_,_,_,_,_,_,_,_,_,_,_,_,_,_,_,_,_,_,_,_,_]) [14,20,0,6,1,2,3,4,5,7,8,9,10,11,12,13,15,16,17,18,19,21,22] rfl
      have hp121:=h120.sh.passL (Lp:= [_,_,_,_])
      refine wl_ex (x_call h120 bd_48 rfl rfl rfl rfl rfl (putO_c _ _ (⟨1,(⟨.slice none 0 0, []⟩:Ls Int),p113w⟩:OutL) ends2 _ _ _ _ _ _ hp121 (by omega))) (wanted_none rfl _) ?_
      rintro a122 w122 ⟨_,⟨rfl,en122,hpr122,hs122⟩,hf122⟩
      have h122:St 124 (fun _=>False) W a122 w122 _ [_,_,_,_,_,_,_,_,_,_,_,_,_,_,_,_,_,_,_,_,_,_,_]:=⟨hf122,h120.sh.backL (Lp:= [_,_,_,_]) hs122 (by intro A hA b hb;simp only [List.mem_cons,List.not_mem_nil,or_false] at hA;rcases hA with rfl|rfl|rfl|rfl<;>first|exact (hb:False).elim|exact Flat.noRd hb|exact .inl ⟨_,List.mem_cons_self .., .inr hb⟩|exact (hpr122.rd hb).elim (fun h=> .inl ⟨_,List.mem_of_getElem? (i:=1) rfl, .inr h⟩) (fun h=>h.elim (fun h=> .inl ⟨_,List.mem_of_getElem? (i:=2) rfl, .inr h⟩) (fun h=> .inl ⟨_,List.mem_of_getElem? (i:=3) rfl, .inr h⟩))|exact .inl ⟨_,by simp, .inr hb⟩)⟩
      clear hf122 hs122
      clear h120
      refine gG h122<|nK k103<|gF [5,8,9,11,12] rfl<|gL<|gRn (oM 1 rfl<|oadN _ 1 om9 rfl<|oM 1 rfl<|.nl)<|nN<|?_;clear h122
      have hps:=hpr122.sorted hinv2.sorted
      have hinvM:=hinv2.addOut (.fell (hinv.reach _ hxs) (by rw [pgN_len];exact htt) hkk hfy) hps.1 (by intro y;rw [hps.2 y];simp only [OutL.out,hyps])
      obtain ⟨hsdM,hle9⟩:=hsd2.put hpr122 (fun b hb=>hb.elim (fun hb=>(nilOn hb).elim) (fun hb=>(hnw119 b hb).elim (fun h=>h.elim) id))
      have hkeyM:=hkey2;have hhokM:=hhok2;have hlenM:=hlen2;have hleM:=hle2;have hxM:=hx2;have hrdM:=hrd2
      have helM:en122.l.length≤16*i+(k+1):=by omega
      have hhandM:full2=false→∀q,q<k+1→HandM (pgN code words Lk R) mode (states2.l.map SD.st) (en122.l.map OutL.out) x.st (nth ml66.l q):=by
       intro hf q hq;rcases Nat.lt_or_ge q k with h9|h9;exact (hhand hf q h9).mono (fun _ h=>h) (fun y hy=>(hps.2 y).2 (.inl hy));obtain rfl:q=k:=(by omega);exact HandM.of hmt hk3 (by unfold Handled;rw [if_pos hfy];exact (hps.2 _).2 (.inr (by simp only [OutL.out,hyps])))
      intro a123 w123 h123
      refine x_again ⟨_, ?_,(k+1),full2,states2,keys2,heads2,before2,en122, ?_, ?_, ?_, ?_, ?_, ?_, ?_, ?_, ?_, ?_, ?_,h123.nrm ⟨rfl,rfl,rfl,rfl,rfl,trivial⟩ [10,11,12,13,14,15,0,16,17,18,19,20,1,21,9,22] rfl,rfl⟩
      · rw [hm97];first|omega|(simp only [lens9];omega)
      · omega
      · exact hinvM
      · exact hkeyM
      · exact hhokM
      · exact hlenM
      · exact hsdM
      · exact helM
      · exact hleM
      · exact hxM
      · exact hrdM
      · exact hhandM
     refine gL<|gRn (oM 2 rfl<|.nl)<|?_
     have hff124:f113w=false:=by assumption
     intro a125 w125 h125
     rw [hff124] at h125
     obtain ⟨x124,hx124⟩:∃x,x=(⟨g107,100, [code.v,words.v, .int .i64 ((Lk:Nat):Int), .int .i64 ((R:Nat):Int), .int .i64 mode],⟨vt107,rows113⟩,w113w,o113w,p113w,false⟩:SD):=⟨_,rfl⟩
     have hfz124:=(Sh.freeze (hd:= [code.v,words.v, .int .i64 ((Lk:Nat):Int), .int .i64 ((R:Nat):Int), .int .i64 mode]) (rows:=rows113) (words:=w113w) (owner:=o113w) (prints:=p113w) (vt:=vt107) h125.sh)
     rw [←hx124] at hfz124
     have hz124:St 124 (fun _=>False) W a125 w125 _ [.rd1 x124, .at_ code, .own 3 ml66, .at_ x.prints, .at_ x.owner, .at_ x.words, .at_ x.thr, .rblk x.g 100 [code.v,words.v, .int .i64 ((Lk:Nat):Int), .int .i64 ((R:Nat):Int), .int .i64 mode,x.thr.v,x.words.v,x.owner.v,x.prints.v, .bool false], .blk b14 44 [states2.v,keys2.v,heads2.v,before2.v,ends2.v, .bool full2], .own 92 states2, .deep 23 keys2, .own 3 heads2, .own 3 before2, .rd1 x39, .own 49 ends2, .blk b12 25 [code.v,words.v, .int .i64 ((Lk:Nat):Int), .int .i64 ((R:Nat):Int)], .at_ words]:=⟨h125.fr,hfz124.1⟩
     clear h125
     have hg124:g107=x124.g:=by rw [hx124]
     obtain ⟨hya,hyb⟩:=st_step (x:=x) (z:=x124) (rows' :=rows113) htt hwx.thl hrw107 hw107 ho107 hp107 hy113
     have hst124:x124.st=x.st.putT t (stepT (pgN code words Lk R) mode x.st t kk):=by rw [←hya];exact hyb (by rw [hx124]) hyr113 (by rw [hx124];exact hyw113) (by rw [hx124];exact hyo113) (by rw [hx124];exact hyp113)
     have hfy:(stepT (pgN code words Lk R) mode x.st t kk).fell=false:=by rw [←hya,←hyf113];assumption
     have hry124:Reach (pgN code words Lk R) mode x124.st:=by rw [hst124];exact .step (hinv.reach _ hxs) (by rw [pgN_len];exact htt) hkk hfy
     have hwf124:=(hry124.wf hok).toX
     have hpy124:x124.st.prints.length≤2*states2.l.length:=by rw [hst124];have h9:=doT_prints mode t (nth (pgN code words Lk R).code t) kk (x.st.view t);have h8:(x.st.view t).prints.length=x.prints.l.length:=rfl;have h7:(x.st.putT t (stepT (pgN code words Lk R) mode x.st t kk)).prints=(stepT (pgN code words Lk R) mode x.st t kk).prints:=rfl;rw [h7];unfold stepT;omega
     have hpl124:x124.prints.l.length≤100000000:=by have h9:x124.st.prints.length=x124.prints.l.length:=rfl;have h8:=hinv2.len;simp at h8;omega
     have hdy124:x124.hd= [code.v,words.v, .int .i64 ((Lk:Nat):Int), .int .i64 ((R:Nat):Int), .int .i64 mode]∧x124.E=100∧x124.fell=false∧∀b,Enc.on x124 b→W.heap.size≤b:=⟨by rw [hx124],by rw [hx124],by rw [hx124],fun b hb=>(hfz124.2 b hb).elim (fun h=>h.elim) id⟩
     have h126:=hz124.sel (L' := [_,_,_,_,_,_,_,_,_,_,_,_,_,_,_,_,_]) [8,9,10,11,12,0,1,2,3,4,5,6,7,13,14,15,16] rfl
     have hp127:=h126.sh.passL (Lp:= [_,_,_,_,_,_])
     refine wl_ex (x_call h126 bd_45 rfl rfl rfl rfl rfl (by have h9:=put_c _ b14 x124 states2 keys2 heads2 before2 ends2.v full2 _ _ _ _ _ _ hp127 hhok2 hlen2 (by have h9:=hinv2.len;simp at h9;omega) hdy124.1 hdy124.2.1 (by rw [hwf124.thl];exact hcl) (fun i hi=>by have h9:=hwf124.regs i hi;omega) hwf124.wait (by have h9:=hwf124.words;have h8:=hwf124.owner;have h7:=hpl124;omega);rw [←hg124] at h9;exact h9)) (wanted_none rfl _) ?_
     rintro a128 w128 ⟨_,⟨rfl,st128,ke128,he128,be128,fu128,hkr128,hs128⟩,hf128⟩
     have h128:St 124 (fun _=>False) W a128 w128 _ [_,_,_,_,_,_,_,_,_,_,_,_,_,_,_,_,_]:=⟨hf128,h126.sh.backL (Lp:= [_,_,_,_,_,_]) hs128 (by intro A hA b hb;simp only [List.mem_cons,List.not_mem_nil,or_false] at hA;rcases hA with rfl|rfl|rfl|rfl|rfl|rfl<;>first|exact (hb:False).elim|exact Flat.noRd hb|exact .inl ⟨_,List.mem_cons_self .., .inr hb⟩|exact (hkr128.rd hb).elim (fun h=> .inl ⟨_,List.mem_of_getElem? (i:=1) rfl, .inr h⟩) (fun h=> .inl ⟨_,List.mem_of_getElem? (i:=5) rfl, .inr h⟩)|exact .inl ⟨_,by simp, .inr hb⟩)⟩
     clear hf128 hs128
     clear h126
     refine gG h128<|nK k103<|gF [5,8,9,11,12] rfl<|gL<|gRn (oM 1 rfl<|oadN _ 1 om9 rfl<|oM 1 rfl<|.nl)<|nN<|?_;clear h128
     obtain ⟨hinvM,hkeyM,hlenM,hmemM,hsubM,hcM⟩:=key_put hok hkr128 hkey2 hlen2 hinv2 (by assumption) (by omega) hry124 hpy124
     have hhokM:=keyRel_ok hkr128
     have hsdM:SData W 100 [code.v,words.v, .int .i64 ((Lk:Nat):Int), .int .i64 ((R:Nat):Int), .int .i64 mode] st128.l ends2.l:=by rcases hcM with e9|e9<;>rw [e9];exact hsd2;exact hsd2.more hdy124
     have helM:ends2.l.length≤16*i+(k+1):=by omega
     have hleM:states.l.length≤st128.l.length:=by rcases hcM with e9|e9<;>rw [e9];exact hle2;simp;omega
     have hxM:nth (st128.l.map SD.st) i=x.st:=by rcases hcM with e9|e9<;>rw [e9];exact hx2;rw [List.map_append,nth_left _ _ _ (by simp;omega)];exact hx2
     have hrdM:x∈st128.l:=by rcases hcM with e9|e9<;>rw [e9];exact hrd2;simp [hrd2]
     have hhandM:fu128=false→∀q,q<k+1→HandM (pgN code words Lk R) mode (st128.l.map SD.st) (ends2.l.map OutL.out) x.st (nth ml66.l q):=by
      intro hf q hq;rcases Nat.lt_or_ge q k with h9|h9;exact (hhand (by assumption) q h9).mono hsubM (fun _ h=>h);obtain rfl:q=k:=(by omega);exact HandM.of hmt hk3 (by unfold Handled;rw [if_neg (by rw [hfy];decide)];rw [←hst124];exact hmemM)
     intro a129 w129 h129
     refine x_again ⟨_, ?_,(k+1),fu128,st128,ke128,he128,be128,ends2, ?_, ?_, ?_, ?_, ?_, ?_, ?_, ?_, ?_, ?_, ?_,h129.nrm ⟨rfl,rfl,rfl,rfl,rfl,trivial⟩ [7,8,9,10,11,12,0,1,2,3,4,13,14,15,6,16] rfl,rfl⟩
     · rw [hm97];first|omega|(simp only [lens9];omega)
     · omega
     · exact hinvM
     · exact hkeyM
     · exact hhokM
     · exact hlenM
     · exact hsdM
     · exact helM
     · exact hleM
     · exact hxM
     · exact hrdM
     · exact hhandM
    have hn102:full2=true:=(Bool.not_eq_false' _).mp hb102
    refine gX<|hK k52<|gL<|gRn (oM 1 rfl<|oadN _ 1 om9 rfl<|oM 1 rfl<|.nl)<|nN<|?_
    have hinvN:=hinv2.expanded (by simp;omega) (by rw [hx2,←ended_eq hwx.thl];assumption) (by rw [hx2,←hmv];intro e9;rw [e9] at hmv0;simp at hmv0) (by rw [hx2];exact hws) (fun hf q hq=>by rw [hx2] at hq⊢;rw [←hmv] at hq⊢;exact hhand hf q (by first|omega|exact absurd (hf.symm.trans (show _=true by assumption)) Bool.false_ne_true))
    have hkeyN:=hkey2;have hhokN:=hhok2;have hlenN:=hlen2;have hsdN:=hsd2
    have helN:ends2.l.length≤16*(i+1):=by omega
    have hiN:i+1≤states2.l.length:=by omega
    have hnl2:states2.l.length≤4001:=by have h9:=hinv2.len;simpa using h9
    intro a130 w130 h130
    refine x_again ⟨_, ?_,(i+1),full2,states2,keys2,heads2,before2,ends2, ?_, ?_, ?_, ?_, ?_, ?_, ?_,h130.nrm ⟨rfl,rfl,trivial⟩ [6,7,8,9,10,11,12,13,14,15] rfl,rfl⟩
    · rw [hm45];omega
    · first|exact hiN|omega
    · first|exact hinvN|exact hinv
    · first|exact hkeyN|exact hkey
    · first|exact hhokN|exact hhok
    · first|exact hlenN|exact hlen
    · first|exact hsdN|exact hsd
    · first|exact helN|omega
   refine gRn (oKs 5 hb101 rfl rfl<|opF hb101 rfl<|.nl)<|nK k100<|gcF rfl rfl<|gX<|hK k52<|gL<|gRn (oM 1 rfl<|oadN _ 1 om9 rfl<|oM 1 rfl<|.nl)<|nN<|?_
   have hinvN:=hinv2.expanded (by simp;omega) (by rw [hx2,←ended_eq hwx.thl];assumption) (by rw [hx2,←hmv];intro e9;rw [e9] at hmv0;simp at hmv0) (by rw [hx2];exact hws) (fun hf q hq=>by rw [hx2] at hq⊢;rw [←hmv] at hq⊢;exact hhand hf q (by first|omega|exact absurd (hf.symm.trans (show _=true by assumption)) Bool.false_ne_true))
   have hkeyN:=hkey2;have hhokN:=hhok2;have hlenN:=hlen2;have hsdN:=hsd2
   have helN:ends2.l.length≤16*(i+1):=by omega
   have hiN:i+1≤states2.l.length:=by omega
   have hnl2:states2.l.length≤4001:=by have h9:=hinv2.len;simpa using h9
   intro a131 w131 h131
   refine x_again ⟨_, ?_,(i+1),full2,states2,keys2,heads2,before2,ends2, ?_, ?_, ?_, ?_, ?_, ?_, ?_,h131.nrm ⟨rfl,rfl,trivial⟩ [6,7,8,9,10,11,12,13,14,15] rfl,rfl⟩
   · rw [hm45];omega
   · first|exact hiN|omega
   · first|exact hinvN|exact hinv
   · first|exact hkeyN|exact hkey
   · first|exact hhokN|exact hhok
   · first|exact hlenN|exact hlen
   · first|exact hsdN|exact hsd
   · first|exact helN|omega
  have hn51:full=true:=(Bool.not_eq_false' _).mp hb51
  refine gX<|hK k43<|sG (oM 2 rfl<|.nl)<|gR<|fun a133 w133 h133=>x_ret1 (fn:=Try.f18) (t:=4) rfl h133 rfl<|⟨b14,full,_,_,_,states,ends,rfl,hinv.big (by first|exact .inl (by assumption)|exact .inr (by simp;omega)), ?_,(by have h9:=hinv.len;simp at h9;omega),fun o ho b hb=>hsd.en o ho b hb,⟨?_,(by have h9:=hinv.len;simpa using h9),hsd⟩,(h133.sh.sel [0,1,6] rfl)⟩
  · intro hf;first|exact absurd (hf.symm.trans (show _=true by assumption)) Bool.false_ne_true|(refine ⟨hinv.sorted, ?_⟩;rw [hf] at hinv;exact hinv.all (by simp;omega))
  · intro hf;first|exact absurd (hf.symm.trans (show _=true by assumption)) Bool.false_ne_true|(rw [hf] at hinv;exact ⟨hinv.nd,hinv.states (by simp;omega)⟩)
 refine gRn (oKs 5 hb50 rfl rfl<|opF hb50 rfl<|.nl)<|nK k48<|gcF rfl rfl<|gX<|hK k43<|sG (oM 2 rfl<|.nl)<|gR<|fun a135 w135 h135=>x_ret1 (fn:=Try.f18) (t:=4) rfl h135 rfl<|⟨b14,full,_,_,_,states,ends,rfl,hinv.big (by first|exact .inl (by assumption)|exact .inr (by simp;omega)), ?_,(by have h9:=hinv.len;simp at h9;omega),fun o ho b hb=>hsd.en o ho b hb,⟨?_,(by have h9:=hinv.len;simpa using h9),hsd⟩,(h135.sh.sel [0,1,6] rfl)⟩
 · intro hf;first|exact absurd (hf.symm.trans (show _=true by assumption)) Bool.false_ne_true|(refine ⟨hinv.sorted, ?_⟩;rw [hf] at hinv;exact hinv.all (by simp;omega))
 · intro hf;first|exact absurd (hf.symm.trans (show _=true by assumption)) Bool.false_ne_true|(rw [hf] at hinv;exact ⟨hinv.nd,hinv.states (by simp;omega)⟩)
theorem by_c (code:Ls (Ls Ins))(words:Ls Int)(Lk R:Nat)(mode:Int)(W:World)(hcode:code.At W)(hwords:words.At W)(hok:OkPg (pgN code words Lk R)):
  Rets Try.prog 18 [.agg #[code.v,words.v, .int .i64 ((Lk:Nat):Int), .int .i64 ((R:Nat):Int)], .int .i64 mode] W (fun v w' =>∃(g:Nat) (full:Bool) (sv kv hv bv:Value) (ends:Ls OutL),v= .pointer (some ⟨g,0,none⟩)∧(full=true↔Big (pgN code words Lk R) mode)∧(full=false→Sorted_ (ends.l.map OutL.out)∧∀o,o∈ends.l.map OutL.out↔Outs (pgN code words Lk R) mode o)∧ends.l.length≤70000∧(∀o∈ends.l,∀b,Enc.on o b→W.heap.size≤b)∧Sh0 W w' [.blk g 44 [sv,kv,hv,bv,ends.v, .bool full], .own 49 ends]):=by
 refine Rets.mono (by_s code words Lk R mode W hcode hwords hok) ?_
 rintro v w' ⟨g,full,kv,hv,bv,states,ends,rfl,h1,h2,h3,h4,_,hs⟩
 exact ⟨g,full,_,kv,hv,bv,ends,rfl,h1,h2,h3,h4,hs.sel [0,2] rfl⟩
theorem aheadB_asymK {a b:Outc}(h:aheadB a b=true):aheadB b a=false:=by
 cases e:aheadB b a with
 |false=>rfl
 |true=>exact absurd (aheadB_trans h e) (by rw [aheadB_irr];decide)
theorem once_in {o:OutL}{l:List OutL}{k:Nat}(hk:k≤l.length)(h1:∀j,j<k→aheadB (nth l j).out o.out=true)(h2:k<l.length→aheadB o.out (nth l k).out=true):PutRel o l (l.take k++ [o]++l.drop k):=
 .inr ⟨k,hk,fun j hj=>⟨aheadB_asymK (h1 j hj),h1 j hj⟩,h2,by simp⟩
theorem once_mem {o:OutL}{l m:List OutL}(h:PutRel o l m):∀y∈m,y∈l∨y=o:=by
 rcases h with ⟨_,rfl⟩|⟨k,_,_,_,rfl⟩
 ·exact fun y hy=> .inl hy
 ·intro y hy
  rcases List.mem_append.1 hy with hy|hy
  ·exact .inl (List.mem_of_mem_take hy)
  ·rcases List.mem_cons.1 hy with rfl|hy
   ·exact .inr rfl
   ·exact .inl (List.mem_of_mem_drop hy)
theorem once_len {o:OutL}{l m:List OutL}(h:PutRel o l m):m.length≤l.length+1:=by
 rcases h with ⟨_,rfl⟩|⟨k,_,_,_,rfl⟩
 ·omega
 ·simp;omega
theorem once_set {x:Ls OutL}{l m:List OutL}{i:Nat}(hi:i<x.l.length)(h:PutRel (nth x.l i) l m)(hs:Sorted_ (l.map OutL.out))(hm:∀o,o∈l.map OutL.out↔o∈(x.l.take i).map OutL.out):Sorted_ (m.map OutL.out)∧∀o,o∈m.map OutL.out↔o∈(x.l.take (i+1)).map OutL.out:=by
 obtain ⟨h1,h2⟩:=h.sorted hs
 refine ⟨h1,fun o=> ?_⟩
 rw [h2,hm,take_succ_nth _ _ hi,List.map_append,List.mem_append]
 simp
theorem once_c (x:Ls OutL)(W:World)(hx:x.At W)(hxl:x.l.length≤100000000):
    Rets Try.prog 41 [x.v] W (fun v w' =>∃s:Ls OutL,v=s.v∧(Sorted_ (s.l.map OutL.out)∧∀o,o∈s.l.map OutL.out↔o∈x.l.map OutL.out)∧(∀o∈s.l,∀b,Enc.on o b→∃i,i<x.l.length∧Enc.on (nth x.l i) b)∧Sh0 W w' [.own 49 s]):=by
 refine gen Try.func41 Try.ntmps41 (Sh0.ext1 hx:Sh (fun _=>False) W W [.at_ x]) rfl fun a10 h10=>gG h10<|sG (oM 1 rfl<|.nl)<|sG (oM 1 rfl<|.nl)<|gK fun _ k13=>sG (oM 1 rfl<|.nl)<|gB<|fun a17 w17 h17=> ?_;clear h10
 have h16:=h17.nil (α:=OutL) 49
 clear h17
 refine x_loop (fun m a w=>∃(i:Nat) (ol:List OutL) (vo:Value),(i≤x.l.length)∧(Sorted_ (ol.map OutL.out))∧(∀o,o∈ol.map OutL.out↔o∈(x.l.take i).map OutL.out)∧(ol.length≤i)∧(∀o∈ol,∀b,Enc.on o b→∃i,i<x.l.length∧Enc.on (nth x.l i) b)∧St 65 (fun _=>False) W a w [(0,x.v),(3,vo),(4, .int .i64 ((i:Nat):Int))] [.at_ x, .own 49 (⟨vo,ol⟩:Ls OutL)]∧m=x.l.length-i) ⟨_,0, [],(.slice none 0 0),(by omega),(List.Pairwise.nil),(fun o=>Iff.rfl),(Nat.le_refl _),(fun o ho=>by cases ho),h16.nrm ⟨rfl,rfl,rfl,trivial⟩ [1,0] rfl,rfl⟩ ?_
 clear h16
 rintro m15 a15 w15 ⟨i,ol,vo,hi,hso,hme,hoi,hob,h15,hm15⟩
 refine gG h15<|gK fun _ k18=>sK fun _ k19=>gNl (aA 0 rfl) fun hl20=>gRn (oM 2 rfl<|oln sl_42 (aA 0 rfl) rfl<|oltN _ _ rfl<|.nl)<|nK k19<|?_;clear h15
 refine gcd rfl (fun hb21 hp21=> ?_) fun hb21 hp21=> ?_
 ·skip
  refine gS<|hK k18<|gK fun _ k22=>gB<|sG (oM 1 rfl<|.nl)<|gK fun _ k24=>gB<|fun a26 w26 h26=>x_loop (fun m a w=>∃(d:Nat),(d≤ol.length)∧(∀j,j<d→aheadB (nth ol j).out (nth x.l i).out=true)∧St 65 (fun _=>False) W a w [(0,x.v),(3,vo),(4, .int .i64 ((i:Nat):Int)),(5, .int .i64 ((d:Nat):Int))] [.at_ x, .own 49 (⟨vo,ol⟩:Ls OutL)]∧m=ol.length-d) ⟨_,0,(by omega),(fun j hj=>absurd hj (by omega)),h26.nf ⟨rfl,rfl,rfl,rfl,trivial⟩,rfl⟩ ?_
  clear h26
  rintro m25 a25 w25 ⟨d,hd,hah,h25,hm25⟩
  refine gG h25<|gK fun _ k27=>gK fun _ k28=>fun a30 w30 h30=>x_quiet (by kernel_rfl) (by kernel_rfl) h30 fun _ z31=>qQ h30.fr<|qRn (oM 2 rfl<|.nl)<|?_;clear h25
  have hl32:ol.length≤140737488355328:=(h30.sh.own 1 rfl).len
  refine qRn (oln (n:=ol.length) sl_42 (aO 1 rfl) rfl<|oltN _ _ rfl<|oM 1 rfl<|.nl)<|?_
  rcases dsp (d<ol.length) with ⟨hb33,hp33⟩|⟨hb33,hp33⟩
  ·skip
   refine qRn (oG hb33 (r_move rfl rfl) rfl<|oG hb33 (r_move rfl rfl) rfl<|oG hb33 (r_ixN (s:=(⟨vo,ol⟩:Ls OutL)) (q:=d) sl_42 ti_49 rfl rfl rfl (fun w h=>(h.own 1 rfl)) (show d<ol.length from om9)) rfl<|oG hb33 (r_ldew (s:=(⟨vo,ol⟩:Ls OutL)) (i:=d) (vs:= [.int .i64 ((nth ol d).st),((nth ol d).words).v,((nth ol d).prints).v]) ti_49 rfl rfl rfl (fun w h=>(h.own 1 rfl)) (show d<ol.length from om9) (Nat.le_of_ble_eq_true rfl) rfl) rfl<|oG hb33 (r_move rfl rfl) rfl<|oG hb33 (r_move rfl rfl) rfl<|oG hb33 (r_ixN (s:=x) (q:=i) sl_42 ti_49 rfl rfl rfl (fun w h=>(h.at 0 rfl)) (show i<x.l.length from om9)) rfl<|oG hb33 (r_ldew (s:=x) (i:=i) (vs:= [.int .i64 ((nth x.l i).st),((nth x.l i).words).v,((nth x.l i).prints).v]) ti_49 rfl rfl rfl (fun w h=>(h.at 0 rfl)) (show i<x.l.length from om9) (Nat.le_of_ble_eq_true rfl) rfl) rfl<|.nl)<|qPg hb33 bd_72 rfl (fun w h=>(ahead_c (nth ol d) (nth x.l i) _ ((h.own 1 rfl).inner d (show d<ol.length from (by omega))).1 ((h.own 1 rfl).inner d (show d<ol.length from (by omega))).2 ((h.at 0 rfl).inner i (show i<x.l.length from (by omega))).1 ((h.at 0 rfl).inner i (show i<x.l.length from (by omega))).2))<|qRn (opT hb33 rfl<|.nl)<|qN z31<|?_;clear h30
   refine hK k28<|gCb rfl (fun hb43=> ?_) fun hb43=> ?_
   ·skip
    refine gS<|hK k27<|gB<|gL<|gRn (oM 1 rfl<|oadN _ 1 om9 rfl<|oM 1 rfl<|.nl)<|nN<|fun a44 w44 h44=> ?_
    change∃_m,_m<_∧_
    refine ⟨_, ?_,d+1, ?_, ?_,h44.nf ⟨rfl,rfl,rfl,rfl,trivial⟩,rfl⟩
    · rw [hm25];first|omega|(simp only [lens9];omega)
    · omega
    · intro j hj;rcases Nat.lt_or_ge j d with h9|h9;exact hah j h9;obtain rfl:j=d:=(by omega);assumption
   refine gX<|hK k24<|gK fun _ k45=>sG (oM 2 rfl<|oln (n:=ol.length) sl_42 (aO 1 rfl) rfl<|oltN _ _ rfl<|.nl)<|gcT rfl hb33<|gK fun _ k47=>fun a48 w48 h48=>x_quiet (by kernel_rfl) (by kernel_rfl) h48 fun _ z49=>qQ h48.fr<|qRn (oM 2 rfl<|oxN sl_42 ti_49 (aA 0 rfl) _ om9 rfl<|olw2 [.int .i64 ((nth x.l i).st),((nth x.l i).words).v,((nth x.l i).prints).v] ti_49 (aA 0 rfl) om9 rfl<|oM 2 rfl<|oxN sl_42 ti_49 (aO 1 rfl) _ om9 rfl<|olw2 [.int .i64 ((nth ol d).st),((nth ol d).words).v,((nth ol d).prints).v] ti_49 (aO 1 rfl) om9 rfl<|.nl)<|qP bd_72 rfl (fun w h=>(ahead_c (nth x.l i) (nth ol d) _ ((h.at 0 rfl).inner i (show i<x.l.length from (by omega))).1 ((h.at 0 rfl).inner i (show i<x.l.length from (by omega))).2 ((h.own 1 rfl).inner d (show d<ol.length from (by omega))).1 ((h.own 1 rfl).inner d (show d<ol.length from (by omega))).2))<|qRn (oM 1 rfl<|.nl)<|qN z49<|hK k47<|gF [0,3,4,5,6] rfl<|sG (oM 1 rfl<|ont rfl<|.nl)<|?_;clear h48
   refine gCb rfl (fun hb51=> ?_) fun hb51=> ?_
   ·have hn51:aheadB (OutL.out (nth x.l i)) (OutL.out (nth ol d))=false:=(Bool.not_eq_true' _).mp hb51
    refine gX<|hK k22<|gL<|gRn (oM 1 rfl<|oadN _ 1 om9 rfl<|oM 1 rfl<|.nl)<|nN<|?_
    have hput:PutRel (nth x.l i) ol ol:= .inl ⟨⟨d,by omega,by assumption,by assumption⟩,rfl⟩
    have hset:=once_set (by omega) hput hso hme
    intro a52 w52 h52
    refine x_again ⟨_, ?_,i+1,ol,vo, ?_, ?_, ?_, ?_, ?_,h52.nf ⟨rfl,rfl,rfl,trivial⟩,rfl⟩
    · rw [hm15];first|omega|(simp only [lens9];omega)
    · omega
    · exact hset.1
    · exact hset.2
    · have h9:=once_len hput;omega
    · intro o ho b hb;rcases once_mem hput o ho with ho|rfl;exact hob o ho b hb;exact ⟨i,by omega,hb⟩
   have hn51:aheadB (OutL.out (nth x.l i)) (OutL.out (nth ol d))=true:=(Bool.not_eq_false' _).mp hb51
   refine gS<|hK k45<|sG (oM 1 rfl<|.nl)<|?_
   have ht9:(ol.take d).length=d:=by rw [List.length_take];omega
   have hd9:(ol.drop d).length=ol.length-d:=List.length_drop
   intro a55 w55 h55
   have h54:=h55.nil (α:=OutL) 49
   clear h55
   refine gG h54<|sK fun _ k56=>gRn (oM 3 rfl<|oV (r_slH0 (s:=(⟨vo,ol⟩:Ls OutL)) (j:=d) sl_42 ti_49 rfl rfl rfl (fun w h=>(h.own 2 rfl)) (show d≤ol.length from om9)) rfl<|.nl)<|gE1 (fun _ _ h_=>x_app (r:=0) (rm:=2) (s:=(⟨.slice none 0 0, []⟩:Ls OutL)) (m:=(⟨(vtake vo d),(ol.take d)⟩:Ls OutL)) h_ sl_42 ti_49 rfl rfl rfl rfl rfl rfl rfl (fun w h=>(take_at (h.own 2 rfl) (show d≤ol.length from om9))) (fun b hb=>own_on (h_.sh.ok _ (List.mem_of_getElem? (i:=2) rfl)) (take_on (h_.sh.own 2 rfl) hb)) (fun q hq b hb=>take_in hq hb) rfl rfl rfl inferInstance (show (([]).length+(ol.take d).length)*56≤140737488355328∧([]).length+(ol.take d).length≤140737488355328 from om9) rfl rfl) rfl fun v57=>gRn (oM 1 rfl<|.nl)<|nK k56<|sK fun _ k58=>gRn (oM 3 rfl<|oxN sl_42 ti_49 (aA 1 rfl) _ om9 rfl<|olw2 [.int .i64 ((nth x.l i).st),((nth x.l i).words).v,((nth x.l i).prints).v] ti_49 (aA 1 rfl) om9 rfl<|.nl)<|gE1 (fun _ _ h_=>x_lit (n:=1) (cs:= [.int .i64 ((nth x.l i).st),((nth x.l i).words).v,((nth x.l i).prints).v]) ([nth x.l i]:List OutL) h_ sl_42 ti_49 rfl rfl rfl (by decide) rfl (by kernel_rfl) rfl (fun q hq w h=>by obtain rfl:q=0:=(by simpa using hq);exact ⟨((h.at 1 rfl).inner i (show i<x.l.length from om9)).1,((h.at 1 rfl).inner i (show i<x.l.length from om9)).2⟩) (fun q hq b hb=>by obtain rfl:q=0:=(by simpa using hq);rcases hb with hb|hb;exact ⟨_,List.mem_of_getElem? (i:=1) rfl, .inr ⟨i,(show i<x.l.length from om9), .inl hb⟩⟩;exact ⟨_,List.mem_of_getElem? (i:=1) rfl, .inr ⟨i,(show i<x.l.length from om9), .inr hb⟩⟩) rfl rfl) rfl fun v59=>gE1 (fun _ _ h_=>x_app (r:=1) (rm:=0) (s:=(⟨v57,(ol.take d)⟩:Ls OutL)) (m:=(⟨v59, [nth x.l i]⟩:Ls OutL)) h_ sl_42 ti_49 rfl rfl rfl rfl rfl rfl rfl (fun w h=>(h.own 0 rfl)) (fun b hb=>own_on (h_.sh.ok _ (List.mem_of_getElem? (i:=0) rfl)) hb) (fun q hq b hb=>⟨q,hq,hb⟩) rfl rfl rfl inferInstance (show ((ol.take d).length+([nth x.l i]).length)*56≤140737488355328∧(ol.take d).length+([nth x.l i]).length≤140737488355328 from om9) rfl rfl) rfl fun v60=>gRn (oM 1 rfl<|.nl)<|nK k58<|sK fun _ k61=>gRn (oM 3 rfl<|oV (r_slL (s:=(⟨vo,ol⟩:Ls OutL)) (k:=d) sl_42 ti_49 rfl rfl rfl (fun w h=>(h.own 3 rfl)) (show d≤ol.length from om9)) rfl<|.nl)<|gE1 (fun _ _ h_=>x_app (r:=1) (rm:=3) (s:=(⟨v60,(ol.take d)++([nth x.l i])⟩:Ls OutL)) (m:=(⟨(vdrop vo 3 d),(ol.drop d)⟩:Ls OutL)) h_ sl_42 ti_49 rfl rfl rfl rfl rfl rfl rfl (fun w h=>(drop_at (h.own 3 rfl) (show d≤ol.length from om9))) (fun b hb=>own_on (h_.sh.ok _ (List.mem_of_getElem? (i:=3) rfl)) (drop_on (h_.sh.own 3 rfl) hb)) (fun q hq b hb=>drop_in hq hb) rfl rfl rfl inferInstance (show (((ol.take d)++([nth x.l i])).length+(ol.drop d).length)*56≤140737488355328∧((ol.take d)++([nth x.l i])).length+(ol.drop d).length≤140737488355328 from om9) rfl rfl) rfl fun v62=>gRn (oM 1 rfl<|.nl)<|nK k61<|gL<|gRn (oM 2 rfl<|.nl)<|nK k22<|gF [0,3,4] rfl<|gL<|gRn (oM 1 rfl<|oadN _ 1 om9 rfl<|oM 1 rfl<|.nl)<|nN<|?_;clear h54
   have hput:PutRel (nth x.l i) ol (((ol.take d)++([nth x.l i]))++(ol.drop d)):=once_in (by omega) hah (fun h9=>by first|assumption|omega)
   have hset:=once_set (by omega) hput hso hme
   intro a63 w63 h63
   refine x_again ⟨_, ?_,i+1,((ol.take d)++([nth x.l i]))++(ol.drop d),v62, ?_, ?_, ?_, ?_, ?_,h63.nrm ⟨rfl,rfl,rfl,trivial⟩ [2,1] rfl,rfl⟩
   · rw [hm15];first|omega|(simp only [lens9];omega)
   · omega
   · exact hset.1
   · exact hset.2
   · have h9:=once_len hput;omega
   · intro o ho b hb;rcases once_mem hput o ho with ho|rfl;exact hob o ho b hb;exact ⟨i,by omega,hb⟩
  refine qRn (oKs 9 hb33 rfl rfl<|opF hb33 rfl<|.nl)<|qN z31<|?_;clear h30
  refine hK k28<|gcF rfl rfl<|gX<|hK k24<|gK fun _ k65=>sG (oM 2 rfl<|oln (n:=ol.length) sl_42 (aO 1 rfl) rfl<|oltN _ _ rfl<|.nl)<|gcF rfl hb33<|gS<|hK k65<|sG (oM 1 rfl<|.nl)<|?_
  have ht9:(ol.take d).length=d:=by rw [List.length_take];omega
  have hd9:(ol.drop d).length=ol.length-d:=List.length_drop
  intro a69 w69 h69
  have h68:=h69.nil (α:=OutL) 49
  clear h69
  refine gG h68<|sK fun _ k70=>gRn (oM 3 rfl<|oV (r_slH0 (s:=(⟨vo,ol⟩:Ls OutL)) (j:=d) sl_42 ti_49 rfl rfl rfl (fun w h=>(h.own 2 rfl)) (show d≤ol.length from om9)) rfl<|.nl)<|gE1 (fun _ _ h_=>x_app (r:=0) (rm:=2) (s:=(⟨.slice none 0 0, []⟩:Ls OutL)) (m:=(⟨(vtake vo d),(ol.take d)⟩:Ls OutL)) h_ sl_42 ti_49 rfl rfl rfl rfl rfl rfl rfl (fun w h=>(take_at (h.own 2 rfl) (show d≤ol.length from om9))) (fun b hb=>own_on (h_.sh.ok _ (List.mem_of_getElem? (i:=2) rfl)) (take_on (h_.sh.own 2 rfl) hb)) (fun q hq b hb=>take_in hq hb) rfl rfl rfl inferInstance (show (([]).length+(ol.take d).length)*56≤140737488355328∧([]).length+(ol.take d).length≤140737488355328 from om9) rfl rfl) rfl fun v71=>gRn (oM 1 rfl<|.nl)<|nK k70<|gF [0,3,4,5,7] rfl<|sK fun _ k72=>gRn (oM 3 rfl<|oxN sl_42 ti_49 (aA 1 rfl) _ om9 rfl<|olw2 [.int .i64 ((nth x.l i).st),((nth x.l i).words).v,((nth x.l i).prints).v] ti_49 (aA 1 rfl) om9 rfl<|.nl)<|gE1 (fun _ _ h_=>x_lit (n:=1) (cs:= [.int .i64 ((nth x.l i).st),((nth x.l i).words).v,((nth x.l i).prints).v]) ([nth x.l i]:List OutL) h_ sl_42 ti_49 rfl rfl rfl (by decide) rfl (by kernel_rfl) rfl (fun q hq w h=>by obtain rfl:q=0:=(by simpa using hq);exact ⟨((h.at 1 rfl).inner i (show i<x.l.length from om9)).1,((h.at 1 rfl).inner i (show i<x.l.length from om9)).2⟩) (fun q hq b hb=>by obtain rfl:q=0:=(by simpa using hq);rcases hb with hb|hb;exact ⟨_,List.mem_of_getElem? (i:=1) rfl, .inr ⟨i,(show i<x.l.length from om9), .inl hb⟩⟩;exact ⟨_,List.mem_of_getElem? (i:=1) rfl, .inr ⟨i,(show i<x.l.length from om9), .inr hb⟩⟩) rfl rfl) rfl fun v73=>gE1 (fun _ _ h_=>x_app (r:=1) (rm:=0) (s:=(⟨v71,(ol.take d)⟩:Ls OutL)) (m:=(⟨v73, [nth x.l i]⟩:Ls OutL)) h_ sl_42 ti_49 rfl rfl rfl rfl rfl rfl rfl (fun w h=>(h.own 0 rfl)) (fun b hb=>own_on (h_.sh.ok _ (List.mem_of_getElem? (i:=0) rfl)) hb) (fun q hq b hb=>⟨q,hq,hb⟩) rfl rfl rfl inferInstance (show ((ol.take d).length+([nth x.l i]).length)*56≤140737488355328∧(ol.take d).length+([nth x.l i]).length≤140737488355328 from om9) rfl rfl) rfl fun v74=>gRn (oM 1 rfl<|.nl)<|nK k72<|sK fun _ k75=>gRn (oM 3 rfl<|oV (r_slL (s:=(⟨vo,ol⟩:Ls OutL)) (k:=d) sl_42 ti_49 rfl rfl rfl (fun w h=>(h.own 3 rfl)) (show d≤ol.length from om9)) rfl<|.nl)<|gE1 (fun _ _ h_=>x_app (r:=1) (rm:=3) (s:=(⟨v74,(ol.take d)++([nth x.l i])⟩:Ls OutL)) (m:=(⟨(vdrop vo 3 d),(ol.drop d)⟩:Ls OutL)) h_ sl_42 ti_49 rfl rfl rfl rfl rfl rfl rfl (fun w h=>(drop_at (h.own 3 rfl) (show d≤ol.length from om9))) (fun b hb=>own_on (h_.sh.ok _ (List.mem_of_getElem? (i:=3) rfl)) (drop_on (h_.sh.own 3 rfl) hb)) (fun q hq b hb=>drop_in hq hb) rfl rfl rfl inferInstance (show (((ol.take d)++([nth x.l i])).length+(ol.drop d).length)*56≤140737488355328∧((ol.take d)++([nth x.l i])).length+(ol.drop d).length≤140737488355328 from om9) rfl rfl) rfl fun v76=>gRn (oM 1 rfl<|.nl)<|nK k75<|gL<|gRn (oM 2 rfl<|.nl)<|nK k22<|gL<|gRn (oM 1 rfl<|oadN _ 1 om9 rfl<|oM 1 rfl<|.nl)<|nN<|?_;clear h68
  have hput:PutRel (nth x.l i) ol (((ol.take d)++([nth x.l i]))++(ol.drop d)):=once_in (by omega) hah (fun h9=>by first|assumption|omega)
  have hset:=once_set (by omega) hput hso hme
  intro a77 w77 h77
  refine x_again ⟨_, ?_,i+1,((ol.take d)++([nth x.l i]))++(ol.drop d),v76, ?_, ?_, ?_, ?_, ?_,h77.nrm ⟨rfl,rfl,rfl,trivial⟩ [2,1] rfl,rfl⟩
  · rw [hm15];first|omega|(simp only [lens9];omega)
  · omega
  · exact hset.1
  · exact hset.2
  · have h9:=once_len hput;omega
  · intro o ho b hb;rcases once_mem hput o ho with ho|rfl;exact hob o ho b hb;exact ⟨i,by omega,hb⟩
 refine gX<|hK k13<|sG (oM 2 rfl<|.nl)<|gR<|fun a79 w79 h79=>x_ret1 (fn:=Try.f41) (t:=2) rfl h79 rfl<|⟨⟨vo,ol⟩,rfl,⟨hso,by rw [List.take_of_length_le (by omega)] at hme;exact hme⟩,hob,(h79.sh.sel [1] rfl)⟩
section
variable {P:Program}{o:Oper}{N:Nat}{K:Nat→Prop}{W w:World}{a:Act}{F:List (Nat×Value)}{L:List Asn}
theorem Sh.front {i:Nat}{A:Asn}(h:Sh K W w L)(hi:L[i]? =some A):Sh K W w (A::L.eraseIdx i):=by
 obtain ⟨hl,he⟩:=List.getElem?_eq_some_iff.1 hi
 have:=perm_erase L i hl
 rw [he] at this
 exact h.perm this
theorem Sh.unfront {i:Nat}{A A' :Asn}(h:Sh K W w (A' ::L.eraseIdx i))(hi:L[i]? =some A):Sh K W w (L.set i A'):=
 h.perm (perm_set A' L i (List.getElem?_eq_some_iff.1 hi).1).symm
section
variable {α:Type}[Enc α]{E IE:TypeId}{v:Value}{M:List (Ls α)}
end
end
structure KE where
 k:Int
 v:Int
 b:Nat
def KE.e (x:KE):MapEntry:=⟨.int .i64 x.k, .int .i64 x.v,x.b⟩
def KE.kv (x:KE):Int×Int:=(x.k,x.v)
structure MapC (w:World)(g:Nat)(c:List KE)(t:Nat):Prop where
 blk:w.heap[g]? =some (.map (c.map KE.e).toArray t)
 born:(c.map (·.b)).Nodup
 below:∀x∈c,x.b<t
 keys:(c.map (·.k)).Nodup
def MapZ (w:World)(g:Nat)(l:List (Int×Int)):Prop:=∃c t,MapC w g c t∧c.map KE.kv=l
theorem MapC.of_block {w w' :World}{g:Nat}{c:List KE}{t:Nat}(h:MapC w g c t)(hb:w'.heap[g]? =w.heap[g]?):MapC w' g c t:=⟨hb.trans h.blk,h.born,h.below,h.keys⟩
theorem MapC.lt {w:World}{g:Nat}{c:List KE}{t:Nat}(h:MapC w g c t):g<w.heap.size:=(Array.getElem?_eq_some_iff.1 h.blk).1
def Asn.mapO (p:Option Nat)(l:List (Int×Int)):Asn where
 fp b:=p=some b
 rd _:=False
 ok w:=match p with
  |none=>l= []
  |some g=>MapZ w g l
 keep w w' h hb:=by
  cases p with
  |none=>exact h
  |some g=>
   obtain ⟨c,t,h1,h2⟩:=h
   exact ⟨c,t,h1.of_block (hb g (.inl rfl)),h2⟩
 lt w h b hb:=by
  rcases hb with rfl|hb
  ·obtain ⟨c,t,h1,_⟩:=h
   exact h1.lt
  ·exact hb.elim
def getZ (k:Int):List (Int×Int)→Option Int
 | []=>none
 |x::r=>if k=x.1 then some x.2 else getZ k r
def vz (l:List (Int×Int)):List (Int×Value):=l.map fun x=>(x.1, .int .i64 x.2)
theorem atKey_vz (k:Int):∀(l:List (Int×Int)) (i:Nat),(atKey k (vz l) i).map (·.2)=(getZ k l).map (Value.int .i64)
 | [],_=>rfl
 |x::r,i=>by
  show (if k=x.1 then some (i,Value.int .i64 x.2) else atKey k (vz r) (i+1)).map (·.2)=_
  rw [getZ]
  by_cases h:k=x.1
  ·rw [if_pos h,if_pos h];rfl
  ·rw [if_neg h,if_neg h];exact atKey_vz k r (i+1)
theorem getZ_none {k:Int} :∀ {l:List (Int×Int)},getZ k l=none↔k∉l.map (·.1)
 | []=>by simp [getZ]
 |x::r=>by
  rw [getZ]
  by_cases h:k=x.1
  ·simp [h]
  ·rw [if_neg h,getZ_none];simp [h]
theorem getZ_some {k v:Int} :∀ {l:List (Int×Int)},(l.map (·.1)).Nodup→(getZ k l=some v↔(k,v)∈l)
 | [],_=>by simp [getZ]
 |(j,u)::r,hn=>by
  rw [List.map_cons,List.nodup_cons] at hn
  rw [getZ,List.mem_cons]
  by_cases h:k=j
  ·subst h
   rw [if_pos rfl]
   constructor
   ·intro e;exact .inl (by rw [←Option.some.inj e])
   ·rintro (e|e)
    ·rw [(Prod.mk.inj e).2]
    ·exact absurd (List.mem_map.2 ⟨_,e,rfl⟩) hn.1
  ·rw [if_neg h,getZ_some hn.2]
   constructor
   ·exact .inr
   ·rintro (e|e)
    ·exact absurd (Prod.mk.inj e).1 h
    ·exact e
theorem MapZ.int {w:World}{g:Nat}{l:List (Int×Int)}(h:MapZ w g l):MapI w g (vz l):=by
 obtain ⟨c,t,h1,rfl⟩:=h
 exact ⟨_,t,h1.blk,by simp [pairsOf,keysI,vz,KE.e,KE.kv,Function.comp_def]⟩
theorem MapZ.keys {w:World}{g:Nat}{l:List (Int×Int)}(h:MapZ w g l):(l.map (·.1)).Nodup:=by
 obtain ⟨c,t,h1,rfl⟩:=h
 have:=h1.keys
 rw [List.map_map]
 exact this
structure MapTZ (P:Program)(T kT eT:TypeId):Prop where
 map:P.underlying T=some (.map kT eT)
 int:P.underlying kT=some (.int .i64)
 zero:∀w,(zeroValue eT).run P w= .ok (.int .i64 0) w
section
variable {P:Program}{o:Oper}{N:Nat}{K:Nat→Prop}{W w:World}{a:Act}{F:List (Nat×Value)}{L:List Asn}{T kT eT:TypeId}{p:Option Nat}{l:List (Int×Int)}{k v:Int}{g:Nat}
theorem x_makeZ {d:Nat}(h:St N K W a w F L)(ho:o.op= .makeMap T none)(hd:o.dst=some d)(hdN:Nat.blt d N=true):Ex P o a w (fun a' w' =>∃g:Nat,St N K W a' w' ((d, .map (some g))::F) (.mapO (some g) []::L)):=by
 have hrun:(Instr.makeMap T none).run P w= .ok (.map (some w.heap.size)) (w.alloc (.map #[] 0)):=run_makeMap T w
 refine Ex.of_run (v:= .map (some w.heap.size)) (w' :=w.alloc (.map #[] 0)) ?_ ⟨w.heap.size, ?_⟩
 ·unfold execOp
  simp only [ho,Option.map_none,Sem.run_bind,hrun,Result.andThen_ok,Sem.run_pure]
 ·rw [hd]
  have h1:Sh K W (w.alloc (.map #[] 0)) (.mapO (some w.heap.size) []::L):=
   h.sh.push (Chg.alloc _ w _) ⟨[],0,⟨Go.heap_alloc_new w _,List.nodup_nil,fun x hx=>(List.not_mem_nil hx).elim,List.nodup_nil⟩,rfl⟩ (fun b hb=>by rw [←Option.some.inj hb];exact Nat.le_refl _) (fun b hb=>hb.elim) (fun b _ hb=>hb)
  exact ⟨h.fr.put d (by simpa [Nat.blt_eq] using hdN) _,h1⟩
theorem setMap_chg (w:World)(g:Nat)(es:Array MapEntry)(t:Nat):Chg (fun b=>some g=some b) w (World.setMap w g es t):=⟨rfl,rfl,rfl,by simp [World.setMap],fun b hb hne=>by
 show (w.heap.setIfInBounds g _)[b]? =_
 rw [Array.getElem?_setIfInBounds_ne (fun e=>hne (by rw [e]))]⟩
theorem setMap_get {w:World}{g:Nat}(hlt:g<w.heap.size)(es:Array MapEntry)(t:Nat):(World.setMap w g es t).heap[g]? =some (.map es t):=by
 show (w.heap.setIfInBounds g _)[g]? =_
 rw [Array.getElem?_setIfInBounds_self_of_lt hlt]
theorem x_updZ {x y z:Operand}{i:Nat}(h:St N K W a w F L)(hT:MapTZ P T kT eT)(ho:o.op= .mapUpdate T x y z)(hd:o.dst=none)(hx:ev F x=some (.map (some g)))(hy:ev F y=some (.int .i64 k))(hz:ev F z=some (.int .i64 v))(hi:L[i]? =some (.mapO (some g) l))(hk:getZ k l=none):
  Ex P o a w (fun a' w' =>St N K W a' w' F (L.set i (.mapO (some g) (l++ [(k,v)])))):=by
 have hok:MapZ w g l:=h.sh.ok _ (List.mem_of_getElem? hi)
 have hI:=hok.int
 obtain ⟨c,t,h1,rfl⟩:=hok
 have hlt:=h1.lt
 have e0:(getObj g).run P w= .ok (.map (c.map KE.e).toArray t) w:=by simp [getObj,Sem.run,h1.blk]
 have e1:(Instr.findKey kT (.int .i64 k) (c.map KE.e)).run P w= .ok none w:=by
  have:=run_findKey_int (P:=P) w kT k (c.map KE.e).toArray (vz (c.map KE.kv)) hT.int (by simp [pairsOf,keysI,vz,KE.e,KE.kv,Function.comp_def])
  have e2:=atKey_vz k (c.map KE.kv) 0
  rw [hk] at e2
  have e3:atKey k (vz (c.map KE.kv)) 0=none:=by simpa using e2
  rw [e3] at this
  exact this
 have e2:=run_checkKey_int (P:=P) w false 9999 kT k hT.int
 have e3:∀es c,(setObj g (.map es c)).run P w= .ok () (World.setMap w g es c):=fun es c=>by simp [setObj,Sem.run,h1.blk,World.setMap]
 have hrun:(Instr.mapUpdate T (.map (some g)) (.int .i64 k) (.int .i64 v)).run P w= .ok () (World.setMap w g ((c++ [(⟨k,v,t⟩:KE)]).map KE.e).toArray (t+1)):=by
  simp [Instr.mapUpdate,run_underlying hT.map,e0,e1,e2,e3,KE.e]
 have hknew:k∉(c.map KE.kv).map (·.1):=getZ_none.1 hk
 refine Ex.of_skip (w' :=World.setMap w g ((c++ [(⟨k,v,t⟩:KE)]).map KE.e).toArray (t+1)) ?_ ?_
 ·unfold execOp
  simp only [ho,h.fr.ev hx,h.fr.ev hy,h.fr.ev hz,Sem.run_bind,hrun,Result.andThen_ok,Sem.run_pure]
 ·rw [hd]
  refine ⟨h.fr,h.sh.put hi (setMap_chg w g _ _) ⟨c++ [⟨k,v,t⟩],t+1,⟨setMap_get hlt _ _, ?_, ?_, ?_⟩,by simp [KE.kv]⟩ (fun b hb=> .inl hb) (fun b hb=>hb.elim) (fun b _ hb=>hb)⟩
  ·rw [List.map_append,List.map_singleton,List.nodup_append]
   refine ⟨h1.born,by simp,fun x hx y hy=> ?_⟩
   obtain ⟨z,hz,rfl⟩:=List.mem_map.1 hx
   have:=h1.below z hz
   have hy' :y=t:=by simpa using hy
   omega
  ·intro x hx
   rcases List.mem_append.1 hx with hx|hx
   ·have:=h1.below x hx;omega
   ·obtain rfl:x=_:=by simpa using hx
    exact Nat.lt_succ_self t
  ·rw [List.map_append,List.map_singleton,List.nodup_append]
   refine ⟨h1.keys,by simp,fun x hx y hy e=>hknew ?_⟩
   have hy' :y=k:=by simpa using hy
   rw [List.map_map]
   rw [←hy',←e]
   exact hx
end
section
variable {P:Program}{o:Oper}{N:Nat}{K:Nat→Prop}{W w:World}{a:Act}{F:List (Nat×Value)}{L:List Asn}{T kT eT:TypeId}{l:List (Int×Int)}{g r t:Nat}{c:List KE}{s:List Nat}
end
section
variable {pd:Int→Int→Bool}{c:List KE}{s:List Nat}{x:KE}
end
structure MP where
 p:Option Nat
 l:List (Int×Int)
instance : Inhabited MP:=⟨⟨none, []⟩⟩
def MP.asn (x:MP):Asn:= .mapO x.p x.l
def pvs (M:List MP):List RV:=M.map fun x=>⟨.map x.p⟩
def mapsX (E:TypeId)(v:Value)(M:List MP):List Asn:= .own E (⟨v,pvs M⟩:Ls RV)::M.map MP.asn
def mapsH (E:TypeId)(v:Value)(M:List MP)(i:Nat):List Asn:= .own E (⟨v,pvs M⟩:Ls RV)::(M.eraseIdx i).map MP.asn
theorem pvs_len (M:List MP):(pvs M).length=M.length:=List.length_map _
theorem nth_pvs {M:List MP}{i:Nat}(h:i<M.length):(nth (pvs M) i).v= .map (nth M i).p:=by
 rw [nth_lt _ _ h,nth_lt _ _ (show i<(pvs M).length by rw [pvs_len];exact h)]
 simp [pvs]
theorem pvs_set (M:List MP)(i:Nat)(x:MP):(pvs M).set i ⟨.map x.p⟩=pvs (M.set i x):=by simp [pvs,List.map_set]
theorem pvs_set_same (M:List MP)(i:Nat)(l:List (Int×Int))(hi:i<M.length):pvs (M.set i ⟨(nth M i).p,l⟩)=pvs M:=by
 rw [←pvs_set]
 apply List.ext_getElem?
 intro k
 rw [List.getElem?_set]
 split
 ·rename_i h
  subst h
  rw [if_pos (by rw [pvs_len];exact hi),List.getElem?_eq_getElem (by rw [pvs_len];exact hi)]
  simp [pvs,nth_lt _ _ hi]
 ·rfl
section
variable {P:Program}{o:Oper}{N:Nat}{K:Nat→Prop}{W w:World}{a:Act}{F:List (Nat×Value)}{L:List Asn}{T kT eT E:TypeId}{v:Value}{M:List MP}{l:List (Int×Int)}{p:Option Nat}{g:Nat}
theorem Sh.mapsAt (h:Sh K W w L)(i:Nat)(hi:L[i]? =some (.big (mapsX E v M))):(⟨v,pvs M⟩:Ls RV).At w:=
 own_at (E:=E) ((h.ok _ (List.mem_of_getElem? hi)).1 _ (List.mem_cons_self ..))
theorem Sh.mapsHAt {j:Nat}(h:Sh K W w L)(i:Nat)(hi:L[i]? =some (.big (mapsH E v M j))):(⟨v,pvs M⟩:Ls RV).At w:=
 own_at (E:=E) ((h.ok _ (List.mem_of_getElem? hi)).1 _ (List.mem_cons_self ..))
theorem Sh.noMap (h:Sh K W w L):Sh K W w (.mapO none []::L):=
 h.push (Chg.refl _ _) rfl (fun b hb=>by cases hb) (fun b hb=>hb.elim) (fun b _ hb=>hb)
theorem Sh.noMaps (n:Nat)(h:Sh K W w L):Sh K W w (List.replicate n (.mapO none [])++L):=by
 induction n with
 |zero=>exact h
 |succ n ih=>rw [List.replicate_succ];exact ih.noMap
theorem Sh.mapsMk {n:Nat}(h:Sh K W w (.own E (⟨v,List.replicate n ⟨.map none⟩⟩:Ls RV)::L)):Sh K W w (.big (mapsX E v (List.replicate n ⟨none, []⟩))::L):=by
 refine Sh.close ?_
 have h2:=Sh.noMaps n h
 have e:pvs (List.replicate n (⟨none, []⟩:MP))=List.replicate n ⟨.map none⟩:=by simp [pvs]
 unfold mapsX
 rw [e,List.map_replicate]
 exact h2.perm List.perm_middle
theorem x_makeMaps {d:Nat}{T e:TypeId}{gg:Bool}{by_ n:Nat}{x y:Operand}(h:St N K W a w F L)(hT:slI P T=some e)(he:tyI P e=some (gg,1,by_, [.map none]))(ho:o.op= .makeSlice T x y)(hx:ev F x=some (.int .i64 (n:Int)))(hy:ev F y=some (.int .i64 (n:Int)))
  (hn:by_*n≤140737488355328∧n≤140737488355328) (hd:o.dst=some d) (hdN:Nat.blt d N=true):
  Ex P o a w (fun a' w' =>∃v:Value,St N K W a' w' ((d,v)::F) (.big (mapsX e v (List.replicate n ⟨none, []⟩))::L)):=
 (x_make (⟨.map none⟩:RV) h hT he ho hx hy rfl rfl hn (fun _=>trivial) (fun _ h=>h) hd hdN).mono fun a' w' ⟨v,h⟩=>⟨v,h.fr,h.sh.mapsMk⟩
theorem x_stMaps {T:TypeId}{gg:Bool}{by_ i:Nat}{z:List Value}{x y:Operand}(h:St N K W a w F (.big (mapsX E v M):: .mapO p l::L))(hT:tyI P T=some (gg,1,by_,z))(ho:o.op= .store T x y)(hd:o.dst=none)
  (hx:ev F x=some (.pointer (some (padr v 1 i 0)))) (hy:ev F y=some (.map p)) (hi:i<M.length):
  Ex P o a w (fun a' w' =>St N K W a' w' F (.big (mapsX E v (M.set i ⟨p,l⟩))::L)):=by
 have h1:St N K W a w F (.own E (⟨v,pvs M⟩:Ls RV)::(M.map MP.asn++(.mapO p l::L))):=⟨h.fr,h.sh.open_⟩
 refine (x_ste (s:=(⟨v,pvs M⟩:Ls RV)) (r:=0) (i:=i) (j:=0) (x' :=⟨.map p⟩) h1 hT ho hd hx rfl rfl (by rw [pvs_len];exact hi) (by decide) hy rfl rfl (fun q hq=> ?_) (fun _ _=>trivial) (fun b hb=>hb.elim)).mono fun a' w' h2=>⟨h2.fr, ?_⟩
 ·obtain rfl:q=0:=by omega
  rfl
 ·have h3:Sh K W w' (.own E (⟨v,pvs (M.set i ⟨p,l⟩)⟩:Ls RV)::(M.map MP.asn++(.mapO p l::L))):=by
   rw [←pvs_set];exact h2.sh
  have h4:Sh K W w' (MP.asn M[i]::(.own E (⟨v,pvs (M.set i ⟨p,l⟩)⟩:Ls RV)::((M.eraseIdx i).map MP.asn++(.mapO p l::L)))):=h3.perm (by
   refine List.Perm.trans ((List.Perm.append_right _ ((perm_erase M i hi).map MP.asn)).cons _) ?_
   exact List.Perm.swap _ _ _)
  refine Sh.close (h4.tail.perm ?_)
  refine List.Perm.cons _ ?_
  refine List.perm_middle.trans ?_
  have:=((perm_set (⟨p,l⟩:MP) M i hi).map MP.asn).symm
  exact this.append_right L
theorem St.openM (r i:Nat){q:Option Nat}(h:St N K W a w F L)(hr:L[r]? =some (.big (mapsX E v M)))(hi:i<M.length)(hq:(nth M i).p=q):St N K W a w F (.mapO q (nth M i).l::L.set r (.big (mapsH E v M i))):=by
 subst hq
 refine ⟨h.fr, ?_⟩
 have h0:Sh K W w (.own E (⟨v,pvs M⟩:Ls RV)::(M.map MP.asn++L.eraseIdx r)):=(h.sh.front hr).open_
 have h1:Sh K W w (.own E (⟨v,pvs M⟩:Ls RV)::((M.eraseIdx i).map MP.asn++(.mapO (nth M i).p (nth M i).l::L.eraseIdx r))):=h0.perm (by
  refine List.Perm.cons _ ?_
  refine List.Perm.trans (List.Perm.append_right _ ((perm_erase M i hi).map MP.asn)) ?_
  rw [nth_lt _ _ hi]
  exact List.perm_middle.symm)
 have h2:Sh K W w (.big (mapsH E v M i):: .mapO (nth M i).p (nth M i).l::L.eraseIdx r):=Sh.close h1
 have h3:Sh K W w (.mapO (nth M i).p (nth M i).l:: .big (mapsH E v M i)::L.eraseIdx r):=h2.perm (List.Perm.swap _ _ _)
 exact h3.perm (List.Perm.cons _ (perm_set _ L r (List.getElem?_eq_some_iff.1 hr).1).symm)
theorem St.closeM (r i:Nat){q:Option Nat}(h:St N K W a w F (.mapO q l::L))(hr:L[r]? =some (.big (mapsH E v M i)))(hi:i<M.length)(hq:(nth M i).p=q):St N K W a w F (L.set r (.big (mapsX E v (M.set i ⟨(nth M i).p,l⟩)))):=by
 subst hq
 refine ⟨h.fr, ?_⟩
 have h0:Sh K W w (.big (mapsH E v M i):: .mapO (nth M i).p l::L.eraseIdx r):=(h.sh.perm (List.Perm.cons _ (by
  have:=perm_erase L r (List.getElem?_eq_some_iff.1 hr).1
  rwa [(List.getElem?_eq_some_iff.1 hr).2] at this))).perm (List.Perm.swap _ _ _)
 have h1:Sh K W w (.own E (⟨v,pvs M⟩:Ls RV)::((M.eraseIdx i).map MP.asn++(.mapO (nth M i).p l::L.eraseIdx r))):=h0.open_
 rw [←pvs_set_same M i l hi] at h1
 refine Sh.unfront (Sh.close (h1.perm (List.Perm.cons _ ?_))) hr
 refine List.perm_middle.trans ?_
 have:=((perm_set (⟨(nth M i).p,l⟩:MP) M i hi).map MP.asn).symm
 exact this.append_right _
theorem nth_set_p (M:List MP)(i:Nat):M.set i ⟨(nth M i).p,(nth M i).l⟩=M:=by
 rcases Nat.lt_or_ge i M.length with h|h
 ·rw [nth_lt _ _ h];exact List.set_getElem_self h
 ·rw [List.set_eq_of_length_le h]
end
section
variable {N:Nat}{K:Nat→Prop}{W w:World}{a:Act}{F:List (Nat×Value)}{L:List Asn}{α:Type}[Enc α][Flat α]
end
def putK (x:Ins)(k:Nat)(v:Int):Ins:=if k=0 then { x with a:=v } else if k=1 then { x with b:=v } else { x with c:=v }
section
variable {P:Program}{o:Oper}{N:Nat}{K:Nat→Prop}{W w:World}{a:Act}{F:List (Nat×Value)}{L:List Asn}
theorem ix_Bk (x:Ins)(g k:Nat)(h:k<3):nth ([⟨.pointer (some ⟨g,1,none⟩)⟩,⟨.pointer (some ⟨g,2,none⟩)⟩,⟨.pointer (some ⟨g,3,none⟩)⟩]:List RV) k=⟨.pointer (some ⟨g,k+1,none⟩)⟩:=by
 rcases k with _|_|_|k
 ·rfl
 ·rfl
 ·rfl
 ·omega
theorem r_ldBk {T:TypeId}{n by_:Nat}{z:List Value}{y:Operand}{i g k:Nat}{E:TypeId}{x:Ins}(hT:tyI P T=some (false,n,by_,z))(ho:o.op= .load T y)(hx:ev F y=some (.pointer (some ⟨g,k+1,none⟩)))(hi:L[i]? =some (.blk g E [.int .i64 x.op, .int .i64 x.a, .int .i64 x.b, .int .i64 x.c]))(hk:k<3):
  Rn P o N K W F L (.int .i64 (nth [x.a,x.b,x.c] k)):=by
 rcases k with _|_|_|k
 ·exact r_ldb hT ho hx hi rfl
 ·exact r_ldb hT ho hx hi rfl
 ·exact r_ldb hT ho hx hi rfl
 ·omega
theorem x_stBk {T:TypeId}{by_:Nat}{z:List Value}{y u:Operand}{i g k:Nat}{E:TypeId}{x:Ins}{v:Int}(h:St N K W a w F L)(hT:tyI P T=some (false,1,by_,z))(ho:o.op= .store T y u)(hd:o.dst=none)(hx:ev F y=some (.pointer (some ⟨g,k+1,none⟩)))(hu:ev F u=some (.int .i64 v))
  (hi:L[i]? =some (.blk g E [.int .i64 x.op, .int .i64 x.a, .int .i64 x.b, .int .i64 x.c])) (hk:k<3):
  Ex P o a w (fun a' w' =>St N K W a' w' F (L.set i (.blk g E [.int .i64 (putK x k v).op, .int .i64 (putK x k v).a, .int .i64 (putK x k v).b, .int .i64 (putK x k v).c]))):=by
 rcases k with _|_|_|k
 ·exact x_stb (vs:= [.int .i64 v]) h hT ho hd hx hu hi rfl rfl (allOne_cons rfl allOne_nil) (Nat.le_of_ble_eq_true rfl) rfl
 ·exact x_stb (vs:= [.int .i64 v]) h hT ho hd hx hu hi rfl rfl (allOne_cons rfl allOne_nil) (Nat.le_of_ble_eq_true rfl) rfl
 ·exact x_stb (vs:= [.int .i64 v]) h hT ho hd hx hu hi rfl rfl (allOne_cons rfl allOne_nil) (Nat.le_of_ble_eq_true rfl) rfl
 ·omega
end
def wrP (r a b:Int):Bool:=decide (a=r)||decide (b=r)
def wrZ (r:Int)(l:List (Int×Int)):List (Int×Int):=l.filter fun z=> !wrP r z.1 z.2
def inP (lo:List (Int×Int))(a b:Int):Bool:= !(getZ a lo).isSome||decide (b≠(getZ a lo).getD 0)
def inZ (lo l:List (Int×Int)):List (Int×Int):=l.filter fun z=> !inP lo z.1 z.2
def wrI (x:Ins)(l:List (Int×Int)):List (Int×Int):=if 0≤wrG x then wrZ (wrG x) l else l
def behZ (x:Ins)(l:List (Int×Int)):List (Int×Int):=if x.op=2∧x.a≠x.b then wrI x l++ [(x.a,x.b)] else wrI x l
end Go.Proofs.Ytmbfcgpneflbmaa
