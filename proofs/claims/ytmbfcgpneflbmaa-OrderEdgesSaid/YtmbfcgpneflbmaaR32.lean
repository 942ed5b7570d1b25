/- Edges are of locks that there are, each once, rising; a program without orders that take locks has none, and is safe; for every program: the statement holds, under no condition. -/
import Derived.Test.YtmbfcgpneflbmaaQ2
import Derived.ProofKit
import Derived.OpenShut
import Derived.Deep.Slices
import Derived.Carry
import Derived.SizedLaws
namespace Go.Proofs.Ytmbfcgpneflbmaa
open Go.RowKit
set_option linter.unusedSimpArgs false
set_option linter.unusedVariables false
set_option maxRecDepth 100000
set_option maxHeartbeats 4000000
theorem neq_flt (f g:Flt)(w:World):(binOp .neq 30 f.val g.val).run Try.prog w= .ok (.bool (decide (f≠g))) w:=by
 obtain ⟨a,b,c⟩:=f
 obtain ⟨a',b',c'⟩:=g
 simp [binOp,Flt.val,Op.equal,Op.maxDepth,go_sem]
 by_cases h1:a=a' <;>by_cases h2:b=b' <;>by_cases h3:c=c' <;>simp [h1,h2,h3]
theorem neq_fltG (x y:Operand)(f g:Flt)(w:World):(eqGuard .neq 30 x y f.val g.val).run Try.prog w= .ok () w:=by
 simp [eqGuard,Flt.val]
 try kernel_rfl
theorem r_neqS {P:Program}{o:Oper}{N:Nat}{K:Nat→Prop}{W:World}{F:List (Nat×Value)}{L:List Asn}{T U:TypeId}{x y:Operand}{u v:Value}{b:Bool}(ho:o.op= .binOp .neq T x y U)(hx:ev F x=some u)(hy:ev F y=some v)(hg:∀w,(eqGuard .neq T x y u v).run P w= .ok () w)(hb:∀w,(binOp .neq T u v).run P w= .ok (.bool b) w):Rn P o N K W F L (.bool b):=fun a w h=>by
 unfold execOp
 simp only [ho,h.fr.ev hx,h.fr.ev hy,Sem.run_bind,Sem.run_pure,Result.andThen_ok,hg,hb]
theorem take_hund {β:Type}{l:List β}{t:Nat}(h1:t≤l.length)(h2:t≤100)(h3:¬(t<l.length∧t<100)):l.take 100=l.take t:=by
 rcases Nat.lt_or_ge t 100 with h|h
 ·rw [List.take_of_length_le (by omega),List.take_of_length_le (by omega)]
 ·rw [show t=100 by omega]
theorem kvast_c (code:Ls (Ls Ins))(words:Ls Int)(locks regs:Int)(W:World)(hcode:code.At W)(hwords:words.At W):
    Rets Try.prog 20 [.agg #[code.v,words.v, .int .i64 locks, .int .i64 regs]] W (fun v w' =>v= .bool (vastG (code.l.map (·.l)) words.l)∧Sh0 W w' []):=by
 refine gen Try.func20 Try.ntmps20 (Sh0.ext2 hcode hwords:Sh (fun _=>False) W W [.at_ code, .at_ words]) rfl fun a10 h10=>gG h10<|sK fun _ k11=>gbx rfl rfl fun b12=>gRn (oM 1 rfl<|.nl)<|nK k11<|sK fun _ k13=>gNl (aA 1 rfl) fun hl14=>gNl (aA 2 rfl) fun hl15=>gRn (ofB fl_25_0 rfl<|olB 0 ti_22 rfl rfl<|oln sl_22 (aA 1 rfl) rfl<|ofB fl_25_1 rfl<|olB 0 ti_23 rfl rfl<|oln sl_23 (aA 2 rfl) rfl<|oadN _ _ (show code.l.length+words.l.length<9223372036854775808 from (by first|omega|(have:=(hcode.inner t (by omega):(nth code.l t).At W).len;omega))) rfl<|oM 1 rfl<|.nl)<|nK k13<|gK fun _ k16=>sG (oM 1 rfl<|.nl)<|gB<|?_;clear h10
 have hwl:=hwords.len
 have hcl:=hcode.len
 intro a19 w19 h19
 refine x_loop (fun m a w=>∃(n t:Nat),(t≤code.l.length∧t≤100)∧((n:Int)=code.l.length+words.l.length+(((code.l.map (·.l)).take t).map fun s=>(s.length:Int)).sum)∧(n≤(t+2)*140737488355328)∧St 39 (fun _=>False) W a w [(1, .pointer (some ⟨b12,0,none⟩)),(3, .int .i64 ((n:Nat):Int)),(4, .int .i64 ((t:Nat):Int))] [.blk b12 25 [code.v,words.v, .int .i64 locks, .int .i64 regs], .at_ code, .at_ words]∧m=code.l.length-t) ⟨_,code.l.length+words.l.length,0,(by omega),(by simp),(by omega),h19.nf ⟨rfl,rfl,rfl,trivial⟩,rfl⟩ ?_
 clear h19
 rintro m18 a18 w18 ⟨n,t,ht,hn,hn2,h18,hm18⟩
 refine gG h18<|gK fun _ k20=>sK fun _ k21=>gRn (oM 1 rfl<|ofB fl_25_0 rfl<|olB 0 ti_22 rfl rfl<|oln sl_22 (aA 1 rfl) rfl<|oltN _ _ rfl<|oM 1 rfl<|.nl)<|?_;clear h18
 rcases dsp (t<code.l.length) with ⟨hb22,hp22⟩|⟨hb22,hp22⟩
 ·skip
  refine gRn (oG hb22 (r_move rfl rfl) rfl<|oG hb22 (r_lssN (p:=t) (q:=100) rfl rfl rfl) rfl<|opT hb22 rfl<|.nl)<|nK k21<|gcd rfl (fun hb23 hp23=> ?_) fun hb23 hp23=> ?_
  ·skip
   refine gS<|hK k20<|?_
   have hlt:=(hcode.inner t (by omega):(nth code.l t).At W).len
   refine gK fun _ k24=>gB<|gL<|gNl (fun w h=>((h.at 1 rfl).nth t (show t<code.l.length from (by omega)))) fun (hl25:((nth code.l t).l).length≤140737488355328)=>gRn (oM 1 rfl<|ofB fl_25_0 rfl<|olB 0 ti_22 rfl rfl<|oM 1 rfl<|oxN sl_22 ti_45 (aA 1 rfl) _ om9 rfl<|olE ((nth code.l t).v) ti_45 (aA 1 rfl) om9 rfl<|oln (n:=((nth code.l t).l).length) sl_45 (fun w h=>((h.at 1 rfl).nth t (show t<code.l.length from (by omega)))) rfl<|oadN _ _ (show n+(((nth code.l t).l).length)<9223372036854775808 from (by first|omega|(have:=(hcode.inner t (by omega):(nth code.l t).At W).len;omega))) rfl<|oM 1 rfl<|.nl)<|nK k24<|gL<|gRn (oM 1 rfl<|oadN _ 1 (show t+1<9223372036854775808 from (by first|omega|(have:=(hcode.inner t (by omega):(nth code.l t).At W).len;omega))) rfl<|oM 1 rfl<|.nl)<|nN<|fun a26 w26 h26=> ?_
   refine x_again ⟨_, ?_,n+(((nth code.l t).l).length),t+1, ?_, ?_, ?_,h26.nf ⟨rfl,rfl,rfl,trivial⟩,rfl⟩
   · rw [hm18];first|omega|(simp only [lens9];omega)
   · omega
   · rw [take_succ_nth _ _ (by simp;omega),List.map_append,List.sum_append,nth_map' _ _ _ (by omega)];simp only [List.map_cons,List.map_nil,List.sum_cons,List.sum_nil];omega
   · omega
  refine gX<|hK k16<|sK fun _ k27=>gRn (oM 1 rfl<|ogtN _ 5000 rfl<|oM 1 rfl<|.nl)<|?_
  rcases dsp (5000<n) with ⟨hb28,hp28⟩|⟨hb28,hp28⟩
  ·skip
   refine gRn (oKs 4 hb28 rfl rfl<|opT hb28 rfl<|oM 1 rfl<|.nl)<|nK k27<|gR<|fun a29 w29 h29=>x_ret1 (fn:=Try.f20) (t:=2) rfl h29 rfl<|⟨?_,(h29.sh.sel [] rfl)⟩
   congr 1
   have hv:vastG (code.l.map (·.l)) words.l=(decide (5000<n)||decide (100<code.l.length)):=by unfold vastG;rw [take_hund (l:=code.l.map (·.l)) (t:=t) (by simp;omega) (by omega) (by simp;omega),List.length_map];congr 1<;>(rw [decide_eq_decide];omega)
   rw [hv]
   first|(rw [show decide (5000<n)=true by assumption];rfl)|(rw [show decide (5000<n)=false by assumption];rfl)
  refine gRn (oG hb28 (r_fieldB (r:=0) fl_25_0 rfl rfl rfl) rfl<|oG hb28 (r_ldb (i:=0) ti_22 rfl rfl rfl rfl) rfl<|oG hb28 (r_len (s:=code) (n:=code.l.length) sl_22 rfl rfl (fun w h=>(h.at 1 rfl)) rfl) rfl<|oG hb28 (r_gtrN (p:=code.l.length) (q:=100) rfl rfl rfl) rfl<|opF hb28 rfl<|oM 1 rfl<|.nl)<|nK k27<|gR<|fun a30 w30 h30=>x_ret1 (fn:=Try.f20) (t:=2) rfl h30 rfl<|⟨?_,(h30.sh.sel [] rfl)⟩
  congr 1
  have hv:vastG (code.l.map (·.l)) words.l=(decide (5000<n)||decide (100<code.l.length)):=by unfold vastG;rw [take_hund (l:=code.l.map (·.l)) (t:=t) (by simp;omega) (by omega) (by simp;omega),List.length_map];congr 1<;>(rw [decide_eq_decide];omega)
  rw [hv]
  first|(rw [show decide (5000<n)=true by assumption];rfl)|(rw [show decide (5000<n)=false by assumption];rfl)
 refine gRn (oKs 2 hb22 rfl rfl<|opF hb22 rfl<|.nl)<|nK k21<|gcF rfl rfl<|gX<|hK k16<|sK fun _ k31=>gRn (oM 1 rfl<|ogtN _ 5000 rfl<|oM 1 rfl<|.nl)<|?_
 rcases dsp (5000<n) with ⟨hb32,hp32⟩|⟨hb32,hp32⟩
 ·skip
  refine gRn (oKs 4 hb32 rfl rfl<|opT hb32 rfl<|oM 1 rfl<|.nl)<|nK k31<|gR<|fun a33 w33 h33=>x_ret1 (fn:=Try.f20) (t:=2) rfl h33 rfl<|⟨?_,(h33.sh.sel [] rfl)⟩
  congr 1
  have hv:vastG (code.l.map (·.l)) words.l=(decide (5000<n)||decide (100<code.l.length)):=by unfold vastG;rw [take_hund (l:=code.l.map (·.l)) (t:=t) (by simp;omega) (by omega) (by simp;omega),List.length_map];congr 1<;>(rw [decide_eq_decide];omega)
  rw [hv]
  first|(rw [show decide (5000<n)=true by assumption];rfl)|(rw [show decide (5000<n)=false by assumption];rfl)
 refine gRn (oG hb32 (r_fieldB (r:=0) fl_25_0 rfl rfl rfl) rfl<|oG hb32 (r_ldb (i:=0) ti_22 rfl rfl rfl rfl) rfl<|oG hb32 (r_len (s:=code) (n:=code.l.length) sl_22 rfl rfl (fun w h=>(h.at 1 rfl)) rfl) rfl<|oG hb32 (r_gtrN (p:=code.l.length) (q:=100) rfl rfl rfl) rfl<|opF hb32 rfl<|oM 1 rfl<|.nl)<|nK k31<|gR<|fun a34 w34 h34=>x_ret1 (fn:=Try.f20) (t:=2) rfl h34 rfl<|⟨?_,(h34.sh.sel [] rfl)⟩
 congr 1
 have hv:vastG (code.l.map (·.l)) words.l=(decide (5000<n)||decide (100<code.l.length)):=by unfold vastG;rw [take_hund (l:=code.l.map (·.l)) (t:=t) (by simp;omega) (by omega) (by simp;omega),List.length_map];congr 1<;>(rw [decide_eq_decide];omega)
 rw [hv]
 first|(rw [show decide (5000<n)=true by assumption];rfl)|(rw [show decide (5000<n)=false by assumption];rfl)
theorem orderEdges_v (code:Ls (Ls Ins))(words:Ls Int)(locks regs:Int)(W:World)(hcode:code.At W)(hwords:words.At W)(hv:vastG (code.l.map (·.l)) words.l=true):
    Rets Try.prog 6 [.agg #[code.v,words.v, .int .i64 locks, .int .i64 regs]] W (fun v w' =>v= .bool true∧Sh0 W w' []):=by
 refine gen Try.func6 Try.ntmps6 (Sh0.ext2 hcode hwords:Sh (fun _=>False) W W [.at_ code, .at_ words]) rfl fun a10 h10=>gG h10<|sK fun _ k11=>gbx rfl rfl fun b12=>gRn (oM 1 rfl<|.nl)<|nK k11<|sK fun _ k13=>gRn (oV (r_build (cs:= [.int .i64 17, .int .i64 0, .int .i64 0, .int .i64 0]) rfl rfl (by kernel_rfl)) rfl<|oV (r_build (cs:= [.int .i64 17, .int .i64 1, .int .i64 0, .int .i64 0]) rfl rfl (by kernel_rfl)) rfl<|.nl)<|gE1 (fun _ _ h_=>x_lit (n:=2) (cs:= [.int .i64 17, .int .i64 0, .int .i64 0, .int .i64 0, .int .i64 17, .int .i64 1, .int .i64 0, .int .i64 0]) ([(⟨17,0,0,0⟩:Ins),(⟨17,1,0,0⟩:Ins)]:List Ins) h_ sl_45 ti_47 rfl rfl rfl (by decide) rfl (by kernel_rfl) rfl (fun q hq w h=>Flat.inner _ _) (fun q hq b hb=>(Flat.on _ _ hb).elim) rfl rfl) rfl fun v14=>gE1 (fun _ _ h_=>x_litD (E:=0) (x:=(⟨v14, [(⟨17,0,0,0⟩:Ins),(⟨17,1,0,0⟩:Ins)]⟩:Ls Ins)) h_ sl_22 ti_45 rfl rfl rfl ((h_.sh.own 0 rfl)) (fun b hb=>(own_on (h_.sh.ok _ (List.mem_of_getElem? (i:=0) rfl)) hb).elim (fun h=>h) (fun h=>Flat.noRd h)) (fun b hb=>Flat.noRd hb) rfl rfl) rfl fun v15=>gRn (oV (r_buildS (cs:= [v15,(.slice none 0 0), .int .i64 2, .int .i64 1]) rfl rfl (fun w h=>by obtain ⟨A16,n16,c16,(e16:v15=_)⟩:=((h.deep 0 rfl)).form;rw [e16];kernel_rfl)) rfl<|.nl)<|fun a18 w18 h18=> ?_;clear h10
 refine wl_ex (x_call h18 bd_19 rfl rfl rfl rfl rfl (oedges_k (⟨v15, [⟨v14,lk2⟩]⟩:Ls (Ls Ins)) (⟨.slice none 0 0, []⟩:Ls Int) 2 1 _ (h18.sh.deep 0 rfl) (Sh.nilAt (α:=Int) h18.sh) (lk2_ok _ _))) (wanted_none rfl _) ?_
 rintro a19 w19 ⟨_,⟨u19,rfl,huo19,hum19,hs19⟩,hf19⟩
 obtain ⟨hlit1,hlit2⟩:=lk2_edges huo19 hum19
 have h19:=(⟨hf19,h18.sh.call hs19 (by intro A hA b hb;first|(simp at hA;done)|(simp at hA;subst hA;first|exact Flat.noRd hb|exact (hb:False).elim)|(simp at hA;rcases hA with rfl|rfl<;>first|exact Flat.noRd hb|exact (hb:False).elim))⟩:St 175 (fun _=>False) W a19 w19 _ _)
 clear hf19 hs19
 clear h18
 refine gG h19<|gRn (oM 1 rfl<|oxt rfl<|oxt rfl<|.nl)<|gal ti_30 rfl fun b20=>gRn (oM 1 rfl<|.nl)<|gsw 0 ti_30 rfl rfl rfl<|nK k13<|gK fun _ k22=>sK fun _ k23=>gNl (aO 1 rfl) fun hl24=>gRn (ofB fl_30_0 rfl<|olB 0 ti_28 rfl rfl<|oneN 0 0 rfl<|oM 1 rfl<|oG (by decide) (r_move rfl rfl) rfl<|oG (by decide) (r_len (s:=u19) (n:=u19.l.length) sl_54 rfl rfl (fun w h=>(h.own 1 rfl)) rfl) rfl<|oG (by decide) (r_neqN (p:=u19.l.length) (q:=1) rfl rfl rfl) rfl<|opF (by decide) rfl<|oM 1 rfl<|oG (decide_eq_false (fun h=>h hlit1)) (r_move rfl rfl) rfl<|oG (decide_eq_false (fun h=>h hlit1)) (r_ixN (s:=u19) (q:=0) sl_54 ti_57 rfl rfl rfl (fun w h=>(h.own 1 rfl)) (show 0<u19.l.length from om9)) rfl<|oG (decide_eq_false (fun h=>h hlit1)) (r_ldew (s:=u19) (i:=0) (vs:= [.int .i64 ((nth u19.l 0).a), .int .i64 ((nth u19.l 0).b)]) ti_57 rfl rfl rfl (fun w h=>(h.own 1 rfl)) (show 0<u19.l.length from om9) (Nat.le_of_ble_eq_true rfl) rfl) rfl<|oG (decide_eq_false (fun h=>h hlit1)) (r_build (cs:= [.int .i64 0, .int .i64 1]) rfl rfl (by kernel_rfl)) rfl<|oG (decide_eq_false (fun h=>h hlit1)) (r_neqP (nth u19.l 0) (⟨0,1⟩) ar_57 ti_3 Try.underlying3 (by kernel_rfl) rfl rfl rfl) rfl<|opF (decide_eq_false (fun h=>h hlit1)) rfl<|.nl)<|nK k23<|gF [1,4,36] rfl<|gcF rfl (by rw [hlit2];rfl)<|gS<|hK k22<|gK fun _ k25=>sK fun _ k26=>gRn (olw 3 ti_25 rfl rfl<|.nl)<|gC (fun _ _ h_=>xCl h_ bd_20 rfl (kvast_c code words locks regs _ (h_.sh.at 4 rfl) (h_.sh.at 5 rfl))) rfl<|?_;clear h19
 rintro _ _ w27 ⟨rfl,hs27⟩
 refine gWk hs27 rfl<|gU<|nK k26<|gcT rfl hv<|sG (oM 1 rfl<|.nl)<|gR<|uT<|fun a29 w29 h29=> ?_;clear hs27
 refine x_ret1 (fn:=Try.f6) (t:=2) rfl h29 rfl ?_
 exact ⟨rfl,(h29.sh.sel [] rfl)⟩
theorem orderEdges_k (code:Ls (Ls Ins))(words:Ls Int)(locks regs:Int)(W:World)(hcode:code.At W)(hwords:words.At W)(hv:vastG (code.l.map (·.l)) words.l=false)(hok:OkPg (pgOf code words locks regs)):
    Rets Try.prog 6 [.agg #[code.v,words.v, .int .i64 locks, .int .i64 regs]] W (fun v w' =>v= .bool true∧Sh0 W w' []):=by
 have hz:=checkG_ok hok
 obtain ⟨hl1,hl2,hl3,hl4',hl5,hl6,hl7⟩:=ok_len hok
 refine gen Try.func6 Try.ntmps6 (Sh0.ext2 hcode hwords:Sh (fun _=>False) W W [.at_ code, .at_ words]) rfl fun a10 h10=>gG h10<|sK fun _ k11=>gbx rfl rfl fun b12=>gRn (oM 1 rfl<|.nl)<|nK k11<|sK fun _ k13=>gRn (oV (r_build (cs:= [.int .i64 17, .int .i64 0, .int .i64 0, .int .i64 0]) rfl rfl (by kernel_rfl)) rfl<|oV (r_build (cs:= [.int .i64 17, .int .i64 1, .int .i64 0, .int .i64 0]) rfl rfl (by kernel_rfl)) rfl<|.nl)<|gE1 (fun _ _ h_=>x_lit (n:=2) (cs:= [.int .i64 17, .int .i64 0, .int .i64 0, .int .i64 0, .int .i64 17, .int .i64 1, .int .i64 0, .int .i64 0]) ([(⟨17,0,0,0⟩:Ins),(⟨17,1,0,0⟩:Ins)]:List Ins) h_ sl_45 ti_47 rfl rfl rfl (by decide) rfl (by kernel_rfl) rfl (fun q hq w h=>Flat.inner _ _) (fun q hq b hb=>(Flat.on _ _ hb).elim) rfl rfl) rfl fun v14=>gE1 (fun _ _ h_=>x_litD (E:=0) (x:=(⟨v14, [(⟨17,0,0,0⟩:Ins),(⟨17,1,0,0⟩:Ins)]⟩:Ls Ins)) h_ sl_22 ti_45 rfl rfl rfl ((h_.sh.own 0 rfl)) (fun b hb=>(own_on (h_.sh.ok _ (List.mem_of_getElem? (i:=0) rfl)) hb).elim (fun h=>h) (fun h=>Flat.noRd h)) (fun b hb=>Flat.noRd hb) rfl rfl) rfl fun v15=>gRn (oV (r_buildS (cs:= [v15,(.slice none 0 0), .int .i64 2, .int .i64 1]) rfl rfl (fun w h=>by obtain ⟨A16,n16,c16,(e16:v15=_)⟩:=((h.deep 0 rfl)).form;rw [e16];kernel_rfl)) rfl<|.nl)<|fun a18 w18 h18=> ?_;clear h10
 refine wl_ex (x_call h18 bd_19 rfl rfl rfl rfl rfl (oedges_k (⟨v15, [⟨v14,lk2⟩]⟩:Ls (Ls Ins)) (⟨.slice none 0 0, []⟩:Ls Int) 2 1 _ (h18.sh.deep 0 rfl) (Sh.nilAt (α:=Int) h18.sh) (lk2_ok _ _))) (wanted_none rfl _) ?_
 rintro a19 w19 ⟨_,⟨u19,rfl,huo19,hum19,hs19⟩,hf19⟩
 obtain ⟨hlit1,hlit2⟩:=lk2_edges huo19 hum19
 have h19:=(⟨hf19,h18.sh.call hs19 (by intro A hA b hb;first|(simp at hA;done)|(simp at hA;subst hA;first|exact Flat.noRd hb|exact (hb:False).elim)|(simp at hA;rcases hA with rfl|rfl<;>first|exact Flat.noRd hb|exact (hb:False).elim))⟩:St 175 (fun _=>False) W a19 w19 _ _)
 clear hf19 hs19
 clear h18
 refine gG h19<|gRn (oM 1 rfl<|oxt rfl<|oxt rfl<|.nl)<|gal ti_30 rfl fun b20=>gRn (oM 1 rfl<|.nl)<|gsw 0 ti_30 rfl rfl rfl<|nK k13<|gK fun _ k22=>sK fun _ k23=>gNl (aO 1 rfl) fun hl24=>gRn (ofB fl_30_0 rfl<|olB 0 ti_28 rfl rfl<|oneN 0 0 rfl<|oM 1 rfl<|oG (by decide) (r_move rfl rfl) rfl<|oG (by decide) (r_len (s:=u19) (n:=u19.l.length) sl_54 rfl rfl (fun w h=>(h.own 1 rfl)) rfl) rfl<|oG (by decide) (r_neqN (p:=u19.l.length) (q:=1) rfl rfl rfl) rfl<|opF (by decide) rfl<|oM 1 rfl<|oG (decide_eq_false (fun h=>h hlit1)) (r_move rfl rfl) rfl<|oG (decide_eq_false (fun h=>h hlit1)) (r_ixN (s:=u19) (q:=0) sl_54 ti_57 rfl rfl rfl (fun w h=>(h.own 1 rfl)) (show 0<u19.l.length from om9)) rfl<|oG (decide_eq_false (fun h=>h hlit1)) (r_ldew (s:=u19) (i:=0) (vs:= [.int .i64 ((nth u19.l 0).a), .int .i64 ((nth u19.l 0).b)]) ti_57 rfl rfl rfl (fun w h=>(h.own 1 rfl)) (show 0<u19.l.length from om9) (Nat.le_of_ble_eq_true rfl) rfl) rfl<|oG (decide_eq_false (fun h=>h hlit1)) (r_build (cs:= [.int .i64 0, .int .i64 1]) rfl rfl (by kernel_rfl)) rfl<|oG (decide_eq_false (fun h=>h hlit1)) (r_neqP (nth u19.l 0) (⟨0,1⟩) ar_57 ti_3 Try.underlying3 (by kernel_rfl) rfl rfl rfl) rfl<|opF (decide_eq_false (fun h=>h hlit1)) rfl<|.nl)<|nK k23<|gF [1,4,36] rfl<|gcF rfl (by rw [hlit2];rfl)<|gS<|hK k22<|gK fun _ k25=>sK fun _ k26=>gRn (olw 3 ti_25 rfl rfl<|.nl)<|gC (fun _ _ h_=>xCl h_ bd_20 rfl (kvast_c code words locks regs _ (h_.sh.at 4 rfl) (h_.sh.at 5 rfl))) rfl<|?_;clear h19
 rintro _ _ w27 ⟨rfl,hs27⟩
 refine gWk hs27 rfl<|gU<|nK k26<|gcF rfl hv<|gS<|hK k25<|sK fun _ k28=>gRn (olw 3 ti_25 rfl rfl<|.nl)<|fun a30 w30 h30=> ?_;clear hs27
 refine wl_ex (x_call h30 bd_19 rfl rfl rfl rfl rfl (oedges_k code words locks regs _ (h30.sh.at 4 rfl) (h30.sh.at 5 rfl) hok)) (wanted_none rfl _) ?_
 rintro a31 w31 ⟨_,⟨u31,rfl,huo31,hum31,hs31⟩,hf31⟩
 have h31:=(⟨hf31,h30.sh.call hs31 (by intro A hA b hb;first|(simp at hA;done)|(simp at hA;subst hA;first|exact Flat.noRd hb|exact (hb:False).elim)|(simp at hA;rcases hA with rfl|rfl<;>first|exact Flat.noRd hb|exact (hb:False).elim))⟩:St 175 (fun _=>False) W a31 w31 _ _)
 clear hf31 hs31
 clear h30
 refine gG h31<|gRn (oM 1 rfl<|oxt rfl<|oxt rfl<|oM 1 rfl<|.nl)<|gsw 1 ti_30 rfl rfl rfl<|nK k28<|sK fun _ k33=>gRn (olw 4 ti_25 rfl rfl<|.nl)<|gC (fun _ _ h_=>xCl h_ bd_17 rfl (osafe_k code words locks regs _ (h_.sh.at 5 rfl) (h_.sh.at 6 rfl) hok)) rfl<|?_;clear h31
 rintro _ _ w34 ⟨b34,rfl,hb34,hs34⟩
 refine gWk hs34 rfl<|gU<|gRn (oM 1 rfl<|oxt rfl<|oxt rfl<|.nl)<|gal ti_30 rfl fun b35=>gRn (oM 1 rfl<|.nl)<|gsw 0 ti_30 rfl rfl rfl<|nK k33<|gK fun _ k37=>sG (olw 2 ti_30 rfl rfl<|olw 0 ti_30 rfl rfl<|oV (r_neqS rfl rfl rfl (fun w=>neq_fltG _ _ ⟨0,0,0⟩ ⟨0,0,0⟩ w) (fun w=>neq_flt ⟨0,0,0⟩ ⟨0,0,0⟩ w)) rfl<|.nl)<|gcF rfl (decide_eq_false (fun h=>h rfl))<|gS<|hK k37<|gK fun _ k39=>sG (ofB fl_30_0 rfl<|olB 2 ti_28 rfl rfl<|oneN 0 0 rfl<|.nl)<|gcF rfl (by decide)<|gS<|hK k39<|gK fun _ k41=>sG (oM 1 rfl<|.nl)<|gB<|fun a44 w44 h44=> ?_;clear hs34
 refine x_loop (fun m a w=>∃(i:Nat),(i≤u31.l.length)∧St 175 (fun _=>False) W a w [(1, .pointer (some ⟨b12,0,none⟩)),(3,u31.v),(5, .bool b34),(7, .int .i64 ((i:Nat):Int))] [.blk b35 30 [.int .i64 0, .int .i64 0, .int .i64 0], .own 57 u31, .blk b20 30 [.int .i64 0, .int .i64 0, .int .i64 0], .own 57 u19, .deep 45 (⟨v15, [(⟨v14, [(⟨17,0,0,0⟩:Ins),(⟨17,1,0,0⟩:Ins)]⟩:Ls Ins)]⟩:Ls (Ls Ins)), .blk b12 25 [code.v,words.v, .int .i64 locks, .int .i64 regs], .at_ code, .at_ words]∧m=u31.l.length-i) ⟨_,0,(Nat.zero_le _),h44.nf ⟨rfl,rfl,rfl,rfl,trivial⟩,rfl⟩ ?_
 clear h44
 rintro m43 a43 w43 ⟨i,hi,h43,hm43⟩
 refine gG h43<|gK fun _ k45=>sK fun _ k46=>gNl (aO 1 rfl) fun hl47=>gRn (oM 2 rfl<|oln sl_54 (aO 1 rfl) rfl<|oltN _ _ rfl<|.nl)<|nK k46<|?_;clear h43
 refine gcd rfl (fun hb48 hp48=> ?_) fun hb48 hp48=> ?_
 ·skip
  refine gS<|hK k45<|gK fun _ k49=>gB<|sG (oM 2 rfl<|oxN sl_54 ti_57 (aO 1 rfl) _ om9 rfl<|oV (r_ixArE (q:=0) ar_57 ti_3 rfl rfl rfl rfl (show 0<2 from by decide)) rfl<|olI ti_3 (aO 1 rfl) om9 rfl<|oM 1 rfl<|.nl)<|?_
  have hem:=(hum31 _).1 (nth_mem u31.l i (by omega))
  have hin:=edges_lt hok hem
  have hri:=fun h0=>rising huo31 (i:=i) h0 (by omega)
  have hse:b34=true→(nth u31.l i).a=(nth u31.l i).b→False:=fun h1=>safe_self ((hb34).1 h1) hem
  refine sG (oM 2 rfl<|oxN sl_54 ti_57 (aO 1 rfl) _ om9 rfl<|oV (r_ixArE (q:=1) ar_57 ti_3 rfl rfl rfl rfl (show 1<2 from by decide)) rfl<|olI ti_3 (aO 1 rfl) om9 rfl<|oM 1 rfl<|.nl)<|gK fun _ k52=>sK fun _ k53=>gRn (oM 1 rfl<|oltI _ _ rfl<|oM 1 rfl<|oG (decide_eq_false (by omega)) (r_move rfl rfl) rfl<|oG (decide_eq_false (by omega)) (r_lssI (p:=(nth u31.l i).b) (q:=0) rfl rfl rfl) rfl<|opF (decide_eq_false (by omega)) rfl<|oM 1 rfl<|oG (decide_eq_false (by omega)) (r_move rfl rfl) rfl<|oG (decide_eq_false (by omega)) (r_fieldB (r:=2) fl_25_2 rfl rfl rfl) rfl<|oG (decide_eq_false (by omega)) (r_ldb (i:=5) ti_3 rfl rfl rfl rfl) rfl<|oG (decide_eq_false (by omega)) (r_geqI (p:=(nth u31.l i).a) (q:=locks) rfl rfl rfl) rfl<|opF (decide_eq_false (by omega)) rfl<|oM 1 rfl<|oG (decide_eq_false (by omega)) (r_move rfl rfl) rfl<|oG (decide_eq_false (by omega)) (r_fieldB (r:=2) fl_25_2 rfl rfl rfl) rfl<|oG (decide_eq_false (by omega)) (r_ldb (i:=5) ti_3 rfl rfl rfl rfl) rfl<|oG (decide_eq_false (by omega)) (r_geqI (p:=(nth u31.l i).b) (q:=locks) rfl rfl rfl) rfl<|opF (decide_eq_false (by omega)) rfl<|oM 1 rfl<|oG (decide_eq_false (by omega)) (r_move rfl rfl) rfl<|oG (decide_eq_false (by omega)) (r_move rfl rfl) rfl<|.nl)<|?_
  rcases Bool.eq_false_or_eq_true b34 with hb54|hb54
  ·skip
   refine gRn (oG hb54 (r_move rfl rfl) rfl<|oG hb54 (r_move rfl rfl) rfl<|oG hb54 (r_eqlI (p:=(nth u31.l i).a) (q:=(nth u31.l i).b) rfl rfl rfl) rfl<|oG (decide_eq_false (by omega)) (r_pickT rfl rfl hb54 rfl) rfl<|opF (decide_eq_false (by omega)) rfl<|.nl)<|nK k53<|gF [1,3,5,7,8,9,103] rfl<|gcd rfl (fun hb55 hp55=> ?_) fun hb55 hp55=> ?_
   ·skip
    refine sG (oM 1 rfl<|.nl)<|gR<|uT<|uB<|uT<|uT<|uB<|uT<|fun a57 w57 h57=>x_ret1 (fn:=Try.f6) (t:=2) rfl h57 rfl ?_
    exfalso
    first|exact hse (by assumption) (by first|assumption|omega)|exact (hri (by omega)).1 (by omega)|exact (hri (by omega)).2 (by omega) (by omega)|exact absurd (hb34.2 (no_lock (code:=code.l) fun t2 h2=>htk (by assumption) t2 (by omega)).1) (by rw [(by assumption:b34=false)];decide)
   refine gS<|hK k52<|sK fun _ k58=>gRn (oM 1 rfl<|ogtN _ 0 rfl<|oM 1 rfl<|.nl)<|?_
   rcases dsp (0<i) with ⟨hb59,hp59⟩|⟨hb59,hp59⟩
   ·skip
    refine gRn (oG hb59 (r_move rfl rfl) rfl<|oG hb59 (r_move rfl rfl) rfl<|oG hb59 (r_subN (p:=i) (q:=1) rfl rfl rfl (show 1≤i∧i<9223372036854775808 from om9)) rfl<|oG hb59 (r_ixN (s:=u31) (q:=i-1) sl_54 ti_57 rfl rfl rfl (fun w h=>(h.own 1 rfl)) (show i-1<u31.l.length from om9)) rfl<|oG hb59 (r_ixArE (q:=0) ar_57 ti_3 rfl rfl rfl rfl (show 0<2 from by decide)) rfl<|oG hb59 (r_lde (s:=u31) (i:=i-1) (v:= .int .i64 ((nth u31.l (i-1)).a)) ti_3 rfl rfl rfl (fun w h=>(h.own 1 rfl)) (show i-1<u31.l.length from om9) (Nat.le_of_ble_eq_true rfl) rfl) rfl<|oG hb59 (r_move rfl rfl) rfl<|oG hb59 (r_gtrI (p:=(nth u31.l (i-1)).a) (q:=(nth u31.l i).a) rfl rfl rfl) rfl<|oG hb59 (r_move rfl rfl) rfl<|.nl)<|?_
    rcases dsp ((nth u31.l i).a<(nth u31.l (i-1)).a) with ⟨hb60,hp60⟩|⟨hb60,hp60⟩
    ·skip
     refine gRn (oKs 9 hb60 rfl rfl<|oK2 rfl<|oK2 rfl<|oK2 rfl<|oK2 rfl<|oK2 rfl<|oK2 rfl<|oK2 rfl<|oK2 rfl<|oK hb60 rfl<|oG hb59 (r_pickT rfl rfl hb60 rfl) rfl<|opT hb59 rfl<|.nl)<|nK k58<|gF [1,3,5,7,135] rfl<|gcT rfl rfl<|sG (oM 1 rfl<|.nl)<|gR<|uB<|uT<|uT<|uB<|uT<|fun a62 w62 h62=>x_ret1 (fn:=Try.f6) (t:=2) rfl h62 rfl ?_
     exfalso
     first|exact hse (by assumption) (by first|assumption|omega)|exact (hri (by omega)).1 (by omega)|exact (hri (by omega)).2 (by omega) (by omega)|exact absurd (hb34.2 (no_lock (code:=code.l) fun t2 h2=>htk (by assumption) t2 (by omega)).1) (by rw [(by assumption:b34=false)];decide)
    refine gRn (oG hb60 (r_move rfl rfl) rfl<|oG hb60 (r_move rfl rfl) rfl<|oG hb60 (r_subN (p:=i) (q:=1) rfl rfl rfl (show 1≤i∧i<9223372036854775808 from om9)) rfl<|oG hb60 (r_ixN (s:=u31) (q:=i-1) sl_54 ti_57 rfl rfl rfl (fun w h=>(h.own 1 rfl)) (show i-1<u31.l.length from om9)) rfl<|oG hb60 (r_ixArE (q:=0) ar_57 ti_3 rfl rfl rfl rfl (show 0<2 from by decide)) rfl<|oG hb60 (r_lde (s:=u31) (i:=i-1) (v:= .int .i64 ((nth u31.l (i-1)).a)) ti_3 rfl rfl rfl (fun w h=>(h.own 1 rfl)) (show i-1<u31.l.length from om9) (Nat.le_of_ble_eq_true rfl) rfl) rfl<|oG hb60 (r_move rfl rfl) rfl<|oG hb60 (r_eqlI (p:=(nth u31.l (i-1)).a) (q:=(nth u31.l i).a) rfl rfl rfl) rfl<|oG hb60 (r_move rfl rfl) rfl<|.nl)<|?_
    rcases dsp ((nth u31.l (i-1)).a=(nth u31.l i).a) with ⟨hb63,hp63⟩|⟨hb63,hp63⟩
    ·skip
     refine gRn (oG hb63 (r_move rfl rfl) rfl<|oG hb63 (r_move rfl rfl) rfl<|oG hb63 (r_subN (p:=i) (q:=1) rfl rfl rfl (show 1≤i∧i<9223372036854775808 from om9)) rfl<|oG hb63 (r_ixN (s:=u31) (q:=i-1) sl_54 ti_57 rfl rfl rfl (fun w h=>(h.own 1 rfl)) (show i-1<u31.l.length from om9)) rfl<|oG hb63 (r_ixArE (q:=1) ar_57 ti_3 rfl rfl rfl rfl (show 1<2 from by decide)) rfl<|oG hb63 (r_lde (s:=u31) (i:=i-1) (v:= .int .i64 ((nth u31.l (i-1)).b)) ti_3 rfl rfl rfl (fun w h=>(h.own 1 rfl)) (show i-1<u31.l.length from om9) (Nat.le_of_ble_eq_true rfl) rfl) rfl<|oG hb63 (r_move rfl rfl) rfl<|oG hb63 (r_geqI (p:=(nth u31.l (i-1)).b) (q:=(nth u31.l i).b) rfl rfl rfl) rfl<|oG hb60 (r_pickT rfl rfl hb63 rfl) rfl<|oG hb59 (r_pickF rfl rfl hb60 rfl) rfl<|opT hb59 rfl<|.nl)<|nK k58<|gF [1,3,5,7,135] rfl<|gcd rfl (fun hb64 hp64=> ?_) fun hb64 hp64=> ?_
     ·skip
      refine sG (oM 1 rfl<|.nl)<|gR<|uB<|uT<|uT<|uB<|uT<|fun a66 w66 h66=>x_ret1 (fn:=Try.f6) (t:=2) rfl h66 rfl ?_
      exfalso
      first|exact hse (by assumption) (by first|assumption|omega)|exact (hri (by omega)).1 (by omega)|exact (hri (by omega)).2 (by omega) (by omega)|exact absurd (hb34.2 (no_lock (code:=code.l) fun t2 h2=>htk (by assumption) t2 (by omega)).1) (by rw [(by assumption:b34=false)];decide)
     refine gS<|hK k49<|gL<|gRn (oM 1 rfl<|oadN _ 1 om9 rfl<|oM 1 rfl<|.nl)<|nN<|fun a67 w67 h67=>x_again ⟨_, ?_,i+1, ?_,h67.nf ⟨rfl,rfl,rfl,rfl,trivial⟩,rfl⟩
     · rw [hm43];first|omega|(simp only [lens9];omega)
     · omega
    refine gRn (oKs 8 hb63 rfl rfl<|oG hb60 (r_pickF rfl rfl hb63 rfl) rfl<|oG hb59 (r_pickF rfl rfl hb60 rfl) rfl<|opT hb59 rfl<|.nl)<|nK k58<|gF [1,3,5,7,135] rfl<|gcF rfl rfl<|gS<|hK k49<|gL<|gRn (oM 1 rfl<|oadN _ 1 om9 rfl<|oM 1 rfl<|.nl)<|nN<|fun a68 w68 h68=>x_again ⟨_, ?_,i+1, ?_,h68.nf ⟨rfl,rfl,rfl,rfl,trivial⟩,rfl⟩
    · rw [hm43];first|omega|(simp only [lens9];omega)
    · omega
   refine gRn (oKs 9 hb59 rfl rfl<|oK2 rfl<|oK2 rfl<|oK2 rfl<|oK2 rfl<|oK2 rfl<|oK2 rfl<|oK2 rfl<|oK2 rfl<|oK2 rfl<|oK2 rfl<|oK2 rfl<|oK2 rfl<|oK2 rfl<|oK2 rfl<|oK2 rfl<|oK2 rfl<|oK2 rfl<|oK2 rfl<|oK hb59 rfl<|opF hb59 rfl<|.nl)<|nK k58<|gF [1,3,5,7,135] rfl<|gcF rfl rfl<|gS<|hK k49<|gL<|gRn (oM 1 rfl<|oadN _ 1 om9 rfl<|oM 1 rfl<|.nl)<|nN<|fun a69 w69 h69=>x_again ⟨_, ?_,i+1, ?_,h69.nf ⟨rfl,rfl,rfl,rfl,trivial⟩,rfl⟩
   · rw [hm43];first|omega|(simp only [lens9];omega)
   · omega
  refine gRn (oKs 3 hb54 rfl rfl<|oG (decide_eq_false (by omega)) (r_pickF rfl rfl hb54 rfl) rfl<|opF (decide_eq_false (by omega)) rfl<|.nl)<|nK k53<|gF [1,3,5,7,8,9,103] rfl<|gcF rfl rfl<|gS<|hK k52<|sK fun _ k70=>gRn (oM 1 rfl<|ogtN _ 0 rfl<|oM 1 rfl<|.nl)<|?_
  rcases dsp (0<i) with ⟨hb71,hp71⟩|⟨hb71,hp71⟩
  ·skip
   refine gRn (oG hb71 (r_move rfl rfl) rfl<|oG hb71 (r_move rfl rfl) rfl<|oG hb71 (r_subN (p:=i) (q:=1) rfl rfl rfl (show 1≤i∧i<9223372036854775808 from om9)) rfl<|oG hb71 (r_ixN (s:=u31) (q:=i-1) sl_54 ti_57 rfl rfl rfl (fun w h=>(h.own 1 rfl)) (show i-1<u31.l.length from om9)) rfl<|oG hb71 (r_ixArE (q:=0) ar_57 ti_3 rfl rfl rfl rfl (show 0<2 from by decide)) rfl<|oG hb71 (r_lde (s:=u31) (i:=i-1) (v:= .int .i64 ((nth u31.l (i-1)).a)) ti_3 rfl rfl rfl (fun w h=>(h.own 1 rfl)) (show i-1<u31.l.length from om9) (Nat.le_of_ble_eq_true rfl) rfl) rfl<|oG hb71 (r_move rfl rfl) rfl<|oG hb71 (r_gtrI (p:=(nth u31.l (i-1)).a) (q:=(nth u31.l i).a) rfl rfl rfl) rfl<|oG hb71 (r_move rfl rfl) rfl<|.nl)<|?_
   rcases dsp ((nth u31.l i).a<(nth u31.l (i-1)).a) with ⟨hb72,hp72⟩|⟨hb72,hp72⟩
   ·skip
    refine gRn (oKs 9 hb72 rfl rfl<|oK2 rfl<|oK2 rfl<|oK2 rfl<|oK2 rfl<|oK2 rfl<|oK2 rfl<|oK2 rfl<|oK2 rfl<|oK hb72 rfl<|oG hb71 (r_pickT rfl rfl hb72 rfl) rfl<|opT hb71 rfl<|.nl)<|nK k70<|gF [1,3,5,7,135] rfl<|gcT rfl rfl<|sG (oM 1 rfl<|.nl)<|gR<|uB<|uT<|uT<|uB<|uT<|fun a74 w74 h74=>x_ret1 (fn:=Try.f6) (t:=2) rfl h74 rfl ?_
    exfalso
    first|exact hse (by assumption) (by first|assumption|omega)|exact (hri (by omega)).1 (by omega)|exact (hri (by omega)).2 (by omega) (by omega)|exact absurd (hb34.2 (no_lock (code:=code.l) fun t2 h2=>htk (by assumption) t2 (by omega)).1) (by rw [(by assumption:b34=false)];decide)
   refine gRn (oG hb72 (r_move rfl rfl) rfl<|oG hb72 (r_move rfl rfl) rfl<|oG hb72 (r_subN (p:=i) (q:=1) rfl rfl rfl (show 1≤i∧i<9223372036854775808 from om9)) rfl<|oG hb72 (r_ixN (s:=u31) (q:=i-1) sl_54 ti_57 rfl rfl rfl (fun w h=>(h.own 1 rfl)) (show i-1<u31.l.length from om9)) rfl<|oG hb72 (r_ixArE (q:=0) ar_57 ti_3 rfl rfl rfl rfl (show 0<2 from by decide)) rfl<|oG hb72 (r_lde (s:=u31) (i:=i-1) (v:= .int .i64 ((nth u31.l (i-1)).a)) ti_3 rfl rfl rfl (fun w h=>(h.own 1 rfl)) (show i-1<u31.l.length from om9) (Nat.le_of_ble_eq_true rfl) rfl) rfl<|oG hb72 (r_move rfl rfl) rfl<|oG hb72 (r_eqlI (p:=(nth u31.l (i-1)).a) (q:=(nth u31.l i).a) rfl rfl rfl) rfl<|oG hb72 (r_move rfl rfl) rfl<|.nl)<|?_
   rcases dsp ((nth u31.l (i-1)).a=(nth u31.l i).a) with ⟨hb75,hp75⟩|⟨hb75,hp75⟩
   ·skip
    refine gRn (oG hb75 (r_move rfl rfl) rfl<|oG hb75 (r_move rfl rfl) rfl<|oG hb75 (r_subN (p:=i) (q:=1) rfl rfl rfl (show 1≤i∧i<9223372036854775808 from om9)) rfl<|oG hb75 (r_ixN (s:=u31) (q:=i-1) sl_54 ti_57 rfl rfl rfl (fun w h=>(h.own 1 rfl)) (show i-1<u31.l.length from om9)) rfl<|oG hb75 (r_ixArE (q:=1) ar_57 ti_3 rfl rfl rfl rfl (show 1<2 from by decide)) rfl<|oG hb75 (r_lde (s:=u31) (i:=i-1) (v:= .int .i64 ((nth u31.l (i-1)).b)) ti_3 rfl rfl rfl (fun w h=>(h.own 1 rfl)) (show i-1<u31.l.length from om9) (Nat.le_of_ble_eq_true rfl) rfl) rfl<|oG hb75 (r_move rfl rfl) rfl<|oG hb75 (r_geqI (p:=(nth u31.l (i-1)).b) (q:=(nth u31.l i).b) rfl rfl rfl) rfl<|oG hb72 (r_pickT rfl rfl hb75 rfl) rfl<|oG hb71 (r_pickF rfl rfl hb72 rfl) rfl<|opT hb71 rfl<|.nl)<|nK k70<|gF [1,3,5,7,135] rfl<|gcd rfl (fun hb76 hp76=> ?_) fun hb76 hp76=> ?_
    ·skip
     refine sG (oM 1 rfl<|.nl)<|gR<|uB<|uT<|uT<|uB<|uT<|fun a78 w78 h78=>x_ret1 (fn:=Try.f6) (t:=2) rfl h78 rfl ?_
     exfalso
     first|exact hse (by assumption) (by first|assumption|omega)|exact (hri (by omega)).1 (by omega)|exact (hri (by omega)).2 (by omega) (by omega)|exact absurd (hb34.2 (no_lock (code:=code.l) fun t2 h2=>htk (by assumption) t2 (by omega)).1) (by rw [(by assumption:b34=false)];decide)
    refine gS<|hK k49<|gL<|gRn (oM 1 rfl<|oadN _ 1 om9 rfl<|oM 1 rfl<|.nl)<|nN<|fun a79 w79 h79=>x_again ⟨_, ?_,i+1, ?_,h79.nf ⟨rfl,rfl,rfl,rfl,trivial⟩,rfl⟩
    · rw [hm43];first|omega|(simp only [lens9];omega)
    · omega
   refine gRn (oKs 8 hb75 rfl rfl<|oG hb72 (r_pickF rfl rfl hb75 rfl) rfl<|oG hb71 (r_pickF rfl rfl hb72 rfl) rfl<|opT hb71 rfl<|.nl)<|nK k70<|gF [1,3,5,7,135] rfl<|gcF rfl rfl<|gS<|hK k49<|gL<|gRn (oM 1 rfl<|oadN _ 1 om9 rfl<|oM 1 rfl<|.nl)<|nN<|fun a80 w80 h80=>x_again ⟨_, ?_,i+1, ?_,h80.nf ⟨rfl,rfl,rfl,rfl,trivial⟩,rfl⟩
   · rw [hm43];first|omega|(simp only [lens9];omega)
   · omega
  refine gRn (oKs 9 hb71 rfl rfl<|oK2 rfl<|oK2 rfl<|oK2 rfl<|oK2 rfl<|oK2 rfl<|oK2 rfl<|oK2 rfl<|oK2 rfl<|oK2 rfl<|oK2 rfl<|oK2 rfl<|oK2 rfl<|oK2 rfl<|oK2 rfl<|oK2 rfl<|oK2 rfl<|oK2 rfl<|oK2 rfl<|oK hb71 rfl<|opF hb71 rfl<|.nl)<|nK k70<|gF [1,3,5,7,135] rfl<|gcF rfl rfl<|gS<|hK k49<|gL<|gRn (oM 1 rfl<|oadN _ 1 om9 rfl<|oM 1 rfl<|.nl)<|nN<|fun a81 w81 h81=>x_again ⟨_, ?_,i+1, ?_,h81.nf ⟨rfl,rfl,rfl,rfl,trivial⟩,rfl⟩
  · rw [hm43];first|omega|(simp only [lens9];omega)
  · omega
 refine gX<|hK k41<|sG (oM 1 rfl<|.nl)<|gK fun _ k83=>sG (oM 1 rfl<|.nl)<|gB<|fun a86 w86 h86=>x_loop (fun m a w=>∃(t:Nat) (tk:Bool),(t≤code.l.length)∧(tk=false→∀t2,t2<t→∀i,i<(nth code.l t2).l.length→¬(nth (nth code.l t2).l i).op=17)∧St 175 (fun _=>False) W a w [(1, .pointer (some ⟨b12,0,none⟩)),(3,u31.v),(5, .bool b34),(10, .bool tk),(11, .int .i64 ((t:Nat):Int))] [.blk b35 30 [.int .i64 0, .int .i64 0, .int .i64 0], .own 57 u31, .blk b20 30 [.int .i64 0, .int .i64 0, .int .i64 0], .own 57 u19, .deep 45 (⟨v15, [(⟨v14, [(⟨17,0,0,0⟩:Ins),(⟨17,1,0,0⟩:Ins)]⟩:Ls Ins)]⟩:Ls (Ls Ins)), .blk b12 25 [code.v,words.v, .int .i64 locks, .int .i64 regs], .at_ code, .at_ words]∧m=code.l.length-t) ⟨_,0,false,(Nat.zero_le _),(fun _ t2 h2=>absurd h2 (by omega)),h86.nf ⟨rfl,rfl,rfl,rfl,rfl,trivial⟩,rfl⟩ ?_
 clear h86
 rintro m85 a85 w85 ⟨t,tk,ht,htk,h85,hm85⟩
 refine gG h85<|gK fun _ k87=>sK fun _ k88=>gNl (aA 6 rfl) fun hl89=>gRn (oM 1 rfl<|ofB fl_25_0 rfl<|olB 5 ti_22 rfl rfl<|oln sl_22 (aA 6 rfl) rfl<|oltN _ _ rfl<|.nl)<|nK k88<|?_;clear h85
 refine gcd rfl (fun hb90 hp90=> ?_) fun hb90 hp90=> ?_
 ·skip
  refine gS<|hK k87<|?_
  obtain ⟨hl4,hjt⟩:=ok_thread hok t (by omega)
  refine gK fun _ k91=>gB<|sG (oM 1 rfl<|.nl)<|gB<|fun a94 w94 h94=>x_loop (fun m a w=>∃(i:Nat) (tk2:Bool),(i≤(nth code.l t).l.length)∧(tk2=false→(∀t2,t2<t→∀i,i<(nth code.l t2).l.length→¬(nth (nth code.l t2).l i).op=17)∧∀i2,i2<i→¬(nth (nth code.l t).l i2).op=17)∧St 175 (fun _=>False) W a w [(1, .pointer (some ⟨b12,0,none⟩)),(3,u31.v),(5, .bool b34),(10, .bool tk2),(11, .int .i64 ((t:Nat):Int)),(12, .int .i64 ((i:Nat):Int))] [.blk b35 30 [.int .i64 0, .int .i64 0, .int .i64 0], .own 57 u31, .blk b20 30 [.int .i64 0, .int .i64 0, .int .i64 0], .own 57 u19, .deep 45 (⟨v15, [(⟨v14, [(⟨17,0,0,0⟩:Ins),(⟨17,1,0,0⟩:Ins)]⟩:Ls Ins)]⟩:Ls (Ls Ins)), .blk b12 25 [code.v,words.v, .int .i64 locks, .int .i64 regs], .at_ code, .at_ words]∧m=(nth code.l t).l.length-i) ⟨_,0,tk,(Nat.zero_le _),(fun h0=>⟨htk h0,fun i2 h2=>absurd h2 (by omega)⟩),h94.nf ⟨rfl,rfl,rfl,rfl,rfl,rfl,trivial⟩,rfl⟩ ?_
  clear h94
  rintro m93 a93 w93 ⟨i,tk2,hi,htk2,h93,hm93⟩
  refine gG h93<|gK fun _ k95=>sK fun _ k96=>gNl (fun w h=>((h.at 6 rfl).nth t (show t<code.l.length from (by omega)))) fun (hl97:((nth code.l t).l).length≤140737488355328)=>gRn (oM 1 rfl<|ofB fl_25_0 rfl<|olB 5 ti_22 rfl rfl<|oM 1 rfl<|oxN sl_22 ti_45 (aA 6 rfl) _ om9 rfl<|olE ((nth code.l t).v) ti_45 (aA 6 rfl) om9 rfl<|oln (n:=((nth code.l t).l).length) sl_45 (fun w h=>((h.at 6 rfl).nth t (show t<code.l.length from (by omega)))) rfl<|oltN _ _ rfl<|.nl)<|nK k96<|?_;clear h93
  refine gcd rfl (fun hb98 hp98=> ?_) fun hb98 hp98=> ?_
  ·skip
   refine gS<|hK k95<|gK fun _ k99=>gB<|gL<|gRn (oM 2 rfl<|.nl)<|?_
   rcases Bool.eq_false_or_eq_true tk2 with hb100|hb100
   ·skip
    refine gRn (oKs 10 hb100 rfl rfl<|opT hb100 rfl<|oM 1 rfl<|.nl)<|nK k99<|gL<|gRn (oM 1 rfl<|oadN _ 1 om9 rfl<|oM 1 rfl<|.nl)<|nN<|fun a101 w101 h101=>x_again ⟨_, ?_,(i+1),true, ?_, ?_,h101.nf ⟨rfl,rfl,rfl,rfl,rfl,rfl,trivial⟩,rfl⟩
    · rw [hm93];first|omega|(simp only [lens9];omega)
    · omega
    · first|(intro h0;exact absurd h0 (by rw [(by assumption:tk2=true)];decide))|(intro h0;exact Bool.noConfusion h0)|exact fun h0=>⟨(htk2 (by assumption)).1,no_step (A:=fun i2=>¬(nth (nth code.l t).l i2).op=17) (htk2 (by assumption)).2 (of_decide_eq_false h0)⟩
   refine gRn (oG hb100 (r_fieldB (r:=0) fl_25_0 rfl rfl rfl) rfl<|oG hb100 (r_ldb (i:=5) ti_22 rfl rfl rfl rfl) rfl<|oG hb100 (r_move rfl rfl) rfl<|oG hb100 (r_ixN (s:=code) (q:=t) sl_22 ti_45 rfl rfl rfl (fun w h=>(h.at 6 rfl)) (show t<code.l.length from om9)) rfl<|oG hb100 (r_lde (s:=code) (i:=t) (v:=(nth code.l t).v) ti_45 rfl rfl rfl (fun w h=>(h.at 6 rfl)) (show t<code.l.length from om9) (Nat.le_of_ble_eq_true rfl) rfl) rfl<|oG hb100 (r_move rfl rfl) rfl<|oG hb100 (r_ixN (s:=nth code.l t) (q:=i) sl_45 ti_47 rfl rfl rfl (fun w h=>((h.at 6 rfl).nth t (show t<code.l.length from om9))) (show i<((nth code.l t).l).length from om9)) rfl<|oG hb100 (r_fieldE (r:=0) fl_47_0 rfl rfl rfl) rfl<|oG hb100 (r_lde (s:=nth code.l t) (i:=i) (v:= .int .i64 ((nth ((nth code.l t).l) i).op)) ti_3 rfl rfl rfl (fun w h=>((h.at 6 rfl).nth t (show t<code.l.length from om9))) (show i<((nth code.l t).l).length from om9) (Nat.le_of_ble_eq_true rfl) rfl) rfl<|oG hb100 (r_eqlI (p:=(nth ((nth code.l t).l) i).op) (q:=17) rfl rfl rfl) rfl<|opF hb100 rfl<|oM 1 rfl<|.nl)<|nK k99<|gL<|gRn (oM 1 rfl<|oadN _ 1 om9 rfl<|oM 1 rfl<|.nl)<|nN<|fun a102 w102 h102=>x_again ⟨_, ?_,(i+1),decide ((nth ((nth code.l t).l) i).op=17), ?_, ?_,h102.nf ⟨rfl,rfl,rfl,rfl,rfl,rfl,trivial⟩,rfl⟩
   · rw [hm93];first|omega|(simp only [lens9];omega)
   · omega
   · first|(intro h0;exact absurd h0 (by rw [(by assumption:tk2=true)];decide))|(intro h0;exact Bool.noConfusion h0)|exact fun h0=>⟨(htk2 (by assumption)).1,no_step (A:=fun i2=>¬(nth (nth code.l t).l i2).op=17) (htk2 (by assumption)).2 (of_decide_eq_false h0)⟩
  refine gX<|hK k91<|gL<|gRn (oM 1 rfl<|oadN _ 1 om9 rfl<|oM 1 rfl<|.nl)<|nN<|fun a103 w103 h103=>x_again ⟨_, ?_,t+1,tk2, ?_, ?_,h103.nf ⟨rfl,rfl,rfl,rfl,rfl,trivial⟩,rfl⟩
  · rw [hm85];first|omega|(simp only [lens9];omega)
  · omega
  · exact fun h0=>no_step (A:=fun t2=>∀i,i<(nth code.l t2).l.length→¬(nth (nth code.l t2).l i).op=17) (fun t2 h2=>(htk2 h0).1 t2 h2) fun i9 (hi9:i9<(nth code.l t).l.length)=>(htk2 h0).2 i9 (by omega)
 refine gX<|hK k83<|sK fun _ k104=>gRn (oM 2 rfl<|.nl)<|?_
 rcases Bool.eq_false_or_eq_true tk with hb105|hb105
 ·skip
  refine gRn (oKs 2 hb105 rfl rfl<|oK2 rfl<|oK2 rfl<|oK2 rfl<|oK hb105 rfl<|opT hb105 rfl<|oM 1 rfl<|.nl)<|nK k104<|gR<|fun a106 w106 h106=>x_ret1 (fn:=Try.f6) (t:=2) rfl h106 rfl ?_
  have hfin:tk=false→b34=true∧u31.l.length=0:=fun h0=>by have h9:=no_lock (code:=code.l) fun t2 h2=>htk h0 t2 (by omega);exact ⟨hb34.2 h9.1,empty_row hum31 h9.2⟩
  refine ⟨?_,(h106.sh.sel [] rfl)⟩
  first|rfl|(congr 1;rw [(by assumption:tk=true)];done)|(congr 1;exact decide_eq_true (hfin (by assumption)).2)|(exfalso;have h9:=(hfin (by assumption)).1;rw [(by assumption:b34=false)] at h9;cases h9)
 refine gRn (oG hb105 (r_move rfl rfl) rfl<|oG hb105 (r_move rfl rfl) rfl<|.nl)<|?_
 rcases Bool.eq_false_or_eq_true b34 with hb107|hb107
 ·skip
  refine gRn (oG hb107 (r_move rfl rfl) rfl<|oG hb107 (r_len (s:=u31) (n:=u31.l.length) sl_54 rfl rfl (fun w h=>(h.own 1 rfl)) rfl) rfl<|oG hb107 (r_eqlN (p:=u31.l.length) (q:=0) rfl rfl rfl) rfl<|oG hb105 (r_pickT rfl rfl hb107 rfl) rfl<|opF hb105 rfl<|oM 1 rfl<|.nl)<|nK k104<|gR<|fun a108 w108 h108=>x_ret1 (fn:=Try.f6) (t:=2) rfl h108 rfl ?_
  have hfin:tk=false→b34=true∧u31.l.length=0:=fun h0=>by have h9:=no_lock (code:=code.l) fun t2 h2=>htk h0 t2 (by omega);exact ⟨hb34.2 h9.1,empty_row hum31 h9.2⟩
  refine ⟨?_,(h108.sh.sel [] rfl)⟩
  first|rfl|(congr 1;rw [(by assumption:tk=true)];done)|(congr 1;exact decide_eq_true (hfin (by assumption)).2)|(exfalso;have h9:=(hfin (by assumption)).1;rw [(by assumption:b34=false)] at h9;cases h9)
 refine gRn (oKs 3 hb107 rfl rfl<|oG hb105 (r_pickF rfl rfl hb107 rfl) rfl<|opF hb105 rfl<|oM 1 rfl<|.nl)<|nK k104<|gR<|fun a109 w109 h109=>x_ret1 (fn:=Try.f6) (t:=2) rfl h109 rfl ?_
 exfalso
 first|exact hse (by assumption) (by first|assumption|omega)|exact (hri (by omega)).1 (by omega)|exact (hri (by omega)).2 (by omega) (by omega)|exact absurd (hb34.2 (no_lock (code:=code.l) fun t2 h2=>htk (by assumption) t2 (by omega)).1) (by rw [(by assumption:b34=false)];decide)
theorem orderEdges_b (code:Ls (Ls Ins))(words:Ls Int)(locks regs:Int)(W:World)(hcode:code.At W)(hwords:words.At W)(hv:vastG (code.l.map (·.l)) words.l=false)(hz:(checkG (pgOf code words locks regs)).code≠0):
    Rets Try.prog 6 [.agg #[code.v,words.v, .int .i64 locks, .int .i64 regs]] W (fun v w' =>v= .bool true∧Sh0 W w' []):=by
 refine gen Try.func6 Try.ntmps6 (Sh0.ext2 hcode hwords:Sh (fun _=>False) W W [.at_ code, .at_ words]) rfl fun a10 h10=>gG h10<|sK fun _ k11=>gbx rfl rfl fun b12=>gRn (oM 1 rfl<|.nl)<|nK k11<|sK fun _ k13=>gRn (oV (r_build (cs:= [.int .i64 17, .int .i64 0, .int .i64 0, .int .i64 0]) rfl rfl (by kernel_rfl)) rfl<|oV (r_build (cs:= [.int .i64 17, .int .i64 1, .int .i64 0, .int .i64 0]) rfl rfl (by kernel_rfl)) rfl<|.nl)<|gE1 (fun _ _ h_=>x_lit (n:=2) (cs:= [.int .i64 17, .int .i64 0, .int .i64 0, .int .i64 0, .int .i64 17, .int .i64 1, .int .i64 0, .int .i64 0]) ([(⟨17,0,0,0⟩:Ins),(⟨17,1,0,0⟩:Ins)]:List Ins) h_ sl_45 ti_47 rfl rfl rfl (by decide) rfl (by kernel_rfl) rfl (fun q hq w h=>Flat.inner _ _) (fun q hq b hb=>(Flat.on _ _ hb).elim) rfl rfl) rfl fun v14=>gE1 (fun _ _ h_=>x_litD (E:=0) (x:=(⟨v14, [(⟨17,0,0,0⟩:Ins),(⟨17,1,0,0⟩:Ins)]⟩:Ls Ins)) h_ sl_22 ti_45 rfl rfl rfl ((h_.sh.own 0 rfl)) (fun b hb=>(own_on (h_.sh.ok _ (List.mem_of_getElem? (i:=0) rfl)) hb).elim (fun h=>h) (fun h=>Flat.noRd h)) (fun b hb=>Flat.noRd hb) rfl rfl) rfl fun v15=>gRn (oV (r_buildS (cs:= [v15,(.slice none 0 0), .int .i64 2, .int .i64 1]) rfl rfl (fun w h=>by obtain ⟨A16,n16,c16,(e16:v15=_)⟩:=((h.deep 0 rfl)).form;rw [e16];kernel_rfl)) rfl<|.nl)<|fun a18 w18 h18=> ?_;clear h10
 refine wl_ex (x_call h18 bd_19 rfl rfl rfl rfl rfl (oedges_k (⟨v15, [⟨v14,lk2⟩]⟩:Ls (Ls Ins)) (⟨.slice none 0 0, []⟩:Ls Int) 2 1 _ (h18.sh.deep 0 rfl) (Sh.nilAt (α:=Int) h18.sh) (lk2_ok _ _))) (wanted_none rfl _) ?_
 rintro a19 w19 ⟨_,⟨u19,rfl,huo19,hum19,hs19⟩,hf19⟩
 obtain ⟨hlit1,hlit2⟩:=lk2_edges huo19 hum19
 have h19:=(⟨hf19,h18.sh.call hs19 (by intro A hA b hb;first|(simp at hA;done)|(simp at hA;subst hA;first|exact Flat.noRd hb|exact (hb:False).elim)|(simp at hA;rcases hA with rfl|rfl<;>first|exact Flat.noRd hb|exact (hb:False).elim))⟩:St 175 (fun _=>False) W a19 w19 _ _)
 clear hf19 hs19
 clear h18
 refine gG h19<|gRn (oM 1 rfl<|oxt rfl<|oxt rfl<|.nl)<|gal ti_30 rfl fun b20=>gRn (oM 1 rfl<|.nl)<|gsw 0 ti_30 rfl rfl rfl<|nK k13<|gK fun _ k22=>sK fun _ k23=>gNl (aO 1 rfl) fun hl24=>gRn (ofB fl_30_0 rfl<|olB 0 ti_28 rfl rfl<|oneN 0 0 rfl<|oM 1 rfl<|oG (by decide) (r_move rfl rfl) rfl<|oG (by decide) (r_len (s:=u19) (n:=u19.l.length) sl_54 rfl rfl (fun w h=>(h.own 1 rfl)) rfl) rfl<|oG (by decide) (r_neqN (p:=u19.l.length) (q:=1) rfl rfl rfl) rfl<|opF (by decide) rfl<|oM 1 rfl<|oG (decide_eq_false (fun h=>h hlit1)) (r_move rfl rfl) rfl<|oG (decide_eq_false (fun h=>h hlit1)) (r_ixN (s:=u19) (q:=0) sl_54 ti_57 rfl rfl rfl (fun w h=>(h.own 1 rfl)) (show 0<u19.l.length from om9)) rfl<|oG (decide_eq_false (fun h=>h hlit1)) (r_ldew (s:=u19) (i:=0) (vs:= [.int .i64 ((nth u19.l 0).a), .int .i64 ((nth u19.l 0).b)]) ti_57 rfl rfl rfl (fun w h=>(h.own 1 rfl)) (show 0<u19.l.length from om9) (Nat.le_of_ble_eq_true rfl) rfl) rfl<|oG (decide_eq_false (fun h=>h hlit1)) (r_build (cs:= [.int .i64 0, .int .i64 1]) rfl rfl (by kernel_rfl)) rfl<|oG (decide_eq_false (fun h=>h hlit1)) (r_neqP (nth u19.l 0) (⟨0,1⟩) ar_57 ti_3 Try.underlying3 (by kernel_rfl) rfl rfl rfl) rfl<|opF (decide_eq_false (fun h=>h hlit1)) rfl<|.nl)<|nK k23<|gF [1,4,36] rfl<|gcF rfl (by rw [hlit2];rfl)<|gS<|hK k22<|gK fun _ k25=>sK fun _ k26=>gRn (olw 3 ti_25 rfl rfl<|.nl)<|gC (fun _ _ h_=>xCl h_ bd_20 rfl (kvast_c code words locks regs _ (h_.sh.at 4 rfl) (h_.sh.at 5 rfl))) rfl<|?_;clear h19
 rintro _ _ w27 ⟨rfl,hs27⟩
 refine gWk hs27 rfl<|gU<|nK k26<|gcF rfl hv<|gS<|hK k25<|sK fun _ k28=>gRn (olw 3 ti_25 rfl rfl<|.nl)<|gC (fun _ _ h_=>xCl h_ bd_19 rfl (oedges_b code words locks regs _ (h_.sh.at 4 rfl) (h_.sh.at 5 rfl) hz)) rfl<|?_;clear hs27
 rintro _ _ w29 ⟨rfl,hs29⟩
 refine gWk hs29 rfl<|gU<|gRn (oM 1 rfl<|oxt rfl<|oxt rfl<|oM 1 rfl<|.nl)<|gsw 0 ti_30 rfl rfl rfl<|nK k28<|sK fun _ k31=>gRn (olw 3 ti_25 rfl rfl<|.nl)<|gC (fun _ _ h_=>xCl h_ bd_17 rfl (osafe_b code words locks regs _ (h_.sh.at 4 rfl) (h_.sh.at 5 rfl) hz)) rfl<|?_;clear hs29
 rintro _ _ w32 ⟨rfl,hs32⟩
 refine gWk hs32 rfl<|gU<|gRn (oM 1 rfl<|oxt rfl<|oxt rfl<|.nl)<|gal ti_30 rfl fun b33=>gRn (oM 1 rfl<|.nl)<|gsw 0 ti_30 rfl rfl rfl<|nK k31<|gK fun _ k35=>sG (olw 1 ti_30 rfl rfl<|olw 0 ti_30 rfl rfl<|oV (r_neqS rfl rfl rfl (fun w=>neq_fltG _ _ ⟨(checkG (pgOf code words locks regs)).code,(checkG (pgOf code words locks regs)).thread,(checkG (pgOf code words locks regs)).at_⟩ ⟨(checkG (pgOf code words locks regs)).code,(checkG (pgOf code words locks regs)).thread,(checkG (pgOf code words locks regs)).at_⟩ w) (fun w=>neq_flt ⟨(checkG (pgOf code words locks regs)).code,(checkG (pgOf code words locks regs)).thread,(checkG (pgOf code words locks regs)).at_⟩ ⟨(checkG (pgOf code words locks regs)).code,(checkG (pgOf code words locks regs)).thread,(checkG (pgOf code words locks regs)).at_⟩ w)) rfl<|.nl)<|gcF rfl (decide_eq_false (fun h=>h rfl))<|gS<|hK k35<|gK fun _ k37=>sG (ofB fl_30_0 rfl<|olB 1 ti_28 rfl rfl<|oneI _ _ rfl<|.nl)<|gcT rfl (decide_eq_true hz)<|sK fun _ k39=>gNl (fun w h=>(Sh.nilAt (α:=P2) h)) fun (hl40:([]).length≤140737488355328)=>gRn (oM 1 rfl<|oln (n:=([]).length) sl_54 (fun w h=>(Sh.nilAt (α:=P2) h)) rfl<|oeqN _ 0 rfl<|oM 1 rfl<|oG (decide_eq_true rfl) (r_move rfl rfl) rfl<|oG (decide_eq_true rfl) (r_not rfl rfl) rfl<|opT (decide_eq_true rfl) rfl<|oM 1 rfl<|.nl)<|nK k39<|gF [2] rfl<|gR<|uT<|fun a41 w41 h41=> ?_;clear hs32
 refine x_ret1 (fn:=Try.f6) (t:=2) rfl h41 rfl<|⟨?_,(h41.sh.sel [] rfl)⟩
 rfl
theorem orderEdges_any (code:Ls (Ls Ins))(words:Ls Int)(locks regs:Int)(W:World)(hcode:code.At W)(hwords:words.At W):Rets Try.prog 6 [.agg #[code.v,words.v, .int .i64 locks, .int .i64 regs]] W (fun v w' =>v= .bool true∧Sh0 W w' []):=by
 cases hv:vastG (code.l.map (·.l)) words.l with
 |true=>exact orderEdges_v code words locks regs W hcode hwords hv
 |false=>
  by_cases hok:OkPg (pgOf code words locks regs)
  ·exact orderEdges_k code words locks regs W hcode hwords hv hok
  ·exact orderEdges_b code words locks regs W hcode hwords hv (fun h=>hok (checkG_code_pos.1 h))
end Go.Proofs.Ytmbfcgpneflbmaa
namespace Go.Proofs.Ytmbfcgpneflbmaa
open Go.ChangeShapes Go.WideShapes Go.ChangeAt Go.RowKit
open Go.Deep (open_slice)
set_option linter.unusedSimpArgs false
set_option linter.unusedVariables false
class Rd (α:Type) extends Enc α where
 ty:Program→TypeId→Prop
 fine:α→Prop
 read:∀ {H:Type} {enc:TypeId×Value→H} {P:Program} {w:World} {base:Nat} {spare:Nat→Bool} {held:Bool} {fuel:Nat} {T:TypeId} {cs:List Value} {x:DataW H×List MemPlace},
  ty P T→DataW.trod enc P w base spare held fuel T cs=some x→(∀n∈DataW.weights P T x.1,n≤reachBytes)→∃a:α,cs=cellsOf a∧Enc.inner a w∧fine a
instance : Rd Int where
 ty P T:=P.underlying T=some (.int .i64)
 fine n:=(Lit.int .i64 n).wf=true
 read hT h _:=by
  obtain ⟨n,rfl,_,hw⟩:=DataW.trod_int hT h
  exact ⟨n,rfl,trivial,hw⟩
instance : Rd Bool where
 ty P T:=P.underlying T=some .bool
 fine _:=True
 read hT h _:=by
  obtain ⟨b,rfl,_⟩:=DataW.trod_bool hT h
  exact ⟨b,rfl,trivial,trivial⟩
def intFields (P:Program)(fs:Array Field)(n:Nat):Prop:=fs.size=n∧∀(j:Nat) (f:Field),fs[j]? =some f→f.offset=j∧P.underlying f.type=some (.int .i64)∧P.cellsOf f.type=1
theorem read_ints {H:Type}{enc:TypeId×Value→H}{P:Program}{w:World}{base:Nat}{spare:Nat→Bool}{held:Bool}{fuel:Nat}{T:TypeId}{cs:List Value}{x:DataW H×List MemPlace}{fs:Array Field}{n:Nat}
  (hT:P.underlying T=some (.struct fs)) (hfs:intFields P fs n) (hC:P.cellsOf T=n) (h:DataW.trod enc P w base spare held fuel T cs=some x):
  cs.length=n∧∀j,j<n→∃k:Int,cs[j]? =some (.int .i64 k)∧(Lit.int .i64 k).wf=true:=by
 obtain ⟨xs,m,_,_,hlen,hxl,hf⟩:=DataW.trod_struct hT h
 refine ⟨hlen.trans hC,fun j hj=> ?_⟩
 obtain ⟨hs,hall⟩:=hfs
 have hjs:j<fs.size:=by omega
 obtain ⟨ho,ht,hc⟩:=hall j fs[j] (by simp [hjs])
 have h1:=hf j fs[j] (by simp [hjs])
 rw [ho,hc,List.getElem?_eq_getElem (by omega)] at h1
 obtain ⟨k,hk,_,hw⟩:=DataW.trod_int ht h1
 refine ⟨k, ?_,hw⟩
 rw [List.drop_eq_getElem_cons (by omega)] at hk
 simp only [List.take_succ_cons,List.take_zero,List.cons.injEq,and_true] at hk
 rw [List.getElem?_eq_getElem (by omega),hk]
instance : Rd Ins where
 ty P T:=∃fs,P.underlying T=some (.struct fs)∧intFields P fs 4∧P.cellsOf T=4
 fine x:=(Lit.int .i64 x.op).wf=true∧(Lit.int .i64 x.a).wf=true∧(Lit.int .i64 x.b).wf=true∧(Lit.int .i64 x.c).wf=true
 read:=by
  rintro H enc P w base spare held fuel T cs x ⟨fs,hT,hfs,hC⟩ h _
  obtain ⟨hl,hj⟩:=read_ints hT hfs hC h
  obtain ⟨k0,e0,w0⟩:=hj 0 (by omega)
  obtain ⟨k1,e1,w1⟩:=hj 1 (by omega)
  obtain ⟨k2,e2,w2⟩:=hj 2 (by omega)
  obtain ⟨k3,e3,w3⟩:=hj 3 (by omega)
  match cs,hl with
  | [c0,c1,c2,c3],_=>
   simp only [List.getElem?_cons_zero,List.getElem?_cons_succ,Option.some.injEq] at e0 e1 e2 e3
   subst e0 e1 e2 e3
   exact ⟨⟨k0,k1,k2,k3⟩,rfl,trivial,w0,w1,w2,w3⟩
theorem weights_slice {H:Type}{P:Program}{T e:TypeId}{elems spare:List (DataW H)}(hT:P.underlying T=some (.slice e))(h:∀n∈DataW.weights P T (.slice elems spare),n≤reachBytes):
  (elems.length+spare.length)*P.bytesOf e≤reachBytes∧∀d∈elems,∀n∈DataW.weights P e d,n≤reachBytes:=by
 unfold DataW.weights at h
 rw [hT] at h
 refine ⟨h _ (by simp),fun d hd n hn=>h n ?_⟩
 have:∀l:List (DataW H),d∈l→n∈DataW.weightsAll P e l:=by
  intro l hl
  induction l with
  |nil=>cases hl
  |cons y l ih=>
   unfold DataW.weightsAll
   rcases List.mem_cons.1 hl with rfl|hl
   ·exact List.mem_append.2 (.inl hn)
   ·exact List.mem_append.2 (.inr (ih hl))
 simp only [List.mem_cons,List.mem_append]
 exact .inr (.inl (this _ hd))
instance {α:Type}[Rd α]:Rd (Sl α) where
 ty P T:=∃e,P.underlying T=some (.slice e)∧P.cellsOf e=Enc.sz α∧1≤P.bytesOf e∧0<Enc.sz α∧Rd.ty α P e
 fine s:=∀i,i<s.l.length→Rd.fine (nth s.l i)
 read:=by
  rintro H enc P w base spare held fuel T cs x ⟨e,hT,hC,hB,hpos,hty⟩ h hw
  rcases open_slice hT h with ⟨rfl,rfl⟩|⟨a,len,cap,m,n,D,Pl,rfl,_,hl,hm,hmm,rfl,hi⟩
  ·refine ⟨⟨none,0, []⟩,rfl,⟨Nat.le_refl _,by simp,by simp,fun hh=>absurd hh (by simp),fun hh=>absurd hh (by simp),fun i j hi=>absurd hi (by simp),fun i hi=>absurd hi (by simp)⟩,fun i hi=>absurd hi (by simp)⟩
  ·obtain ⟨hb,hd⟩:=weights_slice hT hw
   have hlm:len≤m:=by rw [hmm];split<;>omega
   have hlen:len≤140737488355328:=by
    simp only [List.length_map,List.length_range,reachBytes] at hb
    have:(len+(m-len))*1≤(len+(m-len))*P.bytesOf e:=Nat.mul_le_mul_left _ hB
    omega
   have key:∀i,i<len→∃y:α,(∀j,j<Enc.sz α→w.cell? ((a.add (i*Enc.sz α)).add j)=some (Enc.cell y j))∧Enc.inner y w∧Rd.fine y:=by
    intro i hil
    obtain ⟨cs',hc',ht'⟩:=hi i (by omega)
    obtain ⟨y,hy,hin,hf⟩:=Rd.read hty ht' (hd _ (List.mem_map.2 ⟨i,by simpa using hil,rfl⟩))
    obtain ⟨_,hcl,hat⟩:=World.cells?_some hc'
    rw [hC] at hc' hat hcl
    refine ⟨y,fun j hj=> ?_,hin,hf⟩
    rw [hat j (by first|exact hj|omega)]
    subst hy
    simp [cellsOf,hj]
   obtain ⟨F,hF⟩:=Go.Deep.choose_lt key
   let l:=(List.range len).map F
   have hll:l.length=len:=by simp [l]
   have hn:∀i,i<len→nth l i=F i:=by intro i hil;simp [nth,l,hil]
   have hcell0:0<len→∃v,w.cell? a=some v:=fun h0=>⟨_,by
    have h1:=(hF 0 h0).1 0 hpos
    rw [Nat.zero_mul,Addr.add_zero',Addr.add_zero'] at h1
    exact h1⟩
   have hspot:0<len→a.spot=none:=by
    intro h0
    obtain ⟨v,hv⟩:=hcell0 h0
    unfold World.cell? at hv
    split at hv
    ·split at hv
     ·cases hv
     ·rename_i hs
      simpa using hs
    ·cases hv
   refine ⟨⟨some a,cap,l⟩,by simp [cellsOf,Enc.cell,Enc.sz,hll],⟨by rw [hll];exact hl,hm,by rw [hll];exact hlen, ?_, ?_, ?_, ?_⟩, ?_⟩
   ·intro h0
    exact ⟨a,rfl,hspot (by rw [←hll];exact h0)⟩
   ·intro h0
    obtain ⟨v,hv⟩:=hcell0 (by rw [←hll];exact h0)
    exact World.block_lt_of_cell? w a hv
   ·intro i j hi' hj
    rw [hll] at hi'
    show w.cell? ⟨a.block,a.off+i*Enc.sz α+j,none⟩=some (Enc.cell (nth l i) j)
    rw [hn i hi',←(hF i hi').1 j hj]
    have hs:=hspot (by omega)
    rcases a with ⟨b,o,sp⟩
    simp only at hs
    subst hs
    rw [Addr.add_lit,Addr.add_lit]
   ·intro i hi'
    rw [hll] at hi'
    rw [hn i hi']
    exact (hF i hi').2.1
   ·intro i hi'
    rw [hll] at hi'
    rw [hn i hi']
    exact (hF i hi').2.2
def prFields (P:Program)(fs:Array Field):Prop:=
 ∃f0 f1 f2 f3:Field,fs= #[f0,f1,f2,f3]∧(f0.offset=0∧P.cellsOf f0.type=1∧Rd.ty (Sl (Sl Ins)) P f0.type)∧(f1.offset=1∧P.cellsOf f1.type=1∧Rd.ty (Sl Int) P f1.type)∧
  (f2.offset=2∧P.cellsOf f2.type=1∧Rd.ty Int P f2.type)∧(f3.offset=3∧P.cellsOf f3.type=1∧Rd.ty Int P f3.type)
def PR.fine (p:PR):Prop:=Rd.fine p.code∧Rd.fine p.words∧(Lit.int .i64 p.locks).wf=true∧(Lit.int .i64 p.regs).wf=true
theorem weights_agg {H:Type}{P:Program}{T:TypeId}{f0 f1 f2 f3:Field}{d0 d1 d2 d3:DataW H}(hT:P.underlying T=some (.struct #[f0,f1,f2,f3]))(h:∀n∈DataW.weights P T (.agg [d0,d1,d2,d3]),n≤reachBytes):
  (∀n∈DataW.weights P f0.type d0,n≤reachBytes)∧(∀n∈DataW.weights P f1.type d1,n≤reachBytes)∧(∀n∈DataW.weights P f2.type d2,n≤reachBytes)∧(∀n∈DataW.weights P f3.type d3,n≤reachBytes):=by
 unfold DataW.weights at h
 rw [hT] at h
 simp only [List.map_cons,List.map_nil,DataW.weightsEach,List.append_nil,List.mem_append] at h
 exact ⟨fun n hn=>h n (.inl hn),fun n hn=>h n (.inr (.inl hn)),fun n hn=>h n (.inr (.inr (.inl hn))),fun n hn=>h n (.inr (.inr (.inr hn)))⟩
theorem open_PR {H:Type}{enc:TypeId×Value→H}{P:Program}{w:World}{base:Nat}{spare:Nat→Bool}{held:Bool}{r:Go.Reach}{b0:Nat}{T:TypeId}{fs:Array Field}{v:Value}{d:DataW H}{p:List MemPlace}
  (hT:P.underlying T=some (.struct fs)) (hfs:prFields P fs) (hC:P.cellsOf T=4) (hv:Value.okWide P w r b0 T v) (h:DataW.Trod enc P w base spare held T v d p) (hw:∀n∈DataW.weights P T d,n≤reachBytes):
  ∃q:PR,v=q.val∧q.At w∧q.fine:=by
 obtain ⟨f0,f1,f2,f3,rfl,⟨o0,c0,t0⟩,⟨o1,c1,t1⟩,⟨o2,c2,t2⟩,⟨o3,c3,t3⟩⟩:=hfs
 obtain ⟨cs,rfl,hsz⟩:=okWide_struct hT hv
 obtain ⟨l⟩:=cs
 match l,hsz.trans hC with
 | [v0,v1,v2,v3],_=>
  obtain ⟨fuel,hf⟩:=h
  obtain ⟨xs,n,_,hx,_,hlen,hg⟩:=DataW.trod_struct hT hf
  match xs,hlen with
  | [y0,y1,y2,y3],_=>
   simp only [Prod.mk.injEq,List.map_cons,List.map_nil] at hx
   rw [hx.1] at hw
   obtain ⟨w0,w1,w2,w3⟩:=weights_agg hT hw
   have g0:=hg 0 f0 rfl
   have g1:=hg 1 f1 rfl
   have g2:=hg 2 f2 rfl
   have g3:=hg 3 f3 rfl
   rw [o0,c0] at g0
   rw [o1,c1] at g1
   rw [o2,c2] at g2
   rw [o3,c3] at g3
   simp [Value.cells] at g0 g1 g2 g3
   obtain ⟨s0,e0,i0,k0⟩:=Rd.read t0 g0 w0
   obtain ⟨s1,e1,i1,k1⟩:=Rd.read t1 g1 w1
   obtain ⟨s2,e2,i2,k2⟩:=Rd.read t2 g2 w2
   obtain ⟨s3,e3,i3,k3⟩:=Rd.read t3 g3 w3
   simp [cellsOf,Enc.cell,Enc.sz] at e0 e1 e2 e3
   subst e0 e1 e2 e3
   exact ⟨⟨s0,s1,s2,s3⟩,rfl,⟨i0,i1⟩,k0,k1,k2,k3⟩
end Go.Proofs.Ytmbfcgpneflbmaa
namespace Go.Proofs.Ytmbfcgpneflbmaa
open Go.ChangeShapes Go.WideShapes Go.ChangeAt Go.RowKit
set_option linter.unusedSimpArgs false
set_option linter.unusedVariables false
theorem own :ownKnob Try.prog.godebug=none:=by kernel_rfl
theorem laidOut :laidOutB Try.prog=true:=by kernel_rfl
theorem ty_int :Rd.ty Int Try.prog 3:=Try.underlying3
theorem ty_ins :Rd.ty Ins Try.prog 47:=by
 refine ⟨_,Try.underlying47,⟨rfl,fun j f hf=> ?_⟩,by kernel_rfl⟩
 rcases j with _|_|_|_|j<;>simp at hf<;>subst hf<;>exact ⟨rfl,Try.underlying3,by kernel_rfl⟩
theorem ty_ints :Rd.ty (Sl Int) Try.prog 23:=⟨_,Try.underlying23,by kernel_rfl,of_decide_eq_true (by kernel_rfl),by decide,ty_int⟩
theorem ty_code :Rd.ty (Sl Ins) Try.prog 45:=⟨_,Try.underlying45,by kernel_rfl,of_decide_eq_true (by kernel_rfl),by decide,ty_ins⟩
theorem ty_codes :Rd.ty (Sl (Sl Ins)) Try.prog 22:=⟨_,Try.underlying22,by kernel_rfl,of_decide_eq_true (by kernel_rfl),by decide,ty_code⟩
theorem ty_pr :∃fs,Try.prog.underlying 25=some (.struct fs)∧prFields Try.prog fs:=
 ⟨_,Try.underlying25,_,_,_,_,rfl,⟨rfl,by kernel_rfl,ty_codes⟩,⟨rfl,by kernel_rfl,ty_ints⟩,⟨rfl,by kernel_rfl,ty_int⟩,⟨rfl,by kernel_rfl,ty_int⟩⟩
section
variable {α:Type}[Enc α]
def ofSl (s:Sl α):Ls α:=⟨.slice s.A s.l.length s.cap,s.l⟩
theorem ofSl_at {s:Sl α}{w:World}(h:s.At w):(ofSl s).At w:=⟨s.A,s.cap,rfl,h⟩
def ofSl2 (s:Sl (Sl α)):Ls (Ls α):=⟨.slice s.A s.l.length s.cap,s.l.map ofSl⟩
theorem ofSl2_at {s:Sl (Sl α)}{w:World}(h:s.At w):(ofSl2 s).At w:=by
 refine ⟨s.A,s.cap,by simp [ofSl2],⟨by simpa [ofSl2] using h.le,h.max,by simpa [ofSl2] using h.len,by simpa [ofSl2] using h.some,by simpa [ofSl2] using h.lt',fun i j hi hj=> ?_,fun i hi=> ?_⟩⟩
 ·have hi' :i<s.l.length:=by simpa [ofSl2] using hi
  show w.cell? _=some (Enc.cell (nth (s.l.map ofSl) i) j)
  rw [nth_map' ofSl _ _ hi']
  exact h.cell i j hi' hj
 ·have hi' :i<s.l.length:=by simpa [ofSl2] using hi
  show Enc.inner (nth (s.l.map ofSl) i) w
  rw [nth_map' ofSl _ _ hi']
  exact ofSl_at (h.inner i hi')
end
theorem pr_ls (q:PR)(w:World)(h:q.At w):∃(code:Ls (Ls Ins)) (words:Ls Int) (locks regs:Int),q.val= .agg #[code.v,words.v, .int .i64 locks, .int .i64 regs]∧code.At w∧words.At w:=
 ⟨ofSl2 q.code,ofSl q.words,q.locks,q.regs,rfl,ofSl2_at h.code,ofSl_at h.words⟩
set_option maxRecDepth 100000 in
theorem orderEdges_lifted (os:Os)(started:os.Started)(H:Type)(enc:TypeId×Value→H):
  ReturnsInHanded {} Try.checked os 6 .any (Rows.orderEdgesSpec.pre6 enc Try.prog Try.f6 Rows.orderEdgesRow.domain false) (Rows.orderEdgesSpec.post enc Try.prog Try.f6 false true false false):=by
 refine returnsInHanded_of_change_sized (C:=Try.checked) own started (by kernel_rfl) Try.func6
  (ChangeSpec.witness6 (enc:=enc) (C:=Try.checked) false ⟨#[], #[.agg #[.slice none 0 0, .slice none 0 0, .int .i64 0, .int .i64 0]], []⟩ 8 (by kernel_rfl) (by kernel_rfl) (by kernel_rfl) (by kernel_rfl)) ?_
 intro W base args ds gs before hval0 hW _ hsz0 _
 have hsz:(DataW.weightsEach Try.prog (Try.f6.params.toList++Rows.orderEdgesSpec.plain.varTypes Try.prog) (ds++gs)).all (· ≤reachBytes)=true:=hsz0
 have hval:∀(j:Nat) t v,Try.f6.params[j]? =some t→args[j]? =some v→Value.okWide Try.prog W .any base t v:=hval0
 have hW' :=hW
 obtain ⟨p,q,hA0,hV,rfl,hfz,hnd⟩:=hW
 have hA:DataW.TrodAll enc Try.prog W 0 (fun _=>true) true Try.f6.params.toList args.toList ds p:=hA0
 rw [Try.params6] at hA hval hsz
 obtain ⟨v0,d0,rfl,rfl,h0⟩:=trodAll_one hA
 obtain ⟨rfl,rfl⟩:=trodVars_none hV
 clear hA0 hval0
 simp only [List.append_nil] at hW'
 have hw0:∀n∈DataW.weights Try.prog 25 d0,n≤reachBytes:=by
  intro n hn
  have:=List.all_eq_true.1 hsz n (by simp [DataW.weightsEach,hn])
  simpa using this
 obtain ⟨fs,hfs,hpf⟩:=ty_pr
 obtain ⟨pr,rfl,hAt,_⟩:=open_PR hfs hpf (by kernel_rfl) (hval 0 25 v0 rfl rfl) h0 hw0
 have hlt:∀x∈p,x.block<W.heap.size:=fun x hx=>by simpa using hW'.lt x hx
 obtain ⟨code,words,locks,regs,hv,hc,hw⟩:=pr_ls pr W hAt
 have hcall:=orderEdges_any code words locks regs W hc hw
 rw [←hv] at hcall
 refine Calls.mono hcall fun e W' ⟨v',he,hv',hg0⟩=> ?_
 have hg:=hg0.chg.to_below
 subst he
 subst hv'
 exact ⟨_,rfl,_,_,_, [],p, [],hW',trodAll_mk1 (shut_bool Try.underlying4 true),trodAll_mk1 (Below.trod laidOut (by kernel_rfl) (of_decide_eq_true (by kernel_rfl)) h0 hg hlt),rfl,hg.frame _,fun h=>by cases h⟩
theorem orderEdges_holds :Rows.OrderEdgesSaid:=
 OpenClaim.holds_of_wide 6 Try.f6 rfl rfl rfl rfl rfl rfl rfl ⟨rfl,rfl,rfl,rfl,rfl⟩ rfl rfl rfl rfl rfl (by kernel_rfl) Try.func6 (by kernel_rfl)
  (of_decide_eq_true (by kernel_rfl)) (by unfold Func.isWrapper;first|(rw [if_pos (by decide+kernel)];kernel_rfl)|(rw [if_neg (by decide+kernel)];exact ⟨rfl,rfl⟩))
  (fun os started H enc _=>orderEdges_lifted os started H enc)
end Go.Proofs.Ytmbfcgpneflbmaa
