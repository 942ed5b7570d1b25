/- Part 3 of the texts. -/
import Derived.Test.YtmbfcgpneflbmaaQ2
namespace Go.Proofs.Ytmbfcgpneflbmaa
open Go.RowKit
set_option linter.unusedSimpArgs false
set_option linter.unusedVariables false
set_option maxRecDepth 100000
set_option maxHeartbeats 8000000
theorem barr_noRd {E:TypeId}{s:Ls BArr}{X:Prop}{b:Nat}(h:(Asn.own E s).rd b):X:=by
 obtain ⟨i,_,hi⟩:=h
 exact hi.elim
theorem edges_c (code:Ls (Ls Ins))(words:Ls Int)(locks regs:Int)(W:World)(hcode:code.At W)(hwords:words.At W)(hok:OkPg (pgOf code words locks regs)):
    Rets Try.prog 43 [.agg #[code.v,words.v, .int .i64 locks, .int .i64 regs]] W (fun v w' =>∃u:Ls P2,v=u.v∧u.l.Pairwise (fun a b=>lessP a b=true)∧(∀e,e∈u.l↔EdgesT code.l code.l.length e)∧Sh0 W w' [.own 57 u]):=by
 have hrg:=hok.code
 obtain ⟨hl1,hl2,hl3,hl4',hl5,hl6,hl7⟩:=ok_len hok
 refine gen Try.func43 Try.ntmps43 (Sh0.ext2 hcode hwords:Sh (fun _=>False) W W [.at_ code, .at_ words]) rfl fun a10 h10=>gG h10<|sK fun _ k11=>gbx rfl rfl fun b12=>gRn (oM 1 rfl<|.nl)<|nK k11<|sG (oM 1 rfl<|.nl)<|gK fun _ k14=>sK fun _ k15=>gNl (aA 1 rfl) fun hl16=>gRn (ofB fl_25_0 rfl<|olB 0 ti_22 rfl rfl<|oln sl_22 (aA 1 rfl) rfl<|oM 1 rfl<|.nl)<|nK k15<|gB<|fun a19 w19 h19=> ?_;clear h10
 have h18:=h19.nil (α:=P2) 57
 clear h19
 refine x_loop (fun m a w=>∃(t:Nat) (e1:List P2) (ve1:Value),(t≤code.l.length)∧(∀e,e∈e1↔EdgesT code.l t e)∧(e1.length≤1600*t)∧St 58 (fun _=>False) W a w [(3,ve1),(13,code.v),(14, .int .i64 ((code.l.length:Nat):Int)),(15, .int .i64 ((t:Nat):Int))] [.blk b12 25 [code.v,words.v, .int .i64 locks, .int .i64 regs], .at_ code, .at_ words, .own 57 (⟨ve1,e1⟩:Ls P2)]∧m=code.l.length-t) ⟨_,0, [],(.slice none 0 0),(by omega),(fun e=>by rw [edgesT_zero];simp),(Nat.zero_le _),h18.nrm ⟨rfl,rfl,rfl,rfl,trivial⟩ [1,2,3,0] rfl,rfl⟩ ?_
 clear h18
 rintro m17 a17 w17 ⟨t,e1,ve1,ht,he1,hn1,h17,hm17⟩
 refine gG h17<|sG (oltN _ _ rfl<|.nl)<|gK fun _ k21=>gcd rfl (fun hb22 hp22=> ?_) fun hb22 hp22=> ?_;clear h17
 ·skip
  refine gS<|hK k21<|gK fun _ k23=>gB<|sG (oxN sl_22 ti_45 (aA 1 rfl) _ om9 rfl<|olE ((nth code.l t).v) ti_45 (aA 1 rfl) om9 rfl<|oM 1 rfl<|.nl)<|?_
  obtain ⟨hl4,hjt⟩:=ok_thread hok t (by omega)
  refine sK fun _ k25=>gRn (oM 1 rfl<|.nl)<|fun a27 w27 h27=>wl_ex (x_call h27 bd_42 rfl rfl rfl rfl rfl (held_c (nth code.l t) _ ((h27.sh.at 1 rfl).nth t (show t<code.l.length from (by omega))) (codeC_of hok (by omega)) (lockC_of hok (by omega)) (by omega))) (wanted_none rfl _) ?_
  rintro a28 w28 ⟨_,⟨s28,g28,rfl,hsl28,hsv28,hs28⟩,hf28⟩
  have h28:=(⟨hf28,h27.sh.call hs28 (by intro A hA b hb;first|(simp at hA;done)|(simp at hA;subst hA;first|exact Flat.noRd hb|exact barr_noRd hb|exact (hb:False).elim))⟩:St 58 (fun _=>False) W a28 w28 _ _)
  clear hf28 hs28
  clear h27
  refine gG h28<|gRn (oM 1 rfl<|oxt rfl<|oxt rfl<|oM 2 rfl<|.nl)<|nK k25<|sK fun _ k29=>gNl (fun w h=>((h.at 2 rfl).nth t (show t<code.l.length from (by omega)))) fun (hl30:((nth code.l t).l).length≤140737488355328)=>gRn (oM 1 rfl<|oln (n:=((nth code.l t).l).length) sl_45 (fun w h=>((h.at 2 rfl).nth t (show t<code.l.length from (by omega)))) rfl<|oM 1 rfl<|.nl)<|nK k29<|gB<|?_;clear h28
  have hsl9:=hsl28
  intro a32 w32 h32
  refine x_loop (fun m a w=>∃(i:Nat) (e2:List P2) (ve2:Value),(i≤(nth code.l t).l.length)∧(∀e,e∈e2↔EdgesT code.l t e∨EdgeC (nth code.l t).l i e)∧(e2.length≤1600*t+4*i)∧St 58 (fun _=>False) W a w [(3,ve2),(6,s28.v),(13,code.v),(14, .int .i64 ((code.l.length:Nat):Int)),(15, .int .i64 ((t:Nat):Int)),(24,(nth code.l t).v),(25, .int .i64 ((((nth code.l t).l).length:Nat):Int)),(26, .int .i64 ((i:Nat):Int))] [.own 89 s28, .blk b12 25 [code.v,words.v, .int .i64 locks, .int .i64 regs], .at_ code, .at_ words, .own 57 (⟨ve2,e2⟩:Ls P2)]∧m=(nth code.l t).l.length-i) ⟨_,0,e1,ve1,(by omega),(fun e=>by rw [edgeC_zero,he1 e];simp),(by omega),h32.nf ⟨rfl,rfl,rfl,rfl,rfl,rfl,rfl,rfl,trivial⟩,rfl⟩ ?_
  clear h32
  rintro m31 a31 w31 ⟨i,e2,ve2,hi,he2,hn2,h31,hm31⟩
  refine gG h31<|sG (oltN _ _ rfl<|.nl)<|gK fun _ k34=>gcd rfl (fun hb35 hp35=> ?_) fun hb35 hp35=> ?_;clear h31
  ·skip
   refine gS<|hK k34<|gK fun _ k36=>gB<|sK fun _ k37=>gRn (oM 1 rfl<|oxN sl_45 ti_47 (fun w h=>((h.at 2 rfl).nth t (show t<code.l.length from (by omega)))) _ om9 rfl<|olw2 [.int .i64 ((nth ((nth code.l t).l) i).op), .int .i64 ((nth ((nth code.l t).l) i).a), .int .i64 ((nth ((nth code.l t).l) i).b), .int .i64 ((nth ((nth code.l t).l) i).c)] ti_47 (fun w h=>((h.at 2 rfl).nth t (show t<code.l.length from (by omega)))) om9 rfl<|.nl)<|gal ti_47 rfl fun b38=>gRn (oM 1 rfl<|.nl)<|gsw 0 ti_47 rfl rfl rfl<|nK k37<|gK fun _ k40=>sG (ofB fl_47_0 rfl<|olB 0 ti_3 rfl rfl<|oneI _ _ rfl<|.nl)<|gcd rfl (fun hb42 hp42=> ?_) fun hb42 hp42=> ?_
   ·skip
    refine gX<|hK k36<|gL<|gRn (oadN _ 1 om9 rfl<|oM 1 rfl<|.nl)<|nN<|fun a43 w43 h43=>x_again ⟨_, ?_,(i+1),e2,ve2, ?_, ?_, ?_,h43.nrm ⟨rfl,rfl,rfl,rfl,rfl,rfl,rfl,rfl,trivial⟩ [1,2,3,4,5] rfl,rfl⟩
    · rw [hm31];first|omega|(simp only [lens9];omega)
    · omega
    · first|(intro e;rw [edgeC_skip (by assumption),he2 e];done)|exact fun e=>(he3 e).trans (edge_row hs4 (fun k hk=>(hsv9 i (by omega)).2 k hk) (Classical.byContradiction fun h9=>absurd h9 (by assumption)) (by omega) (by omega))
    · omega
   refine gS<|hK k40<|?_
   have hs4:=(hsv28 i (by omega)).1
   have hsv9:=hsv28
   refine sK fun _ k44=>gNl (aO 1 rfl) fun hl45=>gRn (oM 2 rfl<|oxN sl_85 ti_89 (aO 1 rfl) _ om9 rfl<|oV (r_ldewAr (n:=0) (i:=i) (s:=s28) ti_89 rfl rfl (fun w h=>(h.own 1 rfl)) (show i<s28.l.length from om9)) rfl<|.nl)<|fun a47 w47 h47=>wl_ex (x_call h47 bd_51 rfl rfl rfl rfl rfl (list_ls (list_c ((nth s28.l i).l) _ (by first|assumption|(simp only [lens9];done)|(simp only [lens9];first|assumption|omega)|rfl)))) (wanted_none rfl _) ?_
   rintro a48 w48 ⟨_,⟨s48,rfl,hs48⟩,hf48⟩
   have h48:=(⟨hf48,h47.sh.call hs48 (by intro A hA b hb;first|(simp at hA;done)|(simp at hA;subst hA;first|exact Flat.noRd hb|exact barr_noRd hb|exact (hb:False).elim))⟩:St 58 (fun _=>False) W a48 w48 _ _)
   clear hf48 hs48
   clear h47
   refine gG h48<|gNl (aO 0 rfl) fun (hl49:(listB ((nth s28.l i).l)).length≤140737488355328)=>gRn (oln (n:=(listB ((nth s28.l i).l)).length) sl_23 (aO 0 rfl) rfl<|oM 1 rfl<|.nl)<|nK k44<|gB<|?_;clear h48
   have hll:=listB_len (nth s28.l i).l
   intro a51 w51 h51
   refine x_loop (fun m a w=>∃(q:Nat) (e3:List P2) (ve3:Value),(q≤(listB (nth s28.l i).l).length)∧(∀e,e∈e3↔(EdgesT code.l t e∨EdgeC (nth code.l t).l i e)∨∃j,j<q∧e=⟨nth (listB (nth s28.l i).l) j,(nth (nth code.l t).l i).a⟩)∧(e3.length≤1600*t+4*i+q)∧St 58 (fun _=>False) W a w [(3,ve3),(6,s28.v),(9, .pointer (some ⟨b38,0,none⟩)),(13,code.v),(14, .int .i64 ((code.l.length:Nat):Int)),(15, .int .i64 ((t:Nat):Int)),(24,(nth code.l t).v),(25, .int .i64 ((((nth code.l t).l).length:Nat):Int)),(26, .int .i64 ((i:Nat):Int)),(38,s48.v),(39, .int .i64 (((listB ((nth s28.l i).l)).length:Nat):Int)),(40, .int .i64 ((q:Nat):Int))] [.own 3 (⟨s48.v,listB ((nth s28.l i).l)⟩:Ls Int), .blk b38 47 [.int .i64 ((nth ((nth code.l t).l) i).op), .int .i64 ((nth ((nth code.l t).l) i).a), .int .i64 ((nth ((nth code.l t).l) i).b), .int .i64 ((nth ((nth code.l t).l) i).c)], .own 89 s28, .blk b12 25 [code.v,words.v, .int .i64 locks, .int .i64 regs], .at_ code, .at_ words, .own 57 (⟨ve3,e3⟩:Ls P2)]∧m=(listB (nth s28.l i).l).length-q) ⟨_,0,e2,ve2,(by omega),(or_none he2),(by omega),h51.nf ⟨rfl,rfl,rfl,rfl,rfl,rfl,rfl,rfl,rfl,rfl,rfl,rfl,trivial⟩,rfl⟩ ?_
   clear h51
   rintro m50 a50 w50 ⟨q,e3,ve3,hq,he3,hn3,h50,hm50⟩
   refine gG h50<|sG (oltN _ _ rfl<|.nl)<|gK fun _ k53=>gcd rfl (fun hb54 hp54=> ?_) fun hb54 hp54=> ?_;clear h50
   ·skip
    refine gS<|hK k53<|gK fun _ k55=>gB<|sG (oxN sl_23 ti_3 (aO 0 rfl) _ om9 rfl<|olE (.int .i64 (nth (listB ((nth s28.l i).l)) q)) ti_3 (aO 0 rfl) om9 rfl<|oM 1 rfl<|.nl)<|gL<|gRn (oM 2 rfl<|ofB fl_47_1 rfl<|olB 1 ti_3 rfl rfl<|oV (r_build (cs:= [.int .i64 (nth (listB ((nth s28.l i).l)) q), .int .i64 ((nth ((nth code.l t).l) i).a)]) rfl rfl (by kernel_rfl)) rfl<|.nl)<|gE1 (fun _ _ h_=>x_lit (n:=1) (cs:= [.int .i64 (nth (listB ((nth s28.l i).l)) q), .int .i64 ((nth ((nth code.l t).l) i).a)]) ([(⟨nth (listB ((nth s28.l i).l)) q,(nth ((nth code.l t).l) i).a⟩:P2)]:List P2) h_ sl_54 ti_57 rfl rfl rfl (by decide) rfl (by kernel_rfl) rfl (fun q hq w h=>Flat.inner _ _) (fun q hq b hb=>(Flat.on _ _ hb).elim) rfl rfl) rfl fun v57=>gE1 (fun _ _ h_=>x_app (r:=7) (rm:=0) (s:=(⟨ve3,e3⟩:Ls P2)) (m:=(⟨v57, [(⟨nth (listB ((nth s28.l i).l)) q,(nth ((nth code.l t).l) i).a⟩:P2)]⟩:Ls P2)) h_ sl_54 ti_57 rfl rfl rfl rfl rfl rfl rfl (fun w h=>(h.own 0 rfl)) (fun b hb=>own_on (h_.sh.ok _ (List.mem_of_getElem? (i:=0) rfl)) hb) (fun q hq b hb=>⟨q,hq,hb⟩) rfl rfl rfl inferInstance (show (e3.length+([(⟨nth (listB ((nth s28.l i).l)) q,(nth ((nth code.l t).l) i).a⟩:P2)]).length)*16≤140737488355328∧e3.length+([(⟨nth (listB ((nth s28.l i).l)) q,(nth ((nth code.l t).l) i).a⟩:P2)]).length≤140737488355328 from om9) rfl rfl) rfl fun v58=>gRn (oM 1 rfl<|.nl)<|nK k55<|gL<|gRn (oadN _ 1 om9 rfl<|oM 1 rfl<|.nl)<|nN<|fun a59 w59 h59=>x_again ⟨_, ?_,(q+1),e3++([(⟨nth (listB ((nth s28.l i).l)) q,(nth ((nth code.l t).l) i).a⟩:P2)]),v58, ?_, ?_, ?_,h59.nrm ⟨rfl,rfl,rfl,rfl,rfl,rfl,rfl,rfl,rfl,rfl,rfl,rfl,trivial⟩ [1,2,3,4,5,6,7] rfl,rfl⟩
    · rw [hm50];first|omega|(simp only [lens9];omega)
    · omega
    · exact snoc_row (f:=fun j=>⟨nth (listB (nth s28.l i).l) j,(nth (nth code.l t).l i).a⟩) he3
    · simp only [List.length_append,List.length_cons,List.length_nil];omega
   refine gX<|hK k36<|gL<|gRn (oadN _ 1 om9 rfl<|oM 1 rfl<|.nl)<|nN<|fun a60 w60 h60=>x_again ⟨_, ?_,(i+1),e3,ve3, ?_, ?_, ?_,h60.nrm ⟨rfl,rfl,rfl,rfl,rfl,rfl,rfl,rfl,trivial⟩ [2,3,4,5,6] rfl,rfl⟩
   · rw [hm31];first|omega|(simp only [lens9];omega)
   · omega
   · first|(intro e;rw [edgeC_skip (by assumption),he2 e];done)|exact fun e=>(he3 e).trans (edge_row hs4 (fun k hk=>(hsv9 i (by omega)).2 k hk) (Classical.byContradiction fun h9=>absurd h9 (by assumption)) (by omega) (by omega))
   · omega
  refine gX<|hK k23<|gL<|gRn (oadN _ 1 om9 rfl<|oM 1 rfl<|.nl)<|nN<|fun a61 w61 h61=>x_again ⟨_, ?_,t+1,e2,ve2, ?_, ?_, ?_,h61.nrm ⟨rfl,rfl,rfl,rfl,trivial⟩ [1,2,3,4] rfl,rfl⟩
  · rw [hm17];first|omega|(simp only [lens9];omega)
  · omega
  · intro e;rw [edgesT_succ,he2 e,show i=(nth code.l t).l.length from by omega]
  · omega
 refine gX<|hK k14<|sK fun _ k62=>gRn (oM 1 rfl<|.nl)<|gO [3,0,1,2] rfl<|fun a68 w68 h68=> ?_
 have hp67:=h68.sh.passL (Lp:= [_])
 refine wl_ex (x_call h68 bd_73 rfl rfl rfl rfl rfl (sortPr_c _ (⟨ve1,e1⟩:Ls P2) _ hp67)) (wanted_none rfl _) ?_
 rintro a69 w69 ⟨_,⟨rfl,k69,hkp69,hks69,hs69⟩,hf69⟩
 have h69:St 58 (fun _=>False) W a69 w69 _ [_,_,_,_]:=⟨hf69,h68.sh.backL (Lp:= [_]) hs69 (by intro A hA b hb;simp only [List.mem_cons,List.not_mem_nil,or_false] at hA;rcases hA with rfl<;>first|exact (hb:False).elim|exact Flat.noRd hb|exact .inl ⟨_,List.mem_cons_self .., .inr hb⟩|exact .inl ⟨_,by simp, .inr hb⟩)⟩
 clear hf69 hs69
 clear h68
 refine gG h69<|nK k62<|sK fun _ k70=>gRn (oM 1 rfl<|.nl)<|fun a74 w74 h74=> ?_;clear h69
 have hp73:=h74.sh.passL (Lp:= [_])
 refine wl_ex (x_call h74 bd_77 rfl rfl rfl rfl rfl (compactP_c _ (⟨ve1,k69⟩:Ls P2) _ hp73 (by show k69.length≤_;rw [hkp69.length_eq];show e1.length≤_;omega))) (wanted_none rfl _) ?_
 rintro a75 w75 ⟨_,⟨u75,rfl,hu75,hs75⟩,hf75⟩
 have h75:St 58 (fun _=>False) W a75 w75 _ [_,_,_,_]:=⟨hf75,h74.sh.backL (Lp:= [_]) hs75 (by intro A hA b hb;simp only [List.mem_cons,List.not_mem_nil,or_false] at hA;rcases hA with rfl<;>first|exact (hb:False).elim|exact Flat.noRd hb|exact .inl ⟨_,List.mem_cons_self .., .inr hb⟩|exact .inl ⟨_,by simp, .inr hb⟩)⟩
 clear hf75 hs75
 clear h74
 refine gG h75<|gRn (oM 1 rfl<|.nl)<|nK k70<|gR<|fun a76 w76 h76=>x_ret1 (fn:=Try.f43) (t:=2) rfl h76 rfl ?_;clear h75
 have hk9:=keep_sortedP eqP_iff hks69
 refine ⟨u75,rfl, ?_,fun e=> ?_,(h76.sh.sel [0] rfl)⟩
 · rw [hu75];exact hk9.1
 · rw [hu75];exact (hk9.2 e).trans ((hkp69.mem_iff).trans ((he1 e).trans (by rw [show t=code.l.length from by omega])))
def WarP (E:Nat→Nat→Prop):Nat→Nat→Nat→Prop
 |0,a,b=>E a b
 |k+1,a,b=>WarP E k a b∨(WarP E k a k∧WarP E k k b)
def MatW (E:Nat→Nat→Prop)(k i j:Nat)(T:List Bool):Prop:=T.length=16∧∀a b,a<4→b<4→(nth T (a*4+b)=true↔if a<i∨(a=i∧b<j) then WarP E (k+1) a b else WarP E k a b)
def MatE (l:List P2)(q:Nat)(T:List Bool):Prop:=T.length=16∧∀a b:Nat,a<4→b<4→(nth T (a*4+b)=true↔∃j,j<q∧nth l j=⟨(a:Int),(b:Int)⟩)
def SafeP (code:List (Ls Ins)):Prop:=(∀t,t<code.length→∀k,k<4→¬HeldI (nth code t).l k (nth code t).l.length)∧∀a,a<4→¬WarP (fun a b=>EdgesT code code.length ⟨(a:Int),(b:Int)⟩) 4 a a
section
variable {E:Nat→Nat→Prop}{k i j d q:Nat}{T:List Bool}{l:List P2}{c:Bool}
theorem idx4 {a b i j:Nat}(hb:b<4)(hj:j<4):a*4+b=i*4+j↔a=i∧b=j:=by omega
theorem MatW.start (h:T.length=16)(h2:∀a b,a<4→b<4→(nth T (a*4+b)=true↔E a b)):MatW E 0 0 0 T:=
 ⟨h,fun a b ha hb=>by rw [if_neg (by omega)];exact h2 a b ha hb⟩
theorem MatW.step (h:MatW E k i j T)(hk:k<4)(hi:i<4)(hj:j<4)(hc:c=(nth T (i*4+j)||(nth T (i*4+k)&&nth T (k*4+j)))):MatW E k i (j+1) (T.set (i*4+j) c):=by
 obtain ⟨hl,hv⟩:=h
 refine ⟨by rw [List.length_set];exact hl,fun a b ha hb=> ?_⟩
 rw [nth_setB _ _ _ _ (by omega)]
 by_cases e:a*4+b=i*4+j
 ·obtain ⟨rfl,rfl⟩:=(idx4 hb hj).1 e
  rw [if_pos e,if_pos (.inr ⟨rfl,by omega⟩),hc,Bool.or_eq_true,Bool.and_eq_true,hv a b ha hb,hv a k ha hk,hv k b hk hb,if_neg (show¬(a<a∨(a=a∧b<b)) by omega)]
  show _↔WarP E k a b∨(WarP E k a k∧WarP E k k b)
  have e1:(if a<a∨(a=a∧k<b) then WarP E (k+1) a k else WarP E k a k)↔WarP E k a k:=by
   split
   ·exact ⟨fun h=>h.elim id (·.1), .inl⟩
   ·exact Iff.rfl
  have e2:(if k<a∨(k=a∧b<b) then WarP E (k+1) k b else WarP E k k b)↔WarP E k k b:=by
   split
   ·exact ⟨fun h=>h.elim id (·.2), .inl⟩
   ·exact Iff.rfl
  rw [e1,e2]
 ·rw [if_neg e,hv a b ha hb]
  have:(a<i∨(a=i∧b<j))↔(a<i∨(a=i∧b<j+1)):=by
   constructor
   ·omega
   ·intro h
    rcases h with h|⟨h1,h2⟩
    ·exact .inl h
    ·exact .inr ⟨h1,Nat.lt_of_le_of_ne (by omega) fun h3=>e (by rw [h1,h3])⟩
  by_cases h1:a<i∨(a=i∧b<j)
  ·rw [if_pos h1,if_pos (this.1 h1)]
  ·rw [if_neg h1,if_neg (fun h2=>h1 (this.2 h2))]
theorem MatW.row (h:MatW E k i j T)(hj:¬j<4):MatW E k (i+1) 0 T:=by
 refine ⟨h.1,fun a b ha hb=> ?_⟩
 rw [h.2 a b ha hb]
 by_cases h1:a<i∨(a=i∧b<j)
 ·rw [if_pos h1,if_pos (by omega)]
 ·rw [if_neg h1,if_neg (by omega)]
theorem MatW.all (h:MatW E k i 0 T)(hi:¬i<4):MatW E (k+1) 0 0 T:=by
 refine ⟨h.1,fun a b ha hb=> ?_⟩
 rw [h.2 a b ha hb,if_pos (by omega),if_neg (by omega)]
theorem MatW.diag (h:MatW E k 0 0 T)(hk:¬k<4)(hk2:k≤4)(hd:d<4):nth T (d*4+d)=true↔WarP E 4 d d:=by
 obtain rfl:k=4:=by omega
 rw [h.2 d d hd hd,if_neg (by omega)]
theorem MatE.zero :MatE l 0 (List.replicate 16 false):=by
 refine ⟨rfl,fun a b ha hb=>⟨fun h=> ?_,fun ⟨j,hj,_⟩=>absurd hj (Nat.not_lt_zero _)⟩⟩
 have:nth (List.replicate 16 false) (a*4+b)=false:=by unfold nth List.getD;rw [List.getElem?_replicate];split<;>rfl
 rw [this] at h;cases h
theorem MatE.step (h:MatE l q T)(hin:(0≤(nth l q).a∧(nth l q).a<4)∧0≤(nth l q).b∧(nth l q).b<4):MatE l (q+1) (T.set ((nth l q).a.toNat*4+(nth l q).b.toNat) true):=by
 obtain ⟨hl,hv⟩:=h
 refine ⟨by rw [List.length_set];exact hl,fun a b ha hb=> ?_⟩
 rw [nth_setB _ _ _ _ (by omega)]
 by_cases e:a*4+b=(nth l q).a.toNat*4+(nth l q).b.toNat
 ·rw [if_pos e]
  obtain ⟨e1,e2⟩:=(idx4 hb (by omega)).1 e
  refine ⟨fun _=>⟨q,by omega, ?_⟩,fun _=>rfl⟩
  have e3:nth l q=⟨(nth l q).a,(nth l q).b⟩:=rfl
  rw [e3,show (nth l q).a=(a:Int) by omega,show (nth l q).b=(b:Int) by omega]
 ·rw [if_neg e,hv a b ha hb]
  constructor
  ·rintro ⟨j,h1,h2⟩;exact ⟨j,by omega,h2⟩
  ·rintro ⟨j,h1,h2⟩
   refine ⟨j,Nat.lt_of_le_of_ne (by omega) fun h3=>e ?_,h2⟩
   rw [h3] at h2
   rw [h2];simp
theorem MatE.done (h:MatE l q T)(hq:¬q<l.length)(hq2:q≤l.length){A:P2→Prop}(hl:∀e,e∈l↔A e):∀a b:Nat,a<4→b<4→(nth T (a*4+b)=true↔A ⟨(a:Int),(b:Int)⟩):=by
 intro a b ha hb
 rw [h.2 a b ha hb,←hl]
 constructor
 ·rintro ⟨j,h1,h2⟩;rw [←h2];exact nth_mem _ _ (by omega)
 ·intro h2
  obtain ⟨j,hj,e⟩:=List.getElem_of_mem h2
  exact ⟨j,by omega,by rw [nth_lt _ _ hj,e]⟩
theorem last_no {s:List Bool}(h:s= [false,false,false,false]){k:Nat}(hk:k<4):nth s k=false:=by
 subst h
 rcases (by omega:k=0∨k=1∨k=2∨k=3) with rfl|rfl|rfl|rfl<;>rfl
theorem last_yes {s:List Bool}(h4:s.length=4)(h:s≠ [false,false,false,false]):∃k,k<4∧nth s k=true:=by
 apply Classical.byContradiction
 intro hn
 refine h (ext4 h4 rfl fun b hb=> ?_)
 cases e:nth s b with
 |true=>exact absurd ⟨b,hb,e⟩ hn
 |false=>exact (last_no rfl hb).symm
end
theorem edges_in {code:Ls (Ls Ins)}{words:Ls Int}{locks regs:Int}(h:OkPg (pgOf code words locks regs)){e:P2}(he:EdgesT code.l code.l.length e):(0≤e.a∧e.a<4)∧0≤e.b∧e.b<4:=by
 obtain ⟨t,ht,i,hi,hop,hb,k,hk,ha,_⟩:=he
 have:=lockC_of h ht i hi (.inl hop)
 rw [ha,hb]
 omega
theorem no_step {t:Nat}{A:Nat→Prop}(h:∀u,u<t→A u)(hx:A t):∀u,u<t+1→A u:=by
 intro u hu
 rcases Nat.lt_or_ge u t with h9|h9
 ·exact h u h9
 ·obtain rfl:u=t:=by omega
  exact hx
section
variable {P:Program}{o:Oper}{N:Nat}{K:Nat→Prop}{W w:World}{a:Act}{F:List (Nat×Value)}{L:List Asn}
theorem r_ixArO {T e:TypeId}{gg:Bool}{m by_:Nat}{z:List Value}{x y:Operand}{n g off q:Nat}(hT:arI P T=some (n,e))(he:tyI P e=some (gg,m,by_,z))(ho:o.op= .indexAddr T x y)(hx:ev F x=some (.pointer (some ⟨g,off,none⟩)))(hy:ev F y=some (.int .i64 (q:Int)))(hq:q<n):Rn P o N K W F L (.pointer (some ⟨g,off+q*m,none⟩)):=fun a w h=>by
 obtain ⟨i,d,zv,hi,hd,_,rfl,_⟩:=tyI_parts he
 have hu:=arI_parts hT
 have hel:P.elem T=e:=by simp [Program.elem,hu]
 have hal:P.arrayLen T=n:=by simp [Program.arrayLen,hu]
 have hu' :P.underlying T=some (.array (P.arrayLen T) (P.elem T)):=by rw [hel,hal];exact hu
 have e1:=run_indexAt_array (P:=P) (w:=w) T ⟨g,off,none⟩ .i64 (q:Int) hu'
 rw [if_pos ⟨by omega,by rw [hal];omega⟩,hel,run_sizeOf hi,Result.andThen_ok] at e1
 unfold execOp
 simp only [ho,h.fr.ev hx,h.fr.ev hy,Sem.run_bind,e1,Result.andThen_ok,Sem.run_pure]
 simp [Addr.add_lit]
theorem r_ixAr4 {T e:TypeId}{gg:Bool}{by_:Nat}{z:List Value}{x y:Operand}{n g q:Nat}(hT:arI P T=some (n,e))(he:tyI P e=some (gg,4,by_,z))(ho:o.op= .indexAddr T x y)(hx:ev F x=some (.pointer (some ⟨g,0,none⟩)))(hy:ev F y=some (.int .i64 (q:Int)))(hq:q<n):Rn P o N K W F L (.pointer (some ⟨g,q*4,none⟩)):=
 (r_ixArO hT he ho hx hy hq).same (by rw [Nat.zero_add])
theorem r_ixAr4I {T e:TypeId}{gg:Bool}{by_:Nat}{z:List Value}{x y:Operand}{n g:Nat}{q:Int}(hT:arI P T=some (n,e))(he:tyI P e=some (gg,4,by_,z))(ho:o.op= .indexAddr T x y)(hx:ev F x=some (.pointer (some ⟨g,0,none⟩)))(hy:ev F y=some (.int .i64 q))(hq:0≤q∧q<n):Rn P o N K W F L (.pointer (some ⟨g,q.toNat*4,none⟩)):=
 r_ixAr4 (q:=q.toNat) hT he ho hx (by rw [Int.toNat_of_nonneg hq.1];exact hy) (by omega)
theorem r_ixAr1 {T e:TypeId}{gg:Bool}{by_:Nat}{z:List Value}{x y:Operand}{n g off q:Nat}(hT:arI P T=some (n,e))(he:tyI P e=some (gg,1,by_,z))(ho:o.op= .indexAddr T x y)(hx:ev F x=some (.pointer (some ⟨g,off,none⟩)))(hy:ev F y=some (.int .i64 (q:Int)))(hq:q<n):Rn P o N K W F L (.pointer (some ⟨g,off+q,none⟩)):=
 (r_ixArO hT he ho hx hy hq).same (by rw [Nat.mul_one])
theorem r_ixAr1I {T e:TypeId}{gg:Bool}{by_:Nat}{z:List Value}{x y:Operand}{n g off:Nat}{q:Int}(hT:arI P T=some (n,e))(he:tyI P e=some (gg,1,by_,z))(ho:o.op= .indexAddr T x y)(hx:ev F x=some (.pointer (some ⟨g,off,none⟩)))(hy:ev F y=some (.int .i64 q))(hq:0≤q∧q<n):Rn P o N K W F L (.pointer (some ⟨g,off+q.toNat,none⟩)):=
 r_ixAr1 (q:=q.toNat) hT he ho hx (by rw [Int.toNat_of_nonneg hq.1];exact hy) (by omega)
end
theorem ar_90 :arI Try.prog 90=some (4,89):=by kernel_rfl
theorem osafe_k (code:Ls (Ls Ins))(words:Ls Int)(locks regs:Int)(W:World)(hcode:code.At W)(hwords:words.At W)(hok:OkPg (pgOf code words locks regs)):
    Rets Try.prog 17 [.agg #[code.v,words.v, .int .i64 locks, .int .i64 regs]] W (fun v w' =>∃b:Bool,v= .tuple #[.bool b, .agg #[.int .i64 0, .int .i64 0, .int .i64 0]]∧(b=true↔SafeP code.l)∧Sh0 W w' []):=by
 have hz:=checkG_ok hok
 obtain ⟨hl1,hl2,hl3,hl4',hl5,hl6,hl7⟩:=ok_len hok
 refine gen Try.func17 Try.ntmps17 (Sh0.ext2 hcode hwords:Sh (fun _=>False) W W [.at_ code, .at_ words]) rfl fun a10 h10=>gG h10<|sK fun _ k11=>gbx rfl rfl fun b12=>gRn (oM 1 rfl<|.nl)<|gal ti_30 rfl fun b13=>nK k11<|gK fun _ k14=>sK fun _ k15=>gRn (olw 1 ti_25 rfl rfl<|.nl)<|fun a17 w17 h17=>wl_ex (x_call h17 bd_27 rfl rfl rfl rfl rfl (asmCheck_c (code:=code) (words:=words) (locks:=locks) (regs:=regs) (h17.sh.at 2 rfl) (h17.sh.at 3 rfl))) (wanted_none rfl _) ?_;clear h10
 rintro a18 w18 ⟨_,⟨rfl,hs18⟩,hf18⟩
 have h18:St 103 (fun _=>False) W a18 w18 _ _:=⟨hf18,h17.sh.call0 hs18⟩
 clear hf18 hs18
 clear h17
 refine gG h18<|gal ti_30 rfl fun b19=>gsw 0 ti_30 rfl rfl rfl<|nK k15<|sG (ofB fl_30_0 rfl<|olB 0 ti_28 rfl rfl<|oneI _ _ rfl<|.nl)<|gcF rfl (by rw [hz];rfl)<|gS<|hK k14<|gK fun _ k22=>sK fun _ k23=>gNl (aA 3 rfl) fun hl24=>gRn (ofB fl_25_0 rfl<|olB 2 ti_22 rfl rfl<|oln sl_22 (aA 3 rfl) rfl<|oM 1 rfl<|.nl)<|nK k23<|gB<|fun a26 w26 h26=>x_loop (fun m a w=>∃(t:Nat),(t≤code.l.length)∧(∀u,u<t→∀k,k<4→¬HeldI (nth code.l u).l k (nth code.l u).l.length)∧St 103 (fun _=>False) W a w [(1, .pointer (some ⟨b12,0,none⟩)),(3, .pointer (some ⟨b13,0,none⟩)),(23,code.v),(24, .int .i64 ((code.l.length:Nat):Int)),(25, .int .i64 ((t:Nat):Int))] [.blk b19 30 [.int .i64 ((checkG (pgOf code words locks regs)).code), .int .i64 ((checkG (pgOf code words locks regs)).thread), .int .i64 ((checkG (pgOf code words locks regs)).at_)], .blk b13 30 [.int .i64 0, .int .i64 0, .int .i64 0], .blk b12 25 [code.v,words.v, .int .i64 locks, .int .i64 regs], .at_ code, .at_ words]∧m=code.l.length-t) ⟨_,0,(by omega),(fun u hu=>absurd hu (by omega)),h26.nf ⟨rfl,rfl,rfl,rfl,rfl,trivial⟩,rfl⟩ ?_;clear h18
 clear h26
 rintro m25 a25 w25 ⟨t,ht,hno,h25,hm25⟩
 refine gG h25<|sG (oltN _ _ rfl<|.nl)<|gK fun _ k28=>gcd rfl (fun hb29 hp29=> ?_) fun hb29 hp29=> ?_;clear h25
 ·skip
  refine gS<|hK k28<|gK fun _ k30=>gB<|sG (oxN sl_22 ti_45 (aA 3 rfl) _ om9 rfl<|olE ((nth code.l t).v) ti_45 (aA 3 rfl) om9 rfl<|oM 1 rfl<|.nl)<|?_
  obtain ⟨hl4,hjt⟩:=ok_thread hok t (by omega)
  refine sK fun _ k32=>gRn (oM 1 rfl<|.nl)<|fun a34 w34 h34=>wl_ex (x_call h34 bd_42 rfl rfl rfl rfl rfl (held_c (nth code.l t) _ ((h34.sh.at 3 rfl).nth t (show t<code.l.length from (by omega))) (codeC_of hok (by omega)) (lockC_of hok (by omega)) (by omega))) (wanted_none rfl _) ?_
  rintro a35 w35 ⟨_,⟨s35,g35,rfl,hsl35,hsv35,hs35⟩,hf35⟩
  have h35:=(⟨hf35,h34.sh.call hs35 (by intro A hA b hb;first|(simp at hA;done)|(simp at hA;subst hA;first|exact Flat.noRd hb|exact barr_noRd hb|exact (hb:False).elim))⟩:St 103 (fun _=>False) W a35 w35 _ _)
  clear hf35 hs35
  clear h34
  refine gG h35<|gRn (oM 1 rfl<|oxt rfl<|oxt rfl<|oM 2 rfl<|.nl)<|nK k32<|sK fun _ k36=>gNl (fun w h=>((h.at 4 rfl).nth t (show t<code.l.length from (by omega)))) fun (hl37:((nth code.l t).l).length≤140737488355328)=>gRn (oM 2 rfl<|oln (n:=((nth code.l t).l).length) sl_45 (fun w h=>((h.at 4 rfl).nth t (show t<code.l.length from (by omega)))) rfl<|.nl)<|?_;clear h35
  have hsl9:=hsl35;have hsv9:=hsv35 (nth code.l t).l.length (Nat.le_refl _);have hs4:=hsv9.1
  refine gNl (aO 0 rfl) fun hl38=>gRn (oxN sl_85 ti_89 (aO 0 rfl) _ om9 rfl<|oV (r_ldewAr (n:=0) (i:=((nth code.l t).l).length) (s:=s35) ti_89 rfl rfl (fun w h=>(h.own 0 rfl)) (show ((nth code.l t).l).length<s35.l.length from om9)) rfl<|oV (r_build (cs:= [.bool false, .bool false, .bool false, .bool false]) rfl rfl (by kernel_rfl)) rfl<|oV (r_neqAr (l:=((nth s35.l (((nth code.l t).l).length)).l)) (m:=([false,false,false,false])) ar_89 ti_4 Try.underlying4 (by kernel_rfl) rfl rfl rfl (by first|assumption|(simp only [lens9];done)|(simp only [lens9];first|assumption|omega)|rfl) (by first|assumption|(simp only [lens9];done)|(simp only [lens9];first|assumption|omega)|rfl)) rfl<|.nl)<|nK k36<|gcd rfl (fun hb39 hp39=> ?_) fun hb39 hp39=> ?_
  ·skip
   refine sK fun _ k40=>gRn (oV (r_build (cs:= [.int .i64 0, .int .i64 0, .int .i64 0]) rfl rfl (by kernel_rfl)) rfl<|oM 1 rfl<|.nl)<|gsw 2 ti_30 rfl rfl rfl<|nK k40<|gF [2,3] rfl<|gR<|uB<|uT<|uT<|uB<|uT<|fun a42 w42 h42=>x_rettc (fn:=Try.f17) (t:=3) (u:=2) (i:=2) ti_30 rfl h42 rfl rfl rfl rfl<|⟨false,rfl,⟨fun h9=>Bool.noConfusion h9,fun h9=> ?_⟩,(h42.sh.sel [] rfl)⟩
   first|exact absurd ((hm2.diag (by omega) (by omega) (by omega)).1 (by assumption)) (h9.2 d (by omega))|(obtain ⟨k9,hk9,h8⟩:=last_yes hs4 (by assumption);exact absurd ((hsv9.2 k9 hk9).1 h8) (h9.1 t (by omega) k9 hk9))
  refine gS<|hK k30<|gL<|gRn (oadN _ 1 om9 rfl<|oM 1 rfl<|.nl)<|nN<|fun a43 w43 h43=>x_again ⟨_, ?_,t+1, ?_, ?_,h43.nrm ⟨rfl,rfl,rfl,rfl,rfl,trivial⟩ [1,2,3,4,5] rfl,rfl⟩
  · rw [hm25];first|omega|(simp only [lens9];omega)
  · omega
  · exact no_step (A:=fun u=>∀k,k<4→¬HeldI (nth code.l u).l k (nth code.l u).l.length) hno fun k hk h9=>by have h8:=(hsv9.2 k hk).2 h9;rw [last_no (Classical.byContradiction fun h7=>absurd h7 (by assumption)) hk] at h8;cases h8
 refine gX<|hK k22<|sK fun _ k44=>gE1 (fun _ _ h_=>x_allocAr (k:=16) h_ ti_90 (by kernel_rfl) rfl rfl rfl) rfl fun b45=>nK k44<|gK fun _ k46=>sK fun _ k47=>gRn (olw 3 ti_25 rfl rfl<|.nl)<|fun a49 w49 h49=>wl_ex (x_call h49 bd_43 rfl rfl rfl rfl rfl (edges_c code words locks regs _ (h49.sh.at 4 rfl) (h49.sh.at 5 rfl) hok)) (wanted_none rfl _) ?_
 rintro a50 w50 ⟨_,⟨u50,rfl,huo50,hum50,hs50⟩,hf50⟩
 have h50:=(⟨hf50,h49.sh.call hs50 (by intro A hA b hb;first|(simp at hA;done)|(simp at hA;subst hA;first|exact Flat.noRd hb|exact barr_noRd hb|exact (hb:False).elim))⟩:St 103 (fun _=>False) W a50 w50 _ _)
 clear hf50 hs50
 clear h49
 refine gG h50<|gNl (aO 0 rfl) fun hl51=>gRn (oln sl_54 (aO 0 rfl) rfl<|oM 1 rfl<|.nl)<|nK k47<|gB<|fun a53 w53 h53=>x_loop (fun m a w=>∃(q:Nat) (T:List Bool),(q≤u50.l.length)∧(MatE u50.l q T)∧St 103 (fun _=>False) W a w [(3, .pointer (some ⟨b13,0,none⟩)),(9, .pointer (some ⟨b45,0,none⟩)),(44,u50.v),(45, .int .i64 ((u50.l.length:Nat):Int)),(46, .int .i64 ((q:Nat):Int))] [.own 57 u50, .blk b45 90 (T.map Value.bool), .blk b19 30 [.int .i64 ((checkG (pgOf code words locks regs)).code), .int .i64 ((checkG (pgOf code words locks regs)).thread), .int .i64 ((checkG (pgOf code words locks regs)).at_)], .blk b13 30 [.int .i64 0, .int .i64 0, .int .i64 0], .blk b12 25 [code.v,words.v, .int .i64 locks, .int .i64 regs], .at_ code, .at_ words]∧m=u50.l.length-q) ⟨_,0,List.replicate 16 false,(by omega),(MatE.zero),h53.nf ⟨rfl,rfl,rfl,rfl,rfl,trivial⟩,rfl⟩ ?_;clear h50
 clear h53
 rintro m52 a52 w52 ⟨q,T,hq,hmE,h52,hm52⟩
 have hT:=hmE.1
 refine gG h52<|sG (oltN _ _ rfl<|.nl)<|gK fun _ k55=>gcd rfl (fun hb56 hp56=> ?_) fun hb56 hp56=> ?_;clear h52
 ·skip
  refine gS<|hK k55<|gK fun _ k57=>gB<|sK fun _ k58=>gRn (oxN sl_54 ti_57 (aO 0 rfl) _ om9 rfl<|olw2 [.int .i64 ((nth u50.l q).a), .int .i64 ((nth u50.l q).b)] ti_57 (aO 0 rfl) om9 rfl<|.nl)<|gal ti_57 rfl fun b59=>gsw 0 ti_57 rfl rfl rfl<|nK k58<|?_
  have hin:=edges_in hok ((hum50 _).1 (nth_mem u50.l q (by omega)))
  refine rT 6 [] (oV (r_ixAr (q:=0) ar_57 ti_3 rfl rfl rfl rfl (show 0<2 from by decide)) rfl<|olB 0 ti_3 rfl rfl<|oV (r_ixAr (q:=1) ar_57 ti_3 rfl rfl rfl rfl (show 1<2 from by decide)) rfl<|olB 0 ti_3 rfl rfl<|oV (r_ixAr4I (q:=(nth u50.l q).a) ar_90 ti_89 rfl rfl rfl (show 0≤(nth u50.l q).a∧(nth u50.l q).a<4 from om9)) rfl<|oV (r_ixAr1I (q:=(nth u50.l q).b) ar_89 ti_4 rfl rfl rfl (show 0≤(nth u50.l q).b∧(nth u50.l q).b<4 from om9)) rfl<|.nl)<|gE (fun _ _ h_=>x_stAr (i:=2) (l:=T) (b:=true) h_ ti_4 rfl rfl rfl rfl rfl (show (((nth u50.l q).a).toNat)*4+((nth u50.l q).b).toNat<T.length from om9)) rfl<|nK k57<|gL<|gRn (oadN _ 1 om9 rfl<|oM 1 rfl<|.nl)<|nN<|fun a62 w62 h62=>x_again ⟨_, ?_,(q+1),T.set ((((nth u50.l q).a).toNat)*4+((nth u50.l q).b).toNat) true, ?_, ?_,h62.nrm ⟨rfl,rfl,rfl,rfl,rfl,trivial⟩ [1,2,3,4,5,6,7] rfl,rfl⟩
  · rw [hm52];first|omega|(simp only [lens9];omega)
  · omega
  · exact hmE.step hin
 refine gX<|hK k46<|gK fun _ k63=>sG (oM 1 rfl<|.nl)<|gB<|fun a66 w66 h66=>x_loop (fun m a w=>∃(k:Nat) (T2:List Bool),(k≤4)∧(MatW (fun a b:Nat=>EdgesT code.l code.l.length ⟨(a:Int),(b:Int)⟩) k 0 0 T2)∧St 103 (fun _=>False) W a w [(3, .pointer (some ⟨b13,0,none⟩)),(9, .pointer (some ⟨b45,0,none⟩)),(57, .int .i64 ((k:Nat):Int))] [.own 57 u50, .blk b45 90 (T2.map Value.bool), .blk b19 30 [.int .i64 ((checkG (pgOf code words locks regs)).code), .int .i64 ((checkG (pgOf code words locks regs)).thread), .int .i64 ((checkG (pgOf code words locks regs)).at_)], .blk b13 30 [.int .i64 0, .int .i64 0, .int .i64 0], .blk b12 25 [code.v,words.v, .int .i64 locks, .int .i64 regs], .at_ code, .at_ words]∧m=4-k) ⟨_,0,T,(by omega),(MatW.start hmE.1 (hmE.done (by omega) (by omega) hum50)),h66.nf ⟨rfl,rfl,rfl,trivial⟩,rfl⟩ ?_
 clear h66
 rintro m65 a65 w65 ⟨k,T2,hk,hm2,h65,hm65⟩
 refine gG h65<|sG (oltN _ 4 rfl<|.nl)<|gK fun _ k68=>gcd rfl (fun hb69 hp69=> ?_) fun hb69 hp69=> ?_;clear h65
 ·skip
  refine gS<|hK k68<|gK fun _ k70=>gB<|sG (oM 2 rfl<|.nl)<|sG (oM 1 rfl<|.nl)<|gB<|fun a74 w74 h74=>x_loop (fun m a w=>∃(i:Nat) (T3:List Bool),(i≤4)∧(MatW (fun a b:Nat=>EdgesT code.l code.l.length ⟨(a:Int),(b:Int)⟩) k i 0 T3)∧St 103 (fun _=>False) W a w [(3, .pointer (some ⟨b13,0,none⟩)),(9, .pointer (some ⟨b45,0,none⟩)),(12, .int .i64 ((k:Nat):Int)),(57, .int .i64 ((k:Nat):Int)),(60, .int .i64 ((i:Nat):Int))] [.own 57 u50, .blk b45 90 (T3.map Value.bool), .blk b19 30 [.int .i64 ((checkG (pgOf code words locks regs)).code), .int .i64 ((checkG (pgOf code words locks regs)).thread), .int .i64 ((checkG (pgOf code words locks regs)).at_)], .blk b13 30 [.int .i64 0, .int .i64 0, .int .i64 0], .blk b12 25 [code.v,words.v, .int .i64 locks, .int .i64 regs], .at_ code, .at_ words]∧m=4-i) ⟨_,0,T2,(by omega),(hm2),h74.nf ⟨rfl,rfl,rfl,rfl,rfl,trivial⟩,rfl⟩ ?_
  clear h74
  rintro m73 a73 w73 ⟨i,T3,hi,hm3,h73,hm73⟩
  refine gG h73<|sG (oltN _ 4 rfl<|.nl)<|gK fun _ k76=>gcd rfl (fun hb77 hp77=> ?_) fun hb77 hp77=> ?_;clear h73
  ·skip
   refine gS<|hK k76<|gK fun _ k78=>gB<|sG (oM 2 rfl<|.nl)<|sG (oM 1 rfl<|.nl)<|gB<|fun a82 w82 h82=>x_loop (fun m a w=>∃(j:Nat) (T4:List Bool),(j≤4)∧(MatW (fun a b:Nat=>EdgesT code.l code.l.length ⟨(a:Int),(b:Int)⟩) k i j T4)∧St 103 (fun _=>False) W a w [(3, .pointer (some ⟨b13,0,none⟩)),(9, .pointer (some ⟨b45,0,none⟩)),(12, .int .i64 ((k:Nat):Int)),(13, .int .i64 ((i:Nat):Int)),(57, .int .i64 ((k:Nat):Int)),(60, .int .i64 ((i:Nat):Int)),(63, .int .i64 ((j:Nat):Int))] [.own 57 u50, .blk b45 90 (T4.map Value.bool), .blk b19 30 [.int .i64 ((checkG (pgOf code words locks regs)).code), .int .i64 ((checkG (pgOf code words locks regs)).thread), .int .i64 ((checkG (pgOf code words locks regs)).at_)], .blk b13 30 [.int .i64 0, .int .i64 0, .int .i64 0], .blk b12 25 [code.v,words.v, .int .i64 locks, .int .i64 regs], .at_ code, .at_ words]∧m=4-j) ⟨_,0,T3,(by omega),(hm3),h82.nf ⟨rfl,rfl,rfl,rfl,rfl,rfl,rfl,trivial⟩,rfl⟩ ?_
   clear h82
   rintro m81 a81 w81 ⟨j,T4,hj,hm4,h81,hm81⟩
   have hT4:=hm4.1
   refine gG h81<|sG (oltN _ 4 rfl<|.nl)<|gK fun _ k84=>gcd rfl (fun hb85 hp85=> ?_) fun hb85 hp85=> ?_;clear h81
   ·skip
    refine gS<|hK k84<|gK fun _ k86=>gB<|sG (oM 2 rfl<|.nl)<|fun a88 w88 h88=>x_tail 23 [] (by kernel_rfl) (by kernel_rfl) h88 fun _ z89=>qQ h88.fr<|qRn (oM 4 rfl<|oV (r_ixAr4 (q:=i) ar_90 ti_89 rfl rfl rfl (show i<4 from om9)) rfl<|oV (r_ixAr1 (q:=j) ar_89 ti_4 rfl rfl rfl (show j<4 from om9)) rfl<|oV (r_ldAr (i:=1) (l:=T4) ti_4 rfl rfl rfl (show i*4+j<T4.length from om9)) rfl<|oM 1 rfl<|.nl)<|?_
    rcases Bool.eq_false_or_eq_true (nth T4 (i*4+j)) with hb90|hb90
    ·skip
     refine qRn (oKs 6 hb90 rfl rfl<|oK2 rfl<|oK2 rfl<|oK2 rfl<|oK2 rfl<|oK2 rfl<|oK hb90 rfl<|opT hb90 rfl<|oV (r_ixAr4 (q:=i) ar_90 ti_89 rfl rfl rfl (show i<4 from om9)) rfl<|oV (r_ixAr1 (q:=j) ar_89 ti_4 rfl rfl rfl (show j<4 from om9)) rfl<|.nl)<|qN z89<|?_;clear h88
     refine gE (fun _ _ h_=>x_stAr (i:=1) (l:=T4) (b:=true) h_ ti_4 rfl rfl rfl rfl rfl (show i*4+j<T4.length from om9)) rfl<|nK k86<|gF [3,9,12,13,57,60,63] rfl<|gL<|gRn (oadN _ 1 om9 rfl<|oM 1 rfl<|.nl)<|nN<|fun a99 w99 h99=>x_again ⟨_, ?_,(j+1),T4.set (i*4+j) true, ?_, ?_,h99.nf ⟨rfl,rfl,rfl,rfl,rfl,rfl,rfl,trivial⟩,rfl⟩
     · rw [hm81];first|omega|(simp only [lens9];omega)
     · omega
     · exact hm4.step (by omega) (by omega) (by omega) (by first|(rw [(by assumption:nth T4 (i*4+j)=true)];rfl)|(rw [(by assumption:nth T4 (i*4+j)=false),(by assumption:nth T4 (i*4+k)=true)];rfl)|(rw [(by assumption:nth T4 (i*4+j)=false),(by assumption:nth T4 (i*4+k)=false)];rfl))
    refine qRn (oG hb90 (r_move rfl rfl) rfl<|oG hb90 (r_move rfl rfl) rfl<|oG hb90 (r_ixAr4 (q:=i) ar_90 ti_89 rfl rfl rfl (show i<4 from om9)) rfl<|oG hb90 (r_ixAr1 (q:=k) ar_89 ti_4 rfl rfl rfl (show k<4 from om9)) rfl<|oG hb90 (r_ldAr (i:=1) (l:=T4) ti_4 rfl rfl rfl (show i*4+k<T4.length from om9)) rfl<|oG hb90 (r_move rfl rfl) rfl<|.nl)<|?_
    rcases Bool.eq_false_or_eq_true (nth T4 (i*4+k)) with hb106|hb106
    ·skip
     refine qRn (oG hb106 (r_move rfl rfl) rfl<|oG hb106 (r_move rfl rfl) rfl<|oG hb106 (r_ixAr4 (q:=k) ar_90 ti_89 rfl rfl rfl (show k<4 from om9)) rfl<|oG hb106 (r_ixAr1 (q:=j) ar_89 ti_4 rfl rfl rfl (show j<4 from om9)) rfl<|oG hb106 (r_ldAr (i:=1) (l:=T4) ti_4 rfl rfl rfl (show k*4+j<T4.length from om9)) rfl<|oG hb90 (r_pickT rfl rfl hb106 rfl) rfl<|opF hb90 rfl<|oV (r_ixAr4 (q:=i) ar_90 ti_89 rfl rfl rfl (show i<4 from om9)) rfl<|oV (r_ixAr1 (q:=j) ar_89 ti_4 rfl rfl rfl (show j<4 from om9)) rfl<|.nl)<|qN z89<|?_;clear h88
     refine gE (fun _ _ h_=>x_stAr (i:=1) (l:=T4) (b:=(nth T4 (k*4+j))) h_ ti_4 rfl rfl rfl rfl rfl (show i*4+j<T4.length from om9)) rfl<|nK k86<|gF [3,9,12,13,57,60,63] rfl<|gL<|gRn (oadN _ 1 om9 rfl<|oM 1 rfl<|.nl)<|nN<|fun a114 w114 h114=>x_again ⟨_, ?_,(j+1),T4.set (i*4+j) (nth T4 (k*4+j)), ?_, ?_,h114.nf ⟨rfl,rfl,rfl,rfl,rfl,rfl,rfl,trivial⟩,rfl⟩
     · rw [hm81];first|omega|(simp only [lens9];omega)
     · omega
     · exact hm4.step (by omega) (by omega) (by omega) (by first|(rw [(by assumption:nth T4 (i*4+j)=true)];rfl)|(rw [(by assumption:nth T4 (i*4+j)=false),(by assumption:nth T4 (i*4+k)=true)];rfl)|(rw [(by assumption:nth T4 (i*4+j)=false),(by assumption:nth T4 (i*4+k)=false)];rfl))
    refine qRn (oKs 5 hb106 rfl rfl<|oG hb90 (r_pickF rfl rfl hb106 rfl) rfl<|opF hb90 rfl<|oV (r_ixAr4 (q:=i) ar_90 ti_89 rfl rfl rfl (show i<4 from om9)) rfl<|oV (r_ixAr1 (q:=j) ar_89 ti_4 rfl rfl rfl (show j<4 from om9)) rfl<|.nl)<|qN z89<|?_;clear h88
    refine gE (fun _ _ h_=>x_stAr (i:=1) (l:=T4) (b:=false) h_ ti_4 rfl rfl rfl rfl rfl (show i*4+j<T4.length from om9)) rfl<|nK k86<|gF [3,9,12,13,57,60,63] rfl<|gL<|gRn (oadN _ 1 om9 rfl<|oM 1 rfl<|.nl)<|nN<|fun a118 w118 h118=>x_again ⟨_, ?_,(j+1),T4.set (i*4+j) false, ?_, ?_,h118.nf ⟨rfl,rfl,rfl,rfl,rfl,rfl,rfl,trivial⟩,rfl⟩
    · rw [hm81];first|omega|(simp only [lens9];omega)
    · omega
    · exact hm4.step (by omega) (by omega) (by omega) (by first|(rw [(by assumption:nth T4 (i*4+j)=true)];rfl)|(rw [(by assumption:nth T4 (i*4+j)=false),(by assumption:nth T4 (i*4+k)=true)];rfl)|(rw [(by assumption:nth T4 (i*4+j)=false),(by assumption:nth T4 (i*4+k)=false)];rfl))
   refine gX<|hK k78<|gL<|gRn (oadN _ 1 om9 rfl<|oM 1 rfl<|.nl)<|nN<|fun a119 w119 h119=>x_again ⟨_, ?_,(i+1),T4, ?_, ?_,h119.nf ⟨rfl,rfl,rfl,rfl,rfl,trivial⟩,rfl⟩
   · rw [hm73];first|omega|(simp only [lens9];omega)
   · omega
   · exact hm4.row (by omega)
  refine gX<|hK k70<|gL<|gRn (oadN _ 1 om9 rfl<|oM 1 rfl<|.nl)<|nN<|fun a120 w120 h120=>x_again ⟨_, ?_,(k+1),T3, ?_, ?_,h120.nf ⟨rfl,rfl,rfl,trivial⟩,rfl⟩
  · rw [hm65];first|omega|(simp only [lens9];omega)
  · omega
  · exact hm3.all (by omega)
 refine gX<|hK k63<|gK fun _ k121=>sG (oM 1 rfl<|.nl)<|gB<|?_
 have hT5:=hm2.1
 intro a124 w124 h124
 refine x_loop (fun m a w=>∃(d:Nat),(d≤4)∧(∀x,x<d→¬WarP (fun a b:Nat=>EdgesT code.l code.l.length ⟨(a:Int),(b:Int)⟩) 4 x x)∧St 103 (fun _=>False) W a w [(3, .pointer (some ⟨b13,0,none⟩)),(9, .pointer (some ⟨b45,0,none⟩)),(92, .int .i64 ((d:Nat):Int))] [.own 57 u50, .blk b45 90 (T2.map Value.bool), .blk b19 30 [.int .i64 ((checkG (pgOf code words locks regs)).code), .int .i64 ((checkG (pgOf code words locks regs)).thread), .int .i64 ((checkG (pgOf code words locks regs)).at_)], .blk b13 30 [.int .i64 0, .int .i64 0, .int .i64 0], .blk b12 25 [code.v,words.v, .int .i64 locks, .int .i64 regs], .at_ code, .at_ words]∧m=4-d) ⟨_,0,(by omega),(fun x hx=>absurd hx (by omega)),h124.nf ⟨rfl,rfl,rfl,trivial⟩,rfl⟩ ?_
 clear h124
 rintro m123 a123 w123 ⟨d,hd,hdg,h123,hm123⟩
 refine gG h123<|sG (oltN _ 4 rfl<|.nl)<|gK fun _ k126=>gcd rfl (fun hb127 hp127=> ?_) fun hb127 hp127=> ?_;clear h123
 ·skip
  refine gS<|hK k126<|gK fun _ k128=>gB<|sG (oM 2 rfl<|.nl)<|sG (oM 2 rfl<|oV (r_ixAr4 (q:=d) ar_90 ti_89 rfl rfl rfl (show d<4 from om9)) rfl<|oV (r_ixAr1 (q:=d) ar_89 ti_4 rfl rfl rfl (show d<4 from om9)) rfl<|oV (r_ldAr (i:=1) (l:=T2) ti_4 rfl rfl rfl (show d*4+d<T2.length from om9)) rfl<|.nl)<|gCb rfl (fun hb131=> ?_) fun hb131=> ?_
  ·skip
   refine sK fun _ k132=>gRn (oV (r_build (cs:= [.int .i64 0, .int .i64 0, .int .i64 0]) rfl rfl (by kernel_rfl)) rfl<|oM 1 rfl<|.nl)<|gsw 3 ti_30 rfl rfl rfl<|nK k132<|gR<|uB<|uT<|uT<|uB<|uT<|fun a134 w134 h134=>x_rettc (fn:=Try.f17) (t:=3) (u:=2) (i:=3) ti_30 rfl h134 rfl rfl rfl rfl<|⟨false,rfl,⟨fun h9=>Bool.noConfusion h9,fun h9=> ?_⟩,(h134.sh.sel [] rfl)⟩
   first|exact absurd ((hm2.diag (by omega) (by omega) (by omega)).1 (by assumption)) (h9.2 d (by omega))|(obtain ⟨k9,hk9,h8⟩:=last_yes hs4 (by assumption);exact absurd ((hsv9.2 k9 hk9).1 h8) (h9.1 t (by omega) k9 hk9))
  refine gS<|hK k128<|gL<|gRn (oadN _ 1 om9 rfl<|oM 1 rfl<|.nl)<|nN<|fun a135 w135 h135=>x_again ⟨_, ?_,d+1, ?_, ?_,h135.nf ⟨rfl,rfl,rfl,trivial⟩,rfl⟩
  · rw [hm123];first|omega|(simp only [lens9];omega)
  · omega
  · exact no_step (A:=fun x=>¬WarP (fun a b:Nat=>EdgesT code.l code.l.length ⟨(a:Int),(b:Int)⟩) 4 x x) hdg fun h9=>by have h8:=(hm2.diag (by omega) (by omega) (by omega)).2 h9;rw [(by assumption:nth T2 (d*4+d)=false)] at h8;cases h8
 refine gX<|hK k121<|sK fun _ k136=>gRn (oV (r_build (cs:= [.int .i64 0, .int .i64 0, .int .i64 0]) rfl rfl (by kernel_rfl)) rfl<|oM 1 rfl<|.nl)<|gsw 3 ti_30 rfl rfl rfl<|nK k136<|gR<|fun a138 w138 h138=>x_rettc (fn:=Try.f17) (t:=3) (u:=2) (i:=3) ti_30 rfl h138 rfl rfl rfl rfl ?_
 exact ⟨true,rfl,⟨fun _=>⟨fun u hu=>hno u (by omega),fun a ha=>hdg a (by omega)⟩,fun _=>rfl⟩,(h138.sh.sel [] rfl)⟩
theorem osafe_b (code:Ls (Ls Ins))(words:Ls Int)(locks regs:Int)(W:World)(hcode:code.At W)(hwords:words.At W)(hz:(checkG (pgOf code words locks regs)).code≠0):
    Rets Try.prog 17 [.agg #[code.v,words.v, .int .i64 locks, .int .i64 regs]] W (fun v w' =>v= .tuple #[.bool false,(checkG (pgOf code words locks regs)).val]∧Sh0 W w' []):=by
 refine gen Try.func17 Try.ntmps17 (Sh0.ext2 hcode hwords:Sh (fun _=>False) W W [.at_ code, .at_ words]) rfl fun a10 h10=>gG h10<|sK fun _ k11=>gbx rfl rfl fun b12=>gRn (oM 1 rfl<|.nl)<|gal ti_30 rfl fun b13=>nK k11<|gK fun _ k14=>sK fun _ k15=>gRn (olw 1 ti_25 rfl rfl<|.nl)<|gC (fun _ _ h_=>xCl h_ bd_27 rfl (asmCheck_c (code:=code) (words:=words) (locks:=locks) (regs:=regs) (h_.sh.at 2 rfl) (h_.sh.at 3 rfl))) rfl<|?_;clear h10
 rintro _ _ w16 ⟨rfl,hs16⟩
 refine gWk hs16 rfl<|gU<|gal ti_30 rfl fun b17=>gsw 0 ti_30 rfl rfl rfl<|nK k15<|sG (ofB fl_30_0 rfl<|olB 0 ti_28 rfl rfl<|oneI _ _ rfl<|.nl)<|gcT rfl (decide_eq_true hz)<|gK fun _ k20=>rT 2 [] (olw 0 ti_30 rfl rfl<|oM 1 rfl<|.nl)<|gsw 1 ti_30 rfl rfl rfl<|nK k20<|gR<|uT<|fun a22 w22 h22=> ?_;clear hs16
 refine x_rettc (fn:=Try.f17) (t:=3) (u:=2) (i:=1) ti_30 rfl h22 rfl rfl rfl rfl ?_
 exact ⟨rfl,(h22.sh.sel [] rfl)⟩
theorem HeldI.lock {c:List Ins}{k i:Nat}(h:HeldI c k i):∃j,j<c.length∧(nth c j).op=17∧(nth c j).a=(k:Int):=by
 induction h with
 |take i y _ h2 _ h4 h5=>exact ⟨i,h2,h4,h5⟩
 |keep i y _ _ _ _ ih=>exact ih
theorem war_le {E:Nat→Nat→Prop}{a b:Nat}(h:E a b):∀k,WarP E k a b
 |0=>h
 |k+1=> .inl (war_le h k)
theorem neq_flt (f g:Flt)(w:World):(binOp .neq 30 f.val g.val).run Try.prog w= .ok (.bool (decide (f≠g))) w:=by
 obtain ⟨a,b,c⟩:=f
 obtain ⟨a',b',c'⟩:=g
 simp [binOp,Flt.val,Op.equal,Op.maxDepth,go_sem]
 by_cases h1:a=a' <;>by_cases h2:b=b' <;>by_cases h3:c=c' <;>simp [h1,h2,h3]
theorem neq_fltG (x y:Operand)(f g:Flt)(w:World):(eqGuard .neq 30 x y f.val g.val).run Try.prog w= .ok () w:=by
 simp [eqGuard,Flt.val]
 try kernel_rfl
theorem r_neqS {P:Program}{o:Oper}{N:Nat}{K:Nat→Prop}{W:World}{F:List (Nat×Value)}{L:List Asn}{T U:TypeId}{x y:Operand}{u v:Value}{b:Bool}(ho:o.op= .binOp .neq T x y U)(hx:ev F x=some u)(hy:ev F y=some v)(hg:∀w,(eqGuard .neq T x y u v).run P w= .ok () w)(hb:∀w,(binOp .neq T u v).run P w= .ok (.bool b) w):Rn P o N K W F L (.bool b):=fun a w h=>by
 unfold execOp
 simp only [ho,h.fr.ev hx,h.fr.ev hy,Sem.run_bind,Sem.run_pure,Result.andThen_ok,hg,hb]
def putM (M:List (Ls Bool))(i k:Nat):List (Ls Bool):=M.set i ⟨(nth M i).v,(nth M i).l.set k true⟩
theorem putM_len (M:List (Ls Bool))(i k:Nat):(putM M i k).length=M.length:=List.length_set
theorem putM_row {M:List (Ls Bool)}{i k a:Nat}(hi:i<M.length):(nth (putM M i k) a).l=if a=i then (nth M i).l.set k true else (nth M a).l:=by
 unfold putM
 rw [nth_set1]
 by_cases e:a=i
 ·rw [if_pos ⟨e.symm,hi⟩,if_pos e]
 ·rw [if_neg (fun h=>e h.1.symm),if_neg e]
theorem putM_w {M:List (Ls Bool)}{i k a:Nat}(hi:i<M.length):(nth (putM M i k) a).l.length=(nth M a).l.length:=by
 rw [putM_row hi]
 split
 ·rename_i e;rw [List.length_set,e]
 ·rfl
theorem putM_nth {M:List (Ls Bool)}{i k a b:Nat}(hi:i<M.length)(hk:k<(nth M i).l.length):nth (nth (putM M i k) a).l b=if a=i∧b=k then true else nth (nth M a).l b:=by
 rw [putM_row hi]
 by_cases e:a=i
 ·subst e
  rw [if_pos rfl,nth_setB _ _ _ _ hk]
  by_cases e2:b=k
  ·rw [if_pos e2,if_pos ⟨rfl,e2⟩]
  ·rw [if_neg e2,if_neg (fun h=>e2 h.2)]
 ·rw [if_neg e,if_neg (fun h=>e h.1)]
theorem putM_keep {M:List (Ls Bool)}{i k a b:Nat}(hi:i<M.length)(hk:k<(nth M i).l.length)(h:nth (nth M a).l b=true):nth (nth (putM M i k) a).l b=true:=by
 rw [putM_nth hi hk];split;rfl;exact h
structure HlB (code:List Ins)(L:Nat)(M:List (Ls Bool)):Prop where
 len:M.length=code.length+1
 w:∀i,i<code.length+1→(nth M i).l.length=L
 sound:∀i,i<code.length+1→∀k,k<L→nth (nth M i).l k=true→HeldI code k i
def HlK (code:List Ins)(M:List (Ls Bool))(a k:Nat):Prop:=outB (nth code a) k (nth (nth M a).l k)=true→∀y∈nextsL code a,nth (nth M y.toNat).l k=true
def HlC (code:List Ins)(L:Nat)(M:List (Ls Bool))(a:Nat):Prop:=RchC code a→∀k,k<L→HlK code M a k
def HlJ (code:List Ins)(M:List (Ls Bool))(a k j:Nat):Prop:=outB (nth code a) k (nth (nth M a).l k)=true→∀q,q<j→nth (nth M (nth (nextsL code a) q).toNat).l k=true
def HlR (code:List Ins)(L:Nat)(M1 M:List (Ls Bool))(g:Bool)(a k:Nat):Prop:=g=false→M=M1∧(∀i,i<a→HlC code L M1 i)∧∀k',k' <k→HlK code M1 a k'
def HlQ (code:List Ins)(L:Nat)(M1 M3 M:List (Ls Bool))(g:Bool)(a k j:Nat):Prop:=g=false→M=M3∧M3=M1∧(∀i,i<a→HlC code L M1 i)∧(∀k',k' <k→HlK code M1 a k')∧HlJ code M1 a k j
section
variable {code:List Ins}{M M1 M3:List (Ls Bool)}{L a k j n:Nat}{g:Bool}
theorem HlB.start (h1:M.length=code.length+1)(h2:∀i,i<code.length+1→(nth M i).l=List.replicate L false):HlB code L M:=by
 refine ⟨h1,fun i hi=>by rw [h2 i hi];simp,fun i hi k hk h=> ?_⟩
 rw [h2 i hi] at h
 have:nth (List.replicate L false) k=false:=by simp [nth,List.getD,List.getElem?_replicate,hk]
 rw [this] at h;cases h
theorem HlB.put (hc:CodeC code)(h:HlB code L M)(ha:a<code.length)(hr:RchC code a)(hj:j<(nextsL code a).length)(hk:k<L)(hh:nth (nth M a).l k=true→HeldI code k a)
  {b:Bool} (hb:b=true→HeldI code k a) (ho:outB (nth code a) k b=true):HlB code L (putM M (nth (nextsL code a) j).toNat k):=by
 have hm:=nth_mem (nextsL code a) j hj
 have hx:=hc.nx a ha _ hm
 have hl:=h.len
 have hi:(nth (nextsL code a) j).toNat<M.length:=by omega
 have hw:=h.w (nth (nextsL code a) j).toNat (by omega)
 refine ⟨by rw [putM_len];exact hl,fun i hi2=>by rw [putM_w hi];exact h.w i hi2,fun i hi2 k2 hk2 h2=> ?_⟩
 rw [putM_nth hi (by omega)] at h2
 by_cases e:i=(nth (nextsL code a) j).toNat∧k2=k
 ·obtain ⟨rfl,rfl⟩:=e
  exact HeldI.out hr ha hm hb ho
 ·rw [if_neg e] at h2
  exact h.sound i hi2 k2 hk2 h2
theorem HlR.start :HlR code L M M false 0 0:=fun _=>⟨rfl,fun i hi=>absurd hi (Nat.not_lt_zero _),fun i hi=>absurd hi (Nat.not_lt_zero _)⟩
theorem HlR.skip (h:HlR code L M1 M g a 0)(hr:¬RchC code a):HlR code L M1 M g (a+1) 0:=fun hg=>by
 obtain ⟨h1,h2,_⟩:=h hg
 exact ⟨h1,no_step (A:=fun i=>HlC code L M1 i) h2 fun h9=>absurd h9 hr,fun i hi=>absurd hi (Nat.not_lt_zero _)⟩
theorem HlR.next (h:HlR code L M1 M g a k)(hk:¬k<L):HlR code L M1 M g (a+1) 0:=fun hg=>by
 obtain ⟨h1,h2,h3⟩:=h hg
 exact ⟨h1,no_step (A:=fun i=>HlC code L M1 i) h2 fun _ k2 hk2=>h3 k2 (by omega),fun i hi=>absurd hi (Nat.not_lt_zero _)⟩
theorem HlR.end_ (h:HlR code L M1 M g a 0)(ha:¬a<code.length)(hg:g=false):∀i,i<code.length→HlC code L M i:=by
 obtain ⟨rfl,h2,_⟩:=h hg
 exact fun i hi=>h2 i (by omega)
theorem HlQ.start (h:HlR code L M1 M g a k):HlQ code L M1 M M g a k 0:=fun hg=>by
 obtain ⟨h1,h2,h3⟩:=h hg
 exact ⟨rfl,h1,h2,h3,fun _ q hq=>absurd hq (Nat.not_lt_zero _)⟩
theorem HlQ.put :HlQ code L M1 M3 M true a k j:=fun h=>by cases h
theorem HlQ.yes (h:HlQ code L M1 M3 M g a k j)(h2:nth (nth M (nth (nextsL code a) j).toNat).l k=true):HlQ code L M1 M3 M g a k (j+1):=fun hg=>by
 obtain ⟨rfl,rfl,h3,h4,h5⟩:=h hg
 exact ⟨rfl,rfl,h3,h4,fun ho=>no_step (A:=fun q=>nth (nth M (nth (nextsL code a) q).toNat).l k=true) (h5 ho) h2⟩
theorem HlQ.no (h:HlQ code L M1 M3 M g a k j){b:Bool}(hb:b=outB (nth code a) k (nth (nth M3 a).l k))(h2:b=false):HlQ code L M1 M3 M g a k (j+1):=fun hg=>by
 obtain ⟨rfl,rfl,h3,h4,h5⟩:=h hg
 refine ⟨rfl,rfl,h3,h4,fun ho=> ?_⟩
 rw [←hb,h2] at ho;cases ho
theorem HlQ.done (h:HlQ code L M1 M3 M g a k j)(hj:¬j<(nextsL code a).length):HlR code L M1 M g a (k+1):=fun hg=>by
 obtain ⟨rfl,rfl,h3,h4,h5⟩:=h hg
 refine ⟨rfl,h3,no_step (A:=fun k' =>HlK code M a k') h4 fun ho y hy=> ?_⟩
 obtain ⟨q,hq,rfl⟩:=List.getElem_of_mem hy
 have:=h5 ho q (by omega)
 rwa [nth_lt _ _ hq] at this
end
structure MtE (L:Nat)(M:List (Ls Bool))(A:P2→Prop):Prop where
 len:M.length=L
 w:∀a,a<L→(nth M a).l.length=L
 v:∀a b:Nat,a<L→b<L→(nth (nth M a).l b=true↔A ⟨(a:Int),(b:Int)⟩)
section
variable {M:List (Ls Bool)}{L a b:Nat}{A B:P2→Prop}
theorem MtE.start (h1:M.length=L)(h2:∀i,i<L→(nth M i).l=List.replicate L false):MtE L M fun _=>False:=by
 refine ⟨h1,fun a ha=>by rw [h2 a ha];simp,fun a b ha hb=> ?_⟩
 rw [h2 a ha]
 have:nth (List.replicate L false) b=false:=by simp [nth,List.getD,List.getElem?_replicate,hb]
 rw [this];simp
theorem MtE.put (h:MtE L M A)(ha:a<L)(hb:b<L):MtE L (putM M a b) fun e=>A e∨e=⟨(a:Int),(b:Int)⟩:=by
 have hl:=h.len
 have hw:=h.w a ha
 refine ⟨by rw [putM_len];exact hl,fun i hi=>by rw [putM_w (by omega)];exact h.w i hi,fun i j hi hj=> ?_⟩
 rw [putM_nth (by omega) (by omega)]
 by_cases e:i=a∧j=b
 ·rw [if_pos e]
  exact ⟨fun _=> .inr (by rw [e.1,e.2]),fun _=>rfl⟩
 ·rw [if_neg e,h.v i j hi hj]
  refine ⟨.inl,fun h9=>h9.elim id fun h8=>absurd ?_ e⟩
  injection h8 with h6 h7
  omega
end
section
variable {E:Nat→Nat→Prop}{L k n i j c a b d:Nat}{M:List (Ls Bool)}
theorem war_trans :∀ {k a b c:Nat},b<k→WarP E k a b→WarP E k b c→WarP E k a c
 |0,a,b,c,hb,_,_=>absurd hb (Nat.not_lt_zero _)
 |k+1,a,b,c,hb,h1,h2=>by
  rcases Nat.lt_or_ge b k with hk|hk
  ·rcases h1 with h1|⟨h1,h1'⟩<;>rcases h2 with h2|⟨h2,h2'⟩
   ·exact .inl (war_trans hk h1 h2)
   ·exact .inr ⟨war_trans hk h1 h2,h2'⟩
   ·exact .inr ⟨h1,war_trans hk h1' h2⟩
   ·exact .inr ⟨h1,h2'⟩
  ·obtain rfl:b=k:=by omega
   have h3:WarP E b a b:=h1.elim id (·.1)
   have h4:WarP E b b c:=h2.elim id (·.2)
   exact .inr ⟨h3,h4⟩
theorem war_dom :∀ {k a b:Nat},WarP E k a b→(∃c,E a c)∧∃c,E c b
 |0,a,b,h=>⟨⟨b,h⟩,⟨a,h⟩⟩
 |k+1,a,b,h=>by
  rcases h with h|⟨h1,h2⟩
  ·exact war_dom h
  ·exact ⟨(war_dom h1).1,(war_dom h2).2⟩
theorem war_down (hE:∀a b,E a b→a<L∧b<L):∀ {k:Nat},L≤k→∀ {a b:Nat},WarP E k a b→WarP E L a b:=by
 intro k hk
 induction hk with
 |refl=>exact fun h=>h
 |step hk ih=>
  rename_i m
  intro a b h
  rcases h with h|⟨h1,h2⟩
  ·exact ih h
  ·obtain ⟨x,hx⟩:=(war_dom h2).1
   have h9:L≤m:=hk
   exact absurd (hE _ _ hx).1 (by omega)
structure ClQ (E:Nat→Nat→Prop)(L n i j c:Nat)(M:List (Ls Bool)):Prop where
 len:M.length=L
 w:∀a,a<L→(nth M a).l.length=L
 lo:∀a b,a<L→b<L→WarP E n a b→nth (nth M a).l b=true
 up:∀a b,a<L→b<L→nth (nth M a).l b=true→WarP E 4 a b
 tr:∀a b d,a<L→b<L→d<L→(a<i∨(a=i∧(b<j∨(b=j∧d<c))))→WarP E n a b→WarP E n b d→nth (nth M a).l d=true
theorem ClQ.start {A:P2→Prop}(h:MtE L M A):ClQ (fun a b:Nat=>A ⟨(a:Int),(b:Int)⟩) L 0 0 0 0 M:=
 ⟨h.len,h.w,fun a b ha hb h9=>(h.v a b ha hb).2 h9,fun a b ha hb h9=>war_le ((h.v a b ha hb).1 h9) 4,fun a b d _ _ _ h9=>by omega⟩
theorem ClQ.yes (h:ClQ E L n i j c M)(hi:i<L)(hj:j<L)(hj4:j<4)(hc:c<L)(h1:nth (nth M i).l j=true)(h2:nth (nth M j).l c=true):ClQ E L n i j (c+1) (putM M i c):=by
 have hl:=h.len
 have hw:=h.w i hi
 have hu:=war_trans hj4 (h.up i j hi hj h1) (h.up j c hj hc h2)
 refine ⟨by rw [putM_len];exact hl,fun a ha=>by rw [putM_w (by omega)];exact h.w a ha,fun a b ha hb h9=>putM_keep (by omega) (by omega) (h.lo a b ha hb h9),fun a b ha hb h9=> ?_,fun a b d ha hb hd h7 h8 h9=> ?_⟩
 ·rw [putM_nth (by omega) (by omega)] at h9
  by_cases e:a=i∧b=c
  ·obtain ⟨rfl,rfl⟩:=e;exact hu
  ·rw [if_neg e] at h9;exact h.up a b ha hb h9
 ·by_cases e:a=i∧d=c
  ·rw [putM_nth (by omega) (by omega),if_pos e]
  ·refine putM_keep (by omega) (by omega) (h.tr a b d ha hb hd ?_ h8 h9)
   omega
theorem ClQ.no (h:ClQ E L n i j c M)(h1:nth (nth M i).l j=false∨nth (nth M j).l c=false):ClQ E L n i j (c+1) M:=by
 refine ⟨h.len,h.w,h.lo,h.up,fun a b d ha hb hd h7 h8 h9=> ?_⟩
 by_cases e:a=i∧b=j∧d=c
 ·obtain ⟨rfl,rfl,rfl⟩:=e
  rcases h1 with h1|h1
  ·rw [h.lo a b ha hb h8] at h1;cases h1
  ·rw [h.lo b d hb hd h9] at h1;cases h1
 ·exact h.tr a b d ha hb hd (by omega) h8 h9
theorem ClQ.end_ (h:ClQ E L n 0 0 0 M)(hn:¬n<L)(hn2:n≤L)(hL4:L≤4)(hE:∀a b,E a b→a<L∧b<L)(ha:a<L):nth (nth M a).l a=true↔WarP E 4 a a:=by
 obtain rfl:n=L:=by omega
 exact ⟨h.up a a ha ha,fun h9=>h.lo a a ha ha (war_down hE hL4 h9)⟩
end
theorem and_t' {p:Prop}[Decidable p]{b c:Bool}(h:p)(e:b=c):b=(decide p&&c):=by rw [decide_eq_true h,e];rfl
theorem and_f' {p:Prop}[Decidable p]{c:Bool}(h:¬p):false=(decide p&&c):=by rw [decide_eq_false h];rfl
def ableT (code:Ls (Ls Ins))(thr:Ls ThL)(owner:List Int)(t:Nat):Bool:=decide ((nth thr.l t).pc<((nth code.l t).l.length:Int))&&ableL owner (nth thr.l t).wait.l.length (nextIns (nth code.l t).l (nth thr.l t).pc)
def mayT (mode:Int)(thr:Ls ThL)(t k:Nat):List Int:=((List.range k).filter (mayK mode (nth thr.l t).wait.l)).map fun k=>((8*t+k+1:Nat):Int)
def moveT (mode:Int)(code:Ls (Ls Ins))(thr:Ls ThL)(owner:List Int)(t:Nat):List Int:=(if ableT code thr owner t=true then [((8*t:Nat):Int)] else [])++mayT mode thr t (nth thr.l t).wait.l.length
theorem mayT_len (mode:Int)(thr:Ls ThL)(t k:Nat):(mayT mode thr t k).length≤k:=by
 unfold mayT
 rw [List.length_map]
 exact Nat.le_trans (List.length_filter_le _ _) (by simp)
theorem mayT_t {mode:Int}{thr:Ls ThL}{t k:Nat}(h:mayK mode (nth thr.l t).wait.l k=true):mayT mode thr t (k+1)=mayT mode thr t k++ [((8*t+k+1:Nat):Int)]:=by
 unfold mayT;rw [List.range_succ,List.filter_append,List.map_append];simp [h]
theorem mayT_f {mode:Int}{thr:Ls ThL}{t k:Nat}(h:mayK mode (nth thr.l t).wait.l k=false):mayT mode thr t (k+1)=mayT mode thr t k:=by
 unfold mayT;rw [List.range_succ,List.filter_append,List.map_append];simp [h]
def movesL (mode:Int)(code:Ls (Ls Ins))(thr:Ls ThL)(owner:List Int)(n:Nat):List Int:=(List.range n).flatMap (moveT mode code thr owner)
theorem movesL_succ (mode:Int)(code:Ls (Ls Ins))(thr:Ls ThL)(owner:List Int)(n:Nat):movesL mode code thr owner (n+1)=movesL mode code thr owner n++moveT mode code thr owner n:=by simp [movesL,List.range_succ]
def endT (code:Ls (Ls Ins))(thr:Ls ThL)(t:Nat):Bool:=decide (¬(nth thr.l t).pc<((nth code.l t).l.length:Int))&&decide ((nth thr.l t).wait.l.length=0)
def endedL (code:Ls (Ls Ins))(thr:Ls ThL):Bool:=(List.range code.l.length).all (endT code thr)
theorem endT_t {code:Ls (Ls Ins)}{thr:Ls ThL}{t:Nat}(h:¬(nth thr.l t).pc<((nth code.l t).l.length:Int))(h2:(nth thr.l t).wait.l.length=0):endT code thr t=true:=by unfold endT;rw [decide_eq_true h,decide_eq_true h2];rfl
theorem endedL_t {code:Ls (Ls Ins)}{thr:Ls ThL}(h:∀j,j<code.l.length→endT code thr j=true):endedL code thr=true:=by
 unfold endedL;rw [List.all_eq_true];intro j hj;exact h j (by simpa using hj)
theorem endedL_f {code:Ls (Ls Ins)}{thr:Ls ThL}{t:Nat}(ht:t<code.l.length)(h:(nth thr.l t).pc<((nth code.l t).l.length:Int)∨¬(nth thr.l t).wait.l.length=0):endedL code thr=false:=by
 unfold endedL;rw [List.all_eq_false]
 refine ⟨t,by simpa using ht, ?_⟩
 unfold endT
 rcases h with h|h
 ·rw [decide_eq_false (by omega)];simp
 ·rw [decide_eq_false h];simp
theorem mayK_t0 {m:Int}{l:List Wt}{k:Nat}(h:k=0):mayK m l k=true:=by unfold mayK;simp [h]
theorem mayK_f1 {m:Int}{l:List Wt}{k:Nat}(h:k≠0)(h2:m=1∨(nth l k).lock=true):mayK m l k=false:=by unfold mayK;rcases h2 with h2|h2<;>simp [h,h2]
theorem mayK_f2 {m:Int}{l:List Wt}{k:Nat}(h:k≠0)(i:Nat)(hi:i<k)(h2:(nth l i).lock=true∨(nth l i).wh=(nth l k).wh):mayK m l k=false:=by
 have e:(List.range k).all (fun i=> !((nth l i).lock||decide ((nth l i).wh=(nth l k).wh)))=false:=by
  rw [List.all_eq_false]
  exact ⟨i,by simpa using hi,by rcases h2 with h2|h2<;>simp [h2]⟩
 unfold mayK
 rw [e]
 simp [h]
theorem mayK_t {m:Int}{l:List Wt}{k:Nat}(h:m≠1)(h2:(nth l k).lock=false)(ha:∀j,j<k→(nth l j).lock=false∧(nth l j).wh≠(nth l k).wh):mayK m l k=true:=by
 have e:(List.range k).all (fun i=> !((nth l i).lock||decide ((nth l i).wh=(nth l k).wh)))=true:=by
  rw [List.all_eq_true]
  intro j hj
  obtain ⟨h3,h4⟩:=ha j (by simpa using hj)
  simp [h3,h4]
 unfold mayK
 rw [e]
 simp [h,h2]
theorem bit_c (b:Bool)(W:World):
    Rets Try.prog 84 [.bool b] W (fun v w' =>v= .int .i64 (bit b)∧Sh0 W w' []):=by
 refine gen Try.func84 Try.ntmps84 (Sh0.start _:Sh (fun _=>False) W W []) rfl fun a10 h10=>gG h10<|sG (oM 1 rfl<|.nl)<|gK fun _ k12=>sG (oM 1 rfl<|.nl)<|?_;clear h10
 refine gCb rfl (fun hb14=> ?_) fun hb14=> ?_
 ·skip
  refine sG (oM 1 rfl<|.nl)<|gR<|uT<|fun a16 w16 h16=>x_ret1 (fn:=Try.f84) (t:=2) rfl h16 rfl<|⟨?_,(h16.sh.sel [] rfl)⟩
  first|(rw [show b=true by assumption];rfl)|(rw [show b=false by assumption];rfl)
 refine gS<|hK k12<|sG (oM 1 rfl<|.nl)<|gR<|fun a18 w18 h18=>x_ret1 (fn:=Try.f84) (t:=2) rfl h18 rfl<|⟨?_,(h18.sh.sel [] rfl)⟩
 first|(rw [show b=true by assumption];rfl)|(rw [show b=false by assumption];rfl)
theorem may_c (g:Nat)(l:Ls Wt)(k:Nat)(cv:Value)(pw:Value)(locks:Int)(regs:Int)(mode:Int)(tv:Value)(uv:Value)(ov:Value)(pv:Value)(fell:Bool)(W:World)(hB:Blk W g 100 #[cv,pw, .int .i64 locks, .int .i64 regs, .int .i64 mode,tv,uv,ov,pv, .bool fell])(h_l:l.At W)(hk:k<l.l.length):
    Rets Try.prog 82 [.pointer (some ⟨g,0,none⟩),l.v, .int .i64 ((k:Nat):Int)] W (fun v w' =>v= .bool (mayK mode l.l k)∧Sh0 W w' []):=by
 refine gen Try.func82 Try.ntmps82 (Sh0.ext (by intro A hA;simp at hA;rcases hA with rfl|rfl;exact hB;exact h_l) (by intro A hA b hb;simp at hA;rcases hA with rfl|rfl<;>exact hb):Sh (fun _=>False) W W [.rblk g 100 [cv,pw, .int .i64 locks, .int .i64 regs, .int .i64 mode,tv,uv,ov,pv, .bool fell], .at_ l]) rfl fun a10 h10=>gG h10<|sG (oM 1 rfl<|.nl)<|gK fun _ k12=>sG (oM 1 rfl<|oeqN _ 0 rfl<|.nl)<|?_;clear h10
 refine gcd rfl (fun hb14 hp14=> ?_) fun hb14 hp14=> ?_
 ·skip
  refine sG (oM 1 rfl<|.nl)<|gR<|uT<|fun a16 w16 h16=>x_ret1 (fn:=Try.f82) (t:=6) rfl h16 rfl<|⟨?_,(h16.sh.sel [] rfl)⟩
  congr 1
  first|exact (mayK_t0 (by omega)).symm|exact (mayK_f1 (by omega) (by first|exact .inl (by omega)|exact .inr (by assumption))).symm|exact (mayK_f2 (by omega) i (by omega) (by first|exact .inl (by assumption)|exact .inr (by omega))).symm|exact (mayK_t (by omega) (by assumption) (fun j hj=>hall j (by omega))).symm
 refine gS<|hK k12<|gK fun _ k17=>sK fun _ k18=>gRn (oM 1 rfl<|onf fl_100_1 rfl<|olR 0 ti_3 rfl rfl<|oeqI _ _ rfl<|oM 1 rfl<|.nl)<|?_
 rcases dsp (mode=1) with ⟨hb19,hp19⟩|⟨hb19,hp19⟩
 ·skip
  refine gRn (oKs 5 hb19 rfl rfl<|opT hb19 rfl<|.nl)<|nK k18<|gcT rfl rfl<|sG (oM 1 rfl<|.nl)<|gR<|uT<|fun a21 w21 h21=>x_ret1 (fn:=Try.f82) (t:=6) rfl h21 rfl<|⟨?_,(h21.sh.sel [] rfl)⟩
  congr 1
  first|exact (mayK_t0 (by omega)).symm|exact (mayK_f1 (by omega) (by first|exact .inl (by omega)|exact .inr (by assumption))).symm|exact (mayK_f2 (by omega) i (by omega) (by first|exact .inl (by assumption)|exact .inr (by omega))).symm|exact (mayK_t (by omega) (by assumption) (fun j hj=>hall j (by omega))).symm
 refine gNl (aA 1 rfl) fun hl22=>gRn (oG hb19 (r_move rfl rfl) rfl<|oG hb19 (r_move rfl rfl) rfl<|oG hb19 (r_ixN (s:=l) (q:=k) sl_134 ti_144 rfl rfl rfl (fun w h=>(h.at 1 rfl)) (show k<l.l.length from om9)) rfl<|oG hb19 (r_fieldE (r:=0) fl_144_0 rfl rfl rfl) rfl<|oG hb19 (r_lde (s:=l) (i:=k) (v:= .bool ((nth l.l k).lock)) ti_4 rfl rfl rfl (fun w h=>(h.at 1 rfl)) (show k<l.l.length from om9) (Nat.le_of_ble_eq_true rfl) rfl) rfl<|opF hb19 rfl<|.nl)<|nK k18<|gCb rfl (fun hb23=> ?_) fun hb23=> ?_
 ·skip
  refine sG (oM 1 rfl<|.nl)<|gR<|uT<|fun a25 w25 h25=>x_ret1 (fn:=Try.f82) (t:=6) rfl h25 rfl<|⟨?_,(h25.sh.sel [] rfl)⟩
  congr 1
  first|exact (mayK_t0 (by omega)).symm|exact (mayK_f1 (by omega) (by first|exact .inl (by omega)|exact .inr (by assumption))).symm|exact (mayK_f2 (by omega) i (by omega) (by first|exact .inl (by assumption)|exact .inr (by omega))).symm|exact (mayK_t (by omega) (by assumption) (fun j hj=>hall j (by omega))).symm
 refine gS<|hK k17<|gK fun _ k26=>sG (oM 1 rfl<|.nl)<|gB<|fun a29 w29 h29=>x_loop (fun m a w=>∃(i:Nat),(i≤k)∧(∀j,j<i→(nth l.l j).lock=false∧(nth l.l j).wh≠(nth l.l k).wh)∧St 45 (fun _=>False) W a w [(1,l.v),(2, .int .i64 ((k:Nat):Int)),(7, .int .i64 ((i:Nat):Int))] [.rblk g 100 [cv,pw, .int .i64 locks, .int .i64 regs, .int .i64 mode,tv,uv,ov,pv, .bool fell], .at_ l]∧m=k-i) ⟨_,0,(by omega),(fun j hj=>absurd hj (by omega)),h29.nf ⟨rfl,rfl,rfl,trivial⟩,rfl⟩ ?_
 clear h29
 rintro m28 a28 w28 ⟨i,hi,hall,h28,hm28⟩
 refine gG h28<|gK fun _ k30=>sG (oM 2 rfl<|oltN _ _ rfl<|.nl)<|?_;clear h28
 refine gcd rfl (fun hb32 hp32=> ?_) fun hb32 hp32=> ?_
 ·skip
  refine gS<|hK k30<|gK fun _ k33=>gB<|gK fun _ k34=>fun a35 w35 h35=>x_quiet (by kernel_rfl) (by kernel_rfl) h35 fun _ z36=>qQ h35.fr<|qRn (oM 2 rfl<|oxN sl_134 ti_144 (aA 1 rfl) _ om9 rfl<|ofE fl_144_0 rfl<|olE (.bool ((nth l.l i).lock)) ti_4 (aA 1 rfl) om9 rfl<|oM 1 rfl<|.nl)<|?_
  rcases Bool.eq_false_or_eq_true ((nth l.l i).lock) with hb37|hb37
  ·skip
   refine qRn (oKs 11 hb37 rfl rfl<|opT hb37 rfl<|.nl)<|qN z36<|?_;clear h35
   refine hK k34<|gcT rfl rfl<|sG (oM 1 rfl<|.nl)<|gF [6] rfl<|gR<|uB<|uT<|uT<|uB<|uT<|fun a40 w40 h40=>x_ret1 (fn:=Try.f82) (t:=6) rfl h40 rfl<|⟨?_,(h40.sh.sel [] rfl)⟩
   congr 1
   first|exact (mayK_t0 (by omega)).symm|exact (mayK_f1 (by omega) (by first|exact .inl (by omega)|exact .inr (by assumption))).symm|exact (mayK_f2 (by omega) i (by omega) (by first|exact .inl (by assumption)|exact .inr (by omega))).symm|exact (mayK_t (by omega) (by assumption) (fun j hj=>hall j (by omega))).symm
  refine qRn (oG hb37 (r_move rfl rfl) rfl<|oG hb37 (r_move rfl rfl) rfl<|oG hb37 (r_ixN (s:=l) (q:=i) sl_134 ti_144 rfl rfl rfl (fun w h=>(h.at 1 rfl)) (show i<l.l.length from om9)) rfl<|oG hb37 (r_fieldE (r:=1) fl_144_1 rfl rfl rfl) rfl<|oG hb37 (r_lde (s:=l) (i:=i) (v:= .int .i64 ((nth l.l i).wh)) ti_3 rfl rfl rfl (fun w h=>(h.at 1 rfl)) (show i<l.l.length from om9) (Nat.le_of_ble_eq_true rfl) rfl) rfl<|oG hb37 (r_move rfl rfl) rfl<|oG hb37 (r_move rfl rfl) rfl<|oG hb37 (r_ixN (s:=l) (q:=k) sl_134 ti_144 rfl rfl rfl (fun w h=>(h.at 1 rfl)) (show k<l.l.length from om9)) rfl<|oG hb37 (r_fieldE (r:=1) fl_144_1 rfl rfl rfl) rfl<|oG hb37 (r_lde (s:=l) (i:=k) (v:= .int .i64 ((nth l.l k).wh)) ti_3 rfl rfl rfl (fun w h=>(h.at 1 rfl)) (show k<l.l.length from om9) (Nat.le_of_ble_eq_true rfl) rfl) rfl<|oG hb37 (r_eqlI (p:=(nth l.l i).wh) (q:=(nth l.l k).wh) rfl rfl rfl) rfl<|opF hb37 rfl<|.nl)<|qN z36<|?_;clear h35
  refine hK k34<|gcd rfl (fun hb52 hp52=> ?_) fun hb52 hp52=> ?_
  ·skip
   refine sG (oM 1 rfl<|.nl)<|gF [6] rfl<|gR<|uB<|uT<|uT<|uB<|uT<|fun a54 w54 h54=>x_ret1 (fn:=Try.f82) (t:=6) rfl h54 rfl<|⟨?_,(h54.sh.sel [] rfl)⟩
   congr 1
   first|exact (mayK_t0 (by omega)).symm|exact (mayK_f1 (by omega) (by first|exact .inl (by omega)|exact .inr (by assumption))).symm|exact (mayK_f2 (by omega) i (by omega) (by first|exact .inl (by assumption)|exact .inr (by omega))).symm|exact (mayK_t (by omega) (by assumption) (fun j hj=>hall j (by omega))).symm
  refine gS<|hK k33<|gL<|gRn (oM 1 rfl<|oadN _ 1 om9 rfl<|oM 1 rfl<|.nl)<|nN<|fun a55 w55 h55=>x_again ⟨_, ?_,i+1, ?_, ?_,h55.nf ⟨rfl,rfl,rfl,trivial⟩,rfl⟩
  · rw [hm28];first|omega|(simp only [lens9];omega)
  · omega
  · intro j hj;rcases Nat.lt_or_ge j i with h|h;(exact hall j h);obtain rfl:j=i:=(by omega);exact ⟨by assumption,by omega⟩
 refine gX<|hK k26<|sG (oM 1 rfl<|.nl)<|gR<|fun a57 w57 h57=>x_ret1 (fn:=Try.f82) (t:=6) rfl h57 rfl<|⟨?_,(h57.sh.sel [] rfl)⟩
 congr 1
 first|exact (mayK_t0 (by omega)).symm|exact (mayK_f1 (by omega) (by first|exact .inl (by omega)|exact .inr (by assumption))).symm|exact (mayK_f2 (by omega) i (by omega) (by first|exact .inl (by assumption)|exact .inr (by omega))).symm|exact (mayK_t (by omega) (by assumption) (fun j hj=>hall j (by omega))).symm
theorem next_c (g t:Nat)(code:Ls (Ls Ins))(thr:Ls ThV)(pw:Value)(locks:Int)(regs:Int)(mode:Int)(uv:Value)(ov:Value)(pv:Value)(fell:Bool)(W:World)(hB:Blk W g 100 #[code.v,pw, .int .i64 locks, .int .i64 regs, .int .i64 mode,thr.v,uv,ov,pv, .bool fell])(h_code:code.At W)(h_thr:thr.At W)(ht:t<code.l.length)(ht2:t<thr.l.length)(hpc:0≤(nth thr.l t).pc):
    Rets Try.prog 80 [.pointer (some ⟨g,0,none⟩), .int .i64 ((t:Nat):Int)] W (fun v w' =>v= .tuple #[(nextIns (nth code.l t).l (nth thr.l t).pc).val, .bool (decide ((nth thr.l t).pc<((nth code.l t).l.length:Int)))]∧Sh0 W w' []):=by
 refine gen Try.func80 Try.ntmps80 (Sh0.ext (by intro A hA;simp at hA;rcases hA with rfl|rfl|rfl;exact hB;exact h_code;exact h_thr) (by intro A hA b hb;simp at hA;rcases hA with rfl|rfl|rfl<;>exact hb):Sh (fun _=>False) W W [.rblk g 100 [code.v,pw, .int .i64 locks, .int .i64 regs, .int .i64 mode,thr.v,uv,ov,pv, .bool fell], .at_ code, .at_ thr]) rfl fun a10 h10=>gG h10<|sK fun _ k11=>gal ti_47 rfl fun b12=>gRn (oM 1 rfl<|.nl)<|nK k11<|sK fun _ k13=>gNl (aA 2 rfl) fun hl14=>gRn (oM 1 rfl<|onf fl_100_0 rfl<|ofB fl_25_0 rfl<|olR 1 ti_22 rfl rfl<|oM 1 rfl<|oxN sl_22 ti_45 (aA 2 rfl) _ om9 rfl<|olE ((nth code.l t).v) ti_45 (aA 2 rfl) om9 rfl<|oM 1 rfl<|.nl)<|nK k13<|sK fun _ k15=>gNl (aA 3 rfl) fun hl16=>gRn (oM 1 rfl<|onf fl_100_2 rfl<|olR 1 ti_98 rfl rfl<|oM 1 rfl<|oxN sl_98 ti_136 (aA 3 rfl) _ om9 rfl<|ofE fl_136_0 rfl<|olI ti_3 (aA 3 rfl) om9 rfl<|oM 1 rfl<|.nl)<|nK k15<|gK fun _ k17=>sK fun _ k18=>gNl (fun w h=>((h.at 2 rfl).nth t (show t<code.l.length from (by omega)))) fun (hl19:((nth code.l t).l).length≤140737488355328)=>gRn (oM 2 rfl<|oln (n:=((nth code.l t).l).length) sl_45 (fun w h=>((h.at 2 rfl).nth t (show t<code.l.length from (by omega)))) rfl<|ogeI _ _ rfl<|.nl)<|nK k18<|?_;clear h10
 refine gcd rfl (fun hb20 hp20=> ?_) fun hb20 hp20=> ?_
 ·skip
  refine sK fun _ k21=>gRn (oV (r_build (cs:= [.int .i64 0, .int .i64 0, .int .i64 0, .int .i64 0]) rfl rfl (by kernel_rfl)) rfl<|.nl)<|gsw 0 ti_47 rfl rfl rfl<|gRn (oM 1 rfl<|.nl)<|nK k21<|gF [4,5] rfl<|gR<|uT<|fun a23 w23 h23=>x_retct (fn:=Try.f80) (t:=4) (u:=5) (i:=0) ti_47 rfl h23 rfl rfl rfl rfl<|⟨?_,(h23.sh.sel [] rfl)⟩
  first|(rw [nextIns_t (by omega),decide_eq_true (by omega)];rfl)|(rw [nextIns_f (by omega),decide_eq_false (by omega)];rfl)
 refine gS<|hK k17<|gF [4,6,7] rfl<|sK fun _ k24=>gRn (oM 2 rfl<|oxI sl_45 ti_47 (fun w h=>((h.at 2 rfl).nth t (show t<code.l.length from (by omega)))) om9 rfl<|olw2 [.int .i64 ((nth ((nth code.l t).l) (((nth thr.l t).pc).toNat)).op), .int .i64 ((nth ((nth code.l t).l) (((nth thr.l t).pc).toNat)).a), .int .i64 ((nth ((nth code.l t).l) (((nth thr.l t).pc).toNat)).b), .int .i64 ((nth ((nth code.l t).l) (((nth thr.l t).pc).toNat)).c)] ti_47 (fun w h=>((h.at 2 rfl).nth t (show t<code.l.length from (by omega)))) om9 rfl<|.nl)<|gsw 0 ti_47 rfl rfl rfl<|gRn (oM 1 rfl<|.nl)<|nK k24<|gR<|fun a26 w26 h26=>x_retct (fn:=Try.f80) (t:=4) (u:=5) (i:=0) ti_47 rfl h26 rfl rfl rfl rfl<|⟨?_,(h26.sh.sel [] rfl)⟩
 first|(rw [nextIns_t (by omega),decide_eq_true (by omega)];rfl)|(rw [nextIns_f (by omega),decide_eq_false (by omega)];rfl)
theorem able_c (g t:Nat)(code:Ls (Ls Ins))(thr:Ls ThL)(owner:Ls Int)(pw:Value)(locks:Int)(regs:Int)(mode:Int)(uv:Value)(pv:Value)(fell:Bool)(W:World)(hB:Blk W g 100 #[code.v,pw, .int .i64 locks, .int .i64 regs, .int .i64 mode,thr.v,uv,owner.v,pv, .bool fell])(h_code:code.At W)(h_thr:thr.At W)(h_owner:owner.At W)(ht:t<code.l.length)(htl:thr.l.length=code.l.length)(hpc:∀t,t<code.l.length→0≤(nth thr.l t).pc)(hlk:∀i,i<(nth code.l t).l.length→(nth (nth code.l t).l i).op=17→0≤(nth (nth code.l t).l i).a∧(nth (nth code.l t).l i).a<owner.l.length):
    Rets Try.prog 81 [.pointer (some ⟨g,0,none⟩), .int .i64 ((t:Nat):Int)] W (fun v w' =>v= .bool (decide ((nth thr.l t).pc<((nth code.l t).l.length:Int))&&ableL owner.l (nth thr.l t).wait.l.length (nextIns (nth code.l t).l (nth thr.l t).pc))∧Sh0 W w' []):=by
 refine gen Try.func81 Try.ntmps81 (Sh0.ext (by intro A hA;simp at hA;rcases hA with rfl|rfl|rfl|rfl;exact hB;exact h_code;exact h_thr;exact h_owner) (by intro A hA b hb;simp at hA;rcases hA with rfl|rfl|rfl|rfl<;>exact hb):Sh (fun _=>False) W W [.rblk g 100 [code.v,pw, .int .i64 locks, .int .i64 regs, .int .i64 mode,thr.v,uv,owner.v,pv, .bool fell], .at_ code, .at_ thr, .at_ owner]) rfl fun a10 h10=>gG h10<|sG (oM 1 rfl<|.nl)<|sK fun _ k12=>gRn (oM 2 rfl<|.nl)<|fun a14 w14 h14=>wl_ex (x_call h14 bd_80 rfl rfl rfl rfl rfl (next_c g t code ⟨thr.v,thr.l.map ThL.toV⟩ _ _ _ _ _ _ _ _ _ (h14.sh.rblk 0 rfl) (h14.sh.at 1 rfl) (ThL.atV (h14.sh.at 2 rfl)) (by first|omega|(simp only [lens9];omega)) (by simp;omega) (by rw [nth_map' _ _ _ (by omega)];exact hpc t (by omega)))) (wanted_none rfl _) ?_;clear h10
 rintro a15 w15 ⟨_,⟨hv15,hs15⟩,hf15⟩
 rw [nth_map' _ _ _ (show t<thr.l.length from (by omega)),show (ThL.toV (nth thr.l t)).pc=(nth thr.l t).pc from rfl] at hv15
 subst hv15
 have h15:St 53 (fun _=>False) W a15 w15 _ _:=⟨hf15,h14.sh.call0 hs15⟩
 clear hf15 hs15
 clear h14
 refine gG h15<|gRn (oM 1 rfl<|oxt rfl<|oxt rfl<|.nl)<|gal ti_47 rfl fun b16=>gsw 0 ti_47 rfl rfl rfl<|gRn (oM 1 rfl<|.nl)<|nK k12<|gK fun _ k18=>sG (oM 1 rfl<|ont rfl<|.nl)<|?_;clear h15
 refine gCb rfl (fun hb20=> ?_) fun hb20=> ?_
 ·have hp20:¬((nth thr.l t).pc<((nth code.l t).l.length:Int)):=by simpa using hb20
  refine sG (oM 1 rfl<|.nl)<|gR<|uT<|fun a22 w22 h22=>x_ret1 (fn:=Try.f81) (t:=4) rfl h22 rfl<|⟨?_,(h22.sh.sel [] rfl)⟩
  congr 1
  first|exact and_f' (by omega)|(refine and_t' (by omega) ?_;unfold ableL;first|(rw [if_pos (by omega)];done)|(rw [if_neg (by omega),if_pos (by omega)];done)|(rw [if_neg (by omega),if_neg (by omega),if_pos (by omega)];first|exact and_f' (by omega)|exact and_t' (by omega) rfl)|(rw [if_neg (by omega),if_neg (by omega),if_neg (by omega)]))
 have hp20:(nth thr.l t).pc<((nth code.l t).l.length:Int):=by simpa using hb20
 refine gS<|hK k18<|?_
 have hpc0:=hpc t (by omega)
 have hnx:=nextIns_t (c:=(nth code.l t).l) (pc:=(nth thr.l t).pc) (by omega)
 have hlk2:=hlk (nth thr.l t).pc.toNat (by omega)
 rw [←hnx] at hlk2
 refine sK fun _ k23=>gNl (aA 3 rfl) fun hl24=>gNl (fun w h=>((h.at 3 rfl).inner t (show t<thr.l.length from (by omega))).2) fun (hl25:(((nth thr.l t).wait).l).length≤140737488355328)=>gRn (oM 1 rfl<|onf fl_100_2 rfl<|olR 1 ti_98 rfl rfl<|oM 1 rfl<|oxN sl_98 ti_136 (aA 3 rfl) _ om9 rfl<|ofE fl_136_2 rfl<|olE (((nth thr.l t).wait).v) ti_134 (aA 3 rfl) om9 rfl<|oln (n:=(((nth thr.l t).wait).l).length) sl_134 (fun w h=>((h.at 3 rfl).inner t (show t<thr.l.length from (by omega))).2) rfl<|oM 1 rfl<|.nl)<|nK k23<|gK fun _ k26=>sG (ofB fl_47_0 rfl<|olB 0 ti_3 rfl rfl<|.nl)<|gB<|gK fun _ k28=>sG (oeqI _ _ rfl<|oM 1 rfl<|.nl)<|gcd rfl (fun hb30 hp30=> ?_) fun hb30 hp30=> ?_
 ·skip
  refine gS<|hK k28<|gcT rfl hb30<|sG (oM 1 rfl<|oltN _ 3 rfl<|oM 1 rfl<|.nl)<|gF [4] rfl<|gR<|uB<|uT<|fun a32 w32 h32=>x_ret1 (fn:=Try.f81) (t:=4) rfl h32 rfl<|⟨?_,(h32.sh.sel [] rfl)⟩
  congr 1
  first|exact and_f' (by omega)|(refine and_t' (by omega) ?_;unfold ableL;first|(rw [if_pos (by omega)];done)|(rw [if_neg (by omega),if_pos (by omega)];done)|(rw [if_neg (by omega),if_neg (by omega),if_pos (by omega)];first|exact and_f' (by omega)|exact and_t' (by omega) rfl)|(rw [if_neg (by omega),if_neg (by omega),if_neg (by omega)]))
 refine sG (oeqI _ _ rfl<|oM 1 rfl<|.nl)<|gF [0,5,7,26,27] rfl<|gcd rfl (fun hb34 hp34=> ?_) fun hb34 hp34=> ?_
 ·skip
  refine gS<|hK k28<|gcT rfl hb34<|sG (oM 1 rfl<|oltN _ 3 rfl<|oM 1 rfl<|.nl)<|gR<|uB<|uT<|fun a36 w36 h36=>x_ret1 (fn:=Try.f81) (t:=4) rfl h36 rfl<|⟨?_,(h36.sh.sel [] rfl)⟩
  congr 1
  first|exact and_f' (by omega)|(refine and_t' (by omega) ?_;unfold ableL;first|(rw [if_pos (by omega)];done)|(rw [if_neg (by omega),if_pos (by omega)];done)|(rw [if_neg (by omega),if_neg (by omega),if_pos (by omega)];first|exact and_f' (by omega)|exact and_t' (by omega) rfl)|(rw [if_neg (by omega),if_neg (by omega),if_neg (by omega)]))
 refine gL<|gRn (oeqI _ _ rfl<|oM 1 rfl<|.nl)<|nK k28<|gcd rfl (fun hb37 hp37=> ?_) fun hb37 hp37=> ?_
 ·skip
  refine sG (oM 1 rfl<|oltN _ 3 rfl<|oM 1 rfl<|.nl)<|gR<|uB<|uT<|fun a39 w39 h39=>x_ret1 (fn:=Try.f81) (t:=4) rfl h39 rfl<|⟨?_,(h39.sh.sel [] rfl)⟩
  congr 1
  first|exact and_f' (by omega)|(refine and_t' (by omega) ?_;unfold ableL;first|(rw [if_pos (by omega)];done)|(rw [if_neg (by omega),if_pos (by omega)];done)|(rw [if_neg (by omega),if_neg (by omega),if_pos (by omega)];first|exact and_f' (by omega)|exact and_t' (by omega) rfl)|(rw [if_neg (by omega),if_neg (by omega),if_neg (by omega)]))
 refine gK fun _ k40=>sG (oeqI _ _ rfl<|oM 1 rfl<|.nl)<|gcd rfl (fun hb42 hp42=> ?_) fun hb42 hp42=> ?_
 ·skip
  refine gS<|hK k40<|gcT rfl hb42<|sG (oM 1 rfl<|oeqN _ 0 rfl<|oM 1 rfl<|.nl)<|gR<|uB<|uT<|fun a44 w44 h44=>x_ret1 (fn:=Try.f81) (t:=4) rfl h44 rfl<|⟨?_,(h44.sh.sel [] rfl)⟩
  congr 1
  first|exact and_f' (by omega)|(refine and_t' (by omega) ?_;unfold ableL;first|(rw [if_pos (by omega)];done)|(rw [if_neg (by omega),if_pos (by omega)];done)|(rw [if_neg (by omega),if_neg (by omega),if_pos (by omega)];first|exact and_f' (by omega)|exact and_t' (by omega) rfl)|(rw [if_neg (by omega),if_neg (by omega),if_neg (by omega)]))
 refine gL<|gRn (oeqI _ _ rfl<|oM 1 rfl<|.nl)<|nK k40<|gcd rfl (fun hb45 hp45=> ?_) fun hb45 hp45=> ?_
 ·skip
  refine sG (oM 1 rfl<|oeqN _ 0 rfl<|oM 1 rfl<|.nl)<|gR<|uB<|uT<|fun a47 w47 h47=>x_ret1 (fn:=Try.f81) (t:=4) rfl h47 rfl<|⟨?_,(h47.sh.sel [] rfl)⟩
  congr 1
  first|exact and_f' (by omega)|(refine and_t' (by omega) ?_;unfold ableL;first|(rw [if_pos (by omega)];done)|(rw [if_neg (by omega),if_pos (by omega)];done)|(rw [if_neg (by omega),if_neg (by omega),if_pos (by omega)];first|exact and_f' (by omega)|exact and_t' (by omega) rfl)|(rw [if_neg (by omega),if_neg (by omega),if_neg (by omega)]))
 refine sG (oeqI _ _ rfl<|oM 1 rfl<|.nl)<|gcd rfl (fun hb49 hp49=> ?_) fun hb49 hp49=> ?_
 ·skip
  refine gK fun _ k50=>fun a51 w51 h51=>x_quiet (by kernel_rfl) (by kernel_rfl) h51 fun _ z52=>qQ h51.fr<|qRn (oM 1 rfl<|oeqN _ 0 rfl<|oM 1 rfl<|.nl)<|?_
  rcases dsp ((((nth thr.l t).wait).l).length=0) with ⟨hb53,hp53⟩|⟨hb53,hp53⟩
  ·skip
   refine qRn (oG hb53 (r_move rfl rfl) rfl<|oG hb53 (r_nil rfl rfl) rfl<|oG hb53 (r_fieldB (r:=7) fl_100_4 rfl rfl rfl) rfl<|oG hb53 (r_ldbR ti_23 rfl rfl (fun w h=>h.rblk 1 rfl) rfl) rfl<|oG hb53 (r_fieldB (r:=1) fl_47_1 rfl rfl rfl) rfl<|oG hb53 (r_ldb (i:=0) ti_3 rfl rfl rfl rfl) rfl<|.nl)<|?_
   have hl61:owner.l.length≤140737488355328:=(h51.sh.at 4 rfl).len
   refine qRn (oG hb53 (r_ixI (s:=owner) (q:=(nextIns (nth code.l t).l (nth thr.l t).pc).a) sl_23 ti_3 rfl rfl rfl (fun w h=>(h.at 4 rfl)) (show 0≤(nextIns (nth code.l t).l (nth thr.l t).pc).a∧(nextIns (nth code.l t).l (nth thr.l t).pc).a<owner.l.length from om9)) rfl<|oG hb53 (r_lde (s:=owner) (i:=((nextIns (nth code.l t).l (nth thr.l t).pc).a).toNat) (v:= .int .i64 (nth owner.l (((nextIns (nth code.l t).l (nth thr.l t).pc).a).toNat))) ti_3 rfl rfl rfl (fun w h=>(h.at 4 rfl)) (show ((nextIns (nth code.l t).l (nth thr.l t).pc).a).toNat<owner.l.length from om9) (Nat.le_of_ble_eq_true rfl) rfl) rfl<|oG hb53 (r_eqlI (p:=nth owner.l (((nextIns (nth code.l t).l (nth thr.l t).pc).a).toNat)) (q:=(-1)) rfl rfl rfl) rfl<|opT hb53 rfl<|oM 1 rfl<|.nl)<|qN z52<|?_;clear h51
   refine hK k50<|gF [4] rfl<|gR<|uB<|uT<|fun a64 w64 h64=>x_ret1 (fn:=Try.f81) (t:=4) rfl h64 rfl<|⟨?_,(h64.sh.sel [] rfl)⟩
   congr 1
   first|exact and_f' (by omega)|(refine and_t' (by omega) ?_;unfold ableL;first|(rw [if_pos (by omega)];done)|(rw [if_neg (by omega),if_pos (by omega)];done)|(rw [if_neg (by omega),if_neg (by omega),if_pos (by omega)];first|exact and_f' (by omega)|exact and_t' (by omega) rfl)|(rw [if_neg (by omega),if_neg (by omega),if_neg (by omega)]))
  refine qRn (oKs 9 hb53 rfl rfl<|opF hb53 rfl<|oM 1 rfl<|.nl)<|qN z52<|?_;clear h51
  refine hK k50<|gF [4] rfl<|gR<|uB<|uT<|fun a66 w66 h66=>x_ret1 (fn:=Try.f81) (t:=4) rfl h66 rfl<|⟨?_,(h66.sh.sel [] rfl)⟩
  congr 1
  first|exact and_f' (by omega)|(refine and_t' (by omega) ?_;unfold ableL;first|(rw [if_pos (by omega)];done)|(rw [if_neg (by omega),if_pos (by omega)];done)|(rw [if_neg (by omega),if_neg (by omega),if_pos (by omega)];first|exact and_f' (by omega)|exact and_t' (by omega) rfl)|(rw [if_neg (by omega),if_neg (by omega),if_neg (by omega)]))
 refine gS<|hK k26<|sG (oM 1 rfl<|.nl)<|gR<|fun a68 w68 h68=>x_ret1 (fn:=Try.f81) (t:=4) rfl h68 rfl<|⟨?_,(h68.sh.sel [] rfl)⟩
 congr 1
 first|exact and_f' (by omega)|(refine and_t' (by omega) ?_;unfold ableL;first|(rw [if_pos (by omega)];done)|(rw [if_neg (by omega),if_pos (by omega)];done)|(rw [if_neg (by omega),if_neg (by omega),if_pos (by omega)];first|exact and_f' (by omega)|exact and_t' (by omega) rfl)|(rw [if_neg (by omega),if_neg (by omega),if_neg (by omega)]))
theorem moves_c (g:Nat)(code:Ls (Ls Ins))(thr:Ls ThL)(owner:Ls Int)(pw:Value)(locks:Int)(regs:Int)(mode:Int)(uv:Value)(pv:Value)(fell:Bool)(W:World)(hB:Blk W g 100 #[code.v,pw, .int .i64 locks, .int .i64 regs, .int .i64 mode,thr.v,uv,owner.v,pv, .bool fell])(h_code:code.At W)(h_thr:thr.At W)(h_owner:owner.At W)(hcl:code.l.length≤4)(htl:thr.l.length=code.l.length)(hpc:∀t,t<code.l.length→0≤(nth thr.l t).pc)(hlk:∀t,t<code.l.length→∀i,i<(nth code.l t).l.length→(nth (nth code.l t).l i).op=17→0≤(nth (nth code.l t).l i).a∧(nth (nth code.l t).l i).a<owner.l.length)(hw:∀t,t<code.l.length→(nth thr.l t).wait.l.length≤3):
    Rets Try.prog 47 [.pointer (some ⟨g,0,none⟩)] W (fun v w' =>∃s:Ls Int,v=s.v∧s.l=movesL mode code thr owner.l code.l.length∧Sh0 W w' [.own 3 s]):=by
 refine gen Try.func47 Try.ntmps47 (Sh0.ext (by intro A hA;simp at hA;rcases hA with rfl|rfl|rfl|rfl;exact hB;exact h_code;exact h_thr;exact h_owner) (by intro A hA b hb;simp at hA;rcases hA with rfl|rfl|rfl|rfl<;>exact hb):Sh (fun _=>False) W W [.rblk g 100 [code.v,pw, .int .i64 locks, .int .i64 regs, .int .i64 mode,thr.v,uv,owner.v,pv, .bool fell], .at_ code, .at_ thr, .at_ owner]) rfl fun a10 h10=>gG h10<|sG (oM 1 rfl<|.nl)<|sG (oM 1 rfl<|.nl)<|gK fun _ k13=>sG (oM 1 rfl<|.nl)<|gB<|fun a17 w17 h17=> ?_;clear h10
 have h16:=h17.nil (α:=Int) 3
 clear h17
 refine x_loop (fun m a w=>∃(t:Nat) (ml:List Int) (vm:Value),(t≤thr.l.length)∧(ml=movesL mode code thr owner.l t)∧(ml.length≤4*t)∧St 60 (fun _=>False) W a w [(0, .pointer (some ⟨g,0,none⟩)),(3,vm),(4, .int .i64 ((t:Nat):Int))] [.rblk g 100 [code.v,pw, .int .i64 locks, .int .i64 regs, .int .i64 mode,thr.v,uv,owner.v,pv, .bool fell], .at_ code, .at_ thr, .at_ owner, .own 3 (⟨vm,ml⟩:Ls Int)]∧m=thr.l.length-t) ⟨_,0, [],(.slice none 0 0),(by omega),(rfl),(by simp),h16.nrm ⟨rfl,rfl,rfl,trivial⟩ [1,2,3,4,0] rfl,rfl⟩ ?_
 clear h16
 rintro m15 a15 w15 ⟨t,ml,vm,ht,hml,hmn,h15,hm15⟩
 refine gG h15<|gK fun _ k18=>sK fun _ k19=>gNl (aA 2 rfl) fun hl20=>gRn (oM 2 rfl<|onf fl_100_2 rfl<|olR 0 ti_98 rfl rfl<|oln sl_98 (aA 2 rfl) rfl<|oltN _ _ rfl<|.nl)<|nK k19<|?_;clear h15
 refine gcd rfl (fun hb21 hp21=> ?_) fun hb21 hp21=> ?_
 ·skip
  refine gS<|hK k18<|gK fun _ k22=>gB<|sK fun _ k23=>gRn (oM 2 rfl<|.nl)<|gC (fun _ _ h_=>xCl h_ bd_81 rfl (able_c g t code thr owner _ _ _ _ _ _ _ _ (h_.sh.rblk 0 rfl) (h_.sh.at 1 rfl) (h_.sh.at 2 rfl) (h_.sh.at 3 rfl) (by omega) htl hpc (hlk t (by omega)))) rfl<|?_
  rintro _ _ w24 ⟨rfl,hs24⟩
  refine gWk hs24 rfl<|gU<|gRn (oM 1 rfl<|.nl)<|nK k23<|gK fun _ k25=>sG (oM 1 rfl<|.nl)<|?_;clear hs24
  refine gCb rfl (fun hb27=> ?_) fun hb27=> ?_
  ·skip
   refine gL<|gRn (oM 2 rfl<|omlN 8 _ om9 rfl<|.nl)<|gE1 (fun _ _ h_=>x_lit (n:=1) (cs:= [.int .i64 ((8*t:Nat):Int)]) ([((8*t:Nat):Int)]:List Int) h_ sl_23 ti_3 rfl rfl rfl (by decide) rfl (by kernel_rfl) rfl (fun q hq w h=>Flat.inner _ _) (fun q hq b hb=>(Flat.on _ _ hb).elim) rfl rfl) rfl fun v28=>gE1 (fun _ _ h_=>x_app (r:=5) (rm:=0) (s:=(⟨vm,ml⟩:Ls Int)) (m:=(⟨v28, [((8*t:Nat):Int)]⟩:Ls Int)) h_ sl_23 ti_3 rfl rfl rfl rfl rfl rfl rfl (fun w h=>(h.own 0 rfl)) (fun b hb=>own_on (h_.sh.ok _ (List.mem_of_getElem? (i:=0) rfl)) hb) (fun q hq b hb=>⟨q,hq,hb⟩) rfl rfl rfl inferInstance (show (ml.length+([((8*t:Nat):Int)]).length)*8≤140737488355328∧ml.length+([((8*t:Nat):Int)]).length≤140737488355328 from om9) rfl rfl) rfl fun v29=>gRn (oM 1 rfl<|.nl)<|nK k25<|sG (oM 1 rfl<|.nl)<|gB<|?_
   have hwt:=hw t (by omega)
   intro a32 w32 h32
   refine x_loop (fun m a w=>∃(k:Nat) (ml2:List Int) (vm2:Value),(k≤(nth thr.l t).wait.l.length)∧(ml2=ml++((if ableT code thr owner.l t=true then [((8*t:Nat):Int)] else [])++mayT mode thr t k))∧(ml2.length≤4*t+1+k)∧St 60 (fun _=>False) W a w [(0, .pointer (some ⟨g,0,none⟩)),(3,vm2),(4, .int .i64 ((t:Nat):Int)),(6, .int .i64 ((k:Nat):Int))] [.own 3 (⟨v28, [((8*t:Nat):Int)]⟩:Ls Int), .rblk g 100 [code.v,pw, .int .i64 locks, .int .i64 regs, .int .i64 mode,thr.v,uv,owner.v,pv, .bool fell], .at_ code, .at_ thr, .at_ owner, .own 3 (⟨vm2,ml2⟩:Ls Int)]∧m=(nth thr.l t).wait.l.length-k) ⟨_,0,ml++([((8*t:Nat):Int)]),v29,(by omega),(by first|(rw [if_pos (by assumption)];simp [mayT])|(rw [if_neg (by rw [show ableT code thr owner.l t=false by assumption];decide)];simp [mayT])),(by simp;omega),h32.nf ⟨rfl,rfl,rfl,rfl,trivial⟩,rfl⟩ ?_
   clear h32
   rintro m31 a31 w31 ⟨k,ml2,vm2,hk,hml2,hmn2,h31,hm31⟩
   refine gG h31<|gK fun _ k33=>sK fun _ k34=>gNl (fun w h=>((h.at 3 rfl).inner t (show t<thr.l.length from (by omega))).2) fun (hl35:(((nth thr.l t).wait).l).length≤140737488355328)=>gRn (oM 2 rfl<|onf fl_100_2 rfl<|olR 1 ti_98 rfl rfl<|oM 1 rfl<|oxN sl_98 ti_136 (aA 3 rfl) _ om9 rfl<|ofE fl_136_2 rfl<|olE (((nth thr.l t).wait).v) ti_134 (aA 3 rfl) om9 rfl<|oln (n:=(((nth thr.l t).wait).l).length) sl_134 (fun w h=>((h.at 3 rfl).inner t (show t<thr.l.length from (by omega))).2) rfl<|oltN _ _ rfl<|.nl)<|nK k34<|?_;clear h31
   refine gcd rfl (fun hb36 hp36=> ?_) fun hb36 hp36=> ?_
   ·skip
    refine gS<|hK k33<|gK fun _ k37=>gB<|sK fun _ k38=>gRn (oM 2 rfl<|onf fl_100_2 rfl<|olR 1 ti_98 rfl rfl<|oM 1 rfl<|oxN sl_98 ti_136 (aA 3 rfl) _ om9 rfl<|ofE fl_136_2 rfl<|olE (((nth thr.l t).wait).v) ti_134 (aA 3 rfl) om9 rfl<|oM 1 rfl<|.nl)<|gC (fun _ _ h_=>xCl h_ bd_82 rfl (may_c g ((nth thr.l t).wait) k _ _ _ _ _ _ _ _ _ _ _ (h_.sh.rblk 1 rfl) ((h_.sh.at 3 rfl).inner t (show t<thr.l.length from (by omega))).2 (by omega))) rfl<|?_
    rintro _ _ w39 ⟨rfl,hs39⟩
    refine gWk hs39 rfl<|gU<|gRn (oM 1 rfl<|.nl)<|nK k38<|sG (oM 1 rfl<|.nl)<|gF [0,3,4,6,50] rfl<|?_;clear hs39
    refine gCb rfl (fun hb41=> ?_) fun hb41=> ?_
    ·skip
     refine gL<|gRn (oM 2 rfl<|omlN 8 _ om9 rfl<|oM 1 rfl<|oadN _ _ om9 rfl<|oadN _ 1 om9 rfl<|.nl)<|gE1 (fun _ _ h_=>x_lit (n:=1) (cs:= [.int .i64 ((((8*t)+k)+1:Nat):Int)]) ([((((8*t)+k)+1:Nat):Int)]:List Int) h_ sl_23 ti_3 rfl rfl rfl (by decide) rfl (by kernel_rfl) rfl (fun q hq w h=>Flat.inner _ _) (fun q hq b hb=>(Flat.on _ _ hb).elim) rfl rfl) rfl fun v42=>gE1 (fun _ _ h_=>x_app (r:=6) (rm:=0) (s:=(⟨vm2,ml2⟩:Ls Int)) (m:=(⟨v42, [((((8*t)+k)+1:Nat):Int)]⟩:Ls Int)) h_ sl_23 ti_3 rfl rfl rfl rfl rfl rfl rfl (fun w h=>(h.own 0 rfl)) (fun b hb=>own_on (h_.sh.ok _ (List.mem_of_getElem? (i:=0) rfl)) hb) (fun q hq b hb=>⟨q,hq,hb⟩) rfl rfl rfl inferInstance (show (ml2.length+([((((8*t)+k)+1:Nat):Int)]).length)*8≤140737488355328∧ml2.length+([((((8*t)+k)+1:Nat):Int)]).length≤140737488355328 from om9) rfl rfl) rfl fun v43=>gRn (oM 1 rfl<|.nl)<|nK k37<|gL<|gRn (oM 1 rfl<|oadN _ 1 om9 rfl<|oM 1 rfl<|.nl)<|nN<|fun a44 w44 h44=>x_again ⟨_, ?_,k+1,ml2++([((((8*t)+k)+1:Nat):Int)]),v43, ?_, ?_, ?_,h44.nrm ⟨rfl,rfl,rfl,rfl,trivial⟩ [1,2,3,4,5,6] rfl,rfl⟩
     · rw [hm31];first|omega|(simp only [lens9];omega)
     · omega
     · first|(rw [mayT_t (by assumption),hml2];simp only [List.append_assoc])|(rw [mayT_f (by assumption),hml2])
     · first|omega|(simp;omega)
    refine gS<|hK k37<|gL<|gRn (oM 1 rfl<|oadN _ 1 om9 rfl<|oM 1 rfl<|.nl)<|nN<|fun a45 w45 h45=>x_again ⟨_, ?_,k+1,ml2,vm2, ?_, ?_, ?_,h45.nf ⟨rfl,rfl,rfl,rfl,trivial⟩,rfl⟩
    · rw [hm31];first|omega|(simp only [lens9];omega)
    · omega
    · first|(rw [mayT_t (by assumption),hml2];simp only [List.append_assoc])|(rw [mayT_f (by assumption),hml2])
    · first|omega|(simp;omega)
   refine gX<|hK k22<|gL<|gRn (oM 1 rfl<|oadN _ 1 om9 rfl<|oM 1 rfl<|.nl)<|nN<|fun a46 w46 h46=>x_again ⟨_, ?_,t+1,ml2,vm2, ?_, ?_, ?_,h46.nrm ⟨rfl,rfl,rfl,trivial⟩ [1,2,3,4,5] rfl,rfl⟩
   · rw [hm15];first|omega|(simp only [lens9];omega)
   · omega
   · rw [movesL_succ,←hml,hml2,moveT,show k=(nth thr.l t).wait.l.length by omega]
   · omega
  refine gS<|hK k25<|sG (oM 1 rfl<|.nl)<|gB<|?_
  have hwt:=hw t (by omega)
  intro a49 w49 h49
  refine x_loop (fun m a w=>∃(k:Nat) (ml2:List Int) (vm2:Value),(k≤(nth thr.l t).wait.l.length)∧(ml2=ml++((if ableT code thr owner.l t=true then [((8*t:Nat):Int)] else [])++mayT mode thr t k))∧(ml2.length≤4*t+1+k)∧St 60 (fun _=>False) W a w [(0, .pointer (some ⟨g,0,none⟩)),(3,vm2),(4, .int .i64 ((t:Nat):Int)),(6, .int .i64 ((k:Nat):Int))] [.rblk g 100 [code.v,pw, .int .i64 locks, .int .i64 regs, .int .i64 mode,thr.v,uv,owner.v,pv, .bool fell], .at_ code, .at_ thr, .at_ owner, .own 3 (⟨vm2,ml2⟩:Ls Int)]∧m=(nth thr.l t).wait.l.length-k) ⟨_,0,ml,vm,(by omega),(by first|(rw [if_pos (by assumption)];simp [mayT])|(rw [if_neg (by rw [show ableT code thr owner.l t=false by assumption];decide)];simp [mayT])),(by simp;omega),h49.nf ⟨rfl,rfl,rfl,rfl,trivial⟩,rfl⟩ ?_
  clear h49
  rintro m48 a48 w48 ⟨k,ml2,vm2,hk,hml2,hmn2,h48,hm48⟩
  refine gG h48<|gK fun _ k50=>sK fun _ k51=>gNl (fun w h=>((h.at 2 rfl).inner t (show t<thr.l.length from (by omega))).2) fun (hl52:(((nth thr.l t).wait).l).length≤140737488355328)=>gRn (oM 2 rfl<|onf fl_100_2 rfl<|olR 0 ti_98 rfl rfl<|oM 1 rfl<|oxN sl_98 ti_136 (aA 2 rfl) _ om9 rfl<|ofE fl_136_2 rfl<|olE (((nth thr.l t).wait).v) ti_134 (aA 2 rfl) om9 rfl<|oln (n:=(((nth thr.l t).wait).l).length) sl_134 (fun w h=>((h.at 2 rfl).inner t (show t<thr.l.length from (by omega))).2) rfl<|oltN _ _ rfl<|.nl)<|nK k51<|?_;clear h48
  refine gcd rfl (fun hb53 hp53=> ?_) fun hb53 hp53=> ?_
  ·skip
   refine gS<|hK k50<|gK fun _ k54=>gB<|sK fun _ k55=>gRn (oM 2 rfl<|onf fl_100_2 rfl<|olR 0 ti_98 rfl rfl<|oM 1 rfl<|oxN sl_98 ti_136 (aA 2 rfl) _ om9 rfl<|ofE fl_136_2 rfl<|olE (((nth thr.l t).wait).v) ti_134 (aA 2 rfl) om9 rfl<|oM 1 rfl<|.nl)<|gC (fun _ _ h_=>xCl h_ bd_82 rfl (may_c g ((nth thr.l t).wait) k _ _ _ _ _ _ _ _ _ _ _ (h_.sh.rblk 0 rfl) ((h_.sh.at 2 rfl).inner t (show t<thr.l.length from (by omega))).2 (by omega))) rfl<|?_
   rintro _ _ w56 ⟨rfl,hs56⟩
   refine gWk hs56 rfl<|gU<|gRn (oM 1 rfl<|.nl)<|nK k55<|sG (oM 1 rfl<|.nl)<|gF [0,3,4,6,50] rfl<|?_;clear hs56
   refine gCb rfl (fun hb58=> ?_) fun hb58=> ?_
   ·skip
    refine gL<|gRn (oM 2 rfl<|omlN 8 _ om9 rfl<|oM 1 rfl<|oadN _ _ om9 rfl<|oadN _ 1 om9 rfl<|.nl)<|gE1 (fun _ _ h_=>x_lit (n:=1) (cs:= [.int .i64 ((((8*t)+k)+1:Nat):Int)]) ([((((8*t)+k)+1:Nat):Int)]:List Int) h_ sl_23 ti_3 rfl rfl rfl (by decide) rfl (by kernel_rfl) rfl (fun q hq w h=>Flat.inner _ _) (fun q hq b hb=>(Flat.on _ _ hb).elim) rfl rfl) rfl fun v59=>gE1 (fun _ _ h_=>x_app (r:=5) (rm:=0) (s:=(⟨vm2,ml2⟩:Ls Int)) (m:=(⟨v59, [((((8*t)+k)+1:Nat):Int)]⟩:Ls Int)) h_ sl_23 ti_3 rfl rfl rfl rfl rfl rfl rfl (fun w h=>(h.own 0 rfl)) (fun b hb=>own_on (h_.sh.ok _ (List.mem_of_getElem? (i:=0) rfl)) hb) (fun q hq b hb=>⟨q,hq,hb⟩) rfl rfl rfl inferInstance (show (ml2.length+([((((8*t)+k)+1:Nat):Int)]).length)*8≤140737488355328∧ml2.length+([((((8*t)+k)+1:Nat):Int)]).length≤140737488355328 from om9) rfl rfl) rfl fun v60=>gRn (oM 1 rfl<|.nl)<|nK k54<|gL<|gRn (oM 1 rfl<|oadN _ 1 om9 rfl<|oM 1 rfl<|.nl)<|nN<|fun a61 w61 h61=>x_again ⟨_, ?_,k+1,ml2++([((((8*t)+k)+1:Nat):Int)]),v60, ?_, ?_, ?_,h61.nrm ⟨rfl,rfl,rfl,rfl,trivial⟩ [1,2,3,4,5] rfl,rfl⟩
    · rw [hm48];first|omega|(simp only [lens9];omega)
    · omega
    · first|(rw [mayT_t (by assumption),hml2];simp only [List.append_assoc])|(rw [mayT_f (by assumption),hml2])
    · first|omega|(simp;omega)
   refine gS<|hK k54<|gL<|gRn (oM 1 rfl<|oadN _ 1 om9 rfl<|oM 1 rfl<|.nl)<|nN<|fun a62 w62 h62=>x_again ⟨_, ?_,k+1,ml2,vm2, ?_, ?_, ?_,h62.nf ⟨rfl,rfl,rfl,rfl,trivial⟩,rfl⟩
   · rw [hm48];first|omega|(simp only [lens9];omega)
   · omega
   · first|(rw [mayT_t (by assumption),hml2];simp only [List.append_assoc])|(rw [mayT_f (by assumption),hml2])
   · first|omega|(simp;omega)
  refine gX<|hK k22<|gL<|gRn (oM 1 rfl<|oadN _ 1 om9 rfl<|oM 1 rfl<|.nl)<|nN<|fun a63 w63 h63=>x_again ⟨_, ?_,t+1,ml2,vm2, ?_, ?_, ?_,h63.nf ⟨rfl,rfl,rfl,trivial⟩,rfl⟩
  · rw [hm15];first|omega|(simp only [lens9];omega)
  · omega
  · rw [movesL_succ,←hml,hml2,moveT,show k=(nth thr.l t).wait.l.length by omega]
  · omega
 refine gX<|hK k13<|sG (oM 2 rfl<|.nl)<|gR<|fun a65 w65 h65=>x_ret1 (fn:=Try.f47) (t:=2) rfl h65 rfl<|⟨⟨vm,ml⟩,rfl, ?_,(h65.sh.sel [4] rfl)⟩
 rw [←show t=code.l.length by omega];exact hml
theorem ended_c (g:Nat)(code:Ls (Ls Ins))(thr:Ls ThL)(pw:Value)(locks:Int)(regs:Int)(mode:Int)(uv:Value)(ov:Value)(pv:Value)(fell:Bool)(W:World)(hB:Blk W g 100 #[code.v,pw, .int .i64 locks, .int .i64 regs, .int .i64 mode,thr.v,uv,ov,pv, .bool fell])(h_code:code.At W)(h_thr:thr.At W)(hcl:code.l.length≤4)(htl:thr.l.length=code.l.length)(hpc:∀t,t<code.l.length→0≤(nth thr.l t).pc):
    Rets Try.prog 46 [.pointer (some ⟨g,0,none⟩)] W (fun v w' =>v= .bool (endedL code thr)∧Sh0 W w' []):=by
 refine gen Try.func46 Try.ntmps46 (Sh0.ext (by intro A hA;simp at hA;rcases hA with rfl|rfl|rfl;exact hB;exact h_code;exact h_thr) (by intro A hA b hb;simp at hA;rcases hA with rfl|rfl|rfl<;>exact hb):Sh (fun _=>False) W W [.rblk g 100 [code.v,pw, .int .i64 locks, .int .i64 regs, .int .i64 mode,thr.v,uv,ov,pv, .bool fell], .at_ code, .at_ thr]) rfl fun a10 h10=>gG h10<|sG (oM 1 rfl<|.nl)<|gK fun _ k12=>sG (oM 1 rfl<|.nl)<|gB<|fun a15 w15 h15=>x_loop (fun m a w=>∃(t:Nat),(t≤thr.l.length)∧(∀j,j<t→endT code thr j=true)∧St 34 (fun _=>False) W a w [(0, .pointer (some ⟨g,0,none⟩)),(3, .int .i64 ((t:Nat):Int))] [.rblk g 100 [code.v,pw, .int .i64 locks, .int .i64 regs, .int .i64 mode,thr.v,uv,ov,pv, .bool fell], .at_ code, .at_ thr]∧m=thr.l.length-t) ⟨_,0,(by omega),(fun j hj=>absurd hj (by omega)),h15.nf ⟨rfl,rfl,trivial⟩,rfl⟩ ?_;clear h10
 clear h15
 rintro m14 a14 w14 ⟨t,ht,hall,h14,hm14⟩
 refine gG h14<|gK fun _ k16=>sK fun _ k17=>gNl (aA 2 rfl) fun hl18=>gRn (oM 2 rfl<|onf fl_100_2 rfl<|olR 0 ti_98 rfl rfl<|oln sl_98 (aA 2 rfl) rfl<|oltN _ _ rfl<|.nl)<|nK k17<|?_;clear h14
 refine gcd rfl (fun hb19 hp19=> ?_) fun hb19 hp19=> ?_
 ·skip
  refine gS<|hK k16<|gK fun _ k20=>gB<|sK fun _ k21=>gRn (oM 2 rfl<|.nl)<|fun a23 w23 h23=>wl_ex (x_call h23 bd_80 rfl rfl rfl rfl rfl (next_c g t code ⟨thr.v,thr.l.map ThL.toV⟩ _ _ _ _ _ _ _ _ _ (h23.sh.rblk 0 rfl) (h23.sh.at 1 rfl) (ThL.atV (h23.sh.at 2 rfl)) (by first|omega|(simp only [lens9];omega)) (by simp;omega) (by rw [nth_map' _ _ _ (by omega)];exact hpc t (by omega)))) (wanted_none rfl _) ?_
  rintro a24 w24 ⟨_,⟨hv24,hs24⟩,hf24⟩
  rw [nth_map' _ _ _ (show t<thr.l.length from (by omega)),show (ThL.toV (nth thr.l t)).pc=(nth thr.l t).pc from rfl] at hv24
  subst hv24
  have h24:St 34 (fun _=>False) W a24 w24 _ _:=⟨hf24,h23.sh.call0 hs24⟩
  clear hf24 hs24
  clear h23
  refine gG h24<|gRn (oM 1 rfl<|oxt rfl<|oxt rfl<|.nl)<|gal ti_47 rfl fun b25=>gsw 0 ti_47 rfl rfl rfl<|gRn (oM 1 rfl<|.nl)<|nK k21<|sK fun _ k27=>gRn (oM 2 rfl<|.nl)<|?_;clear h24
  rcases dsp ((nth thr.l t).pc<((nth code.l t).l.length:Int)) with ⟨hb28,hp28⟩|⟨hb28,hp28⟩
  ·skip
   refine gRn (oKs 10 hb28 rfl rfl<|opT hb28 rfl<|.nl)<|nK k27<|gF [0,3,33] rfl<|gcT rfl rfl<|sG (oM 1 rfl<|.nl)<|gR<|uB<|uT<|uT<|uB<|uT<|fun a30 w30 h30=>x_ret1 (fn:=Try.f46) (t:=2) rfl h30 rfl<|⟨?_,(h30.sh.sel [] rfl)⟩
   congr 1
   first|exact (endedL_t (fun j hj=>hall j (by omega))).symm|exact (endedL_f (t:=t) (by omega) (by omega)).symm
  refine gNl (fun w h=>((h.at 3 rfl).inner t (show t<thr.l.length from (by omega))).2) fun (hl31:(((nth thr.l t).wait).l).length≤140737488355328)=>gRn (oG hb28 (r_move rfl rfl) rfl<|oG hb28 (r_nil rfl rfl) rfl<|oG hb28 (r_fieldB (r:=5) fl_100_2 rfl rfl rfl) rfl<|oG hb28 (r_ldbR ti_98 rfl rfl (fun w h=>h.rblk 1 rfl) rfl) rfl<|oG hb28 (r_move rfl rfl) rfl<|oG hb28 (r_ixN (s:=thr) (q:=t) sl_98 ti_136 rfl rfl rfl (fun w h=>(h.at 3 rfl)) (show t<thr.l.length from om9)) rfl<|oG hb28 (r_fieldE (r:=2) fl_136_2 rfl rfl rfl) rfl<|oG hb28 (r_lde (s:=thr) (i:=t) (v:=((nth thr.l t).wait).v) ti_134 rfl rfl rfl (fun w h=>(h.at 3 rfl)) (show t<thr.l.length from om9) (Nat.le_of_ble_eq_true rfl) rfl) rfl<|oG hb28 (r_len (s:=(nth thr.l t).wait) (n:=(((nth thr.l t).wait).l).length) sl_134 rfl rfl (fun w h=>((h.at 3 rfl).inner t (show t<thr.l.length from om9)).2) rfl) rfl<|oG hb28 (r_gtrN (p:=(((nth thr.l t).wait).l).length) (q:=0) rfl rfl rfl) rfl<|opF hb28 rfl<|.nl)<|nK k27<|gF [0,3,33] rfl<|gcd rfl (fun hb32 hp32=> ?_) fun hb32 hp32=> ?_
  ·skip
   refine sG (oM 1 rfl<|.nl)<|gR<|uB<|uT<|uT<|uB<|uT<|fun a34 w34 h34=>x_ret1 (fn:=Try.f46) (t:=2) rfl h34 rfl<|⟨?_,(h34.sh.sel [] rfl)⟩
   congr 1
   first|exact (endedL_t (fun j hj=>hall j (by omega))).symm|exact (endedL_f (t:=t) (by omega) (by omega)).symm
  refine gS<|hK k20<|gL<|gRn (oM 1 rfl<|oadN _ 1 om9 rfl<|oM 1 rfl<|.nl)<|nN<|fun a35 w35 h35=>x_again ⟨_, ?_,t+1, ?_, ?_,h35.nrm ⟨rfl,rfl,trivial⟩ [1,2,3] rfl,rfl⟩
  · rw [hm14];first|omega|(simp only [lens9];omega)
  · omega
  · intro j hj;rcases Nat.lt_or_ge j t with h|h;(exact hall j h);obtain rfl:j=t:=(by omega);exact endT_t (by omega) (by omega)
 refine gX<|hK k12<|sG (oM 1 rfl<|.nl)<|gR<|fun a37 w37 h37=>x_ret1 (fn:=Try.f46) (t:=2) rfl h37 rfl<|⟨?_,(h37.sh.sel [] rfl)⟩
 congr 1
 first|exact (endedL_t (fun j hj=>hall j (by omega))).symm|exact (endedL_f (t:=t) (by omega) (by omega)).symm
theorem findsL_some {l:List Wt}{words:List Int}{w:Int}{i:Nat}(hi:i<l.length)(h1:(nth l i).lock=false)(h2:(nth l i).wh=w)(ha:∀j,i<j→j<l.length→¬((nth l j).lock=false∧(nth l j).wh=w)):findsL l words w=(nth l i).what:=by
 have e:l.reverse.find? (fun x=> !x.lock&&decide (x.wh=w))=some (nth l i):=by
  have hs:l=l.take i++nth l i::l.drop (i+1):=by
   have:=List.take_append_drop i l
   rw [List.drop_eq_getElem_cons hi] at this
   rw [show nth l i=l[i] from by simp [nth,hi]]
   exact this.symm
  rw [hs,List.reverse_append,List.reverse_cons,List.find?_append,List.find?_append]
  have hn:(l.drop (i+1)).reverse.find? (fun x=> !x.lock&&decide (x.wh=w))=none:=by
   rw [List.find?_eq_none]
   intro x hx
   rw [List.mem_reverse] at hx
   obtain ⟨k,hk,rfl⟩:=List.mem_iff_getElem.1 hx
   have hk2:i+1+k<l.length:=by simpa [Nat.lt_sub_iff_add_lt,Nat.add_comm] using hk
   have:=ha (i+1+k) (by omega) hk2
   rw [show nth l (i+1+k)=(l.drop (i+1))[k] from by simp [nth,hk2]] at this
   intro hc
   simp only [Bool.and_eq_true,Bool.not_eq_true',decide_eq_true_eq] at hc
   exact this hc
  rw [←hs,hn]
  simp [h1,h2]
 unfold findsL
 rw [e]
theorem findsL_none {l:List Wt}{words:List Int}{w:Int}(ha:∀j,j<l.length→¬((nth l j).lock=false∧(nth l j).wh=w)):findsL l words w=nth words w.toNat:=by
 have e:l.reverse.find? (fun x=> !x.lock&&decide (x.wh=w))=none:=by
  rw [List.find?_eq_none]
  intro x hx
  rw [List.mem_reverse] at hx
  obtain ⟨k,hk,rfl⟩:=List.mem_iff_getElem.1 hx
  have:=ha k hk
  rw [show nth l k=l[k] from by simp [nth,hk]] at this
  intro hc
  simp only [Bool.and_eq_true,Bool.not_eq_true',decide_eq_true_eq] at hc
  exact this hc
 unfold findsL
 rw [e]
theorem finds_c (g t:Nat)(word:Int)(thr:Ls ThV)(words:Ls Int)(wait:Ls Wt)(cv pw:Value)(locks regs mode:Int)(ov pv:Value)(fell:Bool)(W:World)(hB:Blk W g 100 #[cv,pw, .int .i64 locks, .int .i64 regs, .int .i64 mode,thr.v,words.v,ov,pv, .bool fell])(h_thr:thr.At W)(h_words:words.At W)(h_wait:wait.At W)(ht:t<thr.l.length)(hwv:(nth thr.l t).wv=wait.v)(hwo:0≤word∧word<words.l.length):
    Rets Try.prog 85 [.pointer (some ⟨g,0,none⟩), .int .i64 ((t:Nat):Int), .int .i64 word] W (fun v w' =>v= .int .i64 (findsL wait.l words.l word)∧Sh0 W w' []):=by
 refine gen Try.func85 Try.ntmps85 (Sh0.ext (by intro A hA;simp at hA;rcases hA with rfl|rfl|rfl|rfl;exact hB;exact h_thr;exact h_words;exact h_wait) (by intro A hA b hb;simp at hA;rcases hA with rfl|rfl|rfl|rfl<;>exact hb):Sh (fun _=>False) W W [.rblk g 100 [cv,pw, .int .i64 locks, .int .i64 regs, .int .i64 mode,thr.v,words.v,ov,pv, .bool fell], .at_ thr, .at_ words, .at_ wait]) rfl fun a10 h10=>gG h10<|sG (oM 1 rfl<|.nl)<|sK fun _ k12=>gNl (aA 1 rfl) fun hl13=>gRn (oM 1 rfl<|onf fl_100_2 rfl<|olR 0 ti_98 rfl rfl<|oM 1 rfl<|oxN sl_98 ti_136 (aA 1 rfl) _ om9 rfl<|ofE fl_136_2 rfl<|oV (Rn.same (r_lde (s:=thr) (i:=t) (v:=((nth thr.l t).wv)) ti_134 rfl rfl rfl (fun w h=>(h.at 1 rfl)) (show t<thr.l.length from om9) (Nat.le_of_ble_eq_true rfl) rfl) hwv) rfl<|oM 1 rfl<|.nl)<|nK k12<|gK fun _ k14=>sK fun _ k15=>gNl (aA 3 rfl) fun hl16=>gRn (oM 1 rfl<|oln sl_134 (aA 3 rfl) rfl<|osbI _ _ om9 rfl<|oM 1 rfl<|.nl)<|nK k15<|gB<|fun a18 w18 h18=>x_loop (fun m a w=>∃(i:Int),(-1≤i∧i<wait.l.length)∧(∀j:Nat,i<j→j<wait.l.length→¬((nth wait.l j).lock=false∧(nth wait.l j).wh=word))∧St 51 (fun _=>False) W a w [(0, .pointer (some ⟨g,0,none⟩)),(2, .int .i64 word),(7,wait.v),(8, .int .i64 i)] [.rblk g 100 [cv,pw, .int .i64 locks, .int .i64 regs, .int .i64 mode,thr.v,words.v,ov,pv, .bool fell], .at_ thr, .at_ words, .at_ wait]∧m=(i+1).toNat) ⟨_,((wait.l.length:Nat):Int)-1,(by omega),(fun j hj hj2=>absurd hj (by omega)),h18.nf ⟨rfl,rfl,rfl,rfl,trivial⟩,rfl⟩ ?_;clear h10
 clear h18
 rintro m17 a17 w17 ⟨i,hi,hall,h17,hm17⟩
 refine gG h17<|gK fun _ k19=>sG (oM 1 rfl<|ogeI _ _ rfl<|.nl)<|?_;clear h17
 refine gcd rfl (fun hb21 hp21=> ?_) fun hb21 hp21=> ?_
 ·skip
  refine gS<|hK k19<|gK fun _ k22=>gB<|sK fun _ k23=>gRn (oM 2 rfl<|oxI sl_134 ti_144 (aA 3 rfl) om9 rfl<|ofE fl_144_0 rfl<|olE (.bool ((nth wait.l i.toNat).lock)) ti_4 (aA 3 rfl) om9 rfl<|ont rfl<|oM 1 rfl<|.nl)<|?_
  rcases Bool.eq_false_or_eq_true (!((nth wait.l i.toNat).lock)) with hb24|hb24
  ·have hn24:(nth wait.l i.toNat).lock=false:=(Bool.not_eq_true' _).mp hb24
   refine gRn (oG hb24 (r_move rfl rfl) rfl<|oG hb24 (r_move rfl rfl) rfl<|oG hb24 (r_ixI (s:=wait) (q:=i) sl_134 ti_144 rfl rfl rfl (fun w h=>(h.at 3 rfl)) (show 0≤i∧i<wait.l.length from om9)) rfl<|oG hb24 (r_fieldE (r:=1) fl_144_1 rfl rfl rfl) rfl<|oG hb24 (r_lde (s:=wait) (i:=i.toNat) (v:= .int .i64 ((nth wait.l i.toNat).wh)) ti_3 rfl rfl rfl (fun w h=>(h.at 3 rfl)) (show i.toNat<wait.l.length from om9) (Nat.le_of_ble_eq_true rfl) rfl) rfl<|oG hb24 (r_move rfl rfl) rfl<|oG hb24 (r_eqlI (p:=(nth wait.l i.toNat).wh) (q:=word) rfl rfl rfl) rfl<|opT hb24 rfl<|.nl)<|nK k23<|gcd rfl (fun hb25 hp25=> ?_) fun hb25 hp25=> ?_
   ·skip
    refine sG (oM 2 rfl<|oxI sl_134 ti_144 (aA 3 rfl) om9 rfl<|ofE fl_144_2 rfl<|olI ti_3 (aA 3 rfl) om9 rfl<|oM 1 rfl<|.nl)<|gF [6] rfl<|gR<|uB<|uT<|uT<|uB<|uT<|fun a27 w27 h27=>x_ret1 (fn:=Try.f85) (t:=6) rfl h27 rfl<|⟨?_,(h27.sh.sel [] rfl)⟩
    congr 1
    first|exact (findsL_some (i:=i.toNat) (by omega) (by assumption) (by omega) (fun j hj hj2=>hall j (by omega) hj2)).symm|exact (findsL_none (fun j hj=>hall j (by omega) hj)).symm
   refine gS<|hK k22<|gL<|gRn (oM 1 rfl<|osbI _ _ om9 rfl<|oM 1 rfl<|.nl)<|nN<|fun a28 w28 h28=>x_again ⟨_, ?_,i-1, ?_, ?_,h28.nf ⟨rfl,rfl,rfl,rfl,trivial⟩,rfl⟩
   · rw [hm17];first|omega|(simp only [lens9];omega)
   · omega
   · intro j hj hj2;by_cases h9:i<j;(exact hall j h9 hj2);obtain rfl:j=i.toNat:=(by omega);first|(rintro ⟨h8,_⟩;exact absurd (h8.symm.trans (show _=true by assumption)) (by decide))|(rintro ⟨_,h8⟩;omega)
  have hn24:(nth wait.l i.toNat).lock=true:=(Bool.not_eq_false' _).mp hb24
  refine gRn (oKs 7 hb24 rfl rfl<|opF hb24 rfl<|.nl)<|nK k23<|gcF rfl rfl<|gS<|hK k22<|gL<|gRn (oM 1 rfl<|osbI _ _ om9 rfl<|oM 1 rfl<|.nl)<|nN<|fun a29 w29 h29=>x_again ⟨_, ?_,i-1, ?_, ?_,h29.nf ⟨rfl,rfl,rfl,rfl,trivial⟩,rfl⟩
  · rw [hm17];first|omega|(simp only [lens9];omega)
  · omega
  · intro j hj hj2;by_cases h9:i<j;(exact hall j h9 hj2);obtain rfl:j=i.toNat:=(by omega);first|(rintro ⟨h8,_⟩;exact absurd (h8.symm.trans (show _=true by assumption)) (by decide))|(rintro ⟨_,h8⟩;omega)
 refine gX<|hK k14<|sK fun _ k30=>gNl (aA 2 rfl) fun hl31=>gRn (oM 1 rfl<|onf fl_100_3 rfl<|olR 0 ti_23 rfl rfl<|oM 1 rfl<|oxI sl_23 ti_3 (aA 2 rfl) om9 rfl<|olI ti_3 (aA 2 rfl) om9 rfl<|oM 1 rfl<|.nl)<|nK k30<|gR<|fun a32 w32 h32=>x_ret1 (fn:=Try.f85) (t:=6) rfl h32 rfl<|⟨?_,(h32.sh.sel [] rfl)⟩
 congr 1
 first|exact (findsL_some (i:=i.toNat) (by omega) (by assumption) (by omega) (fun j hj hj2=>hall j (by omega) hj2)).symm|exact (findsL_none (fun j hj=>hall j (by omega) hj)).symm
theorem set_same {l:List ThV}{t:Nat}{v:Value}(h:t<l.length)(e:(nth l t).wv=v):l.set t { nth l t with wv:=v } =l:=by
 subst e
 refine ext_nth _ _ (by simp) fun i hi=> ?_
 rw [nth_set]
 split
 ·rename_i hh;rw [←hh.1]
 ·rfl
theorem done_c (K:Nat→Prop)(g:Nat)(x:Wt)(words owner:Ls Int)(cv pw:Value)(locks regs mode:Int)(tv pv:Value)(fell:Bool)(W:World)(hS:Sh K W W [.blk g 100 [cv,pw, .int .i64 locks, .int .i64 regs, .int .i64 mode,tv,words.v,owner.v,pv, .bool fell], .own 3 words, .own 3 owner])(hx:if x.lock=true then 0≤x.wh∧x.wh<owner.l.length else 0≤x.wh∧x.wh<words.l.length):
    Rets Try.prog 83 [.pointer (some ⟨g,0,none⟩), .agg #[.bool x.lock, .int .i64 x.wh, .int .i64 x.what]] W (fun v w' =>v= .tuple #[]∧Sh K W w' [.blk g 100 [cv,pw, .int .i64 locks, .int .i64 regs, .int .i64 mode,tv,words.v,owner.v,pv, .bool fell], .own 3 (⟨words.v,if x.lock=true then words.l else words.l.set x.wh.toNat x.what⟩:Ls Int), .own 3 (⟨owner.v,if x.lock=true then owner.l.set x.wh.toNat (-1) else owner.l⟩:Ls Int)]):=by
 refine gen Try.func83 Try.ntmps83 hS rfl fun a10 h10=>gG h10<|sK fun _ k11=>gbx rfl rfl fun b12=>nK k11<|sG (ofB fl_144_0 rfl<|olB 0 ti_4 rfl rfl<|.nl)<|?_;clear h10
 refine gCb rfl (fun hb14=> ?_) fun hb14=> ?_
 ·skip
  rw [if_pos (by assumption)] at hx
  rw [if_pos (by assumption),if_pos (by assumption)]
  refine gNl (aO 3 rfl) fun hl15=>rT 7 [] (oM 1 rfl<|onfl 1 fl_100_4 ti_23 rfl rfl<|ofB fl_144_1 rfl<|olB 0 ti_3 rfl rfl<|oxI sl_23 ti_3 (aO 3 rfl) om9 rfl<|.nl)<|gte 3 ((-1):Int) ti_3 om9 rfl rfl<|nN<|fun a17 w17 h17=> ?_
  try simp only [Exit.then,Exit.inBlock,if_true]
  refine x_end0 (fn:=Try.f83) rfl h17 ?_
  exact ⟨rfl,(h17.sh.sel [1,2,3] rfl)⟩
 rw [if_neg (by rw [show x.lock=false by assumption];decide)] at hx
 rw [if_neg (by rw [show x.lock=false by assumption];decide),if_neg (by rw [show x.lock=false by assumption];decide)]
 refine gNl (aO 2 rfl) fun hl18=>rT 9 [] (oM 1 rfl<|onfl 1 fl_100_3 ti_23 rfl rfl<|ofB fl_144_1 rfl<|olB 0 ti_3 rfl rfl<|ofB fl_144_2 rfl<|olB 0 ti_3 rfl rfl<|oxI sl_23 ti_3 (aO 2 rfl) om9 rfl<|.nl)<|gte 2 (x.what:Int) ti_3 om9 rfl rfl<|nN<|fun a20 w20 h20=> ?_
 try simp only [Exit.then,Exit.inBlock,if_true]
 refine x_end0 (fn:=Try.f83) rfl h20 ?_
 exact ⟨rfl,(h20.sh.sel [1,2,3] rfl)⟩
theorem word_c (K:Nat→Prop)(g:Nat)(n:Int)(words:Ls Int)(cv pw:Value)(locks regs mode:Int)(tv ov pv:Value)(fell:Bool)(W:World)(hS:Sh K W W [.blk g 100 [cv,pw, .int .i64 locks, .int .i64 regs, .int .i64 mode,tv,words.v,ov,pv, .bool fell], .own 3 words]):
    Rets Try.prog 87 [.pointer (some ⟨g,0,none⟩), .int .i64 n] W (fun v w' =>v= .bool (decide (0≤n∧n<(words.l.length:Int)))∧Sh K W w' [.blk g 100 [cv,pw, .int .i64 locks, .int .i64 regs, .int .i64 mode,tv,words.v,ov,pv, .bool (fell|| !decide (0≤n∧n<(words.l.length:Int)))], .own 3 words]):=by
 refine gen Try.func87 Try.ntmps87 hS rfl fun a10 h10=>gG h10<|sG (oM 1 rfl<|.nl)<|gK fun _ k12=>sK fun _ k13=>gRn (oM 1 rfl<|oltI _ _ rfl<|oM 1 rfl<|.nl)<|?_;clear h10
 rcases dsp (n<0) with ⟨hb14,hp14⟩|⟨hb14,hp14⟩
 ·skip
  refine gRn (oKs 7 hb14 rfl rfl<|opT hb14 rfl<|.nl)<|nK k13<|gcT rfl rfl<|sK fun _ k15=>gRn (oM 1 rfl<|onf fl_100_6 rfl<|.nl)<|gst (v:= .bool true) 0 ti_4 rfl rfl rfl<|nK k15<|sG (oM 1 rfl<|.nl)<|gR<|uT<|fun a18 w18 h18=>x_ret1 (fn:=Try.f87) (t:=4) rfl h18 rfl ?_
  first|(have e9:decide (0≤n∧n<(words.l.length:Int))=true:=decide_eq_true (by omega))|(have e9:decide (0≤n∧n<(words.l.length:Int))=false:=decide_eq_false (by omega))
  rw [e9]
  refine ⟨rfl, ?_⟩
  first|(simp only [Bool.not_true,Bool.or_false];exact h18.sh)|(simp only [Bool.not_false,Bool.or_true];exact h18.sh)
 refine gNl (aO 1 rfl) fun hl19=>gRn (oG hb14 (r_move rfl rfl) rfl<|oG hb14 (r_move rfl rfl) rfl<|oG hb14 (r_nil rfl rfl) rfl<|oG hb14 (r_fieldB (r:=6) fl_100_3 rfl rfl rfl) rfl<|oG hb14 (r_ldb (i:=0) ti_23 rfl rfl rfl rfl) rfl<|oG hb14 (r_len (s:=words) (n:=words.l.length) sl_23 rfl rfl (fun w h=>(h.own 1 rfl)) rfl) rfl<|oG hb14 (r_geqI (p:=n) (q:=((words.l.length:Nat):Int)) rfl rfl rfl) rfl<|opF hb14 rfl<|.nl)<|nK k13<|gcd rfl (fun hb20 hp20=> ?_) fun hb20 hp20=> ?_
 ·skip
  refine sK fun _ k21=>gRn (oM 1 rfl<|onf fl_100_6 rfl<|.nl)<|gst (v:= .bool true) 0 ti_4 rfl rfl rfl<|nK k21<|sG (oM 1 rfl<|.nl)<|gR<|uT<|fun a24 w24 h24=>x_ret1 (fn:=Try.f87) (t:=4) rfl h24 rfl ?_
  first|(have e9:decide (0≤n∧n<(words.l.length:Int))=true:=decide_eq_true (by omega))|(have e9:decide (0≤n∧n<(words.l.length:Int))=false:=decide_eq_false (by omega))
  rw [e9]
  refine ⟨rfl, ?_⟩
  first|(simp only [Bool.not_true,Bool.or_false];exact h24.sh)|(simp only [Bool.not_false,Bool.or_true];exact h24.sh)
 refine gS<|hK k12<|sG (oM 1 rfl<|.nl)<|gR<|fun a26 w26 h26=>x_ret1 (fn:=Try.f87) (t:=4) rfl h26 rfl ?_
 first|(have e9:decide (0≤n∧n<(words.l.length:Int))=true:=decide_eq_true (by omega))|(have e9:decide (0≤n∧n<(words.l.length:Int))=false:=decide_eq_false (by omega))
 rw [e9]
 refine ⟨rfl, ?_⟩
 first|(simp only [Bool.not_true,Bool.or_false];exact h26.sh)|(simp only [Bool.not_false,Bool.or_true];exact h26.sh)
theorem store_c (K:Nat→Prop)(g t:Nat)(x:Wt)(thr:Ls ThV)(wait:Ls Wt)(words owner:Ls Int)(cv pw:Value)(locks regs mode:Int)(pv:Value)(fell:Bool)(W:World)(hS:Sh K W W [.blk g 100 [cv,pw, .int .i64 locks, .int .i64 regs, .int .i64 mode,thr.v,words.v,owner.v,pv, .bool fell], .own 136 thr, .own 144 wait, .own 3 words, .own 3 owner])(hx:if x.lock=true then 0≤x.wh∧x.wh<owner.l.length else 0≤x.wh∧x.wh<words.l.length)(ht:t<thr.l.length)(hwv:(nth thr.l t).wv=wait.v)(hwl:wait.l.length≤100):
    Rets Try.prog 86 [.pointer (some ⟨g,0,none⟩), .int .i64 ((t:Nat):Int), .agg #[.bool x.lock, .int .i64 x.wh, .int .i64 x.what]] W (fun v w' =>v= .tuple #[]∧∃(wait' :Ls Wt) (words' owner' :Ls Int),(if 0<mode then wait'.l=wait.l++ [x]∧words' =words∧owner' =owner else wait' =wait∧words' =(⟨words.v,if x.lock=true then words.l else words.l.set x.wh.toNat x.what⟩:Ls Int)∧owner' =(⟨owner.v,if x.lock=true then owner.l.set x.wh.toNat (-1) else owner.l⟩:Ls Int))∧Sh K W w' [.blk g 100 [cv,pw, .int .i64 locks, .int .i64 regs, .int .i64 mode,thr.v,words'.v,owner'.v,pv, .bool fell], .own 136 (⟨thr.v,thr.l.set t { nth thr.l t with wv:=wait'.v }⟩:Ls ThV), .own 144 wait', .own 3 words', .own 3 owner']):=by
 refine gen Try.func86 Try.ntmps86 hS rfl fun a10 h10=>gG h10<|sK fun _ k11=>gbx rfl rfl fun b12=>nK k11<|sG (oM 1 rfl<|onfl 1 fl_100_1 ti_3 rfl rfl<|ogtI _ _ rfl<|.nl)<|?_;clear h10
 refine gcd rfl (fun hb14 hp14=> ?_) fun hb14 hp14=> ?_
 ·skip
  refine gNl (aO 2 rfl) fun hl15=>rC [14,15,18] rfl<|pR [0,1,2,3,4,5,6,7,8,9,10,11,12,13] rfl (oM 1 rfl<|onfl 1 fl_100_2 ti_98 rfl rfl<|oM 2 rfl<|onfl 1 fl_100_2 ti_98 rfl rfl<|oM 1 rfl<|oxN sl_98 ti_136 (aO 2 rfl) _ om9 rfl<|ofE fl_136_2 rfl<|oV (Rn.same (r_lde (s:=thr) (i:=t) (v:=((nth thr.l t).wv)) ti_134 rfl rfl rfl (fun w h=>(h.own 2 rfl)) (show t<thr.l.length from om9) (Nat.le_of_ble_eq_true rfl) rfl) hwv) rfl<|olw 0 ti_144 rfl rfl<|.nl) rfl<|pX (fun _ _ h_=>x_lit (n:=1) (cs:= [.bool x.lock, .int .i64 x.wh, .int .i64 x.what]) ([x]:List Wt) h_ sl_134 ti_144 rfl rfl rfl (by decide) rfl (by kernel_rfl) rfl (fun q hq w h=>Flat.inner _ _) (fun q hq b hb=>(Flat.on _ _ hb).elim) rfl rfl) rfl fun v16=>pR [0,1,2,3,4,5,6,7,8,9,10,11,12] rfl (oM 1 rfl<|onfl 2 fl_100_2 ti_98 rfl rfl<|oM 2 rfl<|onfl 2 fl_100_2 ti_98 rfl rfl<|oM 1 rfl<|oxN sl_98 ti_136 (aO 3 rfl) _ om9 rfl<|ofE fl_136_2 rfl<|oV (Rn.same (r_lde (s:=thr) (i:=t) (v:=((nth thr.l t).wv)) ti_134 rfl rfl rfl (fun w h=>(h.own 3 rfl)) (show t<thr.l.length from om9) (Nat.le_of_ble_eq_true rfl) rfl) hwv) rfl<|.nl) rfl<|pX (fun _ _ h_=>x_app (r:=4) (rm:=0) (s:=wait) (m:=(⟨v16, [x]⟩:Ls Wt)) h_ sl_134 ti_144 rfl rfl rfl rfl rfl rfl rfl (fun w h=>(h.own 0 rfl)) (fun b hb=>own_on (h_.sh.ok _ (List.mem_of_getElem? (i:=0) rfl)) hb) (fun q hq b hb=>⟨q,hq,hb⟩) rfl rfl rfl inferInstance (show (wait.l.length+([x]).length)*24≤140737488355328∧wait.l.length+([x]).length≤140737488355328 from om9) rfl rfl) rfl fun v17=>pR [0,1,2,3,4,16,17] rfl (oM 1 rfl<|onfl 2 fl_100_2 ti_98 rfl rfl<|oM 1 rfl<|oxN sl_98 ti_136 (aO 3 rfl) _ om9 rfl<|ofE fl_136_2 rfl<|.nl) rfl<|pS (fun _ _ h_=>x_ste (r:=3) (i:=t) (j:=2) (x' :=({ nth thr.l t with wv:=v17 } :ThV)) h_ ti_134 rfl rfl rfl rfl rfl (show t<thr.l.length from om9) (Nat.le_of_ble_eq_true rfl) rfl (cells_oneL ((h_.sh.own 4 rfl)).one) ((h_.sh.own 4 rfl)).one (by intro q hq;rcases q with _|_|_|q<;>first|rfl|omega) (fun w h=>Flat.inner _ _) (fun b hb=>(Flat.on _ _ hb).elim)) rfl<|pE [] rfl (.nl) rfl<|fun a19 w19 h19=> ?_
  try simp only [Exit.then,Exit.inBlock,if_true]
  refine x_end0 (fn:=Try.f86) rfl h19<|⟨rfl,⟨v17,wait.l++([x])⟩,words,owner, ?_⟩
  first|(rw [if_pos (by omega)];exact ⟨⟨rfl,rfl,rfl⟩,(h19.sh.sel (L' := [_,_,_,_,_]) [2,3,4,5,6] rfl)⟩)|(rw [if_neg (by omega)];refine ⟨⟨rfl,rfl,rfl⟩, ?_⟩;rw [set_same (by omega) hwv];exact (h19.sh.sel (L' := [_,_,_,_,_]) [2,3,4,5,6] rfl))
 refine gL<|gRn (oM 1 rfl<|olw 0 ti_144 rfl rfl<|.nl)<|gO [1,4,5,0,2,3] rfl<|gM 3 rfl (fun _ _ h_=>xCl h_ bd_83 rfl (done_c _ _ x words owner _ _ _ _ _ _ _ _ _ (pKl 3 h_ rfl) hx)) rfl<|?_
 rintro _ _ w22 ⟨rfl,hs22⟩
 refine gBk hs22 rfl<|gU<|nN<|fun a23 w23 h23=> ?_;clear hs22
 try simp only [Exit.then,Exit.inBlock,if_true]
 refine x_end0 (fn:=Try.f86) rfl h23<|⟨rfl,wait,⟨words.v,if x.lock=true then words.l else words.l.set x.wh.toNat x.what⟩,⟨owner.v,if x.lock=true then owner.l.set x.wh.toNat (-1) else owner.l⟩, ?_⟩
 first|(rw [if_pos (by omega)];exact ⟨⟨rfl,rfl,rfl⟩,(h23.sh.sel (L' := [_,_,_,_,_]) [0,4,5,1,2] rfl)⟩)|(rw [if_neg (by omega)];refine ⟨⟨rfl,rfl,rfl⟩, ?_⟩;rw [set_same (by omega) hwv];exact (h23.sh.sel (L' := [_,_,_,_,_]) [0,4,5,1,2] rfl))
set_option maxHeartbeats 20000000
structure InsR (R W L:Nat)(i:Ins):Prop where
 o1:i.op=1→0≤i.a∧i.a<R
 o2:i.op=2→(0≤i.a∧i.a<R)∧0≤i.b∧i.b<R
 o3:i.op=3∨i.op=4∨i.op=5∨i.op=6∨i.op=7→(0≤i.a∧i.a<R)∧(0≤i.b∧i.b<R)∧0≤i.c∧i.c<R
 o8:i.op=8→(0≤i.a∧i.a<R)∧0≤i.b∧i.b<W
 o9:i.op=9→(0≤i.a∧i.a<W)∧0≤i.b∧i.b<R
 o10:i.op=10∨i.op=11→(0≤i.a∧i.a<R)∧0≤i.b∧i.b<R
 o13:i.op=13→(0≤i.a∧i.a<W)∧(0≤i.b∧i.b<R)∧0≤i.c∧i.c<R
 o15:i.op=15∨i.op=16→0≤i.a∧i.a<R
 o17:i.op=17∨i.op=18→0≤i.a∧i.a<L
theorem thset_pc {l tl:List ThV}{n:Nat}{p q:Int}{r v:Value}(h:n<l.length)(e:tl=l.set n ⟨p,r,v⟩):tl.set n { nth tl n with pc:=q } =l.set n ⟨q,r,v⟩:=by
 subst e
 rw [nth_set,if_pos ⟨rfl,h⟩,List.set_set]
theorem thset_wv {l tl:List ThV}{n:Nat}{p:Int}{r v v' :Value}(h:n<l.length)(e:tl=l.set n ⟨p,r,v⟩):tl.set n { nth tl n with wv:=v' } =l.set n ⟨p,r,v'⟩:=by
 subst e
 rw [nth_set,if_pos ⟨rfl,h⟩,List.set_set]
theorem thset_0 {l:List ThV}{n:Nat}{q:Int}{r v:Value}(hr:(nth l n).rv=r)(hv:(nth l n).wv=v):l.set n { nth l n with pc:=q } =l.set n ⟨q,r,v⟩:=by
 subst hr;subst hv;rfl
theorem thset_w0 {l:List ThV}{n:Nat}{r v:Value}(hr:(nth l n).rv=r):l.set n { nth l n with wv:=v } =l.set n ⟨(nth l n).pc,r,v⟩:=by
 subst hr;rfl
def DoPost (K:Nat→Prop)(W:World)(ST TH WT INT:Nat)(g n k:Nat)(mode:Int)(c:List Ins)(thr:Ls ThV)(hd:List Value)(x:TS)(code:Ls (Ls Ins))(w' :World):Prop:=
 ∃(regs' :Ls Int) (wait' :Ls Wt) (words' owner' prints' :Ls Int) (pc' :Int) (fell' :Bool),(⟨pc',regs'.l,wait'.l,words'.l,owner'.l,prints'.l,fell'⟩:TS)=doT mode n c k x∧
  Sh K W w' [.blk g ST (hd++ [thr.v,words'.v,owner'.v,prints'.v, .bool fell']), .own TH (⟨thr.v,thr.l.set n ⟨pc',regs'.v,wait'.v⟩⟩:Ls ThV), .own INT regs', .own WT wait', .own INT words', .own INT owner', .own INT prints', .at_ code]
section
variable {m:Int}{n:Nat}{i:Ins}{x:TS}
theorem execT_1 (h:i.op=1):execT m n i x=x.put i.a i.b:=by simp [execT,h]
theorem execT_2 (h:i.op=2):execT m n i x=x.put i.a (x.reg i.b):=by simp [execT,h]
theorem execT_3 (h:i.op=3):execT m n i x=x.put i.a (wrap64 (x.reg i.b+x.reg i.c)):=by simp [execT,h]
theorem execT_4 (h:i.op=4):execT m n i x=x.put i.a (wrap64 (x.reg i.b-x.reg i.c)):=by simp [execT,h]
theorem execT_5 (h:i.op=5):execT m n i x=x.put i.a (wrap64 (x.reg i.b*x.reg i.c)):=by simp [execT,h]
theorem execT_6 (h:i.op=6):execT m n i x=x.put i.a (bit (decide (x.reg i.b<x.reg i.c))):=by simp [execT,h]
theorem execT_7 (h:i.op=7):execT m n i x=x.put i.a (bit (decide (x.reg i.b=x.reg i.c))):=by simp [execT,h]
theorem execT_8 (h:i.op=8):execT m n i x=x.put i.a (x.finds i.b):=by simp [execT,h]
theorem execT_9 (h:i.op=9):execT m n i x=x.store m ⟨false,i.a,x.reg i.b⟩:=by simp [execT,h]
theorem execT_10t (h:i.op=10)(h1:0≤x.reg i.b∧x.reg i.b<(x.words.length:Int)):execT m n i x=x.put i.a (x.finds (x.reg i.b)):=by simp [execT,h,TS.isWord,h1]
theorem execT_10f (h:i.op=10)(h1:¬(0≤x.reg i.b∧x.reg i.b<(x.words.length:Int))):execT m n i x= { x with fell:=true } :=by
 have e:x.isWord (x.reg i.b)=false:=decide_eq_false h1
 simp [execT,h,e]
theorem execT_11t (h:i.op=11)(h1:0≤x.reg i.a∧x.reg i.a<(x.words.length:Int)):execT m n i x=x.store m ⟨false,x.reg i.a,x.reg i.b⟩:=by simp [execT,h,TS.isWord,h1]
theorem execT_11f (h:i.op=11)(h1:¬(0≤x.reg i.a∧x.reg i.a<(x.words.length:Int))):execT m n i x= { x with fell:=true } :=by
 have e:x.isWord (x.reg i.a)=false:=decide_eq_false h1
 simp [execT,h,e]
theorem execT_13t (h:i.op=13)(h1:nth x.words i.a.toNat=x.reg i.b):execT m n i x= { x with words:=x.words.set i.a.toNat (x.reg i.c),regs:=x.regs.set i.b.toNat 1 } :=by simp [execT,h,h1]
theorem execT_13f (h:i.op=13)(h1:¬nth x.words i.a.toNat=x.reg i.b):execT m n i x=x.put i.b 0:=by simp [execT,h,h1]
theorem execT_14 (h:i.op=14):execT m n i x= { x with pc:=i.a } :=by simp [execT,h]
theorem execT_15t (h:i.op=15)(h1:x.reg i.a=0):execT m n i x= { x with pc:=i.b } :=by simp [execT,h,h1]
theorem execT_15f (h:i.op=15)(h1:¬x.reg i.a=0):execT m n i x=x:=by simp [execT,h,h1]
theorem execT_16 (h:i.op=16):execT m n i x= { x with prints:=x.prints++ [(n:Int),x.reg i.a] } :=by simp [execT,h]
theorem execT_17 (h:i.op=17):execT m n i x= { x with owner:=x.owner.set i.a.toNat n } :=by simp [execT,h]
theorem execT_18a (h:i.op=18)(h1:nth x.owner i.a.toNat≠n):execT m n i x= { x with fell:=true } :=by simp [execT,h,h1]
theorem execT_18b (h:i.op=18)(h1:¬nth x.owner i.a.toNat≠n)(j:Nat)(hj:j<x.wait.length)(hl:(nth x.wait j).lock=true)(hw:(nth x.wait j).wh=i.a):execT m n i x= { x with fell:=true } :=by
 have e:x.holds i.a=true:=List.any_eq_true.2 ⟨_,nth_mem _ _ hj,by simp [hl,hw]⟩
 simp [execT,h,e]
theorem execT_18c (h:i.op=18)(h1:¬nth x.owner i.a.toNat≠n)(hall:∀q,q<x.wait.length→¬((nth x.wait q).lock=true∧(nth x.wait q).wh=i.a)):execT m n i x=x.store m ⟨true,i.a,0⟩:=by
 have e:x.holds i.a=false:=by
  unfold TS.holds
  rw [List.any_eq_false]
  intro y hy
  obtain ⟨k,hk,rfl⟩:=List.mem_iff_getElem.1 hy
  have:=hall k hk
  rw [show nth x.wait k=x.wait[k] from nth_lt _ _ hk] at this
  simpa using this
 have h1' :nth x.owner i.a.toNat=n:=Decidable.not_not.1 h1
 simp [execT,h,h1',e]
theorem execT_no (h:¬i.op=1∧¬i.op=2∧¬i.op=3∧¬i.op=4∧¬i.op=5∧¬i.op=6∧¬i.op=7∧¬i.op=8∧¬i.op=9∧¬i.op=10∧¬i.op=11∧¬i.op=13∧¬i.op=14∧¬i.op=15∧¬i.op=16∧¬i.op=17∧¬i.op=18):execT m n i x=x:=by
 obtain ⟨h1,h2,h3,h4,h5,h6,h7,h8,h9,h10,h11,h13,h14,h15,h16,h17,h18⟩:=h
 simp [execT,h1,h2,h3,h4,h5,h6,h7,h8,h9,h10,h11,h13,h14,h15,h16,h17,h18]
theorem store_eq {pc:Int}{regs prints:List Int}{fell:Bool}{wait wait' :Ls Wt}{words words' owner owner' :Ls Int}{y:Wt}(hst:if 0<m then wait'.l=wait.l++ [y]∧words' =words∧owner' =owner else wait' =wait∧words' =(⟨words.v,if y.lock=true then words.l else words.l.set y.wh.toNat y.what⟩:Ls Int)∧owner' =(⟨owner.v,if y.lock=true then owner.l.set y.wh.toNat (-1) else owner.l⟩:Ls Int)):
  (⟨pc,regs,wait'.l,words'.l,owner'.l,prints,fell⟩:TS)=TS.store m ⟨pc,regs,wait.l,words.l,owner.l,prints,fell⟩ y:=by
 unfold TS.store TS.done
 split at hst
 ·rename_i h
  obtain ⟨h1,rfl,rfl⟩:=hst
  rw [if_pos h,h1]
 ·rename_i h
  obtain ⟨rfl,rfl,rfl⟩:=hst
  rw [if_neg h]
theorem doT_k {c:List Ins}{k:Nat}(hk:0<k):doT m n c k x= { x.done (nth x.wait (k-1)) with wait:=x.wait.take (k-1)++x.wait.drop k } :=by
 unfold doT
 rw [if_pos hk,List.eraseIdx_eq_take_drop_succ,show k-1+1=k by omega]
theorem or_f {b:Bool}{p:Prop}[Decidable p](h:decide p=true):(b|| !decide p)=b:=by rw [h];simp
theorem or_t {b:Bool}{p:Prop}[Decidable p](h:decide p=false):(b|| !decide p)=true:=by rw [h];simp
end
theorem doT_0 {m:Int}{n:Nat}{c:List Ins}{k:Nat}{x:TS}(hk:k=0):doT m n c k x=execT m n (nextIns c x.pc) { x with pc:=x.pc+1 } :=by subst hk;rfl
theorem do_c (K:Nat→Prop)(g mv:Nat)(code:Ls (Ls Ins))(thr:Ls ThV)(regs:Ls Int)(wait:Ls Wt)(words owner prints:Ls Int)(pw:Value)(locks nregs mode:Int)(fell:Bool)(W:World)(hS:Sh K W W [.blk g 100 [code.v,pw, .int .i64 locks, .int .i64 nregs, .int .i64 mode,thr.v,words.v,owner.v,prints.v, .bool fell], .own 136 thr, .own 3 regs, .own 144 wait, .own 3 words, .own 3 owner, .own 3 prints, .at_ code])(ht:mv/8<thr.l.length)(htc:mv/8<code.l.length)(hmv:mv<1000000)(hrv:(nth thr.l (mv/8)).rv=regs.v)(hwv:(nth thr.l (mv/8)).wv=wait.v)(hpc:0≤(nth thr.l (mv/8)).pc∧(nth thr.l (mv/8)).pc<1000000)(hwl:wait.l.length≤3)(hkw:mv%8≤wait.l.length)(hpl:prints.l.length≤100000000)(hol:owner.l.length≤100)(hwt:∀j,j<wait.l.length→if (nth wait.l j).lock=true then 0≤(nth wait.l j).wh∧(nth wait.l j).wh<owner.l.length else 0≤(nth wait.l j).wh∧(nth wait.l j).wh<words.l.length)(hio:mv%8=0→InsR regs.l.length words.l.length owner.l.length (nextIns (nth code.l (mv/8)).l (nth thr.l (mv/8)).pc)):
    Rets Try.prog 50 [.pointer (some ⟨g,0,none⟩), .int .i64 ((mv:Nat):Int)] W (fun v w' =>v= .tuple #[]∧DoPost K W 100 136 144 3 g (mv/8) (mv%8) mode (nth code.l (mv/8)).l thr [code.v,pw, .int .i64 locks, .int .i64 nregs, .int .i64 mode] (⟨(nth thr.l (mv/8)).pc,regs.l,wait.l,words.l,owner.l,prints.l,fell⟩:TS) code w'):=by
 refine gen Try.func50 Try.ntmps50 hS rfl fun a10 h10=>gG h10<|sG (oM 1 rfl<|oquN _ 8 om9 rfl<|oM 1 rfl<|.nl)<|sK fun _ k12=>gNl (aO 1 rfl) fun hl13=>gRn (oM 1 rfl<|onfl 0 fl_100_2 ti_98 rfl rfl<|oM 1 rfl<|oxN sl_98 ti_136 (aO 1 rfl) _ om9 rfl<|oM 1 rfl<|.nl)<|nK k12<|sG (oM 1 rfl<|ormN _ 8 om9 rfl<|oM 1 rfl<|.nl)<|gK fun _ k15=>sG (oM 1 rfl<|ogtN _ 0 rfl<|.nl)<|?_;clear h10
 refine gcd rfl (fun hb17 hp17=> ?_) fun hb17 hp17=> ?_
 ·skip
  have hwk:=hwt (mv%8-1) (by omega)
  refine sK fun _ k18=>gNl (aO 3 rfl) fun hl19=>gRn (oM 2 rfl<|onl rfl<|ofE fl_136_2 rfl<|oV (Rn.same (r_lde (s:=thr) (i:=mv/8) (v:=((nth thr.l (mv/8)).wv)) ti_134 rfl rfl rfl (fun w h=>(h.own 1 rfl)) (show mv/8<thr.l.length from om9) (Nat.le_of_ble_eq_true rfl) rfl) hwv) rfl<|oM 1 rfl<|osbN _ 1 om9 rfl<|oxN sl_134 ti_144 (aO 3 rfl) _ om9 rfl<|olw2 [.bool ((nth wait.l ((mv%8)-1)).lock), .int .i64 ((nth wait.l ((mv%8)-1)).wh), .int .i64 ((nth wait.l ((mv%8)-1)).what)] ti_144 (aO 3 rfl) om9 rfl<|.nl)<|gO [0,4,5,1,2,3,6,7] rfl<|gM 3 rfl (fun _ _ h_=>xCl h_ bd_83 rfl (done_c _ _ (nth wait.l ((mv%8)-1)) words owner _ _ _ _ _ _ _ _ _ (pKl 3 h_ rfl) hwk)) rfl<|?_
  rintro _ _ w22 ⟨rfl,hs22⟩
  refine gBk hs22 rfl<|gU<|nK k18<|gF [5,6] rfl<|gK fun _ k23=>rT 14 [0] (oM 2 rfl<|onl rfl<|ofE fl_136_2 rfl<|oV (Rn.same (r_lde (s:=thr) (i:=mv/8) (v:=((nth thr.l (mv/8)).wv)) ti_134 rfl rfl rfl (fun w h=>(h.own 3 rfl)) (show mv/8<thr.l.length from om9) (Nat.le_of_ble_eq_true rfl) rfl) hwv) rfl<|oM 1 rfl<|osbN _ 1 om9 rfl<|oV (r_slH (s:=wait) (j:=(mv%8)-1) sl_134 ti_144 rfl rfl rfl (fun w h=>(h.own 5 rfl)) (show (mv%8)-1≤wait.l.length from om9) (show 0<wait.l.length from om9)) rfl<|oM 1 rfl<|onl rfl<|ofE fl_136_2 rfl<|oV (Rn.same (r_lde (s:=thr) (i:=mv/8) (v:=((nth thr.l (mv/8)).wv)) ti_134 rfl rfl rfl (fun w h=>(h.own 3 rfl)) (show mv/8<thr.l.length from om9) (Nat.le_of_ble_eq_true rfl) rfl) hwv) rfl<|oM 1 rfl<|oV (r_slL (s:=wait) (k:=mv%8) sl_134 ti_144 rfl rfl rfl (fun w h=>(h.own 5 rfl)) (show mv%8≤wait.l.length from om9)) rfl<|.nl)<|gE1 (fun _ _ h_=>x_del (r:=5) (j:=(mv%8)-1) (k:=mv%8) (s:=wait) h_ sl_134 ti_144 rfl rfl rfl rfl rfl rfl inferInstance (show (mv%8)-1≤mv%8∧mv%8≤wait.l.length∧0<wait.l.length from om9) rfl rfl) rfl fun v24=>gRn (onl rfl<|ofE fl_136_2 rfl<|.nl)<|gtr 3 ({ nth thr.l (mv/8) with wv:=v24 } :ThV) ti_134 om9 (aO 5 rfl) rfl<|nK k23<|gR<|uT<|fun a26 w26 h26=> ?_;clear hs22
  refine x_ret0 (fn:=Try.f50) rfl h26<|⟨rfl,⟨regs.v,regs.l⟩,⟨v24,wait.l.take ((mv%8)-1)++wait.l.drop (mv%8)⟩,⟨words.v,if (nth wait.l ((mv%8)-1)).lock=true then words.l else words.l.set (nth wait.l ((mv%8)-1)).wh.toNat (nth wait.l ((mv%8)-1)).what⟩,⟨owner.v,if (nth wait.l ((mv%8)-1)).lock=true then owner.l.set (nth wait.l ((mv%8)-1)).wh.toNat (-1) else owner.l⟩,⟨prints.v,prints.l⟩,(nth thr.l (mv/8)).pc,fell, ?_, ?_⟩
  · rw [doT_k (by omega)];rfl
  ·have hz:=(h26.sh.sel (L' := [_,_,_,_,_,_,_,_]) [0,3,4,5,1,2,6,7] rfl)
   rw [thset_w0 hrv] at hz;exact hz
 refine gS<|hK k15<|sK fun _ k27=>gRn (oM 2 rfl<|.nl)<|fun a29 w29 h29=>wl_ex (x_call h29 bd_80 rfl rfl rfl rfl rfl (next_c g (mv/8) code thr _ _ _ _ _ _ _ _ _ (h29.sh.blk 0 rfl) (h29.sh.at 7 rfl) (h29.sh.own 1 rfl) htc ht (by omega))) (wanted_none rfl _) ?_
 rintro a30 w30 ⟨_,⟨hv30,hs30⟩,hf30⟩
 obtain ⟨ins,hins⟩:∃i,i=nextIns (nth code.l (mv/8)).l (nth thr.l (mv/8)).pc:=⟨_,rfl⟩
 rw [←hins] at hv30
 subst hv30
 have hR:=hio (by omega)
 rw [←hins] at hR
 have h30:St 384 K W a30 w30 _ _:=⟨hf30,h29.sh.call0 hs30⟩
 clear hf30 hs30
 clear h29
 refine gG h30<|gRn (oM 1 rfl<|oxt rfl<|oxt rfl<|.nl)<|gal ti_47 rfl fun b31=>gsw 0 ti_47 rfl rfl rfl<|gRn (oM 1 rfl<|.nl)<|nK k27<|sK fun _ k33=>gRn (oM 1 rfl<|onl rfl<|ofE fl_136_0 rfl<|olI ti_3 (aO 2 rfl) om9 rfl<|oadI _ _ om9 rfl<|onl rfl<|ofE fl_136_0 rfl<|.nl)<|gte 2 ({ nth thr.l (mv/8) with pc:=((nth thr.l (mv/8)).pc)+1 } :ThV) ti_3 om9 rfl rfl<|nK k33<|gF [0,4,5,7] rfl<|?_;clear h30
 obtain ⟨tl,htl⟩:∃tl,tl=thr.l.set (mv/8) ({ nth thr.l (mv/8) with pc:=((nth thr.l (mv/8)).pc)+1 }):=⟨_,rfl⟩
 intro a35 w35 h35
 have h359:=h35.relist (i:=2) (l' :=tl) rfl htl.symm
 clear h35
 rw [thset_0 hrv hwv] at htl
 have htll:tl.length=thr.l.length:=by rw [htl,List.length_set]
 have hrv2:(nth tl (mv/8)).rv=regs.v:=by rw [htl,nth_set,if_pos ⟨rfl,ht⟩]
 have hwv2:(nth tl (mv/8)).wv=wait.v:=by rw [htl,nth_set,if_pos ⟨rfl,ht⟩]
 refine gG h359<|sG (oM 1 rfl<|onl rfl<|ofE fl_136_1 rfl<|oV (Rn.same (r_lde (s:=(⟨thr.v,tl⟩:Ls ThV)) (i:=mv/8) (v:=((nth tl (mv/8)).rv)) ti_23 rfl rfl rfl (fun w h=>(h.own 2 rfl)) (show mv/8<tl.length from om9) (Nat.le_of_ble_eq_true rfl) rfl) hrv2) rfl<|oM 1 rfl<|.nl)<|sG (ofB fl_47_0 rfl<|olB 0 ti_3 rfl rfl<|.nl)<|gB<|sG (oeqI _ _ rfl<|oM 1 rfl<|.nl)<|?_;clear h359
 refine gcd rfl (fun hb39 hp39=> ?_) fun hb39 hp39=> ?_
 ·skip
  have q9:=hR.o1 (by omega)
  refine gL<|gNl (aO 3 rfl) fun hl40=>gRn (oM 1 rfl<|ofB fl_47_1 rfl<|olB 0 ti_3 rfl rfl<|ofB fl_47_2 rfl<|olB 0 ti_3 rfl rfl<|oxI sl_23 ti_3 (aO 3 rfl) om9 rfl<|.nl)<|gte 3 (ins.b:Int) ti_3 om9 rfl rfl<|nN<|fun a42 w42 h42=> ?_
  try simp only [Exit.then,Exit.inBlock,if_true]
  refine x_end0 (fn:=Try.f50) rfl h42<|⟨rfl,⟨regs.v,regs.l.set ins.a.toNat ins.b⟩,⟨wait.v,wait.l⟩,⟨words.v,words.l⟩,⟨owner.v,owner.l⟩,⟨prints.v,prints.l⟩,(nth thr.l (mv/8)).pc+1,fell, ?_, ?_⟩
  · refine Eq.trans ?_ (doT_0 (by omega)).symm;show _=execT mode (mv/8) (nextIns (nth code.l (mv/8)).l (nth thr.l (mv/8)).pc) _;rw [←hins];(refine Eq.trans ?_ (execT_1 (by assumption)).symm;rfl)
  ·have hz:=(h42.sh.sel (L' := [_,_,_,_,_,_,_,_]) [1,2,3,4,5,6,7,8] rfl)
   rw [htl] at hz;exact hz
 refine sG (oeqI _ _ rfl<|oM 1 rfl<|.nl)<|gcd rfl (fun hb44 hp44=> ?_) fun hb44 hp44=> ?_
 ·skip
  have q9:=hR.o2 (by omega)
  refine gNl (aO 3 rfl) fun hl45=>rT 9 [] (oM 1 rfl<|ofB fl_47_1 rfl<|olB 0 ti_3 rfl rfl<|oM 1 rfl<|ofB fl_47_2 rfl<|olB 0 ti_3 rfl rfl<|oxI sl_23 ti_3 (aO 3 rfl) om9 rfl<|olI ti_3 (aO 3 rfl) om9 rfl<|oxI sl_23 ti_3 (aO 3 rfl) om9 rfl<|.nl)<|gte 3 (nth regs.l ins.b.toNat:Int) ti_3 om9 rfl rfl<|nN<|fun a47 w47 h47=> ?_
  try simp only [Exit.then,Exit.inBlock,if_true]
  refine x_end0 (fn:=Try.f50) rfl h47<|⟨rfl,⟨regs.v,regs.l.set ins.a.toNat (nth regs.l ins.b.toNat)⟩,⟨wait.v,wait.l⟩,⟨words.v,words.l⟩,⟨owner.v,owner.l⟩,⟨prints.v,prints.l⟩,(nth thr.l (mv/8)).pc+1,fell, ?_, ?_⟩
  · refine Eq.trans ?_ (doT_0 (by omega)).symm;show _=execT mode (mv/8) (nextIns (nth code.l (mv/8)).l (nth thr.l (mv/8)).pc) _;rw [←hins];(refine Eq.trans ?_ (execT_2 (by assumption)).symm;rfl)
  ·have hz:=(h47.sh.sel (L' := [_,_,_,_,_,_,_,_]) [1,2,3,4,5,6,7,8] rfl)
   rw [htl] at hz;exact hz
 refine sG (oeqI _ _ rfl<|oM 1 rfl<|.nl)<|gcd rfl (fun hb49 hp49=> ?_) fun hb49 hp49=> ?_
 ·skip
  have q9:=hR.o3 (by omega)
  refine gNl (aO 3 rfl) fun hl50=>rT 15 [] (oM 1 rfl<|ofB fl_47_1 rfl<|olB 0 ti_3 rfl rfl<|oM 1 rfl<|ofB fl_47_2 rfl<|olB 0 ti_3 rfl rfl<|oxI sl_23 ti_3 (aO 3 rfl) om9 rfl<|olI ti_3 (aO 3 rfl) om9 rfl<|oM 1 rfl<|ofB fl_47_3 rfl<|olB 0 ti_3 rfl rfl<|oxI sl_23 ti_3 (aO 3 rfl) om9 rfl<|olI ti_3 (aO 3 rfl) om9 rfl<|oV (r_addW (p:=nth regs.l ins.b.toNat) (q:=nth regs.l ins.c.toNat) rfl rfl rfl) rfl<|oxI sl_23 ti_3 (aO 3 rfl) om9 rfl<|.nl)<|gte 3 (wrap64 ((nth regs.l ins.b.toNat)+(nth regs.l ins.c.toNat)):Int) ti_3 om9 rfl rfl<|nN<|fun a52 w52 h52=> ?_
  try simp only [Exit.then,Exit.inBlock,if_true]
  refine x_end0 (fn:=Try.f50) rfl h52<|⟨rfl,⟨regs.v,regs.l.set ins.a.toNat (wrap64 ((nth regs.l ins.b.toNat)+(nth regs.l ins.c.toNat)))⟩,⟨wait.v,wait.l⟩,⟨words.v,words.l⟩,⟨owner.v,owner.l⟩,⟨prints.v,prints.l⟩,(nth thr.l (mv/8)).pc+1,fell, ?_, ?_⟩
  · refine Eq.trans ?_ (doT_0 (by omega)).symm;show _=execT mode (mv/8) (nextIns (nth code.l (mv/8)).l (nth thr.l (mv/8)).pc) _;rw [←hins];(refine Eq.trans ?_ (execT_3 (by assumption)).symm;rfl)
  ·have hz:=(h52.sh.sel (L' := [_,_,_,_,_,_,_,_]) [1,2,3,4,5,6,7,8] rfl)
   rw [htl] at hz;exact hz
 refine sG (oeqI _ _ rfl<|oM 1 rfl<|.nl)<|gcd rfl (fun hb54 hp54=> ?_) fun hb54 hp54=> ?_
 ·skip
  have q9:=hR.o3 (by omega)
  refine gNl (aO 3 rfl) fun hl55=>rT 15 [] (oM 1 rfl<|ofB fl_47_1 rfl<|olB 0 ti_3 rfl rfl<|oM 1 rfl<|ofB fl_47_2 rfl<|olB 0 ti_3 rfl rfl<|oxI sl_23 ti_3 (aO 3 rfl) om9 rfl<|olI ti_3 (aO 3 rfl) om9 rfl<|oM 1 rfl<|ofB fl_47_3 rfl<|olB 0 ti_3 rfl rfl<|oxI sl_23 ti_3 (aO 3 rfl) om9 rfl<|olI ti_3 (aO 3 rfl) om9 rfl<|oV (r_subW (p:=nth regs.l ins.b.toNat) (q:=nth regs.l ins.c.toNat) rfl rfl rfl) rfl<|oxI sl_23 ti_3 (aO 3 rfl) om9 rfl<|.nl)<|gte 3 (wrap64 ((nth regs.l ins.b.toNat)-(nth regs.l ins.c.toNat)):Int) ti_3 om9 rfl rfl<|nN<|fun a57 w57 h57=> ?_
  try simp only [Exit.then,Exit.inBlock,if_true]
  refine x_end0 (fn:=Try.f50) rfl h57<|⟨rfl,⟨regs.v,regs.l.set ins.a.toNat (wrap64 ((nth regs.l ins.b.toNat)-(nth regs.l ins.c.toNat)))⟩,⟨wait.v,wait.l⟩,⟨words.v,words.l⟩,⟨owner.v,owner.l⟩,⟨prints.v,prints.l⟩,(nth thr.l (mv/8)).pc+1,fell, ?_, ?_⟩
  · refine Eq.trans ?_ (doT_0 (by omega)).symm;show _=execT mode (mv/8) (nextIns (nth code.l (mv/8)).l (nth thr.l (mv/8)).pc) _;rw [←hins];(refine Eq.trans ?_ (execT_4 (by assumption)).symm;rfl)
  ·have hz:=(h57.sh.sel (L' := [_,_,_,_,_,_,_,_]) [1,2,3,4,5,6,7,8] rfl)
   rw [htl] at hz;exact hz
 refine sG (oeqI _ _ rfl<|oM 1 rfl<|.nl)<|gcd rfl (fun hb59 hp59=> ?_) fun hb59 hp59=> ?_
 ·skip
  have q9:=hR.o3 (by omega)
  refine gNl (aO 3 rfl) fun hl60=>rT 15 [] (oM 1 rfl<|ofB fl_47_1 rfl<|olB 0 ti_3 rfl rfl<|oM 1 rfl<|ofB fl_47_2 rfl<|olB 0 ti_3 rfl rfl<|oxI sl_23 ti_3 (aO 3 rfl) om9 rfl<|olI ti_3 (aO 3 rfl) om9 rfl<|oM 1 rfl<|ofB fl_47_3 rfl<|olB 0 ti_3 rfl rfl<|oxI sl_23 ti_3 (aO 3 rfl) om9 rfl<|olI ti_3 (aO 3 rfl) om9 rfl<|oV (r_mulW (p:=nth regs.l ins.b.toNat) (q:=nth regs.l ins.c.toNat) rfl rfl rfl) rfl<|oxI sl_23 ti_3 (aO 3 rfl) om9 rfl<|.nl)<|gte 3 (wrap64 ((nth regs.l ins.b.toNat)*(nth regs.l ins.c.toNat)):Int) ti_3 om9 rfl rfl<|nN<|fun a62 w62 h62=> ?_
  try simp only [Exit.then,Exit.inBlock,if_true]
  refine x_end0 (fn:=Try.f50) rfl h62<|⟨rfl,⟨regs.v,regs.l.set ins.a.toNat (wrap64 ((nth regs.l ins.b.toNat)*(nth regs.l ins.c.toNat)))⟩,⟨wait.v,wait.l⟩,⟨words.v,words.l⟩,⟨owner.v,owner.l⟩,⟨prints.v,prints.l⟩,(nth thr.l (mv/8)).pc+1,fell, ?_, ?_⟩
  · refine Eq.trans ?_ (doT_0 (by omega)).symm;show _=execT mode (mv/8) (nextIns (nth code.l (mv/8)).l (nth thr.l (mv/8)).pc) _;rw [←hins];(refine Eq.trans ?_ (execT_5 (by assumption)).symm;rfl)
  ·have hz:=(h62.sh.sel (L' := [_,_,_,_,_,_,_,_]) [1,2,3,4,5,6,7,8] rfl)
   rw [htl] at hz;exact hz
 refine sG (oeqI _ _ rfl<|oM 1 rfl<|.nl)<|gcd rfl (fun hb64 hp64=> ?_) fun hb64 hp64=> ?_
 ·skip
  have q9:=hR.o3 (by omega)
  intro a66 w66 h66
  refine x_tail 16 [] (by kernel_rfl) (by kernel_rfl) h66 fun _ z67=>qQ h66.fr<|qRn (oM 1 rfl<|ofB fl_47_1 rfl<|olB 0 ti_3 rfl rfl<|oM 1 rfl<|ofB fl_47_2 rfl<|olB 0 ti_3 rfl rfl<|.nl)<|?_
  have hl68:regs.l.length≤140737488355328:=(h66.sh.own 3 rfl).len
  refine qRn (oxI sl_23 ti_3 (aO 3 rfl) om9 rfl<|olI ti_3 (aO 3 rfl) om9 rfl<|oM 1 rfl<|ofB fl_47_3 rfl<|olB 0 ti_3 rfl rfl<|oxI sl_23 ti_3 (aO 3 rfl) om9 rfl<|olI ti_3 (aO 3 rfl) om9 rfl<|oltI _ _ rfl<|.nl)<|qP bd_84 rfl (fun w h=>(bit_c (decide (nth regs.l ins.b.toNat<nth regs.l ins.c.toNat)) _))<|qRn (oxI sl_23 ti_3 (aO 3 rfl) om9 rfl<|.nl)<|qN z67<|gte 3 (bit (decide (nth regs.l ins.b.toNat<nth regs.l ins.c.toNat)):Int) ti_3 om9 rfl rfl<|nN<|fun a70 w70 h70=> ?_;clear h66
  try simp only [Exit.then,Exit.inBlock,if_true]
  refine x_end0 (fn:=Try.f50) rfl h70<|⟨rfl,⟨regs.v,regs.l.set ins.a.toNat (bit (decide (nth regs.l ins.b.toNat<nth regs.l ins.c.toNat)))⟩,⟨wait.v,wait.l⟩,⟨words.v,words.l⟩,⟨owner.v,owner.l⟩,⟨prints.v,prints.l⟩,(nth thr.l (mv/8)).pc+1,fell, ?_, ?_⟩
  · refine Eq.trans ?_ (doT_0 (by omega)).symm;show _=execT mode (mv/8) (nextIns (nth code.l (mv/8)).l (nth thr.l (mv/8)).pc) _;rw [←hins];(refine Eq.trans ?_ (execT_6 (by assumption)).symm;rfl)
  ·have hz:=(h70.sh.sel (L' := [_,_,_,_,_,_,_,_]) [1,2,3,4,5,6,7,8] rfl)
   rw [htl] at hz;exact hz
 refine sG (oeqI _ _ rfl<|oM 1 rfl<|.nl)<|gcd rfl (fun hb72 hp72=> ?_) fun hb72 hp72=> ?_
 ·skip
  have q9:=hR.o3 (by omega)
  intro a74 w74 h74
  refine x_tail 16 [] (by kernel_rfl) (by kernel_rfl) h74 fun _ z75=>qQ h74.fr<|qRn (oM 1 rfl<|ofB fl_47_1 rfl<|olB 0 ti_3 rfl rfl<|oM 1 rfl<|ofB fl_47_2 rfl<|olB 0 ti_3 rfl rfl<|.nl)<|?_
  have hl76:regs.l.length≤140737488355328:=(h74.sh.own 3 rfl).len
  refine qRn (oxI sl_23 ti_3 (aO 3 rfl) om9 rfl<|olI ti_3 (aO 3 rfl) om9 rfl<|oM 1 rfl<|ofB fl_47_3 rfl<|olB 0 ti_3 rfl rfl<|oxI sl_23 ti_3 (aO 3 rfl) om9 rfl<|olI ti_3 (aO 3 rfl) om9 rfl<|oeqI _ _ rfl<|.nl)<|qP bd_84 rfl (fun w h=>(bit_c (decide (nth regs.l ins.b.toNat=nth regs.l ins.c.toNat)) _))<|qRn (oxI sl_23 ti_3 (aO 3 rfl) om9 rfl<|.nl)<|qN z75<|gte 3 (bit (decide (nth regs.l ins.b.toNat=nth regs.l ins.c.toNat)):Int) ti_3 om9 rfl rfl<|nN<|fun a78 w78 h78=> ?_;clear h74
  try simp only [Exit.then,Exit.inBlock,if_true]
  refine x_end0 (fn:=Try.f50) rfl h78<|⟨rfl,⟨regs.v,regs.l.set ins.a.toNat (bit (decide (nth regs.l ins.b.toNat=nth regs.l ins.c.toNat)))⟩,⟨wait.v,wait.l⟩,⟨words.v,words.l⟩,⟨owner.v,owner.l⟩,⟨prints.v,prints.l⟩,(nth thr.l (mv/8)).pc+1,fell, ?_, ?_⟩
  · refine Eq.trans ?_ (doT_0 (by omega)).symm;show _=execT mode (mv/8) (nextIns (nth code.l (mv/8)).l (nth thr.l (mv/8)).pc) _;rw [←hins];(refine Eq.trans ?_ (execT_7 (by assumption)).symm;rfl)
  ·have hz:=(h78.sh.sel (L' := [_,_,_,_,_,_,_,_]) [1,2,3,4,5,6,7,8] rfl)
   rw [htl] at hz;exact hz
 refine sG (oeqI _ _ rfl<|oM 1 rfl<|.nl)<|gcd rfl (fun hb80 hp80=> ?_) fun hb80 hp80=> ?_
 ·skip
  have q9:=hR.o8 (by omega)
  intro a81 w81 h81
  refine x_tail 9 [] (by kernel_rfl) (by kernel_rfl) h81 fun _ z82=>qQ h81.fr<|qRn (oM 1 rfl<|ofB fl_47_1 rfl<|olB 0 ti_3 rfl rfl<|oM 2 rfl<|ofB fl_47_2 rfl<|olB 0 ti_3 rfl rfl<|.nl)<|qP bd_85 rfl (fun w h=>(finds_c g (mv/8) ins.b (⟨thr.v,tl⟩:Ls ThV) words wait _ _ _ _ _ _ _ _ _ (h.blk 1 rfl) (h.own 2 rfl) (h.own 5 rfl) (h.own 4 rfl) (show mv/8<tl.length by omega) hwv2 (by omega)))<|?_
  have hl83:regs.l.length≤140737488355328:=(h81.sh.own 3 rfl).len
  refine qRn (oxI sl_23 ti_3 (aO 3 rfl) om9 rfl<|.nl)<|qN z82<|gte 3 (findsL wait.l words.l ins.b:Int) ti_3 om9 rfl rfl<|nN<|fun a85 w85 h85=> ?_;clear h81
  try simp only [Exit.then,Exit.inBlock,if_true]
  refine x_end0 (fn:=Try.f50) rfl h85<|⟨rfl,⟨regs.v,regs.l.set ins.a.toNat (findsL wait.l words.l ins.b)⟩,⟨wait.v,wait.l⟩,⟨words.v,words.l⟩,⟨owner.v,owner.l⟩,⟨prints.v,prints.l⟩,(nth thr.l (mv/8)).pc+1,fell, ?_, ?_⟩
  · refine Eq.trans ?_ (doT_0 (by omega)).symm;show _=execT mode (mv/8) (nextIns (nth code.l (mv/8)).l (nth thr.l (mv/8)).pc) _;rw [←hins];(refine Eq.trans ?_ (execT_8 (by assumption)).symm;rfl)
  ·have hz:=(h85.sh.sel (L' := [_,_,_,_,_,_,_,_]) [1,2,3,4,5,6,7,8] rfl)
   rw [htl] at hz;exact hz
 refine sG (oeqI _ _ rfl<|oM 1 rfl<|.nl)<|gcd rfl (fun hb87 hp87=> ?_) fun hb87 hp87=> ?_
 ·skip
  have q9:=hR.o9 (by omega)
  refine gNl (aO 3 rfl) fun hl88=>rT 10 [] (oM 2 rfl<|ofB fl_47_1 rfl<|olB 0 ti_3 rfl rfl<|oM 1 rfl<|ofB fl_47_2 rfl<|olB 0 ti_3 rfl rfl<|oxI sl_23 ti_3 (aO 3 rfl) om9 rfl<|olI ti_3 (aO 3 rfl) om9 rfl<|oV (r_build (cs:= [.bool false, .int .i64 ins.a, .int .i64 (nth regs.l ins.b.toNat)]) rfl rfl (by kernel_rfl)) rfl<|.nl)<|gO [1,2,4,5,6,0,3,7,8] rfl<|gM 5 rfl (fun _ _ h_=>xCl h_ bd_86 rfl (store_c _ _ (mv/8) (⟨false,ins.a,nth regs.l ins.b.toNat⟩:Wt) (⟨thr.v,tl⟩:Ls ThV) wait words owner _ _ _ _ _ _ _ _ (pKl 5 h_ rfl) (by first|(simp only [if_true];omega)|(simp only [Bool.false_eq_true,if_false];omega)) (show mv/8<tl.length by omega) hwv2 (by omega))) rfl<|?_
  rintro _ _ w91 ⟨rfl,wait91,words91,owner91,hst,hs91⟩
  refine gBk hs91 rfl<|gU<|nN<|fun a92 w92 h92=> ?_;clear hs91
  try simp only [Exit.then,Exit.inBlock,if_true]
  refine x_end0 (fn:=Try.f50) rfl h92<|⟨rfl,⟨regs.v,regs.l⟩,⟨wait91.v,wait91.l⟩,⟨words91.v,words91.l⟩,⟨owner91.v,owner91.l⟩,⟨prints.v,prints.l⟩,(nth thr.l (mv/8)).pc+1,fell, ?_, ?_⟩
  · refine Eq.trans ?_ (doT_0 (by omega)).symm;show _=execT mode (mv/8) (nextIns (nth code.l (mv/8)).l (nth thr.l (mv/8)).pc) _;rw [←hins];exact Eq.trans (store_eq hst) (execT_9 (by assumption)).symm
  ·have hz:=(h92.sh.sel (L' := [_,_,_,_,_,_,_,_]) [0,1,6,2,3,4,7,8] rfl)
   rw [thset_wv ht htl] at hz;exact hz
 refine sG (oeqI _ _ rfl<|oM 1 rfl<|.nl)<|gF [0,4,5,7,9,70,201] rfl<|gcd rfl (fun hb94 hp94=> ?_) fun hb94 hp94=> ?_
 ·skip
  have q9:=hR.o10 (by omega)
  refine sK fun _ k95=>gNl (aO 3 rfl) fun hl96=>gRn (oM 2 rfl<|ofB fl_47_2 rfl<|olB 0 ti_3 rfl rfl<|oxI sl_23 ti_3 (aO 3 rfl) om9 rfl<|olI ti_3 (aO 3 rfl) om9 rfl<|.nl)<|gO [1,5,0,2,3,4,6,7,8] rfl<|gM 2 rfl (fun _ _ h_=>xCl h_ bd_87 rfl (word_c _ _ (nth regs.l ins.b.toNat) _ _ _ _ _ _ _ _ _ _ _ (pKl 2 h_ rfl))) rfl<|?_
  rintro _ _ w99 ⟨rfl,hs99⟩
  refine gBk hs99 rfl<|gU<|gRn (oM 1 rfl<|.nl)<|nK k95<|sG (oM 1 rfl<|.nl)<|?_;clear hs99
  refine gcd rfl (fun hb101 hp101=> ?_) fun hb101 hp101=> ?_
  ·skip
   intro a102 w102 h102
   refine x_tail 12 [] (by kernel_rfl) (by kernel_rfl) h102 fun _ z103=>qQ h102.fr<|qRn (oM 1 rfl<|ofB fl_47_1 rfl<|olB 2 ti_3 rfl rfl<|oM 3 rfl<|ofB fl_47_2 rfl<|olB 2 ti_3 rfl rfl<|oxI sl_23 ti_3 (aO 4 rfl) om9 rfl<|olI ti_3 (aO 4 rfl) om9 rfl<|.nl)<|qP bd_85 rfl (fun w h=>(finds_c g (mv/8) (nth regs.l ins.b.toNat) (⟨thr.v,tl⟩:Ls ThV) words wait _ _ _ _ _ _ _ _ _ (h.blk 0 rfl) (h.own 3 rfl) (h.own 1 rfl) (h.own 5 rfl) (show mv/8<tl.length by omega) hwv2 (by omega)))<|qRn (oxI sl_23 ti_3 (aO 4 rfl) om9 rfl<|.nl)<|qN z103<|gte 4 (findsL wait.l words.l (nth regs.l ins.b.toNat):Int) ti_3 om9 rfl rfl<|nN<|fun a105 w105 h105=> ?_;clear h102
   try simp only [Exit.then,Exit.inBlock,if_true]
   refine x_end0 (fn:=Try.f50) rfl h105 ?_
   have hf9:(fell|| !decide (0≤nth regs.l ins.b.toNat∧nth regs.l ins.b.toNat<(words.l.length:Int)))=fell:=or_f hb101
   refine ⟨rfl,⟨regs.v,regs.l.set ins.a.toNat (findsL wait.l words.l (nth regs.l ins.b.toNat))⟩,⟨wait.v,wait.l⟩,⟨words.v,words.l⟩,⟨owner.v,owner.l⟩,⟨prints.v,prints.l⟩,(nth thr.l (mv/8)).pc+1,fell, ?_, ?_⟩
   · refine Eq.trans ?_ (doT_0 (by omega)).symm;show _=execT mode (mv/8) (nextIns (nth code.l (mv/8)).l (nth thr.l (mv/8)).pc) _;rw [←hins];first|(refine Eq.trans ?_ (execT_10t (by assumption) (by assumption)).symm;rfl)|(refine Eq.trans ?_ (execT_10f (by assumption) (by assumption)).symm;rfl)
   ·have hz:=(h105.sh.sel (L' := [_,_,_,_,_,_,_,_]) [0,3,4,5,1,6,7,8] rfl)
    rw [hf9,htl] at hz;exact hz
  refine gS<|fun a106 w106 h106=> ?_
  try simp only [Exit.then,Exit.inBlock,if_true]
  refine x_end0 (fn:=Try.f50) rfl h106 ?_
  have hf9:(fell|| !decide (0≤nth regs.l ins.b.toNat∧nth regs.l ins.b.toNat<(words.l.length:Int)))=true:=or_t hb101
  refine ⟨rfl,⟨regs.v,regs.l⟩,⟨wait.v,wait.l⟩,⟨words.v,words.l⟩,⟨owner.v,owner.l⟩,⟨prints.v,prints.l⟩,(nth thr.l (mv/8)).pc+1,true, ?_, ?_⟩
  · refine Eq.trans ?_ (doT_0 (by omega)).symm;show _=execT mode (mv/8) (nextIns (nth code.l (mv/8)).l (nth thr.l (mv/8)).pc) _;rw [←hins];first|(refine Eq.trans ?_ (execT_10t (by assumption) (by assumption)).symm;rfl)|(refine Eq.trans ?_ (execT_10f (by assumption) (by assumption)).symm;rfl)
  ·have hz:=(h106.sh.sel (L' := [_,_,_,_,_,_,_,_]) [0,3,4,5,1,6,7,8] rfl)
   rw [hf9,htl] at hz;exact hz
 refine sG (oeqI _ _ rfl<|oM 1 rfl<|.nl)<|gcd rfl (fun hb108 hp108=> ?_) fun hb108 hp108=> ?_
 ·skip
  have q9:=hR.o10 (by omega)
  refine sK fun _ k109=>gNl (aO 3 rfl) fun hl110=>gRn (oM 2 rfl<|ofB fl_47_1 rfl<|olB 0 ti_3 rfl rfl<|oxI sl_23 ti_3 (aO 3 rfl) om9 rfl<|olI ti_3 (aO 3 rfl) om9 rfl<|.nl)<|gO [1,5,0,2,3,4,6,7,8] rfl<|gM 2 rfl (fun _ _ h_=>xCl h_ bd_87 rfl (word_c _ _ (nth regs.l ins.a.toNat) _ _ _ _ _ _ _ _ _ _ _ (pKl 2 h_ rfl))) rfl<|?_
  rintro _ _ w113 ⟨rfl,hs113⟩
  refine gBk hs113 rfl<|gU<|gRn (oM 1 rfl<|.nl)<|nK k109<|sG (oM 1 rfl<|.nl)<|?_;clear hs113
  refine gcd rfl (fun hb115 hp115=> ?_) fun hb115 hp115=> ?_
  ·skip
   refine rT 13 [] (oM 3 rfl<|ofB fl_47_1 rfl<|olB 2 ti_3 rfl rfl<|oxI sl_23 ti_3 (aO 4 rfl) om9 rfl<|olI ti_3 (aO 4 rfl) om9 rfl<|oM 1 rfl<|ofB fl_47_2 rfl<|olB 2 ti_3 rfl rfl<|oxI sl_23 ti_3 (aO 4 rfl) om9 rfl<|olI ti_3 (aO 4 rfl) om9 rfl<|oV (r_build (cs:= [.bool false, .int .i64 (nth regs.l ins.a.toNat), .int .i64 (nth regs.l ins.b.toNat)]) rfl rfl (by kernel_rfl)) rfl<|.nl)<|gO [0,3,5,1,6,2,4,7,8] rfl<|gM 5 rfl (fun _ _ h_=>xCl h_ bd_86 rfl (store_c _ _ (mv/8) (⟨false,nth regs.l ins.a.toNat,nth regs.l ins.b.toNat⟩:Wt) (⟨thr.v,tl⟩:Ls ThV) wait words owner _ _ _ _ _ _ _ _ (pKl 5 h_ rfl) (by first|(simp only [if_true];omega)|(simp only [Bool.false_eq_true,if_false];omega)) (show mv/8<tl.length by omega) hwv2 (by omega))) rfl<|?_
   rintro _ _ w118 ⟨rfl,wait118,words118,owner118,hst,hs118⟩
   refine gBk hs118 rfl<|gU<|nN<|fun a119 w119 h119=> ?_;clear hs118
   try simp only [Exit.then,Exit.inBlock,if_true]
   refine x_end0 (fn:=Try.f50) rfl h119 ?_
   have hf9:(fell|| !decide (0≤nth regs.l ins.a.toNat∧nth regs.l ins.a.toNat<(words.l.length:Int)))=fell:=or_f hb115
   refine ⟨rfl,⟨regs.v,regs.l⟩,⟨wait118.v,wait118.l⟩,⟨words118.v,words118.l⟩,⟨owner118.v,owner118.l⟩,⟨prints.v,prints.l⟩,(nth thr.l (mv/8)).pc+1,fell, ?_, ?_⟩
   · refine Eq.trans ?_ (doT_0 (by omega)).symm;show _=execT mode (mv/8) (nextIns (nth code.l (mv/8)).l (nth thr.l (mv/8)).pc) _;rw [←hins];first|exact Eq.trans (store_eq hst) (execT_11t (by assumption) (by assumption)).symm|(refine Eq.trans ?_ (execT_11f (by assumption) (by assumption)).symm;rfl)
   ·have hz:=(h119.sh.sel (L' := [_,_,_,_,_,_,_,_]) [0,1,6,2,3,4,7,8] rfl)
    rw [hf9,thset_wv ht htl] at hz;exact hz
  refine gS<|fun a120 w120 h120=> ?_
  try simp only [Exit.then,Exit.inBlock,if_true]
  refine x_end0 (fn:=Try.f50) rfl h120 ?_
  have hf9:(fell|| !decide (0≤nth regs.l ins.a.toNat∧nth regs.l ins.a.toNat<(words.l.length:Int)))=true:=or_t hb115
  refine ⟨rfl,⟨regs.v,regs.l⟩,⟨wait.v,wait.l⟩,⟨words.v,words.l⟩,⟨owner.v,owner.l⟩,⟨prints.v,prints.l⟩,(nth thr.l (mv/8)).pc+1,true, ?_, ?_⟩
  · refine Eq.trans ?_ (doT_0 (by omega)).symm;show _=execT mode (mv/8) (nextIns (nth code.l (mv/8)).l (nth thr.l (mv/8)).pc) _;rw [←hins];first|exact Eq.trans (store_eq hst) (execT_11t (by assumption) (by assumption)).symm|(refine Eq.trans ?_ (execT_11f (by assumption) (by assumption)).symm;rfl)
  ·have hz:=(h120.sh.sel (L' := [_,_,_,_,_,_,_,_]) [0,3,4,5,1,6,7,8] rfl)
   rw [hf9,htl] at hz;exact hz
 refine sG (oeqI _ _ rfl<|oM 1 rfl<|.nl)<|gcd rfl (fun hb122 hp122=> ?_) fun hb122 hp122=> ?_
 ·skip
  have q9:=hR.o13 (by omega)
  refine gK fun _ k123=>gNl (aO 5 rfl) fun hl124=>gNl (aO 3 rfl) fun hl125=>rQ (oM 1 rfl<|onfl 1 fl_100_3 ti_23 rfl rfl<|ofB fl_47_1 rfl<|olB 0 ti_3 rfl rfl<|oxI sl_23 ti_3 (aO 5 rfl) om9 rfl<|olI ti_3 (aO 5 rfl) om9 rfl<|oM 1 rfl<|ofB fl_47_2 rfl<|olB 0 ti_3 rfl rfl<|oxI sl_23 ti_3 (aO 3 rfl) om9 rfl<|olI ti_3 (aO 3 rfl) om9 rfl<|oeqI _ _ rfl<|.nl)<|hK k123<|gcd rfl (fun hb126 hp126=> ?_) fun hb126 hp126=> ?_
  ·skip
   have q9:=hR.o13 (by omega)
   refine gK fun _ k127=>rT 12 [] (oM 1 rfl<|onfl 1 fl_100_3 ti_23 rfl rfl<|ofB fl_47_1 rfl<|olB 0 ti_3 rfl rfl<|oM 1 rfl<|ofB fl_47_3 rfl<|olB 0 ti_3 rfl rfl<|oxI sl_23 ti_3 (aO 3 rfl) om9 rfl<|olI ti_3 (aO 3 rfl) om9 rfl<|oxI sl_23 ti_3 (aO 5 rfl) om9 rfl<|.nl)<|gte 5 (nth regs.l ins.c.toNat:Int) ti_3 om9 rfl rfl<|nK k127<|gF [7,9] rfl<|gL<|gRn (oM 1 rfl<|ofB fl_47_2 rfl<|olB 0 ti_3 rfl rfl<|oxI sl_23 ti_3 (aO 3 rfl) om9 rfl<|.nl)<|gte 3 (1:Int) ti_3 om9 rfl rfl<|nN<|fun a130 w130 h130=> ?_
   try simp only [Exit.then,Exit.inBlock,if_true]
   refine x_end0 (fn:=Try.f50) rfl h130<|⟨rfl,⟨regs.v,regs.l.set ins.b.toNat 1⟩,⟨wait.v,wait.l⟩,⟨words.v,words.l.set ins.a.toNat (nth regs.l ins.c.toNat)⟩,⟨owner.v,owner.l⟩,⟨prints.v,prints.l⟩,(nth thr.l (mv/8)).pc+1,fell, ?_, ?_⟩
   · refine Eq.trans ?_ (doT_0 (by omega)).symm;show _=execT mode (mv/8) (nextIns (nth code.l (mv/8)).l (nth thr.l (mv/8)).pc) _;rw [←hins];first|(refine Eq.trans ?_ (execT_13t (by assumption) (by assumption)).symm;rfl)|(refine Eq.trans ?_ (execT_13f (by assumption) (by assumption)).symm;rfl)
   ·have hz:=(h130.sh.sel (L' := [_,_,_,_,_,_,_,_]) [1,2,3,4,5,6,7,8] rfl)
    rw [htl] at hz;exact hz
  refine gL<|gRn (oM 1 rfl<|ofB fl_47_2 rfl<|olB 0 ti_3 rfl rfl<|oxI sl_23 ti_3 (aO 3 rfl) om9 rfl<|.nl)<|gte 3 (0:Int) ti_3 om9 rfl rfl<|nN<|fun a132 w132 h132=> ?_
  try simp only [Exit.then,Exit.inBlock,if_true]
  refine x_end0 (fn:=Try.f50) rfl h132<|⟨rfl,⟨regs.v,regs.l.set ins.b.toNat 0⟩,⟨wait.v,wait.l⟩,⟨words.v,words.l⟩,⟨owner.v,owner.l⟩,⟨prints.v,prints.l⟩,(nth thr.l (mv/8)).pc+1,fell, ?_, ?_⟩
  · refine Eq.trans ?_ (doT_0 (by omega)).symm;show _=execT mode (mv/8) (nextIns (nth code.l (mv/8)).l (nth thr.l (mv/8)).pc) _;rw [←hins];first|(refine Eq.trans ?_ (execT_13t (by assumption) (by assumption)).symm;rfl)|(refine Eq.trans ?_ (execT_13f (by assumption) (by assumption)).symm;rfl)
  ·have hz:=(h132.sh.sel (L' := [_,_,_,_,_,_,_,_]) [1,2,3,4,5,6,7,8] rfl)
   rw [htl] at hz;exact hz
 refine sG (oeqI _ _ rfl<|oM 1 rfl<|.nl)<|gcd rfl (fun hb134 hp134=> ?_) fun hb134 hp134=> ?_
 ·skip
  refine gL<|gRn (oM 1 rfl<|ofB fl_47_1 rfl<|olB 0 ti_3 rfl rfl<|onl rfl<|ofE fl_136_0 rfl<|.nl)<|gte 2 ({ nth tl (mv/8) with pc:=ins.a } :ThV) ti_3 om9 rfl rfl<|nN<|fun a136 w136 h136=> ?_
  try simp only [Exit.then,Exit.inBlock,if_true]
  refine x_end0 (fn:=Try.f50) rfl h136<|⟨rfl,⟨regs.v,regs.l⟩,⟨wait.v,wait.l⟩,⟨words.v,words.l⟩,⟨owner.v,owner.l⟩,⟨prints.v,prints.l⟩,ins.a,fell, ?_, ?_⟩
  · refine Eq.trans ?_ (doT_0 (by omega)).symm;show _=execT mode (mv/8) (nextIns (nth code.l (mv/8)).l (nth thr.l (mv/8)).pc) _;rw [←hins];(refine Eq.trans ?_ (execT_14 (by assumption)).symm;rfl)
  ·have hz:=(h136.sh.sel (L' := [_,_,_,_,_,_,_,_]) [1,2,3,4,5,6,7,8] rfl)
   rw [thset_pc ht htl] at hz;exact hz
 refine sG (oeqI _ _ rfl<|oM 1 rfl<|.nl)<|gcd rfl (fun hb138 hp138=> ?_) fun hb138 hp138=> ?_
 ·skip
  have q9:=hR.o15 (by omega)
  refine sK fun _ k139=>gNl (aO 3 rfl) fun hl140=>gRn (oM 1 rfl<|ofB fl_47_1 rfl<|olB 0 ti_3 rfl rfl<|oxI sl_23 ti_3 (aO 3 rfl) om9 rfl<|olI ti_3 (aO 3 rfl) om9 rfl<|oeqI _ _ rfl<|.nl)<|nK k139<|gcd rfl (fun hb141 hp141=> ?_) fun hb141 hp141=> ?_
  ·skip
   refine gL<|gRn (oM 1 rfl<|ofB fl_47_2 rfl<|olB 0 ti_3 rfl rfl<|onl rfl<|ofE fl_136_0 rfl<|.nl)<|gte 2 ({ nth tl (mv/8) with pc:=ins.b } :ThV) ti_3 om9 rfl rfl<|nN<|fun a143 w143 h143=> ?_
   try simp only [Exit.then,Exit.inBlock,if_true]
   refine x_end0 (fn:=Try.f50) rfl h143<|⟨rfl,⟨regs.v,regs.l⟩,⟨wait.v,wait.l⟩,⟨words.v,words.l⟩,⟨owner.v,owner.l⟩,⟨prints.v,prints.l⟩,ins.b,fell, ?_, ?_⟩
   · refine Eq.trans ?_ (doT_0 (by omega)).symm;show _=execT mode (mv/8) (nextIns (nth code.l (mv/8)).l (nth thr.l (mv/8)).pc) _;rw [←hins];first|(refine Eq.trans ?_ (execT_15t (by assumption) (by assumption)).symm;rfl)|(refine Eq.trans ?_ (execT_15f (by assumption) (by assumption)).symm;rfl)
   ·have hz:=(h143.sh.sel (L' := [_,_,_,_,_,_,_,_]) [1,2,3,4,5,6,7,8] rfl)
    rw [thset_pc ht htl] at hz;exact hz
  refine gS<|fun a144 w144 h144=> ?_
  try simp only [Exit.then,Exit.inBlock,if_true]
  refine x_end0 (fn:=Try.f50) rfl h144<|⟨rfl,⟨regs.v,regs.l⟩,⟨wait.v,wait.l⟩,⟨words.v,words.l⟩,⟨owner.v,owner.l⟩,⟨prints.v,prints.l⟩,(nth thr.l (mv/8)).pc+1,fell, ?_, ?_⟩
  · refine Eq.trans ?_ (doT_0 (by omega)).symm;show _=execT mode (mv/8) (nextIns (nth code.l (mv/8)).l (nth thr.l (mv/8)).pc) _;rw [←hins];first|(refine Eq.trans ?_ (execT_15t (by assumption) (by assumption)).symm;rfl)|(refine Eq.trans ?_ (execT_15f (by assumption) (by assumption)).symm;rfl)
  ·have hz:=(h144.sh.sel (L' := [_,_,_,_,_,_,_,_]) [1,2,3,4,5,6,7,8] rfl)
   rw [htl] at hz;exact hz
 refine sG (oeqI _ _ rfl<|oM 1 rfl<|.nl)<|gcd rfl (fun hb146 hp146=> ?_) fun hb146 hp146=> ?_
 ·skip
  have q9:=hR.o15 (by omega)
  refine gNl (aO 3 rfl) fun hl147=>rC [11,12,15] rfl<|pR [0,1,2,3,4,5,6,7,8,9,10] rfl (oM 2 rfl<|onfl 1 fl_100_5 ti_23 rfl rfl<|oM 2 rfl<|ofB fl_47_1 rfl<|olB 0 ti_3 rfl rfl<|oxI sl_23 ti_3 (aO 3 rfl) om9 rfl<|olI ti_3 (aO 3 rfl) om9 rfl<|.nl) rfl<|pX (fun _ _ h_=>x_lit (n:=2) (cs:= [.int .i64 ((mv/8:Nat):Int), .int .i64 (nth regs.l ins.a.toNat)]) ([((mv/8:Nat):Int),nth regs.l ins.a.toNat]:List Int) h_ sl_23 ti_3 rfl rfl rfl (by decide) rfl (by kernel_rfl) rfl (fun q hq w h=>Flat.inner _ _) (fun q hq b hb=>(Flat.on _ _ hb).elim) rfl rfl) rfl fun v148=>pR [0,1,2,3,4] rfl (oM 2 rfl<|onfl 2 fl_100_5 ti_23 rfl rfl<|.nl) rfl<|pX (fun _ _ h_=>x_app (r:=8) (rm:=0) (s:=prints) (m:=(⟨v148, [((mv/8:Nat):Int),nth regs.l ins.a.toNat]⟩:Ls Int)) h_ sl_23 ti_3 rfl rfl rfl rfl rfl rfl rfl (fun w h=>(h.own 0 rfl)) (fun b hb=>own_on (h_.sh.ok _ (List.mem_of_getElem? (i:=0) rfl)) hb) (fun q hq b hb=>⟨q,hq,hb⟩) rfl rfl rfl inferInstance (show (prints.l.length+([((mv/8:Nat):Int),nth regs.l ins.a.toNat]).length)*8≤140737488355328∧prints.l.length+([((mv/8:Nat):Int),nth regs.l ins.a.toNat]).length≤140737488355328 from om9) rfl rfl) rfl fun v149=>pR [0,13,14] rfl (oM 1 rfl<|onf fl_100_5 rfl<|.nl) rfl<|pS (fun _ _ h_=>x_stb (i:=2) (vs:= [v149]) (cs' := [code.v,pw, .int .i64 locks, .int .i64 nregs, .int .i64 mode,thr.v,words.v,owner.v,v149, .bool fell]) h_ ti_23 rfl rfl rfl rfl rfl (cells_oneL ((h_.sh.own 8 rfl)).one) rfl (allOne_cons ((h_.sh.own 8 rfl)).one allOne_nil) (Nat.le_of_ble_eq_true rfl) rfl) rfl<|pE [] rfl (.nl) rfl<|fun a151 w151 h151=> ?_
  try simp only [Exit.then,Exit.inBlock,if_true]
  refine x_end0 (fn:=Try.f50) rfl h151<|⟨rfl,⟨regs.v,regs.l⟩,⟨wait.v,wait.l⟩,⟨words.v,words.l⟩,⟨owner.v,owner.l⟩,⟨v149,prints.l++([((mv/8:Nat):Int),nth regs.l ins.a.toNat])⟩,(nth thr.l (mv/8)).pc+1,fell, ?_, ?_⟩
  · refine Eq.trans ?_ (doT_0 (by omega)).symm;show _=execT mode (mv/8) (nextIns (nth code.l (mv/8)).l (nth thr.l (mv/8)).pc) _;rw [←hins];(refine Eq.trans ?_ (execT_16 (by assumption)).symm;rfl)
  ·have hz:=(h151.sh.sel (L' := [_,_,_,_,_,_,_,_]) [2,3,4,5,6,7,8,9] rfl)
   rw [htl] at hz;exact hz
 refine sG (oeqI _ _ rfl<|oM 1 rfl<|.nl)<|gcd rfl (fun hb153 hp153=> ?_) fun hb153 hp153=> ?_
 ·skip
  have q9:=hR.o17 (by omega)
  refine gNl (aO 6 rfl) fun hl154=>rT 8 [] (oM 1 rfl<|onfl 1 fl_100_4 ti_23 rfl rfl<|ofB fl_47_1 rfl<|olB 0 ti_3 rfl rfl<|oM 1 rfl<|oxI sl_23 ti_3 (aO 6 rfl) om9 rfl<|.nl)<|gte 6 (((mv/8:Nat):Int):Int) ti_3 om9 rfl rfl<|nN<|fun a156 w156 h156=> ?_
  try simp only [Exit.then,Exit.inBlock,if_true]
  refine x_end0 (fn:=Try.f50) rfl h156<|⟨rfl,⟨regs.v,regs.l⟩,⟨wait.v,wait.l⟩,⟨words.v,words.l⟩,⟨owner.v,owner.l.set ins.a.toNat ((mv/8:Nat):Int)⟩,⟨prints.v,prints.l⟩,(nth thr.l (mv/8)).pc+1,fell, ?_, ?_⟩
  · refine Eq.trans ?_ (doT_0 (by omega)).symm;show _=execT mode (mv/8) (nextIns (nth code.l (mv/8)).l (nth thr.l (mv/8)).pc) _;rw [←hins];(refine Eq.trans ?_ (execT_17 (by assumption)).symm;rfl)
  ·have hz:=(h156.sh.sel (L' := [_,_,_,_,_,_,_,_]) [1,2,3,4,5,6,7,8] rfl)
   rw [htl] at hz;exact hz
 refine sG (oeqI _ _ rfl<|oM 1 rfl<|.nl)<|gcd rfl (fun hb158 hp158=> ?_) fun hb158 hp158=> ?_
 ·skip
  have q9:=hR.o17 (by omega)
  refine gK fun _ k159=>gK fun _ k160=>gNl (aO 6 rfl) fun hl161=>rQ (oM 1 rfl<|onfl 1 fl_100_4 ti_23 rfl rfl<|ofB fl_47_1 rfl<|olB 0 ti_3 rfl rfl<|oxI sl_23 ti_3 (aO 6 rfl) om9 rfl<|olI ti_3 (aO 6 rfl) om9 rfl<|oM 1 rfl<|oneI _ _ rfl<|.nl)<|hK k160<|gF [0,4,5,7,341] rfl<|gcd rfl (fun hb162 hp162=> ?_) fun hb162 hp162=> ?_
  ·skip
   have q9:=hR.o17 (by omega)
   refine sK fun _ k163=>gRn (oM 1 rfl<|onf fl_100_6 rfl<|.nl)<|gst (v:= .bool true) 1 ti_4 rfl rfl rfl<|nK k163<|gR<|uT<|uB<|fun a165 w165 h165=>x_ret0 (fn:=Try.f50) rfl h165<|⟨rfl,⟨regs.v,regs.l⟩,⟨wait.v,wait.l⟩,⟨words.v,words.l⟩,⟨owner.v,owner.l⟩,⟨prints.v,prints.l⟩,(nth thr.l (mv/8)).pc+1,true, ?_, ?_⟩
   · refine Eq.trans ?_ (doT_0 (by omega)).symm;show _=execT mode (mv/8) (nextIns (nth code.l (mv/8)).l (nth thr.l (mv/8)).pc) _;rw [←hins];first|(refine Eq.trans ?_ (execT_18a (by assumption) (by assumption)).symm;rfl)|exact Eq.trans (store_eq hst) (execT_18c (by assumption) (by assumption) (fun q (hq:q<wait.l.length)=>hall q (by omega))).symm|(refine Eq.trans ?_ (execT_18b (by assumption) (by assumption) j (by assumption) (by assumption) (by assumption)).symm;rfl)
   ·have hz:=(h165.sh.sel (L' := [_,_,_,_,_,_,_,_]) [1,2,3,4,5,6,7,8] rfl)
    rw [htl] at hz;exact hz
  refine gS<|hK k159<|gK fun _ k166=>sG (oM 1 rfl<|.nl)<|gB<|fun a169 w169 h169=>x_loop (fun m a w=>∃(j:Nat),(j≤wait.l.length)∧(∀q,q<j→¬((nth wait.l q).lock=true∧(nth wait.l q).wh=ins.a))∧St 384 K W a w [(0, .pointer (some ⟨g,0,none⟩)),(4, .int .i64 ((mv/8:Nat):Int)),(5, .pointer (some (padr thr.v 3 (mv/8) 0))),(7, .pointer (some ⟨b31,0,none⟩)),(12, .int .i64 ((j:Nat):Int))] [.blk b31 47 [.int .i64 ins.op, .int .i64 ins.a, .int .i64 ins.b, .int .i64 ins.c], .blk g 100 [code.v,pw, .int .i64 locks, .int .i64 nregs, .int .i64 mode,thr.v,words.v,owner.v,prints.v, .bool fell], .own 136 (⟨thr.v,tl⟩:Ls ThV), .own 3 regs, .own 144 wait, .own 3 words, .own 3 owner, .own 3 prints, .at_ code]∧m=wait.l.length-j) ⟨_,0,(by omega),(fun q hq=>absurd hq (by omega)),h169.nf ⟨rfl,rfl,rfl,rfl,rfl,trivial⟩,rfl⟩ ?_
  clear h169
  rintro m168 a168 w168 ⟨j,hj,hall,h168,hm168⟩
  refine gG h168<|gK fun _ k170=>sK fun _ k171=>gNl (aO 4 rfl) fun hl172=>gRn (oM 2 rfl<|onl rfl<|ofE fl_136_2 rfl<|oV (Rn.same (r_lde (s:=(⟨thr.v,tl⟩:Ls ThV)) (i:=mv/8) (v:=((nth tl (mv/8)).wv)) ti_134 rfl rfl rfl (fun w h=>(h.own 2 rfl)) (show mv/8<tl.length from om9) (Nat.le_of_ble_eq_true rfl) rfl) hwv2) rfl<|oln sl_134 (aO 4 rfl) rfl<|oltN _ _ rfl<|.nl)<|nK k171<|?_;clear h168
  refine gcd rfl (fun hb173 hp173=> ?_) fun hb173 hp173=> ?_
  ·skip
   refine gS<|hK k170<|gK fun _ k174=>gB<|gK fun _ k175=>fun a176 w176 h176=>x_quiet (by kernel_rfl) (by kernel_rfl) h176 fun _ z177=>qQ h176.fr<|qRn (oM 1 rfl<|onl rfl<|ofE fl_136_2 rfl<|oV (Rn.same (r_lde (s:=(⟨thr.v,tl⟩:Ls ThV)) (i:=mv/8) (v:=((nth tl (mv/8)).wv)) ti_134 rfl rfl rfl (fun w h=>(h.own 2 rfl)) (show mv/8<tl.length from om9) (Nat.le_of_ble_eq_true rfl) rfl) hwv2) rfl<|oM 1 rfl<|oxN sl_134 ti_144 (aO 4 rfl) _ om9 rfl<|ofE fl_144_0 rfl<|olE (.bool ((nth wait.l j).lock)) ti_4 (aO 4 rfl) om9 rfl<|oM 1 rfl<|.nl)<|?_
   rcases Bool.eq_false_or_eq_true ((nth wait.l j).lock) with hb178|hb178
   ·skip
    refine qRn (oG hb178 (r_move rfl rfl) rfl<|oG hb178 (r_nil rfl rfl) rfl<|oG hb178 (r_fieldE (r:=2) fl_136_2 rfl rfl rfl) rfl<|oG hb178 (Rn.same (r_lde (s:=(⟨thr.v,tl⟩:Ls ThV)) (i:=mv/8) (v:=((nth tl (mv/8)).wv)) ti_134 rfl rfl rfl (fun w h=>(h.own 2 rfl)) (show mv/8<tl.length from om9) (Nat.le_of_ble_eq_true rfl) rfl) hwv2) rfl<|oG hb178 (r_move rfl rfl) rfl<|oG hb178 (r_ixN (s:=wait) (q:=j) sl_134 ti_144 rfl rfl rfl (fun w h=>(h.own 4 rfl)) (show j<wait.l.length from om9)) rfl<|oG hb178 (r_fieldE (r:=1) fl_144_1 rfl rfl rfl) rfl<|oG hb178 (r_lde (s:=wait) (i:=j) (v:= .int .i64 ((nth wait.l j).wh)) ti_3 rfl rfl rfl (fun w h=>(h.own 4 rfl)) (show j<wait.l.length from om9) (Nat.le_of_ble_eq_true rfl) rfl) rfl<|oG hb178 (r_fieldB (r:=1) fl_47_1 rfl rfl rfl) rfl<|oG hb178 (r_ldb (i:=0) ti_3 rfl rfl rfl rfl) rfl<|oG hb178 (r_eqlI (p:=(nth wait.l j).wh) (q:=ins.a) rfl rfl rfl) rfl<|opT hb178 rfl<|.nl)<|qN z177<|?_;clear h176
    refine hK k175<|gF [0,4,5,7,12,374] rfl<|gcd rfl (fun hb190 hp190=> ?_) fun hb190 hp190=> ?_
    ·skip
     refine sK fun _ k191=>gRn (oM 1 rfl<|onf fl_100_6 rfl<|.nl)<|gst (v:= .bool true) 1 ti_4 rfl rfl rfl<|nK k191<|gR<|uB<|uT<|uT<|uB<|uT<|uB<|fun a193 w193 h193=>x_ret0 (fn:=Try.f50) rfl h193<|⟨rfl,⟨regs.v,regs.l⟩,⟨wait.v,wait.l⟩,⟨words.v,words.l⟩,⟨owner.v,owner.l⟩,⟨prints.v,prints.l⟩,(nth thr.l (mv/8)).pc+1,true, ?_, ?_⟩
     · refine Eq.trans ?_ (doT_0 (by omega)).symm;show _=execT mode (mv/8) (nextIns (nth code.l (mv/8)).l (nth thr.l (mv/8)).pc) _;rw [←hins];first|(refine Eq.trans ?_ (execT_18a (by assumption) (by assumption)).symm;rfl)|exact Eq.trans (store_eq hst) (execT_18c (by assumption) (by assumption) (fun q (hq:q<wait.l.length)=>hall q (by omega))).symm|(refine Eq.trans ?_ (execT_18b (by assumption) (by assumption) j (by assumption) (by assumption) (by assumption)).symm;rfl)
     ·have hz:=(h193.sh.sel (L' := [_,_,_,_,_,_,_,_]) [1,2,3,4,5,6,7,8] rfl)
      rw [htl] at hz;exact hz
    refine gS<|hK k174<|gL<|gRn (oM 1 rfl<|oadN _ 1 om9 rfl<|oM 1 rfl<|.nl)<|nN<|fun a194 w194 h194=>x_again ⟨_, ?_,j+1, ?_, ?_,h194.nf ⟨rfl,rfl,rfl,rfl,rfl,trivial⟩,rfl⟩
    · rw [hm168];first|omega|(simp only [lens9];omega)
    · omega
    · intro q hq;rcases Nat.lt_or_ge q j with h9|h9;(exact hall q h9);obtain rfl:q=j:=(by omega);first|(rintro ⟨h8,_⟩;exact absurd (h8.symm.trans (show _=false by assumption)) (by decide))|(rintro ⟨_,h8⟩;omega)
   refine qRn (oKs 11 hb178 rfl rfl<|opF hb178 rfl<|.nl)<|qN z177<|?_;clear h176
   refine hK k175<|gF [0,4,5,7,12,374] rfl<|gcF rfl rfl<|gS<|hK k174<|gL<|gRn (oM 1 rfl<|oadN _ 1 om9 rfl<|oM 1 rfl<|.nl)<|nN<|fun a196 w196 h196=>x_again ⟨_, ?_,j+1, ?_, ?_,h196.nf ⟨rfl,rfl,rfl,rfl,rfl,trivial⟩,rfl⟩
   · rw [hm168];first|omega|(simp only [lens9];omega)
   · omega
   · intro q hq;rcases Nat.lt_or_ge q j with h9|h9;(exact hall q h9);obtain rfl:q=j:=(by omega);first|(rintro ⟨h8,_⟩;exact absurd (h8.symm.trans (show _=false by assumption)) (by decide))|(rintro ⟨_,h8⟩;omega)
  refine gX<|hK k166<|gL<|gRn (oM 2 rfl<|ofB fl_47_1 rfl<|olB 0 ti_3 rfl rfl<|oV (r_build (cs:= [.bool true, .int .i64 ins.a, .int .i64 0]) rfl rfl (by kernel_rfl)) rfl<|.nl)<|gO [1,2,4,5,6,0,3,7,8] rfl<|gM 5 rfl (fun _ _ h_=>xCl h_ bd_86 rfl (store_c _ _ (mv/8) (⟨true,ins.a,0⟩:Wt) (⟨thr.v,tl⟩:Ls ThV) wait words owner _ _ _ _ _ _ _ _ (pKl 5 h_ rfl) (by first|(simp only [if_true];omega)|(simp only [Bool.false_eq_true,if_false];omega)) (show mv/8<tl.length by omega) hwv2 (by omega))) rfl<|?_
  rintro _ _ w199 ⟨rfl,wait199,words199,owner199,hst,hs199⟩
  refine gBk hs199 rfl<|gU<|nN<|fun a200 w200 h200=> ?_;clear hs199
  try simp only [Exit.then,Exit.inBlock,if_true]
  refine x_end0 (fn:=Try.f50) rfl h200<|⟨rfl,⟨regs.v,regs.l⟩,⟨wait199.v,wait199.l⟩,⟨words199.v,words199.l⟩,⟨owner199.v,owner199.l⟩,⟨prints.v,prints.l⟩,(nth thr.l (mv/8)).pc+1,fell, ?_, ?_⟩
  · refine Eq.trans ?_ (doT_0 (by omega)).symm;show _=execT mode (mv/8) (nextIns (nth code.l (mv/8)).l (nth thr.l (mv/8)).pc) _;rw [←hins];first|(refine Eq.trans ?_ (execT_18a (by assumption) (by assumption)).symm;rfl)|exact Eq.trans (store_eq hst) (execT_18c (by assumption) (by assumption) (fun q (hq:q<wait.l.length)=>hall q (by omega))).symm|(refine Eq.trans ?_ (execT_18b (by assumption) (by assumption) j (by assumption) (by assumption) (by assumption)).symm;rfl)
  ·have hz:=(h200.sh.sel (L' := [_,_,_,_,_,_,_,_]) [0,1,6,2,3,4,7,8] rfl)
   rw [thset_wv ht htl] at hz;exact hz
 refine gS<|fun a201 w201 h201=> ?_
 try simp only [Exit.then,Exit.inBlock,if_true]
 refine x_end0 (fn:=Try.f50) rfl h201<|⟨rfl,⟨regs.v,regs.l⟩,⟨wait.v,wait.l⟩,⟨words.v,words.l⟩,⟨owner.v,owner.l⟩,⟨prints.v,prints.l⟩,(nth thr.l (mv/8)).pc+1,fell, ?_, ?_⟩
 · refine Eq.trans ?_ (doT_0 (by omega)).symm;show _=execT mode (mv/8) (nextIns (nth code.l (mv/8)).l (nth thr.l (mv/8)).pc) _;rw [←hins];(refine Eq.trans ?_ (execT_no (by omega)).symm;rfl)
 ·have hz:=(h201.sh.sel (L' := [_,_,_,_,_,_,_,_]) [1,2,3,4,5,6,7,8] rfl)
  rw [htl] at hz;exact hz
def wtN (x:Wt):List Int:= [if x.lock=true then 1 else 0,x.wh,x.what]
theorem wtN_t {x:Wt}(h:x.lock=true):wtN x= [1,x.wh,x.what]:=by simp [wtN,h]
theorem wtN_f {x:Wt}(h:x.lock=false):wtN x= [0,x.wh,x.what]:=by simp [wtN,h]
def thN (x:Th):List Int:= [x.pc,(x.wait.length:Int)]++x.regs++x.wait.flatMap wtN
def numbersL (ths:List Th)(words owner prints:List Int):List Int:=ths.flatMap thN++words++owner++prints
theorem flatMap_succ {α β:Type}[Inhabited α](f:α→List β)(l:List α)(i:Nat)(h:i<l.length):(l.take (i+1)).flatMap f=(l.take i).flatMap f++f (nth l i):=by
 rw [take_succ_nth _ _ h];simp
theorem numbers_c (g:Nat)(thr:Ls ThL)(words owner prints:Ls Int)(cv pw:Value)(locks nregs mode:Int)(fell:Bool)(W:World)(hB:Blk W g 100 #[cv,pw, .int .i64 locks, .int .i64 nregs, .int .i64 mode,thr.v,words.v,owner.v,prints.v, .bool fell])(h_thr:thr.At W)(h_words:words.At W)(h_owner:owner.At W)(h_prints:prints.At W)(hcl:thr.l.length≤4)(hrg:∀i,i<thr.l.length→(nth thr.l i).regs.l.length≤100000)(hwl:∀i,i<thr.l.length→(nth thr.l i).wait.l.length≤3)(hwn:words.l.length≤100000∧owner.l.length≤100000∧prints.l.length≤100000000):
    Rets Try.prog 78 [.pointer (some ⟨g,0,none⟩)] W (fun v w' =>∃s:Ls Int,v=s.v∧s.l=numbersL (thr.l.map ThL.th) words.l owner.l prints.l∧Sh0 W w' [.own 3 s]):=by
 refine gen Try.func78 Try.ntmps78 (Sh0.ext (by intro A hA;simp at hA;rcases hA with rfl|rfl|rfl|rfl|rfl;exact hB;exact h_thr;exact h_words;exact h_owner;exact h_prints) (by intro A hA b hb;simp at hA;rcases hA with rfl|rfl|rfl|rfl|rfl<;>exact hb):Sh (fun _=>False) W W [.rblk g 100 [cv,pw, .int .i64 locks, .int .i64 nregs, .int .i64 mode,thr.v,words.v,owner.v,prints.v, .bool fell], .at_ thr, .at_ words, .at_ owner, .at_ prints]) rfl fun a10 h10=>gG h10<|sG (oM 1 rfl<|.nl)<|sG (oM 1 rfl<|.nl)<|gK fun _ k13=>sG (oM 1 rfl<|.nl)<|gB<|fun a17 w17 h17=> ?_;clear h10
 have h16:=h17.nil (α:=Int) 3
 clear h17
 refine x_loop (fun m a w=>∃(i:Nat) (ml:List Int) (vm:Value),(i≤thr.l.length)∧(ml=((thr.l.take i).map ThL.th).flatMap thN)∧(ml.length≤200000*i)∧St 83 (fun _=>False) W a w [(0, .pointer (some ⟨g,0,none⟩)),(3,vm),(4, .int .i64 ((i:Nat):Int))] [.rblk g 100 [cv,pw, .int .i64 locks, .int .i64 nregs, .int .i64 mode,thr.v,words.v,owner.v,prints.v, .bool fell], .at_ thr, .at_ words, .at_ owner, .at_ prints, .own 3 (⟨vm,ml⟩:Ls Int)]∧m=thr.l.length-i) ⟨_,0, [],(.slice none 0 0),(by omega),(by simp),(by simp),h16.nrm ⟨rfl,rfl,rfl,trivial⟩ [1,2,3,4,5,0] rfl,rfl⟩ ?_
 clear h16
 rintro m15 a15 w15 ⟨i,ml,vm,hi,hml,hmn,h15,hm15⟩
 refine gG h15<|gK fun _ k18=>sK fun _ k19=>gNl (aA 1 rfl) fun hl20=>gRn (oM 2 rfl<|onf fl_100_2 rfl<|olR 0 ti_98 rfl rfl<|oln sl_98 (aA 1 rfl) rfl<|oltN _ _ rfl<|.nl)<|nK k19<|?_;clear h15
 refine gcd rfl (fun hb21 hp21=> ?_) fun hb21 hp21=> ?_
 ·skip
  refine gS<|hK k18<|?_
  have hrgi:=hrg i (by omega)
  have hwli:=hwl i (by omega)
  refine gK fun _ k22=>gB<|sK fun _ k23=>gRn (oM 1 rfl<|onf fl_100_2 rfl<|olR 0 ti_98 rfl rfl<|oM 1 rfl<|oxN sl_98 ti_136 (aA 1 rfl) _ om9 rfl<|olw2 [.int .i64 ((nth thr.l i).pc),((nth thr.l i).regs).v,((nth thr.l i).wait).v] ti_136 (aA 1 rfl) om9 rfl<|.nl)<|gal ti_136 rfl fun b24=>gE (fun _ _ h_=>x_stb (i:=0) (vs:= [.int .i64 ((nth thr.l i).pc),((nth thr.l i).regs).v,((nth thr.l i).wait).v]) (cs' := [.int .i64 ((nth thr.l i).pc),((nth thr.l i).regs).v,((nth thr.l i).wait).v]) h_ ti_136 rfl rfl rfl rfl rfl rfl rfl (allOne_cons rfl (allOne_cons (((h_.sh.at 2 rfl).inner i (show i<thr.l.length from om9)).1).one (allOne_cons (((h_.sh.at 2 rfl).inner i (show i<thr.l.length from om9)).2).one allOne_nil))) (Nat.le_of_ble_eq_true rfl) rfl) rfl<|nK k23<|sK fun _ k26=>gNl (fun w h=>((h.at 2 rfl).inner i (show i<thr.l.length from (by omega))).2) fun (hl27:(((nth thr.l i).wait).l).length≤140737488355328)=>gRn (oM 1 rfl<|ofB fl_136_0 rfl<|olB 0 ti_3 rfl rfl<|ofB fl_136_2 rfl<|olB 0 ti_134 rfl rfl<|oln (n:=(((nth thr.l i).wait).l).length) sl_134 (fun w h=>((h.at 2 rfl).inner i (show i<thr.l.length from (by omega))).2) rfl<|.nl)<|gE1 (fun _ _ h_=>x_lit (n:=2) (cs:= [.int .i64 ((nth thr.l i).pc), .int .i64 (((((nth thr.l i).wait).l).length:Nat):Int)]) ([(nth thr.l i).pc,(((((nth thr.l i).wait).l).length:Nat):Int)]:List Int) h_ sl_23 ti_3 rfl rfl rfl (by decide) rfl (by kernel_rfl) rfl (fun q hq w h=>Flat.inner _ _) (fun q hq b hb=>(Flat.on _ _ hb).elim) rfl rfl) rfl fun v28=>gE1 (fun _ _ h_=>x_app (r:=7) (rm:=0) (s:=(⟨vm,ml⟩:Ls Int)) (m:=(⟨v28, [(nth thr.l i).pc,(((((nth thr.l i).wait).l).length:Nat):Int)]⟩:Ls Int)) h_ sl_23 ti_3 rfl rfl rfl rfl rfl rfl rfl (fun w h=>(h.own 0 rfl)) (fun b hb=>own_on (h_.sh.ok _ (List.mem_of_getElem? (i:=0) rfl)) hb) (fun q hq b hb=>⟨q,hq,hb⟩) rfl rfl rfl inferInstance (show (ml.length+([(nth thr.l i).pc,(((((nth thr.l i).wait).l).length:Nat):Int)]).length)*8≤140737488355328∧ml.length+([(nth thr.l i).pc,(((((nth thr.l i).wait).l).length:Nat):Int)]).length≤140737488355328 from om9) rfl rfl) rfl fun v29=>gRn (oM 1 rfl<|.nl)<|nK k26<|sK fun _ k30=>gRn (oM 1 rfl<|ofB fl_136_1 rfl<|olB 1 ti_23 rfl rfl<|.nl)<|gE1 (fun _ _ h_=>x_app (r:=7) (rm:=3) (s:=(⟨v29,ml++([(nth thr.l i).pc,(((((nth thr.l i).wait).l).length:Nat):Int)])⟩:Ls Int)) (m:=(nth thr.l i).regs) h_ sl_23 ti_3 rfl rfl rfl rfl rfl rfl rfl (fun w h=>((h.at 3 rfl).inner i (show i<thr.l.length from om9)).1) (fun b hb=> .inr (.inr ⟨i,(show i<thr.l.length from om9), .inl hb⟩)) (fun q hq b hb=>(Flat.on _ _ hb).elim) rfl rfl rfl inferInstance (show ((ml++([(nth thr.l i).pc,(((((nth thr.l i).wait).l).length:Nat):Int)])).length+(((nth thr.l i).regs).l).length)*8≤140737488355328∧(ml++([(nth thr.l i).pc,(((((nth thr.l i).wait).l).length:Nat):Int)])).length+(((nth thr.l i).regs).l).length≤140737488355328 from om9) rfl rfl) rfl fun v31=>gRn (oM 1 rfl<|.nl)<|nK k30<|gF [0,3,4,5] rfl<|sG (oM 1 rfl<|.nl)<|gB<|fun a34 w34 h34=>x_loop (fun m a w=>∃(k:Nat) (ml2:List Int) (vm2:Value),(k≤(nth thr.l i).wait.l.length)∧(ml2=ml++([(nth thr.l i).pc,((nth thr.l i).wait.l.length:Int)]++(nth thr.l i).regs.l++((nth thr.l i).wait.l.take k).flatMap wtN))∧(ml2.length≤ml.length+2+(nth thr.l i).regs.l.length+3*k)∧St 83 (fun _=>False) W a w [(0, .pointer (some ⟨g,0,none⟩)),(3,vm2),(4, .int .i64 ((i:Nat):Int)),(5, .pointer (some ⟨b24,0,none⟩)),(6, .int .i64 ((k:Nat):Int))] [.own 3 (⟨v28, [(nth thr.l i).pc,(((((nth thr.l i).wait).l).length:Nat):Int)]⟩:Ls Int), .blk b24 136 [.int .i64 ((nth thr.l i).pc),((nth thr.l i).regs).v,((nth thr.l i).wait).v], .rblk g 100 [cv,pw, .int .i64 locks, .int .i64 nregs, .int .i64 mode,thr.v,words.v,owner.v,prints.v, .bool fell], .at_ thr, .at_ words, .at_ owner, .at_ prints, .own 3 (⟨vm2,ml2⟩:Ls Int)]∧m=(nth thr.l i).wait.l.length-k) ⟨_,0,(ml++([(nth thr.l i).pc,(((((nth thr.l i).wait).l).length:Nat):Int)]))++(((nth thr.l i).regs).l),v31,(by omega),(by simp),(by simp;omega),h34.nf ⟨rfl,rfl,rfl,rfl,rfl,trivial⟩,rfl⟩ ?_
  clear h34
  rintro m33 a33 w33 ⟨k,ml2,vm2,hk,hml2,hmn2,h33,hm33⟩
  refine gG h33<|gK fun _ k35=>sG (oM 1 rfl<|ofB fl_136_2 rfl<|olB 1 ti_134 rfl rfl<|oln (n:=(((nth thr.l i).wait).l).length) sl_134 (fun w h=>((h.at 3 rfl).inner i (show i<thr.l.length from (by omega))).2) rfl<|oltN _ _ rfl<|.nl)<|?_;clear h33
  refine gcd rfl (fun hb37 hp37=> ?_) fun hb37 hp37=> ?_
  ·skip
   refine gS<|hK k35<|gK fun _ k38=>gB<|sG (oM 1 rfl<|.nl)<|gK fun _ k40=>sG (ofB fl_136_2 rfl<|olB 1 ti_134 rfl rfl<|oM 1 rfl<|oxN sl_134 ti_144 (fun w h=>((h.at 3 rfl).inner i (show i<thr.l.length from (by omega))).2) _ om9 rfl<|ofE fl_144_0 rfl<|olE (.bool ((nth (((nth thr.l i).wait).l) k).lock)) ti_4 (fun w h=>((h.at 3 rfl).inner i (show i<thr.l.length from (by omega))).2) om9 rfl<|.nl)<|gCb rfl (fun hb42=> ?_) fun hb42=> ?_
   ·skip
    refine gL<|gRn (oM 1 rfl<|.nl)<|nK k40<|rT 14 [0] (oM 2 rfl<|ofB fl_136_2 rfl<|olB 1 ti_134 rfl rfl<|oM 1 rfl<|oxN sl_134 ti_144 (fun w h=>((h.at 3 rfl).inner i (show i<thr.l.length from (by omega))).2) _ om9 rfl<|ofE fl_144_1 rfl<|olE (.int .i64 ((nth (((nth thr.l i).wait).l) k).wh)) ti_3 (fun w h=>((h.at 3 rfl).inner i (show i<thr.l.length from (by omega))).2) om9 rfl<|ofB fl_136_2 rfl<|olB 1 ti_134 rfl rfl<|oM 1 rfl<|oxN sl_134 ti_144 (fun w h=>((h.at 3 rfl).inner i (show i<thr.l.length from (by omega))).2) _ om9 rfl<|ofE fl_144_2 rfl<|olE (.int .i64 ((nth (((nth thr.l i).wait).l) k).what)) ti_3 (fun w h=>((h.at 3 rfl).inner i (show i<thr.l.length from (by omega))).2) om9 rfl<|.nl)<|gE1 (fun _ _ h_=>x_lit (n:=3) (cs:= [.int .i64 1, .int .i64 ((nth (((nth thr.l i).wait).l) k).wh), .int .i64 ((nth (((nth thr.l i).wait).l) k).what)]) ([1,(nth (((nth thr.l i).wait).l) k).wh,(nth (((nth thr.l i).wait).l) k).what]:List Int) h_ sl_23 ti_3 rfl rfl rfl (by decide) rfl (by kernel_rfl) rfl (fun q hq w h=>Flat.inner _ _) (fun q hq b hb=>(Flat.on _ _ hb).elim) rfl rfl) rfl fun v43=>gE1 (fun _ _ h_=>x_app (r:=8) (rm:=0) (s:=(⟨vm2,ml2⟩:Ls Int)) (m:=(⟨v43, [1,(nth (((nth thr.l i).wait).l) k).wh,(nth (((nth thr.l i).wait).l) k).what]⟩:Ls Int)) h_ sl_23 ti_3 rfl rfl rfl rfl rfl rfl rfl (fun w h=>(h.own 0 rfl)) (fun b hb=>own_on (h_.sh.ok _ (List.mem_of_getElem? (i:=0) rfl)) hb) (fun q hq b hb=>⟨q,hq,hb⟩) rfl rfl rfl inferInstance (show (ml2.length+([1,(nth (((nth thr.l i).wait).l) k).wh,(nth (((nth thr.l i).wait).l) k).what]).length)*8≤140737488355328∧ml2.length+([1,(nth (((nth thr.l i).wait).l) k).wh,(nth (((nth thr.l i).wait).l) k).what]).length≤140737488355328 from om9) rfl rfl) rfl fun v44=>gRn (oM 1 rfl<|.nl)<|nK k38<|gF [0,3,4,5,6] rfl<|gL<|gRn (oM 1 rfl<|oadN _ 1 om9 rfl<|oM 1 rfl<|.nl)<|nN<|fun a45 w45 h45=>x_again ⟨_, ?_,k+1,ml2++([1,(nth (((nth thr.l i).wait).l) k).wh,(nth (((nth thr.l i).wait).l) k).what]),v44, ?_, ?_, ?_,h45.nrm ⟨rfl,rfl,rfl,rfl,rfl,trivial⟩ [1,2,3,4,5,6,7,8] rfl,rfl⟩
    · rw [hm33];first|omega|(simp only [lens9];omega)
    · omega
    · first|(rw [flatMap_succ _ _ _ (by omega),hml2,wtN_t (by assumption)];simp only [List.append_assoc];done)|(rw [flatMap_succ _ _ _ (by omega),hml2,wtN_f (by assumption)];simp only [List.append_assoc];done)
    · simp;omega
   refine gS<|hK k40<|rT 14 [0] (oM 2 rfl<|ofB fl_136_2 rfl<|olB 1 ti_134 rfl rfl<|oM 1 rfl<|oxN sl_134 ti_144 (fun w h=>((h.at 3 rfl).inner i (show i<thr.l.length from (by omega))).2) _ om9 rfl<|ofE fl_144_1 rfl<|olE (.int .i64 ((nth (((nth thr.l i).wait).l) k).wh)) ti_3 (fun w h=>((h.at 3 rfl).inner i (show i<thr.l.length from (by omega))).2) om9 rfl<|ofB fl_136_2 rfl<|olB 1 ti_134 rfl rfl<|oM 1 rfl<|oxN sl_134 ti_144 (fun w h=>((h.at 3 rfl).inner i (show i<thr.l.length from (by omega))).2) _ om9 rfl<|ofE fl_144_2 rfl<|olE (.int .i64 ((nth (((nth thr.l i).wait).l) k).what)) ti_3 (fun w h=>((h.at 3 rfl).inner i (show i<thr.l.length from (by omega))).2) om9 rfl<|.nl)<|gE1 (fun _ _ h_=>x_lit (n:=3) (cs:= [.int .i64 0, .int .i64 ((nth (((nth thr.l i).wait).l) k).wh), .int .i64 ((nth (((nth thr.l i).wait).l) k).what)]) ([0,(nth (((nth thr.l i).wait).l) k).wh,(nth (((nth thr.l i).wait).l) k).what]:List Int) h_ sl_23 ti_3 rfl rfl rfl (by decide) rfl (by kernel_rfl) rfl (fun q hq w h=>Flat.inner _ _) (fun q hq b hb=>(Flat.on _ _ hb).elim) rfl rfl) rfl fun v46=>gE1 (fun _ _ h_=>x_app (r:=8) (rm:=0) (s:=(⟨vm2,ml2⟩:Ls Int)) (m:=(⟨v46, [0,(nth (((nth thr.l i).wait).l) k).wh,(nth (((nth thr.l i).wait).l) k).what]⟩:Ls Int)) h_ sl_23 ti_3 rfl rfl rfl rfl rfl rfl rfl (fun w h=>(h.own 0 rfl)) (fun b hb=>own_on (h_.sh.ok _ (List.mem_of_getElem? (i:=0) rfl)) hb) (fun q hq b hb=>⟨q,hq,hb⟩) rfl rfl rfl inferInstance (show (ml2.length+([0,(nth (((nth thr.l i).wait).l) k).wh,(nth (((nth thr.l i).wait).l) k).what]).length)*8≤140737488355328∧ml2.length+([0,(nth (((nth thr.l i).wait).l) k).wh,(nth (((nth thr.l i).wait).l) k).what]).length≤140737488355328 from om9) rfl rfl) rfl fun v47=>gRn (oM 1 rfl<|.nl)<|nK k38<|gF [0,3,4,5,6] rfl<|gL<|gRn (oM 1 rfl<|oadN _ 1 om9 rfl<|oM 1 rfl<|.nl)<|nN<|fun a48 w48 h48=>x_again ⟨_, ?_,k+1,ml2++([0,(nth (((nth thr.l i).wait).l) k).wh,(nth (((nth thr.l i).wait).l) k).what]),v47, ?_, ?_, ?_,h48.nrm ⟨rfl,rfl,rfl,rfl,rfl,trivial⟩ [1,2,3,4,5,6,7,8] rfl,rfl⟩
   · rw [hm33];first|omega|(simp only [lens9];omega)
   · omega
   · first|(rw [flatMap_succ _ _ _ (by omega),hml2,wtN_t (by assumption)];simp only [List.append_assoc];done)|(rw [flatMap_succ _ _ _ (by omega),hml2,wtN_f (by assumption)];simp only [List.append_assoc];done)
   · simp;omega
  refine gX<|hK k22<|gL<|gRn (oM 1 rfl<|oadN _ 1 om9 rfl<|oM 1 rfl<|.nl)<|nN<|fun a49 w49 h49=>x_again ⟨_, ?_,i+1,ml2,vm2, ?_, ?_, ?_,h49.nrm ⟨rfl,rfl,rfl,trivial⟩ [2,3,4,5,6,7] rfl,rfl⟩
  · rw [hm15];first|omega|(simp only [lens9];omega)
  · omega
  · rw [take_succ_nth _ _ (by omega),List.map_append,List.flatMap_append,←hml,hml2,show k=(nth thr.l i).wait.l.length by omega];simp [thN,ThL.th,List.take_of_length_le]
  · have:=hrg i (by omega);have:=hwl i (by omega);omega
 refine gX<|hK k13<|sK fun _ k50=>gRn (oM 2 rfl<|onf fl_100_3 rfl<|olR 0 ti_23 rfl rfl<|.nl)<|gE1 (fun _ _ h_=>x_app (r:=5) (rm:=2) (s:=(⟨vm,ml⟩:Ls Int)) (m:=words) h_ sl_23 ti_3 rfl rfl rfl rfl rfl rfl rfl (fun w h=>(h.at 2 rfl)) (fun b hb=> .inr hb) (fun q hq b hb=> .inr ⟨q,hq,hb⟩) rfl rfl rfl inferInstance (show (ml.length+words.l.length)*8≤140737488355328∧ml.length+words.l.length≤140737488355328 from om9) rfl rfl) rfl fun v51=>gRn (oM 1 rfl<|.nl)<|nK k50<|sK fun _ k52=>gRn (oM 2 rfl<|onf fl_100_4 rfl<|olR 0 ti_23 rfl rfl<|.nl)<|gE1 (fun _ _ h_=>x_app (r:=5) (rm:=3) (s:=(⟨v51,ml++words.l⟩:Ls Int)) (m:=owner) h_ sl_23 ti_3 rfl rfl rfl rfl rfl rfl rfl (fun w h=>(h.at 3 rfl)) (fun b hb=> .inr hb) (fun q hq b hb=> .inr ⟨q,hq,hb⟩) rfl rfl rfl inferInstance (show ((ml++words.l).length+owner.l.length)*8≤140737488355328∧(ml++words.l).length+owner.l.length≤140737488355328 from om9) rfl rfl) rfl fun v53=>gRn (oM 1 rfl<|.nl)<|nK k52<|sK fun _ k54=>gRn (oM 2 rfl<|onf fl_100_5 rfl<|olR 0 ti_23 rfl rfl<|.nl)<|gE1 (fun _ _ h_=>x_app (r:=5) (rm:=4) (s:=(⟨v53,(ml++words.l)++owner.l⟩:Ls Int)) (m:=prints) h_ sl_23 ti_3 rfl rfl rfl rfl rfl rfl rfl (fun w h=>(h.at 4 rfl)) (fun b hb=> .inr hb) (fun q hq b hb=> .inr ⟨q,hq,hb⟩) rfl rfl rfl inferInstance (show (((ml++words.l)++owner.l).length+prints.l.length)*8≤140737488355328∧((ml++words.l)++owner.l).length+prints.l.length≤140737488355328 from om9) rfl rfl) rfl fun v55=>gRn (oM 1 rfl<|.nl)<|nK k54<|gF [2] rfl<|gR<|fun a56 w56 h56=>x_ret1 (fn:=Try.f78) (t:=2) rfl h56 rfl<|⟨⟨v55,((ml++words.l)++owner.l)++prints.l⟩,rfl, ?_,(h56.sh.sel [5] rfl)⟩
 show _++_++_++_=_;rw [hml,show i=thr.l.length by omega,List.take_length];rfl
theorem copy_c (g:Nat)(thr:Ls ThL)(words owner prints:Ls Int)(cv pw:Value)(locks nregs mode:Int)(fell:Bool)(W:World)(hB:Blk W g 100 #[cv,pw, .int .i64 locks, .int .i64 nregs, .int .i64 mode,thr.v,words.v,owner.v,prints.v, .bool fell])(h_thr:thr.At W)(h_words:words.At W)(h_owner:owner.At W)(h_prints:prints.At W)(hcl:thr.l.length≤4)(hrg:∀i,i<thr.l.length→(nth thr.l i).regs.l.length≤100000)(hwl:∀i,i<thr.l.length→(nth thr.l i).wait.l.length≤3)(hwn:words.l.length≤100000∧owner.l.length≤100000∧prints.l.length≤100000000):
    Rets Try.prog 49 [.pointer (some ⟨g,0,none⟩)] W (fun v w' =>∃(g2:Nat) (rows:List ThL) (vt:Value) (words' owner' prints' :Ls Int),v= .pointer (some ⟨g2,0,none⟩)∧rows.map ThL.th=thr.l.map ThL.th∧words'.l=words.l∧owner'.l=owner.l∧prints'.l=prints.l∧Sh0 W w' [.blk g2 100 [cv,pw, .int .i64 locks, .int .i64 nregs, .int .i64 mode,vt,words'.v,owner'.v,prints'.v, .bool fell], .own 136 (⟨vt,rows.map ThL.toV⟩:Ls ThV), .big (rowsA 3 144 rows), .own 3 words', .own 3 owner', .own 3 prints']):=by
 refine gen Try.func49 Try.ntmps49 (Sh0.ext (by intro A hA;simp at hA;rcases hA with rfl|rfl|rfl|rfl|rfl;exact hB;exact h_thr;exact h_words;exact h_owner;exact h_prints) (by intro A hA b hb;simp at hA;rcases hA with rfl|rfl|rfl|rfl|rfl<;>exact hb):Sh (fun _=>False) W W [.rblk g 100 [cv,pw, .int .i64 locks, .int .i64 nregs, .int .i64 mode,thr.v,words.v,owner.v,prints.v, .bool fell], .at_ thr, .at_ words, .at_ owner, .at_ prints]) rfl fun a10 h10=>gG h10<|sG (oM 1 rfl<|.nl)<|gK fun _ k12=>rT 13 [] (oM 1 rfl<|onf fl_100_0 rfl<|oV (r_ldbwR (vs:= [cv,pw, .int .i64 locks, .int .i64 nregs]) ti_25 rfl rfl (fun w h=>h.rblk 0 rfl) rfl rfl) rfl<|oM 1 rfl<|onf fl_100_1 rfl<|olR 0 ti_3 rfl rfl<|oM 1 rfl<|onf fl_100_6 rfl<|olR 0 ti_4 rfl rfl<|oV (r_build (cs:= [cv,pw, .int .i64 locks, .int .i64 nregs, .int .i64 mode,(.slice none 0 0),(.slice none 0 0),(.slice none 0 0),(.slice none 0 0), .bool fell]) rfl rfl (by kernel_rfl)) rfl<|.nl)<|gbx rfl rfl fun b13=>gRn (oM 1 rfl<|.nl)<|nK k12<|sK fun _ k14=>gRn (oM 1 rfl<|.nl)<|gE1 (fun _ _ h_=>x_lit0 (α:=Int) h_ sl_23 ti_3 rfl rfl rfl) rfl fun v15=>gRn (oM 1 rfl<|onf fl_100_3 rfl<|olR 2 ti_23 rfl rfl<|.nl)<|gE1 (fun _ _ h_=>x_app (r:=0) (rm:=4) (s:=(⟨v15, []⟩:Ls Int)) (m:=words) h_ sl_23 ti_3 rfl rfl rfl rfl rfl rfl rfl (fun w h=>(h.at 4 rfl)) (fun b hb=> .inr hb) (fun q hq b hb=> .inr ⟨q,hq,hb⟩) rfl rfl rfl inferInstance (show (([]).length+words.l.length)*8≤140737488355328∧([]).length+words.l.length≤140737488355328 from om9) rfl rfl) rfl fun v16=>gRn (onf fl_100_3 rfl<|.nl)<|gsr 1 ti_23 rfl (aO 0 rfl) rfl<|nK k14<|gF [0,3] rfl<|sK fun _ k18=>gRn (oM 1 rfl<|.nl)<|gE1 (fun _ _ h_=>x_lit0 (α:=Int) h_ sl_23 ti_3 rfl rfl rfl) rfl fun v19=>gRn (oM 1 rfl<|onf fl_100_4 rfl<|olR 3 ti_23 rfl rfl<|.nl)<|gE1 (fun _ _ h_=>x_app (r:=0) (rm:=6) (s:=(⟨v19, []⟩:Ls Int)) (m:=owner) h_ sl_23 ti_3 rfl rfl rfl rfl rfl rfl rfl (fun w h=>(h.at 6 rfl)) (fun b hb=> .inr hb) (fun q hq b hb=> .inr ⟨q,hq,hb⟩) rfl rfl rfl inferInstance (show (([]).length+owner.l.length)*8≤140737488355328∧([]).length+owner.l.length≤140737488355328 from om9) rfl rfl) rfl fun v20=>gRn (onf fl_100_4 rfl<|.nl)<|gsr 2 ti_23 rfl (aO 0 rfl) rfl<|nK k18<|sK fun _ k22=>gRn (oM 1 rfl<|.nl)<|gE1 (fun _ _ h_=>x_lit0 (α:=Int) h_ sl_23 ti_3 rfl rfl rfl) rfl fun v23=>gRn (oM 1 rfl<|onf fl_100_5 rfl<|olR 4 ti_23 rfl rfl<|.nl)<|gE1 (fun _ _ h_=>x_app (r:=0) (rm:=8) (s:=(⟨v23, []⟩:Ls Int)) (m:=prints) h_ sl_23 ti_3 rfl rfl rfl rfl rfl rfl rfl (fun w h=>(h.at 8 rfl)) (fun b hb=> .inr hb) (fun q hq b hb=> .inr ⟨q,hq,hb⟩) rfl rfl rfl inferInstance (show (([]).length+prints.l.length)*8≤140737488355328∧([]).length+prints.l.length≤140737488355328 from om9) rfl rfl) rfl fun v24=>gRn (onf fl_100_5 rfl<|.nl)<|gsr 3 ti_23 rfl (aO 0 rfl) rfl<|nK k22<|gK fun _ k26=>sG (oM 1 rfl<|.nl)<|gB<|fun a30 w30 h30=> ?_;clear h10
 have h29:=h30.nil (α:=ThV) 136
 clear h30
 have h31:=h29.big0 3 144
 clear h29
 refine x_loop (fun m a w=>∃(i:Nat) (rows:List ThL) (vt:Value),(i≤thr.l.length)∧(rows.length=i)∧(rows.map ThL.th=(thr.l.take i).map ThL.th)∧St 98 (fun _=>False) W a w [(0, .pointer (some ⟨g,0,none⟩)),(3, .pointer (some ⟨b13,0,none⟩)),(4, .int .i64 ((i:Nat):Int))] [.own 3 (⟨v24,prints.l⟩:Ls Int), .own 3 (⟨v20,owner.l⟩:Ls Int), .own 3 (⟨v16,words.l⟩:Ls Int), .blk b13 100 [cv,pw, .int .i64 locks, .int .i64 nregs, .int .i64 mode,vt,v16,v20,v24, .bool fell], .rblk g 100 [cv,pw, .int .i64 locks, .int .i64 nregs, .int .i64 mode,thr.v,words.v,owner.v,prints.v, .bool fell], .at_ thr, .at_ words, .at_ owner, .at_ prints, .own 136 (⟨vt,rows.map ThL.toV⟩:Ls ThV), .big (rowsA 3 144 rows)]∧m=thr.l.length-i) ⟨_,0, [],_,(by omega),(rfl),(by simp),h31.nrm ⟨rfl,rfl,rfl,trivial⟩ [2,3,4,5,6,7,8,9,10,1,0] rfl,rfl⟩ ?_
 clear h31
 rintro m28 a28 w28 ⟨i,rows,vt,hi,hrl,hrw,h28,hm28⟩
 refine gG h28<|gK fun _ k32=>sK fun _ k33=>gNl (aA 5 rfl) fun hl34=>gRn (oM 2 rfl<|onf fl_100_2 rfl<|olR 4 ti_98 rfl rfl<|oln sl_98 (aA 5 rfl) rfl<|oltN _ _ rfl<|.nl)<|nK k33<|?_;clear h28
 refine gcd rfl (fun hb35 hp35=> ?_) fun hb35 hp35=> ?_
 ·skip
  refine gS<|hK k32<|?_
  have hrgi:=hrg i (by omega)
  have hwli:=hwl i (by omega)
  refine gK fun _ k36=>gB<|sK fun _ k37=>gRn (oM 1 rfl<|onf fl_100_2 rfl<|olR 4 ti_98 rfl rfl<|oM 1 rfl<|oxN sl_98 ti_136 (aA 5 rfl) _ om9 rfl<|ofE fl_136_0 rfl<|olI ti_3 (aA 5 rfl) om9 rfl<|oV (r_build (cs:= [.int .i64 ((nth thr.l i).pc),(.slice none 0 0),(.slice none 0 0)]) rfl rfl (by kernel_rfl)) rfl<|.nl)<|gal ti_136 rfl fun b38=>gsw 0 ti_136 rfl rfl rfl<|nK k37<|sK fun _ k40=>gE1 (fun _ _ h_=>x_lit0 (α:=Int) h_ sl_23 ti_3 rfl rfl rfl) rfl fun v41=>gRn (oM 1 rfl<|onf fl_100_2 rfl<|olR 6 ti_98 rfl rfl<|oM 1 rfl<|oxN sl_98 ti_136 (aA 7 rfl) _ om9 rfl<|ofE fl_136_1 rfl<|olE (((nth thr.l i).regs).v) ti_23 (aA 7 rfl) om9 rfl<|.nl)<|gE1 (fun _ _ h_=>x_app (r:=0) (rm:=7) (s:=(⟨v41, []⟩:Ls Int)) (m:=(nth thr.l i).regs) h_ sl_23 ti_3 rfl rfl rfl rfl rfl rfl rfl (fun w h=>((h.at 7 rfl).inner i (show i<thr.l.length from om9)).1) (fun b hb=> .inr (.inr ⟨i,(show i<thr.l.length from om9), .inl hb⟩)) (fun q hq b hb=>(Flat.on _ _ hb).elim) rfl rfl rfl inferInstance (show (([]).length+(((nth thr.l i).regs).l).length)*8≤140737488355328∧([]).length+(((nth thr.l i).regs).l).length≤140737488355328 from om9) rfl rfl) rfl fun v42=>gRn (ofB fl_136_1 rfl<|.nl)<|gsr 1 ti_23 rfl (aO 0 rfl) rfl<|nK k40<|gF [0,3,4,5] rfl<|sK fun _ k44=>gE1 (fun _ _ h_=>x_lit0 (α:=Wt) h_ sl_134 ti_144 rfl rfl rfl) rfl fun v45=>gRn (oM 1 rfl<|onf fl_100_2 rfl<|olR 7 ti_98 rfl rfl<|oM 1 rfl<|oxN sl_98 ti_136 (aA 8 rfl) _ om9 rfl<|ofE fl_136_2 rfl<|olE (((nth thr.l i).wait).v) ti_134 (aA 8 rfl) om9 rfl<|.nl)<|gE1 (fun _ _ h_=>x_app (r:=0) (rm:=8) (s:=(⟨v45, []⟩:Ls Wt)) (m:=(nth thr.l i).wait) h_ sl_134 ti_144 rfl rfl rfl rfl rfl rfl rfl (fun w h=>((h.at 8 rfl).inner i (show i<thr.l.length from om9)).2) (fun b hb=> .inr (.inr ⟨i,(show i<thr.l.length from om9), .inr hb⟩)) (fun q hq b hb=>(Flat.on _ _ hb).elim) rfl rfl rfl inferInstance (show (([]).length+(((nth thr.l i).wait).l).length)*24≤140737488355328∧([]).length+(((nth thr.l i).wait).l).length≤140737488355328 from om9) rfl rfl) rfl fun v46=>gRn (ofB fl_136_2 rfl<|.nl)<|gsr 2 ti_134 rfl (aO 0 rfl) rfl<|nK k44<|rC [6,7,10] rfl<|pR [0,1,2,3,4,5] rfl (oM 2 rfl<|onfl 6 fl_100_2 ti_98 rfl rfl<|olw 2 ti_136 rfl rfl<|.nl) rfl<|pX (fun _ _ h_=>x_lit (n:=1) (cs:= [.int .i64 ((nth thr.l i).pc),v42,v46]) ([(⟨(nth thr.l i).pc,v42,v46⟩:ThV)]:List ThV) h_ sl_98 ti_136 rfl rfl rfl (by decide) rfl (by kernel_rfl) rfl (fun q hq w h=>Flat.inner _ _) (fun q hq b hb=>(Flat.on _ _ hb).elim) rfl rfl) rfl fun v48=>pR [0,1,2,3,4] rfl (oM 2 rfl<|onfl 7 fl_100_2 ti_98 rfl rfl<|.nl) rfl<|pX (fun _ _ h_=>x_app1 (r:=13) (rm:=0) (s:=(⟨vt,rows.map ThL.toV⟩:Ls ThV)) (m:=(⟨v48, [(⟨(nth thr.l i).pc,v42,v46⟩:ThV)]⟩:Ls ThV)) h_ sl_98 ti_136 rfl rfl rfl rfl rfl rfl rfl (fun w h=>(h.own 0 rfl)) (fun b hb=>own_on (h_.sh.ok _ (List.mem_of_getElem? (i:=0) rfl)) hb) (fun q hq b hb=>⟨q,hq,hb⟩) rfl rfl rfl (fun w h q hq j hj=>by obtain rfl:q=0:=(by simpa using hq);rcases j with _|_|_|j;exact rfl;exact ((h.own 2 rfl)).one;exact ((h.own 1 rfl)).one;exact absurd hj (by show¬(j+3<3);omega)) (show ((rows.map ThL.toV).length+([(⟨(nth thr.l i).pc,v42,v46⟩:ThV)]).length)*56≤140737488355328∧(rows.map ThL.toV).length+([(⟨(nth thr.l i).pc,v42,v46⟩:ThV)]).length≤140737488355328 from om9) rfl rfl) rfl fun v49=>pR [0,8,9] rfl (oM 1 rfl<|onf fl_100_2 rfl<|.nl) rfl<|pS (fun _ _ h_=>x_stb (i:=7) (vs:= [v49]) (cs' := [cv,pw, .int .i64 locks, .int .i64 nregs, .int .i64 mode,v49,v16,v20,v24, .bool fell]) h_ ti_98 rfl rfl rfl rfl rfl (cells_oneL ((h_.sh.own 13 rfl)).one) rfl (allOne_cons ((h_.sh.own 13 rfl)).one allOne_nil) (Nat.le_of_ble_eq_true rfl) rfl) rfl<|pE [] rfl (.nl) rfl<|hK k36<|gL<|gRn (oM 1 rfl<|oadN _ 1 om9 rfl<|oM 1 rfl<|.nl)<|nN<|gO [2,1,14,0,3,4,5,6,7,8,9,10,11,12,13] rfl<|fun a53 w53 h53=> ?_
  have h52:=h53.fold (x:=(⟨(nth thr.l i).pc,(⟨v42,((nth thr.l i).regs).l⟩:Ls Int),(⟨v46,((nth thr.l i).wait).l⟩:Ls Wt)⟩:ThL))
  clear h53
  have h54:=h52.relist (i:=12) (l' :=(rows++ [(⟨(nth thr.l i).pc,(⟨v42,((nth thr.l i).regs).l⟩:Ls Int),(⟨v46,((nth thr.l i).wait).l⟩:Ls Wt)⟩:ThL)]).map ThL.toV) rfl (by simp [ThL.toV])
  clear h52
  refine x_again ⟨_, ?_,(i+1),(rows++ [(⟨(nth thr.l i).pc,(⟨v42,((nth thr.l i).regs).l⟩:Ls Int),(⟨v46,((nth thr.l i).wait).l⟩:Ls Wt)⟩:ThL)]),v49, ?_, ?_, ?_,h54.nrm ⟨rfl,rfl,rfl,trivial⟩ [3,4,5,6,7,8,9,10,11,12,0] rfl,rfl⟩
  · rw [hm28];first|omega|(simp only [lens9];omega)
  · omega
  · simp [hrl]
  · rw [List.map_append,hrw,take_succ_nth _ _ (by omega),List.map_append];rfl
 refine gX<|hK k26<|sG (oM 2 rfl<|.nl)<|gR<|fun a56 w56 h56=>x_ret1 (fn:=Try.f49) (t:=2) rfl h56 rfl<|⟨b13,rows,vt,⟨v16,words.l⟩,⟨v20,owner.l⟩,⟨v24,prints.l⟩,rfl, ?_,rfl,rfl,rfl,(h56.sh.sel [3,9,10,2,1,0] rfl)⟩
 rw [hrw,show i=thr.l.length by omega,List.take_length]
theorem begin_c (code:Ls (Ls Ins))(words:Ls Int)(Lk R:Nat)(mode:Int)(W:World)(hcode:code.At W)(hwords:words.At W)(hcl:code.l.length≤4)(hlk:Lk≤4)(hR:R≤200)(hwn:words.l.length≤64):
    Rets Try.prog 44 [.agg #[code.v,words.v, .int .i64 ((Lk:Nat):Int), .int .i64 ((R:Nat):Int)], .int .i64 mode] W (fun v w' =>∃(g2:Nat) (rows:List ThL) (vt:Value) (words' owner' prints' :Ls Int),v= .pointer (some ⟨g2,0,none⟩)∧rows.map ThL.th=List.replicate code.l.length ⟨0,List.replicate R 0, []⟩∧words'.l=words.l∧owner'.l=List.replicate Lk (-1)∧prints'.l= []∧Sh0 W w' [.blk g2 100 [code.v,words.v, .int .i64 (Lk:Int), .int .i64 (R:Int), .int .i64 mode,vt,words'.v,owner'.v,prints'.v, .bool false], .own 136 (⟨vt,rows.map ThL.toV⟩:Ls ThV), .big (rowsA 3 144 rows), .own 3 words', .own 3 owner', .own 3 prints']):=by
 refine gen Try.func44 Try.ntmps44 (Sh0.ext2 hcode hwords:Sh (fun _=>False) W W [.at_ code, .at_ words]) rfl fun a10 h10=>gG h10<|sK fun _ k11=>gbx rfl rfl fun b12=>gRn (oM 1 rfl<|.nl)<|nK k11<|sK fun _ k13=>gRn (olw 0 ti_25 rfl rfl<|oM 1 rfl<|oV (r_build (cs:= [code.v,words.v, .int .i64 ((Lk:Nat):Int), .int .i64 ((R:Nat):Int), .int .i64 mode,(.slice none 0 0),(.slice none 0 0),(.slice none 0 0),(.slice none 0 0), .bool false]) rfl rfl (by kernel_rfl)) rfl<|.nl)<|gbx rfl rfl fun b14=>gRn (oM 1 rfl<|.nl)<|nK k13<|sK fun _ k15=>gRn (oM 1 rfl<|.nl)<|gE1 (fun _ _ h_=>x_lit0 (α:=Int) h_ sl_23 ti_3 rfl rfl rfl) rfl fun v16=>gRn (ofB fl_25_1 rfl<|olB 2 ti_23 rfl rfl<|.nl)<|gE1 (fun _ _ h_=>x_app (r:=0) (rm:=4) (s:=(⟨v16, []⟩:Ls Int)) (m:=words) h_ sl_23 ti_3 rfl rfl rfl rfl rfl rfl rfl (fun w h=>(h.at 4 rfl)) (fun b hb=> .inr hb) (fun q hq b hb=> .inr ⟨q,hq,hb⟩) rfl rfl rfl inferInstance (show (([]).length+words.l.length)*8≤140737488355328∧([]).length+words.l.length≤140737488355328 from om9) rfl rfl) rfl fun v17=>gRn (onf fl_100_3 rfl<|.nl)<|gsr 1 ti_23 rfl (aO 0 rfl) rfl<|nK k15<|gK fun _ k19=>sG (oM 1 rfl<|.nl)<|gB<|fun a23 w23 h23=> ?_;clear h10
 have h22:=h23.nil (α:=Int) 3
 clear h23
 refine x_loop (fun m a w=>∃(i:Nat) (ol:List Int) (vo:Value),(i≤Lk)∧(ol=List.replicate i (-1))∧(ol.length=i)∧St 55 (fun _=>False) W a w [(2, .pointer (some ⟨b12,0,none⟩)),(5, .pointer (some ⟨b14,0,none⟩)),(6, .int .i64 ((i:Nat):Int))] [.own 3 (⟨v17,words.l⟩:Ls Int), .blk b14 100 [code.v,words.v, .int .i64 ((Lk:Nat):Int), .int .i64 ((R:Nat):Int), .int .i64 mode,(.slice none 0 0),v17,vo,(.slice none 0 0), .bool false], .blk b12 25 [code.v,words.v, .int .i64 ((Lk:Nat):Int), .int .i64 ((R:Nat):Int)], .at_ code, .at_ words, .own 3 (⟨vo,ol⟩:Ls Int)]∧m=Lk-i) ⟨_,0, [],(.slice none 0 0),(by omega),(rfl),(rfl),h22.nrm ⟨rfl,rfl,rfl,trivial⟩ [1,2,3,4,5,0] rfl,rfl⟩ ?_
 clear h22
 rintro m21 a21 w21 ⟨i,ol,vo,hi,hol,holl,h21,hm21⟩
 refine gG h21<|gK fun _ k24=>sG (oM 1 rfl<|ofB fl_25_2 rfl<|olB 2 ti_3 rfl rfl<|oltN _ _ rfl<|.nl)<|?_;clear h21
 refine gcd rfl (fun hb26 hp26=> ?_) fun hb26 hp26=> ?_
 ·skip
  refine gS<|hK k24<|gK fun _ k27=>gB<|gL<|gRn (oM 2 rfl<|onfl 1 fl_100_4 ti_23 rfl rfl<|.nl)<|gE1 (fun _ _ h_=>x_lit (n:=1) (cs:= [.int .i64 (-1)]) ([(-1)]:List Int) h_ sl_23 ti_3 rfl rfl rfl (by decide) rfl (by kernel_rfl) rfl (fun q hq w h=>Flat.inner _ _) (fun q hq b hb=>(Flat.on _ _ hb).elim) rfl rfl) rfl fun v28=>gE1 (fun _ _ h_=>x_app (r:=6) (rm:=0) (s:=(⟨vo,ol⟩:Ls Int)) (m:=(⟨v28, [(-1)]⟩:Ls Int)) h_ sl_23 ti_3 rfl rfl rfl rfl rfl rfl rfl (fun w h=>(h.own 0 rfl)) (fun b hb=>own_on (h_.sh.ok _ (List.mem_of_getElem? (i:=0) rfl)) hb) (fun q hq b hb=>⟨q,hq,hb⟩) rfl rfl rfl inferInstance (show (ol.length+([(-1)]).length)*8≤140737488355328∧ol.length+([(-1)]).length≤140737488355328 from om9) rfl rfl) rfl fun v29=>gRn (onf fl_100_4 rfl<|.nl)<|gsr 2 ti_23 rfl (aO 6 rfl) rfl<|nK k27<|gL<|gRn (oM 1 rfl<|oadN _ 1 om9 rfl<|oM 1 rfl<|.nl)<|nN<|fun a31 w31 h31=>x_again ⟨_, ?_,i+1,ol++([(-1)]),v29, ?_, ?_, ?_,h31.nrm ⟨rfl,rfl,rfl,trivial⟩ [1,2,3,4,5,6] rfl,rfl⟩
  · rw [hm21];first|omega|(simp only [lens9];omega)
  · omega
  · rw [hol,List.replicate_succ']
  · simp [holl]
 refine gX<|hK k19<|?_
 have hol2:ol=List.replicate Lk (-1):=by rw [hol,show i=Lk by omega]
 clear hol hi holl
 refine gK fun _ k32=>sG (oM 1 rfl<|.nl)<|gB<|fun a36 w36 h36=> ?_
 have h35:=h36.nil (α:=ThV) 136
 clear h36
 have h37:=h35.big0 3 144
 clear h35
 refine x_loop (fun m a w=>∃(i:Nat) (rows:List ThL) (vt:Value),(i≤code.l.length)∧(rows.length=i)∧(rows.map ThL.th=List.replicate i ⟨0,List.replicate R 0, []⟩)∧St 55 (fun _=>False) W a w [(2, .pointer (some ⟨b12,0,none⟩)),(5, .pointer (some ⟨b14,0,none⟩)),(7, .int .i64 ((i:Nat):Int))] [.own 3 (⟨v17,words.l⟩:Ls Int), .blk b14 100 [code.v,words.v, .int .i64 ((Lk:Nat):Int), .int .i64 ((R:Nat):Int), .int .i64 mode,vt,v17,vo,(.slice none 0 0), .bool false], .blk b12 25 [code.v,words.v, .int .i64 ((Lk:Nat):Int), .int .i64 ((R:Nat):Int)], .at_ code, .at_ words, .own 3 (⟨vo,ol⟩:Ls Int), .own 136 (⟨vt,rows.map ThL.toV⟩:Ls ThV), .big (rowsA 3 144 rows)]∧m=code.l.length-i) ⟨_,0, [],_,(by omega),(rfl),(rfl),h37.nrm ⟨rfl,rfl,rfl,trivial⟩ [2,3,4,5,6,7,1,0] rfl,rfl⟩ ?_
 clear h37
 rintro m34 a34 w34 ⟨i,rows,vt,hi,hrl,hrw,h34,hm34⟩
 refine gG h34<|gK fun _ k38=>sK fun _ k39=>gNl (aA 3 rfl) fun hl40=>gRn (oM 1 rfl<|ofB fl_25_0 rfl<|olB 2 ti_22 rfl rfl<|oln sl_22 (aA 3 rfl) rfl<|oltN _ _ rfl<|.nl)<|nK k39<|?_;clear h34
 refine gcd rfl (fun hb41 hp41=> ?_) fun hb41 hp41=> ?_
 ·skip
  refine gS<|hK k38<|gK fun _ k42=>gB<|rC [7,9,10,13] rfl<|pR [0,1,2,3,4,5,6] rfl (oM 2 rfl<|onfl 1 fl_100_2 ti_98 rfl rfl<|ofB fl_25_3 rfl<|olB 2 ti_3 rfl rfl<|.nl) rfl<|pX (fun _ _ h_=>x_make (n:=R) (0:Int) h_ sl_23 ti_3 rfl rfl rfl rfl rfl (show 8*R≤140737488355328∧R≤140737488355328 from om9) (fun w=>Flat.inner _ _) (fun b=>Flat.on _ _) rfl rfl) rfl fun v43=>pR [0,1,2,3,4,8] rfl (oM 2 rfl<|onfl 2 fl_100_2 ti_98 rfl rfl<|oV (r_buildS (cs:= [.int .i64 0,v43,(.slice none 0 0)]) rfl rfl (fun w h=>by obtain ⟨A44,n44,c44,(e44:v43=_)⟩:=((h.own 0 rfl)).form;rw [e44];kernel_rfl)) rfl<|.nl) rfl<|pX (fun _ _ h_=>x_lit (n:=1) (cs:= [.int .i64 0,v43,(.slice none 0 0)]) ([(⟨0,v43,(.slice none 0 0)⟩:ThV)]:List ThV) h_ sl_98 ti_136 rfl rfl rfl (by decide) rfl (by kernel_rfl) rfl (fun q hq w h=>Flat.inner _ _) (fun q hq b hb=>(Flat.on _ _ hb).elim) rfl rfl) rfl fun v45=>pR [0,1,2,3,4] rfl (oM 2 rfl<|onfl 3 fl_100_2 ti_98 rfl rfl<|.nl) rfl<|pX (fun _ _ h_=>x_app1 (r:=8) (rm:=0) (s:=(⟨vt,rows.map ThL.toV⟩:Ls ThV)) (m:=(⟨v45, [(⟨0,v43,(.slice none 0 0)⟩:ThV)]⟩:Ls ThV)) h_ sl_98 ti_136 rfl rfl rfl rfl rfl rfl rfl (fun w h=>(h.own 0 rfl)) (fun b hb=>own_on (h_.sh.ok _ (List.mem_of_getElem? (i:=0) rfl)) hb) (fun q hq b hb=>⟨q,hq,hb⟩) rfl rfl rfl (fun w h q hq j hj=>by obtain rfl:q=0:=(by simpa using hq);rcases j with _|_|_|j;exact rfl;exact ((h.own 1 rfl)).one;exact rfl;exact absurd hj (by show¬(j+3<3);omega)) (show ((rows.map ThL.toV).length+([(⟨0,v43,(.slice none 0 0)⟩:ThV)]).length)*56≤140737488355328∧(rows.map ThL.toV).length+([(⟨0,v43,(.slice none 0 0)⟩:ThV)]).length≤140737488355328 from om9) rfl rfl) rfl fun v46=>pR [0,11,12] rfl (oM 1 rfl<|onf fl_100_2 rfl<|.nl) rfl<|pS (fun _ _ h_=>x_stb (i:=3) (vs:= [v46]) (cs' := [code.v,words.v, .int .i64 ((Lk:Nat):Int), .int .i64 ((R:Nat):Int), .int .i64 mode,v46,v17,vo,(.slice none 0 0), .bool false]) h_ ti_98 rfl rfl rfl rfl rfl (cells_oneL ((h_.sh.own 8 rfl)).one) rfl (allOne_cons ((h_.sh.own 8 rfl)).one allOne_nil) (Nat.le_of_ble_eq_true rfl) rfl) rfl<|pE [] rfl (.nl) rfl<|hK k42<|gL<|gRn (oM 1 rfl<|oadN _ 1 om9 rfl<|oM 1 rfl<|.nl)<|nN<|fun a49 w49 h49=> ?_
  have h48:=h49.nil (α:=Wt) 144
  clear h49
  have h50:=h48.sel (L' := [_,_,_,_,_,_,_,_,_,_,_]) [2,0,10,1,3,4,5,6,7,8,9] rfl
  have h51:=h50.fold (x:=(⟨0,(⟨v43,List.replicate R 0⟩:Ls Int),(⟨.slice none 0 0, []⟩:Ls Wt)⟩:ThL))
  clear h50
  have h52:=h51.relist (i:=8) (l' :=(rows++ [(⟨0,(⟨v43,List.replicate R 0⟩:Ls Int),(⟨.slice none 0 0, []⟩:Ls Wt)⟩:ThL)]).map ThL.toV) rfl (by simp [ThL.toV])
  clear h51
  refine x_again ⟨_, ?_,(i+1),(rows++ [(⟨0,(⟨v43,List.replicate R 0⟩:Ls Int),(⟨.slice none 0 0, []⟩:Ls Wt)⟩:ThL)]),v46, ?_, ?_, ?_,h52.nrm ⟨rfl,rfl,rfl,trivial⟩ [2,3,4,5,6,7,8,0] rfl,rfl⟩
  · rw [hm34];first|omega|(simp only [lens9];omega)
  · omega
  · simp [hrl]
  · rw [List.map_append,hrw,List.replicate_succ'];rfl
 refine gX<|hK k32<|sG (oM 2 rfl<|.nl)<|gR<|fun a54 w54 h54=>x_ret1 (fn:=Try.f44) (t:=4) rfl h54 rfl ?_
 have h56:=h54.nil (α:=Int) 3
 clear h54
 refine ⟨b14,rows,vt,⟨v17,words.l⟩,⟨vo,ol⟩,⟨.slice none 0 0, []⟩,rfl, ?_,rfl,hol2,rfl,(h56.sh.sel [2,7,8,1,6,0] rfl)⟩
 rw [hrw,show i=code.l.length by omega]
def stA (g:Nat)(hd:List Value)(vt:Value)(rows:List ThL)(words owner prints:Ls Int)(fell:Bool):List Asn:=
 [.blk g 100 (hd++ [vt,words.v,owner.v,prints.v, .bool fell]), .own 136 (⟨vt,rows.map ThL.toV⟩:Ls ThV), .big (rowsA 3 144 rows), .own 3 words, .own 3 owner, .own 3 prints]
theorem do_full (K:Nat→Prop)(g mv:Nat)(code:Ls (Ls Ins))(vt:Value)(rows:List ThL)(words owner prints:Ls Int)(pw:Value)(locks nregs mode:Int)(fell:Bool)(W:World)
  (hS:Sh K W W (stA g [code.v,pw, .int .i64 locks, .int .i64 nregs, .int .i64 mode] vt rows words owner prints fell++ [.at_ code]))
  (hn:mv/8<rows.length) (htc:mv/8<code.l.length) (hmv:mv<1000000) (hpc:0≤(nth rows (mv/8)).pc∧(nth rows (mv/8)).pc<1000000) (hwl:(nth rows (mv/8)).wait.l.length≤3) (hkw:mv%8≤(nth rows (mv/8)).wait.l.length) (hpl:prints.l.length≤100000000) (hol:owner.l.length≤100)
  (hwt:∀j,j<(nth rows (mv/8)).wait.l.length→if (nth (nth rows (mv/8)).wait.l j).lock=true then 0≤(nth (nth rows (mv/8)).wait.l j).wh∧(nth (nth rows (mv/8)).wait.l j).wh<owner.l.length else 0≤(nth (nth rows (mv/8)).wait.l j).wh∧(nth (nth rows (mv/8)).wait.l j).wh<words.l.length)
  (hio:mv%8=0→InsR (nth rows (mv/8)).regs.l.length words.l.length owner.l.length (nextIns (nth code.l (mv/8)).l (nth rows (mv/8)).pc)):
  Rets Try.prog 50 [.pointer (some ⟨g,0,none⟩), .int .i64 ((mv:Nat):Int)] W (fun v w' =>v= .tuple #[]∧∃(rows' :List ThL) (words' owner' prints' :Ls Int) (fell' :Bool) (y:TS),
   y=doT mode (mv/8) (nth code.l (mv/8)).l (mv%8) ⟨(nth rows (mv/8)).pc,(nth rows (mv/8)).regs.l,(nth rows (mv/8)).wait.l,words.l,owner.l,prints.l,fell⟩∧rows'.map ThL.th=(rows.map ThL.th).set (mv/8) ⟨y.pc,y.regs,y.wait⟩∧words'.l=y.words∧owner'.l=y.owner∧prints'.l=y.prints∧fell' =y.fell∧
   Sh K W w' (stA g [code.v,pw, .int .i64 locks, .int .i64 nregs, .int .i64 mode] vt rows' words' owner' prints' fell' ++ [.at_ code])):=by
 have h1:=hS.perm (L' := .big (rowsA 3 144 rows):: [.blk g 100 [code.v,pw, .int .i64 locks, .int .i64 nregs, .int .i64 mode,vt,words.v,owner.v,prints.v, .bool fell], .own 136 (⟨vt,rows.map ThL.toV⟩:Ls ThV), .own 3 words, .own 3 owner, .own 3 prints, .at_ code]) ((List.Perm.swap _ _ _).cons _|>.trans (List.Perm.swap _ _ _))
 have h2:=h1.openAt _ hn
 have h3:Sh K W W ([.blk g 100 [code.v,pw, .int .i64 locks, .int .i64 nregs, .int .i64 mode,vt,words.v,owner.v,prints.v, .bool fell], .own 136 (⟨vt,rows.map ThL.toV⟩:Ls ThV), .own 3 (nth rows (mv/8)).regs, .own 144 (nth rows (mv/8)).wait, .own 3 words, .own 3 owner, .own 3 prints, .at_ code]++ [.big (rowsA 3 144 (rows.eraseIdx (mv/8)))]):=h2.sel (L' := [.blk g 100 [code.v,pw, .int .i64 locks, .int .i64 nregs, .int .i64 mode,vt,words.v,owner.v,prints.v, .bool fell], .own 136 (⟨vt,rows.map ThL.toV⟩:Ls ThV), .own 3 (nth rows (mv/8)).regs, .own 144 (nth rows (mv/8)).wait, .own 3 words, .own 3 owner, .own 3 prints, .at_ code, .big (rowsA 3 144 (rows.eraseIdx (mv/8)))]) [3,4,0,1,5,6,7,8,2] rfl
 have hnt:nth (rows.map ThL.toV) (mv/8)=(nth rows (mv/8)).toV:=nth_map' _ _ _ hn
 refine Rets.mono (do_c _ g mv code ⟨vt,rows.map ThL.toV⟩ (nth rows (mv/8)).regs (nth rows (mv/8)).wait words owner prints pw locks nregs mode fell W h3.passL (by simpa using hn) htc hmv (by rw [hnt];rfl) (by rw [hnt];rfl) (by rw [hnt];exact hpc) hwl hkw hpl hol hwt (by rw [hnt];exact hio)) ?_
 rintro v w' ⟨rfl,regs',wait',words',owner',prints',pc',fell',he,hs⟩
 have h4:=h3.backL hs (by intro A hA b hb;simp only [List.mem_cons,List.not_mem_nil,or_false] at hA;rcases hA with rfl|rfl|rfl|rfl|rfl|rfl|rfl|rfl<;>first|exact (hb:False).elim|exact Flat.noRd hb|exact .inl ⟨_,List.mem_of_getElem? (i:=7) rfl, .inr hb⟩)
 have h5:=h4.sel (L' := .own 3 regs' :: .own 144 wait' :: .big (rowsA 3 144 (rows.eraseIdx (mv/8))):: [.blk g 100 ([code.v,pw, .int .i64 locks, .int .i64 nregs, .int .i64 mode]++ [vt,words'.v,owner'.v,prints'.v, .bool fell']), .own 136 (⟨vt,(rows.map ThL.toV).set (mv/8) ⟨pc',regs'.v,wait'.v⟩⟩:Ls ThV), .own 3 words', .own 3 owner', .own 3 prints', .at_ code]) [2,3,8,0,1,4,5,6,7] rfl
 have h6:=Sh.closeAt (x:=⟨pc',regs',wait'⟩) _ hn h5
 rw [show (rows.map ThL.toV).set (mv/8) ⟨pc',regs'.v,wait'.v⟩=(rows.set (mv/8) ⟨pc',regs',wait'⟩).map ThL.toV by rw [List.map_set];rfl] at h6
 have h7:=h6.perm (L' :=stA g [code.v,pw, .int .i64 locks, .int .i64 nregs, .int .i64 mode] vt (rows.set (mv/8) ⟨pc',regs',wait'⟩) words' owner' prints' fell' ++ [.at_ code]) ((List.Perm.swap _ _ _).trans ((List.Perm.swap _ _ _).cons _))
 rw [hnt] at he
 refine ⟨rfl,rows.set (mv/8) ⟨pc',regs',wait'⟩,words',owner',prints',fell',(⟨pc',regs'.l,wait'.l,words'.l,owner'.l,prints'.l,fell'⟩:TS),he, ?_,rfl,rfl,rfl,rfl,h7⟩
 rw [List.map_set];rfl
def sumStep (h:Nat)(x:Int):Nat:=((h^^^toU x)*1099511628211%18446744073709551616)^^^(((h^^^toU x)*1099511628211%18446744073709551616)/2^29)
def sumL (l:List Int):Nat:=l.foldl sumStep (toU (l.length:Int))%4096
theorem sumL_lt (l:List Int):sumL l<4096:=Nat.mod_lt _ (by decide)
def lessB :List Int→List Int→Bool
 |a::l,b::m=>if a=b then lessB l m else decide (a<b)
 |l,m=>decide (l.length<m.length)
theorem lessB_ne :∀ {l m:List Int} (i:Nat),i<l.length→i<m.length→(∀j,j<i→nth l j=nth m j)→nth l i≠nth m i→lessB l m=decide (nth l i<nth m i)
 |a::l,b::m,0,_,_,_,h=>by
  have h' :a≠b:=h
  unfold lessB;rw [if_neg h'];rfl
 |a::l,b::m,i+1,hl,hm,hall,h=>by
  have h0:a=b:=hall 0 (by omega)
  unfold lessB;rw [if_pos h0]
  exact lessB_ne i (by simpa using hl) (by simpa using hm) (fun j hj=>hall (j+1) (by omega)) h
theorem lessB_end :∀ {l m:List Int} (i:Nat),i≤l.length→i≤m.length→(i=l.length∨i=m.length)→(∀j,j<i→nth l j=nth m j)→lessB l m=decide (l.length<m.length)
 | [],m,i,_,_,_,_=>by unfold lessB;rfl
 |a::l, [],i,_,_,_,_=>by unfold lessB;rfl
 |a::l,b::m,0,_,_,h,_=>by simp at h
 |a::l,b::m,i+1,hl,hm,he,hall=>by
  have h0:a=b:=hall 0 (by omega)
  have ih:=lessB_end (l:=l) (m:=m) i (by simpa using hl) (by simpa using hm) (by simpa using he) (fun j hj=>hall (j+1) (by omega))
  unfold lessB;rw [if_pos h0,ih];simp
def aheadB (a b:Outc):Bool:=if a.st=b.st then (if a.words=b.words then lessB a.prints b.prints else lessB a.words b.words) else decide (a.st<b.st)
theorem LsNil {α:Type}[Enc α](w:World):(⟨.slice none 0 0, []⟩:Ls α).At w:=own_at (E:=0) (World.ownsRow_nil w 0 0 _|>fun h=>⟨h,by simp,fun i hi=>absurd hi (by simp)⟩)
theorem sum_c (x:Ls Int)(W:World)(hx:x.At W):
    Rets Try.prog 79 [x.v] W (fun v w' =>v= .int .i64 ((sumL x.l:Nat):Int)∧Sh0 W w' []):=by
 refine gen Try.func79 Try.ntmps79 (Sh0.ext1 hx:Sh (fun _=>False) W W [.at_ x]) rfl fun a10 h10=>gG h10<|sG (oM 1 rfl<|.nl)<|sK fun _ k12=>gNl (aA 0 rfl) fun hl13=>gRn (oM 1 rfl<|oln sl_23 (aA 0 rfl) rfl<|oV (r_cvU Try.underlying3 Try.underlying151 rfl rfl) rfl<|oM 1 rfl<|.nl)<|nK k12<|gK fun _ k14=>sG (oM 1 rfl<|.nl)<|gB<|fun a17 w17 h17=>x_loop (fun m a w=>∃(i hh:Nat),(i≤x.l.length)∧(hh<18446744073709551616)∧(hh=(x.l.take i).foldl sumStep (toU (x.l.length:Int)))∧St 29 (fun _=>False) W a w [(0,x.v),(3, .int .u64 ((hh:Nat):Int)),(4, .int .i64 ((i:Nat):Int))] [.at_ x]∧m=x.l.length-i) ⟨_,0,toU ((x.l.length:Nat):Int),(by omega),(toU_lt _),(rfl),h17.nf ⟨rfl,rfl,rfl,trivial⟩,rfl⟩ ?_;clear h10
 clear h17
 rintro m16 a16 w16 ⟨i,hh,hi,hlt,hh2,h16,hm16⟩
 refine gG h16<|gK fun _ k18=>sG (oM 2 rfl<|oln sl_23 (aA 0 rfl) rfl<|oltN _ _ rfl<|.nl)<|?_;clear h16
 refine gcd rfl (fun hb20 hp20=> ?_) fun hb20 hp20=> ?_
 ·skip
  refine gS<|hK k18<|gK fun _ k21=>gB<|sG (oM 3 rfl<|oxN sl_23 ti_3 (aA 0 rfl) _ om9 rfl<|olI ti_3 (aA 0 rfl) om9 rfl<|oV (r_cvU Try.underlying3 Try.underlying151 rfl rfl) rfl<|oV (r_xorU (p:=hh) (q:=toU (nth x.l i)) rfl rfl rfl ⟨(by first|assumption|exact toU_lt _|omega),(by first|assumption|exact toU_lt _|omega)⟩) rfl<|oV (r_mulU (p:=hh^^^(toU (nth x.l i))) (q:=1099511628211) rfl rfl rfl) rfl<|oM 1 rfl<|.nl)<|gL<|gRn (oM 2 rfl<|oV (r_shrU (p:=(hh^^^(toU (nth x.l i)))*1099511628211%18446744073709551616) (k:=29) rfl rfl rfl (by decide)) rfl<|oV (r_xorU (p:=(hh^^^(toU (nth x.l i)))*1099511628211%18446744073709551616) (q:=((hh^^^(toU (nth x.l i)))*1099511628211%18446744073709551616)/2^29) rfl rfl rfl ⟨(by first|assumption|exact toU_lt _|omega),(by first|assumption|exact toU_lt _|omega)⟩) rfl<|oM 1 rfl<|.nl)<|nK k21<|gL<|gRn (oM 1 rfl<|oadN _ 1 om9 rfl<|oM 1 rfl<|.nl)<|nN<|fun a23 w23 h23=>x_again ⟨_, ?_,i+1,((hh^^^(toU (nth x.l i)))*1099511628211%18446744073709551616)^^^(((hh^^^(toU (nth x.l i)))*1099511628211%18446744073709551616)/2^29), ?_, ?_, ?_,h23.nf ⟨rfl,rfl,rfl,trivial⟩,rfl⟩
  · rw [hm16];first|omega|(simp only [lens9];omega)
  · omega
  · exact xor_lt64 (by omega) (by omega)
  · rw [take_succ_nth _ _ (by omega),List.foldl_append,←hh2,List.foldl_cons,List.foldl_nil,sumStep]
 refine gX<|hK k14<|sG (oM 1 rfl<|oV (r_remU (p:=hh) (q:=4096) rfl rfl rfl (by decide)) rfl<|oV (r_cvI Try.underlying151 Try.underlying3 rfl rfl (show hh%4096<9223372036854775808 from om9)) rfl<|oM 1 rfl<|.nl)<|gR<|fun a25 w25 h25=>x_ret1 (fn:=Try.f79) (t:=2) rfl h25 rfl<|⟨?_,(h25.sh.sel [] rfl)⟩
 rw [show hh%4096=sumL x.l by rw [sumL,hh2,show i=x.l.length by omega,List.take_length]]
theorem less_c (x y:Ls Int)(W:World)(hx:x.At W)(hy:y.At W):
    Rets Try.prog 94 [x.v,y.v] W (fun v w' =>v= .bool (lessB x.l y.l)∧Sh0 W w' []):=by
 refine gen Try.func94 Try.ntmps94 (Sh0.ext2 hx hy:Sh (fun _=>False) W W [.at_ x, .at_ y]) rfl fun a10 h10=>gG h10<|sG (oM 1 rfl<|.nl)<|gK fun _ k12=>sG (oM 1 rfl<|.nl)<|gB<|fun a15 w15 h15=>x_loop (fun m a w=>∃(i:Nat),(i≤x.l.length∧i≤y.l.length)∧(∀j,j<i→nth x.l j=nth y.l j)∧St 41 (fun _=>False) W a w [(0,x.v),(1,y.v),(5, .int .i64 ((i:Nat):Int))] [.at_ x, .at_ y]∧m=x.l.length-i) ⟨_,0,(by omega),(fun j hj=>absurd hj (by omega)),h15.nf ⟨rfl,rfl,rfl,trivial⟩,rfl⟩ ?_;clear h10
 clear h15
 rintro m14 a14 w14 ⟨i,hi,hall,h14,hm14⟩
 refine gG h14<|gK fun _ k16=>sK fun _ k17=>gNl (aA 0 rfl) fun hl18=>gRn (oM 2 rfl<|oln sl_23 (aA 0 rfl) rfl<|oltN _ _ rfl<|oM 1 rfl<|.nl)<|?_;clear h14
 rcases dsp (i<x.l.length) with ⟨hb19,hp19⟩|⟨hb19,hp19⟩
 ·skip
  refine gNl (aA 1 rfl) fun hl20=>gRn (oG hb19 (r_move rfl rfl) rfl<|oG hb19 (r_move rfl rfl) rfl<|oG hb19 (r_len (s:=y) (n:=y.l.length) sl_23 rfl rfl (fun w h=>(h.at 1 rfl)) rfl) rfl<|oG hb19 (r_lssN (p:=i) (q:=y.l.length) rfl rfl rfl) rfl<|opT hb19 rfl<|.nl)<|nK k17<|gcd rfl (fun hb21 hp21=> ?_) fun hb21 hp21=> ?_
  ·skip
   refine gS<|hK k16<|gK fun _ k22=>gB<|gK fun _ k23=>rQ (oM 2 rfl<|oxN sl_23 ti_3 (aA 0 rfl) _ om9 rfl<|olI ti_3 (aA 0 rfl) om9 rfl<|oM 2 rfl<|oxN sl_23 ti_3 (aA 1 rfl) _ om9 rfl<|olI ti_3 (aA 1 rfl) om9 rfl<|oneI _ _ rfl<|.nl)<|hK k23<|gcd rfl (fun hb24 hp24=> ?_) fun hb24 hp24=> ?_
   ·skip
    refine gK fun _ k25=>rQ (oM 2 rfl<|oxN sl_23 ti_3 (aA 0 rfl) _ om9 rfl<|olI ti_3 (aA 0 rfl) om9 rfl<|oM 2 rfl<|oxN sl_23 ti_3 (aA 1 rfl) _ om9 rfl<|olI ti_3 (aA 1 rfl) om9 rfl<|oltI _ _ rfl<|oM 1 rfl<|.nl)<|hK k25<|gF [4] rfl<|gR<|uB<|uT<|uT<|uB<|uT<|fun a26 w26 h26=>x_ret1 (fn:=Try.f94) (t:=4) rfl h26 rfl<|⟨?_,(h26.sh.sel [] rfl)⟩
    congr 1
    first|exact (lessB_ne i (by omega) (by omega) (fun j hj=>hall j hj) (by omega)).symm|exact (lessB_end i (by omega) (by omega) (by omega) (fun j hj=>hall j hj)).symm
   refine gS<|hK k22<|gL<|gRn (oM 1 rfl<|oadN _ 1 om9 rfl<|oM 1 rfl<|.nl)<|nN<|fun a27 w27 h27=>x_again ⟨_, ?_,i+1, ?_, ?_,h27.nf ⟨rfl,rfl,rfl,trivial⟩,rfl⟩
   · rw [hm14];first|omega|(simp only [lens9];omega)
   · omega
   · intro j hj;rcases Nat.lt_or_ge j i with h|h;exact hall j h;obtain rfl:j=i:=(by omega);omega
  refine gX<|hK k12<|sG (oM 1 rfl<|oln sl_23 (aA 0 rfl) rfl<|oM 1 rfl<|oln sl_23 (aA 1 rfl) rfl<|oltN _ _ rfl<|oM 1 rfl<|.nl)<|gR<|fun a29 w29 h29=>x_ret1 (fn:=Try.f94) (t:=4) rfl h29 rfl<|⟨?_,(h29.sh.sel [] rfl)⟩
  congr 1
  first|exact (lessB_ne i (by omega) (by omega) (fun j hj=>hall j hj) (by omega)).symm|exact (lessB_end i (by omega) (by omega) (by omega) (fun j hj=>hall j hj)).symm
 refine gRn (oKs 4 hb19 rfl rfl<|opF hb19 rfl<|.nl)<|nK k17<|gcF rfl rfl<|gX<|hK k12<|sK fun _ k30=>gNl (aA 1 rfl) fun hl31=>gRn (oM 1 rfl<|oln sl_23 (aA 0 rfl) rfl<|oM 1 rfl<|oln sl_23 (aA 1 rfl) rfl<|oltN _ _ rfl<|oM 1 rfl<|.nl)<|nK k30<|gR<|fun a32 w32 h32=>x_ret1 (fn:=Try.f94) (t:=4) rfl h32 rfl<|⟨?_,(h32.sh.sel [] rfl)⟩
 congr 1
 first|exact (lessB_ne i (by omega) (by omega) (fun j hj=>hall j hj) (by omega)).symm|exact (lessB_end i (by omega) (by omega) (by omega) (fun j hj=>hall j hj)).symm
theorem ahead_c (x y:OutL)(W:World)(hxw:x.words.At W)(hxp:x.prints.At W)(hyw:y.words.At W)(hyp:y.prints.At W):
    Rets Try.prog 72 [.agg #[.int .i64 x.st,x.words.v,x.prints.v], .agg #[.int .i64 y.st,y.words.v,y.prints.v]] W (fun v w' =>v= .bool (aheadB x.out y.out)∧Sh0 W w' []):=by
 refine gen Try.func72 Try.ntmps72 (Sh0.ext4 hxw hxp hyw hyp:Sh (fun _=>False) W W [.at_ x.words, .at_ x.prints, .at_ y.words, .at_ y.prints]) rfl fun a10 h10=>gG h10<|sK fun _ k11=>gbx rfl rfl fun b12=>gbx rfl rfl fun b13=>gRn (oM 1 rfl<|.nl)<|nK k11<|gK fun _ k14=>sG (ofB fl_49_0 rfl<|olB 1 ti_3 rfl rfl<|ofB fl_49_0 rfl<|olB 0 ti_3 rfl rfl<|oneI _ _ rfl<|.nl)<|?_;clear h10
 refine gcd rfl (fun hb16 hp16=> ?_) fun hb16 hp16=> ?_
 ·skip
  refine sG (ofB fl_49_0 rfl<|olB 1 ti_3 rfl rfl<|ofB fl_49_0 rfl<|olB 0 ti_3 rfl rfl<|oltI _ _ rfl<|oM 1 rfl<|.nl)<|gR<|uT<|fun a18 w18 h18=>x_ret1 (fn:=Try.f72) (t:=4) rfl h18 rfl<|⟨?_,(h18.sh.sel [] rfl)⟩
  congr 1
  unfold aheadB OutL.out
  first|(rw [if_neg (by assumption)];done)|(rw [if_pos (by omega),if_neg (by assumption)];done)|(rw [if_pos (by omega),if_pos (by assumption)];done)|(simp only [];rw [if_neg (by assumption)];done)|(simp only [];rw [if_pos (by omega),if_neg (by assumption)];done)|(simp only [];rw [if_pos (by omega),if_pos (by assumption)])
 refine gS<|hK k14<|sK fun _ k19=>gRn (ofB fl_49_1 rfl<|olB 1 ti_23 rfl rfl<|ofB fl_49_1 rfl<|olB 0 ti_23 rfl rfl<|.nl)<|gP (fun _ _ h_=>xCl h_ bd_24 rfl (ints_c x.words y.words _ (h_.sh.at 2 rfl) (h_.sh.at 4 rfl))) rfl<|gRn (oM 1 rfl<|.nl)<|nK k19<|gK fun _ k21=>sG (oM 1 rfl<|ont rfl<|.nl)<|gCb rfl (fun hb23=> ?_) fun hb23=> ?_
 ·have hp23:¬(x.words.l=y.words.l):=by simpa using hb23
  refine sK fun _ k24=>gRn (ofB fl_49_1 rfl<|olB 1 ti_23 rfl rfl<|ofB fl_49_1 rfl<|olB 0 ti_23 rfl rfl<|.nl)<|gP (fun _ _ h_=>xCl h_ bd_94 rfl (less_c x.words y.words _ (h_.sh.at 2 rfl) (h_.sh.at 4 rfl))) rfl<|gRn (oM 1 rfl<|.nl)<|nK k24<|gR<|uT<|fun a26 w26 h26=>x_ret1 (fn:=Try.f72) (t:=4) rfl h26 rfl<|⟨?_,(h26.sh.sel [] rfl)⟩
  congr 1
  unfold aheadB OutL.out
  first|(rw [if_neg (by assumption)];done)|(rw [if_pos (by omega),if_neg (by assumption)];done)|(rw [if_pos (by omega),if_pos (by assumption)];done)|(simp only [];rw [if_neg (by assumption)];done)|(simp only [];rw [if_pos (by omega),if_neg (by assumption)];done)|(simp only [];rw [if_pos (by omega),if_pos (by assumption)])
 have hp23:x.words.l=y.words.l:=by simpa using hb23
 refine gS<|hK k21<|sK fun _ k27=>gRn (ofB fl_49_2 rfl<|olB 1 ti_23 rfl rfl<|ofB fl_49_2 rfl<|olB 0 ti_23 rfl rfl<|.nl)<|gP (fun _ _ h_=>xCl h_ bd_94 rfl (less_c x.prints y.prints _ (h_.sh.at 3 rfl) (h_.sh.at 5 rfl))) rfl<|gRn (oM 1 rfl<|.nl)<|nK k27<|gR<|fun a29 w29 h29=>x_ret1 (fn:=Try.f72) (t:=4) rfl h29 rfl<|⟨?_,(h29.sh.sel [] rfl)⟩
 congr 1
 unfold aheadB OutL.out
 first|(rw [if_neg (by assumption)];done)|(rw [if_pos (by omega),if_neg (by assumption)];done)|(rw [if_pos (by omega),if_pos (by assumption)];done)|(simp only [];rw [if_neg (by assumption)];done)|(simp only [];rw [if_pos (by omega),if_neg (by assumption)];done)|(simp only [];rw [if_pos (by omega),if_pos (by assumption)])
def LastSum (ks:List (List Int))(n h:Nat)(r:Int):Prop:=(r= -1∧∀j,j<n→sumL (nth ks j)≠h)∨∃k:Nat,r=k∧k<n∧sumL (nth ks k)=h∧∀j,k<j→j<n→sumL (nth ks j)≠h
theorem LastSum.lt {ks:List (List Int)}{n h:Nat}{r:Int}(hl:LastSum ks n h r): -1≤r∧r<n:=by
 rcases hl with ⟨h,_⟩|⟨k,h,h2,_⟩<;>omega
theorem LastSum.at {ks:List (List Int)}{n h:Nat}{r:Int}(hl:LastSum ks n h r)(h0:0≤r):sumL (nth ks r.toNat)=h∧∀j,r.toNat<j→j<n→sumL (nth ks j)≠h:=by
 rcases hl with ⟨h,_⟩|⟨k,rfl,h2,h3,h4⟩
 ·omega
 ·exact ⟨by simpa using h3,fun j hj=>h4 j (by simpa using hj)⟩
theorem LastSum.none {ks:List (List Int)}{n h:Nat}{r:Int}(hl:LastSum ks n h r)(h0:¬0≤r):∀j,j<n→sumL (nth ks j)≠h:=by
 rcases hl with ⟨_,h⟩|⟨k,rfl,_⟩
 ·exact h
 ·omega
structure HeadsOK (ks:List (List Int))(heads before:List Int):Prop where
 hl:heads.length=4096
 bl:before.length=ks.length
 hd:∀h,h<4096→LastSum ks ks.length h (nth heads h)
 bf:∀i,i<ks.length→LastSum ks i (sumL (nth ks i)) (nth before i)
theorem nth_app0 {α:Type}[Inhabited α](l m:List α)(k:Nat):nth (l++m) k=if k<l.length then nth l k else nth m (k-l.length):=by
 simp only [nth,List.getD]
 by_cases h:k<l.length
 ·rw [List.getElem?_append_left h,if_pos h]
 ·rw [List.getElem?_append_right (by omega),if_neg h]
theorem LastSum.more {ks:List (List Int)}{n h:Nat}{r:Int}(x:List Int)(hl:LastSum ks n h r)(hn:n≤ks.length):LastSum (ks++ [x]) n h r:=by
 have e:∀j,j<n→nth (ks++ [x]) j=nth ks j:=fun j hj=>by rw [nth_app0,if_pos (by omega)]
 rcases hl with ⟨h1,h2⟩|⟨k,h1,h2,h3,h4⟩
 ·exact .inl ⟨h1,fun j hj=>by rw [e j hj];exact h2 j hj⟩
 ·exact .inr ⟨k,h1,h2,by rw [e k h2];exact h3,fun j hj hj2=>by rw [e j hj2];exact h4 j hj hj2⟩
theorem HeadsOK.put {ks:List (List Int)}{heads before:List Int}(h:HeadsOK ks heads before)(x:List Int):HeadsOK (ks++ [x]) (heads.set (sumL x) ((ks.length:Nat):Int)) (before++ [nth heads (sumL x)]):=by
 have hx:nth (ks++ [x]) ks.length=x:=by rw [nth_app0,if_neg (by omega)];simp [nth]
 refine ⟨by simpa using h.hl,by simp [h.bl],fun s hs=> ?_,fun i hi=> ?_⟩
 ·rw [nth_set]
  by_cases e:sumL x=s
  ·rw [if_pos ⟨e,by rw [h.hl];exact sumL_lt x⟩]
   exact .inr ⟨ks.length,rfl,by simp,by rw [hx];exact e,fun j hj hj2=>by simp at hj2;omega⟩
  ·rw [if_neg (fun hh=>e hh.1)]
   rcases h.hd s hs with ⟨h1,h2⟩|⟨k,h1,h2,h3,h4⟩
   ·refine .inl ⟨h1,fun j hj=> ?_⟩
    simp at hj
    rcases Nat.lt_or_ge j ks.length with hlt|hge
    ·rw [nth_app0,if_pos hlt];exact h2 j hlt
    ·obtain rfl:j=ks.length:=by omega
     rw [hx];exact e
   ·refine .inr ⟨k,h1,by simp;omega,by rw [nth_app0,if_pos h2];exact h3,fun j hj hj2=> ?_⟩
    simp at hj2
    rcases Nat.lt_or_ge j ks.length with hlt|hge
    ·rw [nth_app0,if_pos hlt];exact h4 j hj hlt
    ·obtain rfl:j=ks.length:=by omega
     rw [hx];exact e
 ·simp at hi
  rcases Nat.lt_or_ge i ks.length with hlt|hge
  ·rw [nth_app0 ks,if_pos hlt,nth_app0 before,if_pos (by rw [h.bl];exact hlt)]
   exact (h.bf i hlt).more x (by omega)
  ·obtain rfl:i=ks.length:=by omega
   rw [hx,nth_app0 before,if_neg (by rw [h.bl];omega),h.bl]
   have:=(h.hd (sumL x) (sumL_lt x)).more x (Nat.le_refl _)
   simpa [nth] using this
def PutRel (o:OutL)(l l' :List OutL):Prop:=((∃i,i<l.length∧aheadB o.out (nth l i).out=false∧aheadB (nth l i).out o.out=false)∧l' =l)∨
 ∃k,k≤l.length∧(∀j,j<k→aheadB o.out (nth l j).out=false∧aheadB (nth l j).out o.out=true)∧(k<l.length→aheadB o.out (nth l k).out=true)∧l' =l.take k++o::l.drop k
def PutInv (o:OutL)(l:List OutL)(i:Nat)(dn:Bool)(ol:List OutL):Prop:=(dn=false∧ol=l.take i∧∀j,j<i→aheadB o.out (nth l j).out=false∧aheadB (nth l j).out o.out=true)∨
 (dn=true∧∃k,k<i∧k<l.length∧(∀j,j<k→aheadB o.out (nth l j).out=false∧aheadB (nth l j).out o.out=true)∧aheadB o.out (nth l k).out=true∧ol=l.take k++o::(l.drop k).take (i-k))
theorem PutInv.one {o:OutL}{l ol:List OutL}{i:Nat}(h:PutInv o l i false ol)(hi:i<l.length)(h1:aheadB o.out (nth l i).out=true):PutInv o l (i+1) true ((ol++ [o])++ [nth l i]):=by
 rcases h with ⟨_,h2,h3⟩|⟨h,_⟩
 ·refine .inr ⟨rfl,i,by omega,hi,h3,h1, ?_⟩
  have e1:(l.drop i).take 1= [nth l i]:=by rw [List.drop_eq_getElem_cons hi,nth_lt l i hi];rfl
  rw [h2,show i+1-i=1 by omega,e1]
  simp
 ·cases h
theorem PutInv.two {o:OutL}{l ol:List OutL}{i:Nat}{dn:Bool}(h:PutInv o l i dn ol)(hi:i<l.length)(h1:dn=true∨(aheadB o.out (nth l i).out=false∧aheadB (nth l i).out o.out=true)):PutInv o l (i+1) dn (ol++ [nth l i]):=by
 rcases h with ⟨h,h2,h3⟩|⟨h,k,h2,h3,h4,h5,h6⟩
 ·refine .inl ⟨h,by rw [h2,take_succ_nth _ _ hi],fun j hj=> ?_⟩
  rcases Nat.lt_or_ge j i with hlt|hge
  ·exact h3 j hlt
  ·obtain rfl:j=i:=by omega
   rcases h1 with h1|h1
   ·rw [h] at h1;cases h1
   ·exact h1
 ·refine .inr ⟨h,k,by omega,h3,h4,h5, ?_⟩
  rw [h6,show i+1-k=(i-k)+1 by omega,take_succ_nth _ _ (by simp;omega)]
  have:nth (l.drop k) (i-k)=nth l i:=by simp only [nth,List.getD,List.getElem?_drop,show k+(i-k)=i by omega]
  rw [this];simp
theorem PutInv.rel {o:OutL}{l ol:List OutL}{i:Nat}(h:PutInv o l i true ol)(hi:i=l.length):PutRel o l ol:=by
 rcases h with ⟨h,_⟩|⟨_,k,h2,h3,h4,h5,h6⟩
 ·cases h
 ·exact .inr ⟨k,by omega,h4,fun _=>h5,by rw [h6,List.take_of_length_le (l:=l.drop k) (by rw [List.length_drop];omega)]⟩
theorem PutInv.rel0 {o:OutL}{l ol:List OutL}{i:Nat}(h:PutInv o l i false ol)(hi:i=l.length):PutRel o l (ol++ [o]):=by
 rcases h with ⟨_,h2,h3⟩|⟨h,_⟩
 ·subst hi
  exact .inr ⟨l.length,Nat.le_refl _,h3,fun h=>absurd h (by omega),by rw [h2];simp⟩
 ·cases h
theorem PutInv.len {o:OutL}{l ol:List OutL}{i:Nat}{dn:Bool}(h:PutInv o l i dn ol)(hi:i≤l.length):ol.length≤i+1:=by
 rcases h with ⟨_,h2,_⟩|⟨_,k,h2,h3,_,_,h6⟩
 ·rw [h2];simp;omega
 ·rw [h6];simp;omega
def KeyRel (L:List Int)(x:SD)(states states' :List SD)(keys keys' :List (Ls Int))(heads before heads' before' :List Int)(full full' :Bool):Prop:=
 ((∃j,j<keys.length∧(nth keys j).l=L)∧states' =states∧keys'.map (·.l)=keys.map (·.l)∧HeadsOK (keys'.map (·.l)) heads' before' ∧full' =full)∨
 ((∀j,j<keys.length→(nth keys j).l≠L)∧states' =states++ [x]∧keys'.map (·.l)=keys.map (·.l)++ [L]∧HeadsOK (keys'.map (·.l)) heads' before' ∧full' =(full||decide (4000<states.length+1)))
theorem put_c (K:Nat→Prop)(gs:Nat)(x:SD)(states:Ls SD)(keys:Ls (Ls Int))(heads before:Ls Int)(ev:Value)(full:Bool)(cv pw:Value)(locks nregs mode:Int)(W:World)(hS:Sh K W W [.blk gs 44 [states.v,keys.v,heads.v,before.v,ev, .bool full], .own 92 states, .deep 23 keys, .own 3 heads, .own 3 before, .rd1 x])(hok:HeadsOK (keys.l.map (·.l)) heads.l before.l)(hlen:states.l.length=keys.l.length)(hkl:keys.l.length≤5000)(hhd:x.hd= [cv,pw, .int .i64 locks, .int .i64 nregs, .int .i64 mode])(hE:x.E=100)(hcl:x.thr.l.length≤4)(hrg:∀i,i<x.thr.l.length→(nth x.thr.l i).regs.l.length≤100000)(hwl:∀i,i<x.thr.l.length→(nth x.thr.l i).wait.l.length≤3)(hwn:x.words.l.length≤100000∧x.owner.l.length≤100000∧x.prints.l.length≤100000000):
    Rets Try.prog 45 [.pointer (some ⟨gs,0,none⟩), .pointer (some ⟨x.g,0,none⟩)] W (fun v w' =>v= .tuple #[]∧∃(states' :Ls SD) (keys' :Ls (Ls Int)) (heads' before' :Ls Int) (full' :Bool),KeyRel (numbersL (x.thr.l.map ThL.th) x.words.l x.owner.l x.prints.l) x states.l states'.l keys.l keys'.l heads.l before.l heads'.l before'.l full full' ∧Sh K W w' [.blk gs 44 [states'.v,keys'.v,heads'.v,before'.v,ev, .bool full'], .own 92 states', .deep 23 keys', .own 3 heads', .own 3 before', .rd1 x]):=by
 have hbl:before.l.length=keys.l.length:=by simpa using hok.bl
 have hhl:heads.l.length=4096:=hok.hl
 have hslt:=fun l=>sumL_lt l
 refine gen Try.func45 Try.ntmps45 hS rfl fun a10 h10=>gG h10<|sK fun _ k11=>gRn (oM 1 rfl<|.nl)<|fun a13 w13 h13=>wl_ex (x_call h13 bd_78 rfl rfl rfl rfl rfl (numbers_c x.g x.thr x.words x.owner x.prints _ _ _ _ _ _ _ (by have h9:=(show Enc.inner x _ from (h13.sh.ok _ (List.mem_of_getElem? (i:=5) rfl))).1;rw [hE,SD.cells,hhd] at h9;exact h9) (show Enc.inner x _ from (h13.sh.ok _ (List.mem_of_getElem? (i:=5) rfl))).2.1 (show Enc.inner x _ from (h13.sh.ok _ (List.mem_of_getElem? (i:=5) rfl))).2.2.1 (show Enc.inner x _ from (h13.sh.ok _ (List.mem_of_getElem? (i:=5) rfl))).2.2.2.1 (show Enc.inner x _ from (h13.sh.ok _ (List.mem_of_getElem? (i:=5) rfl))).2.2.2.2 hcl hrg hwl hwn)) (wanted_none rfl _) ?_;clear h10
 rintro a14 w14 ⟨_,⟨s14,rfl,hml14,hs14⟩,hf14⟩
 have hml:=hml14
 have h14:St _ K W a14 w14 _ _:=⟨hf14,h13.sh.callI hs14⟩
 clear hf14 hs14
 clear h13
 refine gG h14<|gRn (oM 1 rfl<|.nl)<|nK k11<|sK fun _ k15=>gRn (oM 1 rfl<|.nl)<|gP (fun _ _ h_=>xCl h_ bd_79 rfl (sum_c s14 _ (h_.sh.own 0 rfl))) rfl<|gRn (oM 1 rfl<|.nl)<|nK k15<|?_;clear h14
 have hsl:=sumL_lt s14.l
 refine gK fun _ k17=>sK fun _ k18=>gNl (aO 4 rfl) fun hl19=>gRn (oM 1 rfl<|onfl 1 fl_44_2 ti_23 rfl rfl<|oM 1 rfl<|oxN sl_23 ti_3 (aO 4 rfl) _ om9 rfl<|olI ti_3 (aO 4 rfl) om9 rfl<|oM 1 rfl<|.nl)<|nK k18<|gB<|fun a21 w21 h21=>x_loop (fun m a w=>∃(i:Int) (mm:Nat),(LastSum (keys.l.map (·.l)) mm (sumL s14.l) i)∧(mm≤keys.l.length)∧(∀j,mm≤j→j<keys.l.length→(nth keys.l j).l≠s14.l)∧St 100 K W a w [(0, .pointer (some ⟨gs,0,none⟩)),(1, .pointer (some ⟨x.g,0,none⟩)),(4,s14.v),(5, .int .i64 ((sumL s14.l:Nat):Int)),(6, .int .i64 i)] [.own 3 s14, .blk gs 44 [states.v,keys.v,heads.v,before.v,ev, .bool full], .own 92 states, .deep 23 keys, .own 3 heads, .own 3 before, .rd1 x]∧m=(i+1).toNat) ⟨_,_,keys.l.length,(by have:=hok.hd _ (sumL_lt s14.l);simpa using this),(Nat.le_refl _),(fun j hj hj2=>absurd hj2 (by omega)),h21.nf ⟨rfl,rfl,rfl,rfl,rfl,trivial⟩,rfl⟩ ?_
 clear h21
 rintro m20 a20 w20 ⟨i,mm,hls,hm,hno,h20,hm20⟩
 have hlt:=hls.lt
 refine gG h20<|gK fun _ k22=>sG (oM 1 rfl<|ogeI _ _ rfl<|.nl)<|?_;clear h20
 refine gcd rfl (fun hb24 hp24=> ?_) fun hb24 hp24=> ?_
 ·skip
  refine gS<|hK k22<|gK fun _ k25=>gB<|sK fun _ k26=>gNl (aD 3 rfl) fun hl27=>gRn (oM 1 rfl<|onfl 1 fl_44_1 ti_26 rfl rfl<|oM 1 rfl<|oxI sl_26 ti_23 (aD 3 rfl) om9 rfl<|olE ((nth keys.l i.toNat).v) ti_23 (aD 3 rfl) om9 rfl<|oM 1 rfl<|.nl)<|gP (fun _ _ h_=>xCl h_ bd_24 rfl (ints_c (nth keys.l i.toNat) s14 _ ((h_.sh.deep 3 rfl).nth i.toNat (show i.toNat<keys.l.length from (by omega))) (h_.sh.own 0 rfl))) rfl<|gRn (oM 1 rfl<|.nl)<|nK k26<|sG (oM 1 rfl<|.nl)<|gcd rfl (fun hb30 hp30=> ?_) fun hb30 hp30=> ?_
  ·skip
   refine gR<|uB<|uT<|uT<|uB<|uT<|fun a31 w31 h31=>x_ret0 (fn:=Try.f45) rfl h31<|⟨rfl,states,keys,heads,before,full, ?_,(h31.sh.sel [1,2,3,4,5,6] rfl)⟩
   exact .inl ⟨⟨i.toNat,by omega,by rw [←hml];assumption⟩,rfl,rfl,hok,rfl⟩
  refine gS<|hK k25<|gL<|gNl (aO 5 rfl) fun hl32=>gRn (oM 1 rfl<|onfl 1 fl_44_3 ti_23 rfl rfl<|oM 1 rfl<|oxI sl_23 ti_3 (aO 5 rfl) om9 rfl<|olI ti_3 (aO 5 rfl) om9 rfl<|oM 1 rfl<|.nl)<|nN<|fun a33 w33 h33=>x_again ⟨_, ?_,_,i.toNat, ?_, ?_, ?_,h33.nf ⟨rfl,rfl,rfl,rfl,rfl,trivial⟩,rfl⟩
  · rw [hm20];have h9:=(hok.bf i.toNat (by simp;omega)).lt;omega
  · have h9:=hok.bf i.toNat (by simp;omega);rw [(hls.at (by omega)).1] at h9;exact h9
  · omega
  · intro j hj hj2;rcases Nat.lt_or_ge j mm with h9|h9;(rcases Nat.lt_or_ge i.toNat j with h8|h8;(intro e9;have h7:=(hls.at (by omega)).2 j h8 h9;rw [nth_map' _ _ _ hj2,e9] at h7;exact h7 rfl);(obtain rfl:j=i.toNat:=(by omega);assumption));exact hno j h9 hj2
 refine gX<|hK k17<|gK fun _ k34=>rC [12,13,16] rfl<|pR [0,1,2,3,4,5,6,7,8,9,10,11] rfl (oM 2 rfl<|onfl 1 fl_44_3 ti_23 rfl rfl<|oM 1 rfl<|onfl 1 fl_44_2 ti_23 rfl rfl<|oM 1 rfl<|oxN sl_23 ti_3 (aO 4 rfl) _ om9 rfl<|olI ti_3 (aO 4 rfl) om9 rfl<|.nl) rfl<|pX (fun _ _ h_=>x_lit (n:=1) (cs:= [.int .i64 (nth heads.l (sumL s14.l))]) ([nth heads.l (sumL s14.l)]:List Int) h_ sl_23 ti_3 rfl rfl rfl (by decide) rfl (by kernel_rfl) rfl (fun q hq w h=>Flat.inner _ _) (fun q hq b hb=>(Flat.on _ _ hb).elim) rfl rfl) rfl fun v35=>pR [0,1,2,3,4] rfl (oM 2 rfl<|onfl 2 fl_44_3 ti_23 rfl rfl<|.nl) rfl<|pX (fun _ _ h_=>x_app (r:=6) (rm:=0) (s:=before) (m:=(⟨v35, [nth heads.l (sumL s14.l)]⟩:Ls Int)) h_ sl_23 ti_3 rfl rfl rfl rfl rfl rfl rfl (fun w h=>(h.own 0 rfl)) (fun b hb=>own_on (h_.sh.ok _ (List.mem_of_getElem? (i:=0) rfl)) hb) (fun q hq b hb=>⟨q,hq,hb⟩) rfl rfl rfl inferInstance (show (before.l.length+([nth heads.l (sumL s14.l)]).length)*8≤140737488355328∧before.l.length+([nth heads.l (sumL s14.l)]).length≤140737488355328 from om9) rfl rfl) rfl fun v36=>pR [0,14,15] rfl (oM 1 rfl<|onf fl_44_3 rfl<|.nl) rfl<|pS (fun _ _ h_=>x_stb (i:=2) (vs:= [v36]) (cs' := [states.v,keys.v,heads.v,v36,ev, .bool full]) h_ ti_23 rfl rfl rfl rfl rfl (cells_oneL ((h_.sh.own 6 rfl)).one) rfl (allOne_cons ((h_.sh.own 6 rfl)).one allOne_nil) (Nat.le_of_ble_eq_true rfl) rfl) rfl<|pE [] rfl (.nl) rfl<|hK k34<|gK fun _ k38=>gNl (aO 3 rfl) fun hl39=>rT 11 [] (oM 1 rfl<|onfl 2 fl_44_2 ti_23 rfl rfl<|oM 2 rfl<|onfl 2 fl_44_0 ti_41 rfl rfl<|oln sl_41 (aO 3 rfl) rfl<|oxN sl_23 ti_3 (aO 5 rfl) _ om9 rfl<|.nl)<|gte 5 (((states.l.length:Nat):Int):Int) ti_3 om9 rfl rfl<|nK k38<|gF [0,1,4] rfl<|sK fun _ k41=>gRn (oM 2 rfl<|onfl 2 fl_44_0 ti_41 rfl rfl<|oM 1 rfl<|.nl)<|gE1 (fun _ _ h_=>x_lit (n:=1) (cs:= [.pointer (some ⟨x.g,0,none⟩)]) ([x]:List SD) h_ sl_41 ti_92 rfl rfl rfl (by decide) rfl (by kernel_rfl) rfl (fun q hq w h=>by obtain rfl:q=0:=(by simpa using hq);exact h.ok _ (List.mem_of_getElem? (i:=7) rfl)) (fun q hq b hb=>by obtain rfl:q=0:=(by simpa using hq);exact ⟨_,List.mem_of_getElem? (i:=7) rfl,hb⟩) rfl rfl) rfl fun v42=>gE1 (fun _ _ h_=>x_app (r:=4) (rm:=0) (s:=states) (m:=(⟨v42, [x]⟩:Ls SD)) h_ sl_41 ti_92 rfl rfl rfl rfl rfl rfl rfl (fun w h=>(h.own 0 rfl)) (fun b hb=>own_on (h_.sh.ok _ (List.mem_of_getElem? (i:=0) rfl)) hb) (fun q hq b hb=>⟨q,hq,hb⟩) rfl rfl rfl inferInstance (show (states.l.length+([x]).length)*8≤140737488355328∧states.l.length+([x]).length≤140737488355328 from om9) rfl rfl) rfl fun v43=>gRn (onf fl_44_0 rfl<|.nl)<|gsr 3 ti_41 rfl (aO 4 rfl) rfl<|nK k41<|sK fun _ k45=>gRn (oM 2 rfl<|onfl 3 fl_44_1 ti_26 rfl rfl<|oM 1 rfl<|.nl)<|gO [2,0,1,3,4,5,6,7,8] rfl<|gE1 (fun _ _ h_=>x_litD (E:=0) (x:=s14) h_ sl_26 ti_23 rfl rfl rfl ((h_.sh.own 0 rfl)) (fun b hb=>(own_on (h_.sh.ok _ (List.mem_of_getElem? (i:=0) rfl)) hb).elim (fun h=>h) (fun h=>Flat.noRd h)) (fun b hb=>Flat.noRd hb) rfl rfl) rfl fun v47=>gO [5,0,1,2,3,4,6,7,8] rfl<|gE1 (fun _ _ h_=>x_appD (s:=keys) (m:=(⟨v47, [s14]⟩:Ls (Ls Int))) h_ sl_26 ti_23 rfl rfl rfl rfl rfl rfl rfl inferInstance (show (keys.l.length+([s14]).length)*24≤140737488355328∧keys.l.length+([s14]).length≤140737488355328 from om9) rfl rfl) rfl fun v49=>gRn (onf fl_44_1 rfl<|.nl)<|gsr 3 ti_26 rfl (aD 0 rfl) rfl<|nK k45<|gL<|gRn (oM 2 rfl<|onfl 3 fl_44_5 ti_4 rfl rfl<|oM 1 rfl<|.nl)<|?_
 rcases Bool.eq_false_or_eq_true full with hb51|hb51
 ·skip
  refine gRn (oKs 6 hb51 rfl rfl<|opT hb51 rfl<|onf fl_44_5 rfl<|.nl)<|gst (v:= .bool true) 3 ti_4 rfl rfl rfl<|nN<|fun a53 w53 h53=> ?_
  try simp only [Exit.then,Exit.inBlock,if_true]
  refine x_end0 (fn:=Try.f45) rfl h53<|⟨rfl,⟨v43,states.l++([x])⟩,⟨v49,keys.l++([s14])⟩,⟨heads.v,heads.l.set (sumL s14.l) ((states.l.length:Nat):Int)⟩,⟨v36,before.l++([nth heads.l (sumL s14.l)])⟩,true, ?_,(h53.sh.sel [3,4,0,5,6,7] rfl)⟩
  refine .inr ⟨fun j hj=> ?_,rfl, ?_, ?_, ?_⟩
  · rw [←hml];rcases Nat.lt_or_ge j mm with h9|h9;(intro e9;have h8:=hls.none (by omega) j h9;rw [nth_map' _ _ _ hj,e9] at h8;exact h8 rfl);exact hno j h9 hj
  · rw [List.map_append,←hml];rfl
  · have h9:=hok.put s14.l;rw [List.length_map,←hlen] at h9;rw [List.map_append];exact h9
  · first|rfl|(rw [show full=true by assumption];rfl)|(rw [show full=false by assumption];simp)
 refine gRn (oG hb51 (r_move rfl rfl) rfl<|oG hb51 (r_nil rfl rfl) rfl<|oG hb51 (r_fieldB (r:=0) fl_44_0 rfl rfl rfl) rfl<|oG hb51 (r_ldb (i:=3) ti_41 rfl rfl rfl rfl) rfl<|oG hb51 (r_len (s:=(⟨v43,states.l++([x])⟩:Ls SD)) (n:=(states.l++([x])).length) sl_41 rfl rfl (fun w h=>(h.own 4 rfl)) rfl) rfl<|oG hb51 (r_gtrN (p:=(states.l++([x])).length) (q:=4000) rfl rfl rfl) rfl<|opF hb51 rfl<|onf fl_44_5 rfl<|.nl)<|gst 3 ti_4 rfl rfl rfl<|nN<|fun a55 w55 h55=> ?_
 try simp only [Exit.then,Exit.inBlock,if_true]
 refine x_end0 (fn:=Try.f45) rfl h55<|⟨rfl,⟨v43,states.l++([x])⟩,⟨v49,keys.l++([s14])⟩,⟨heads.v,heads.l.set (sumL s14.l) ((states.l.length:Nat):Int)⟩,⟨v36,before.l++([nth heads.l (sumL s14.l)])⟩,decide (4000<(states.l++([x])).length), ?_,(h55.sh.sel [3,4,0,5,6,7] rfl)⟩
 refine .inr ⟨fun j hj=> ?_,rfl, ?_, ?_, ?_⟩
 · rw [←hml];rcases Nat.lt_or_ge j mm with h9|h9;(intro e9;have h8:=hls.none (by omega) j h9;rw [nth_map' _ _ _ hj,e9] at h8;exact h8 rfl);exact hno j h9 hj
 · rw [List.map_append,←hml];rfl
 · have h9:=hok.put s14.l;rw [List.length_map,←hlen] at h9;rw [List.map_append];exact h9
 · first|rfl|(rw [show full=true by assumption];rfl)|(rw [show full=false by assumption];simp)
theorem putO_c (K:Nat→Prop)(gs:Nat)(o:OutL)(ends:Ls OutL)(sv kv hv bv:Value)(full:Bool)(W:World)(hS:Sh K W W [.blk gs 44 [sv,kv,hv,bv,ends.v, .bool full], .own 49 ends, .at_ o.words, .at_ o.prints])(hel:ends.l.length≤100000000):
    Rets Try.prog 48 [.pointer (some ⟨gs,0,none⟩), .agg #[.int .i64 o.st,o.words.v,o.prints.v]] W (fun v w' =>v= .tuple #[]∧∃ends' :Ls OutL,PutRel o ends.l ends'.l∧Sh K W w' [.blk gs 44 [sv,kv,hv,bv,ends'.v, .bool full], .own 49 ends', .at_ o.words, .at_ o.prints]):=by
 refine gen Try.func48 Try.ntmps48 hS rfl fun a10 h10=>gG h10<|sK fun _ k11=>gbx rfl rfl fun b12=>nK k11<|sG (oM 1 rfl<|.nl)<|sG (oM 1 rfl<|.nl)<|gK fun _ k15=>sG (oM 1 rfl<|.nl)<|gB<|fun a19 w19 h19=> ?_;clear h10
 have h18:=h19.nil (α:=OutL) 49
 clear h19
 refine x_loop (fun m a w=>∃(i:Nat) (dn:Bool) (ol:List OutL) (vo:Value),(i≤ends.l.length)∧(PutInv o ends.l i dn ol)∧St 71 K W a w [(0, .pointer (some ⟨gs,0,none⟩)),(3, .pointer (some ⟨b12,0,none⟩)),(4,vo),(5, .bool dn),(6, .int .i64 ((i:Nat):Int))] [.blk b12 49 [.int .i64 o.st,o.words.v,o.prints.v], .blk gs 44 [sv,kv,hv,bv,ends.v, .bool full], .own 49 ends, .at_ o.words, .at_ o.prints, .own 49 (⟨vo,ol⟩:Ls OutL)]∧m=ends.l.length-i) ⟨_,0,false, [],_,(by omega),(.inl ⟨rfl,rfl,fun j hj=>absurd hj (by omega)⟩),h18.nrm ⟨rfl,rfl,rfl,rfl,rfl,trivial⟩ [1,2,3,4,5,0] rfl,rfl⟩ ?_
 clear h18
 rintro m17 a17 w17 ⟨i,dn,ol,vo,hi,hinv,h17,hm17⟩
 have hol:=hinv.len (by omega)
 refine gG h17<|gK fun _ k20=>sK fun _ k21=>gNl (aO 2 rfl) fun hl22=>gRn (oM 2 rfl<|onfl 1 fl_44_4 ti_42 rfl rfl<|oln sl_42 (aO 2 rfl) rfl<|oltN _ _ rfl<|.nl)<|nK k21<|?_;clear h17
 refine gcd rfl (fun hb23 hp23=> ?_) fun hb23 hp23=> ?_
 ·skip
  refine gS<|hK k20<|gK fun _ k24=>gB<|gK fun _ k25=>fun a26 w26 h26=>x_quiet (by kernel_rfl) (by kernel_rfl) h26 fun _ z27=>qQ h26.fr<|qRn (olw 0 ti_49 rfl rfl<|oM 1 rfl<|onfl 1 fl_44_4 ti_42 rfl rfl<|oM 1 rfl<|oxN sl_42 ti_49 (aO 2 rfl) _ om9 rfl<|olw2 [.int .i64 ((nth ends.l i).st),((nth ends.l i).words).v,((nth ends.l i).prints).v] ti_49 (aO 2 rfl) om9 rfl<|.nl)<|qP bd_72 rfl (fun w h=>(ahead_c o (nth ends.l i) _ (h.at 3 rfl) (h.at 4 rfl) ((h.own 2 rfl).inner i (show i<ends.l.length from (by omega))).1 ((h.own 2 rfl).inner i (show i<ends.l.length from (by omega))).2))<|qRn (oM 1 rfl<|.nl)<|qN z27<|hK k25<|gK fun _ k28=>fun a29 w29 h29=>x_quiet (by kernel_rfl) (by kernel_rfl) h29 fun _ z30=>qQ h29.fr<|qRn (oM 1 rfl<|onfl 1 fl_44_4 ti_42 rfl rfl<|oM 1 rfl<|oxN sl_42 ti_49 (aO 2 rfl) _ om9 rfl<|olw2 [.int .i64 ((nth ends.l i).st),((nth ends.l i).words).v,((nth ends.l i).prints).v] ti_49 (aO 2 rfl) om9 rfl<|olw 0 ti_49 rfl rfl<|.nl)<|qP bd_72 rfl (fun w h=>(ahead_c (nth ends.l i) o _ ((h.own 2 rfl).inner i (show i<ends.l.length from (by omega))).1 ((h.own 2 rfl).inner i (show i<ends.l.length from (by omega))).2 (h.at 3 rfl) (h.at 4 rfl)))<|qRn (oM 1 rfl<|.nl)<|qN z30<|hK k28<|gF [0,3,4,5,6,7,8] rfl<|gK fun _ k31=>sK fun _ k32=>gRn (oM 1 rfl<|ont rfl<|oM 1 rfl<|.nl)<|?_;clear h26 h29
  rcases Bool.eq_false_or_eq_true (!(aheadB (OutL.out o) (OutL.out (nth ends.l i)))) with hb33|hb33
  ·have hn33:aheadB (OutL.out o) (OutL.out (nth ends.l i))=false:=(Bool.not_eq_true' _).mp hb33
   refine gRn (oG hb33 (r_move rfl rfl) rfl<|oG hb33 (r_not rfl rfl) rfl<|opT hb33 rfl<|.nl)<|nK k32<|gCb rfl (fun hb34=> ?_) fun hb34=> ?_
   ·have hn34:aheadB (OutL.out (nth ends.l i)) (OutL.out o)=false:=(Bool.not_eq_true' _).mp hb34
    refine gR<|uT<|uB<|uT<|uT<|uB<|uT<|fun a35 w35 h35=>x_ret0 (fn:=Try.f48) rfl h35<|⟨rfl,ends, ?_,(h35.sh.sel [1,2,3,4] rfl)⟩
    first|exact .inl ⟨⟨i,by omega,by assumption,by assumption⟩,rfl⟩|exact PutInv.rel (by first|exact hinv|(rw [show dn=true by assumption] at hinv;exact hinv)) (by omega)|exact PutInv.rel0 (by first|exact hinv|(rw [show dn=false by assumption] at hinv;exact hinv)) (by omega)
   have hn34:aheadB (OutL.out (nth ends.l i)) (OutL.out o)=true:=(Bool.not_eq_false' _).mp hb34
   refine gS<|hK k31<|gK fun _ k36=>sG (oM 2 rfl<|oKs 2 hn33 rfl rfl<|opF hn33 rfl<|.nl)<|gcF rfl rfl<|gS<|hK k36<|gL<|gRn (oM 2 rfl<|onfl 1 fl_44_4 ti_42 rfl rfl<|oM 1 rfl<|oxN sl_42 ti_49 (aO 2 rfl) _ om9 rfl<|olw2 [.int .i64 ((nth ends.l i).st),((nth ends.l i).words).v,((nth ends.l i).prints).v] ti_49 (aO 2 rfl) om9 rfl<|.nl)<|gE1 (fun _ _ h_=>x_lit (n:=1) (cs:= [.int .i64 ((nth ends.l i).st),((nth ends.l i).words).v,((nth ends.l i).prints).v]) ([nth ends.l i]:List OutL) h_ sl_42 ti_49 rfl rfl rfl (by decide) rfl (by kernel_rfl) rfl (fun q hq w h=>by obtain rfl:q=0:=(by simpa using hq);exact ⟨((h.own 2 rfl).inner i (show i<ends.l.length from om9)).1,((h.own 2 rfl).inner i (show i<ends.l.length from om9)).2⟩) (fun q hq b hb=>by obtain rfl:q=0:=(by simpa using hq);rcases hb with hb|hb;exact ⟨_,List.mem_of_getElem? (i:=2) rfl,i,(show i<ends.l.length from om9), .inl hb⟩;exact ⟨_,List.mem_of_getElem? (i:=2) rfl,i,(show i<ends.l.length from om9), .inr hb⟩) rfl rfl) rfl fun v38=>gE1 (fun _ _ h_=>x_app (r:=6) (rm:=0) (s:=(⟨vo,ol⟩:Ls OutL)) (m:=(⟨v38, [nth ends.l i]⟩:Ls OutL)) h_ sl_42 ti_49 rfl rfl rfl rfl rfl rfl rfl (fun w h=>(h.own 0 rfl)) (fun b hb=>own_on (h_.sh.ok _ (List.mem_of_getElem? (i:=0) rfl)) hb) (fun q hq b hb=>⟨q,hq,hb⟩) rfl rfl rfl inferInstance (show (ol.length+([nth ends.l i]).length)*56≤140737488355328∧ol.length+([nth ends.l i]).length≤140737488355328 from om9) rfl rfl) rfl fun v39=>gRn (oM 1 rfl<|.nl)<|nK k24<|gF [0,3,4,5,6] rfl<|gL<|gRn (oM 1 rfl<|oadN _ 1 om9 rfl<|oM 1 rfl<|.nl)<|nN<|fun a40 w40 h40=>x_again ⟨_, ?_,i+1,dn,ol++([nth ends.l i]),v39, ?_, ?_,h40.nrm ⟨rfl,rfl,rfl,rfl,rfl,trivial⟩ [1,2,3,4,5,6] rfl,rfl⟩
   · rw [hm17];first|omega|(simp only [lens9];omega)
   · omega
   · first|exact PutInv.one hinv (by omega) (by assumption)|exact PutInv.two hinv (by omega) (.inl (by assumption))|exact PutInv.two hinv (by omega) (.inr ⟨by assumption,by assumption⟩)|(subst_vars;first|exact PutInv.one hinv (by omega) (by assumption)|exact PutInv.two hinv (by omega) (.inl rfl)|exact PutInv.two hinv (by omega) (.inr ⟨by assumption,by assumption⟩))
  have hn33:aheadB (OutL.out o) (OutL.out (nth ends.l i))=true:=(Bool.not_eq_false' _).mp hb33
  refine gRn (oKs 2 hb33 rfl rfl<|opF hb33 rfl<|.nl)<|nK k32<|gcF rfl rfl<|gS<|hK k31<|gK fun _ k41=>sG (oM 2 rfl<|oG hn33 (r_move rfl rfl) rfl<|oG hn33 (r_not rfl rfl) rfl<|opT hn33 rfl<|.nl)<|gCb rfl (fun hb43=> ?_) fun hb43=> ?_
  ·have hn43:dn=false:=(Bool.not_eq_true' _).mp hb43
   refine sK fun _ k44=>gRn (oM 1 rfl<|olw 0 ti_49 rfl rfl<|.nl)<|gE1 (fun _ _ h_=>x_lit (n:=1) (cs:= [.int .i64 o.st,o.words.v,o.prints.v]) ([o]:List OutL) h_ sl_42 ti_49 rfl rfl rfl (by decide) rfl (by kernel_rfl) rfl (fun q hq w h=>by obtain rfl:q=0:=(by simpa using hq);exact ⟨(h.at 3 rfl),(h.at 4 rfl)⟩) (fun q hq b hb=>by obtain rfl:q=0:=(by simpa using hq);rcases hb with hb|hb;exact ⟨_,List.mem_of_getElem? (i:=3) rfl,hb⟩;exact ⟨_,List.mem_of_getElem? (i:=4) rfl,hb⟩) rfl rfl) rfl fun v45=>gE1 (fun _ _ h_=>x_app (r:=6) (rm:=0) (s:=(⟨vo,ol⟩:Ls OutL)) (m:=(⟨v45, [o]⟩:Ls OutL)) h_ sl_42 ti_49 rfl rfl rfl rfl rfl rfl rfl (fun w h=>(h.own 0 rfl)) (fun b hb=>own_on (h_.sh.ok _ (List.mem_of_getElem? (i:=0) rfl)) hb) (fun q hq b hb=>⟨q,hq,hb⟩) rfl rfl rfl inferInstance (show (ol.length+([o]).length)*56≤140737488355328∧ol.length+([o]).length≤140737488355328 from om9) rfl rfl) rfl fun v46=>gRn (oM 1 rfl<|.nl)<|nK k44<|gL<|gRn (oM 1 rfl<|.nl)<|nK k41<|gL<|gRn (oM 2 rfl<|onfl 2 fl_44_4 ti_42 rfl rfl<|oM 1 rfl<|oxN sl_42 ti_49 (aO 3 rfl) _ om9 rfl<|olw2 [.int .i64 ((nth ends.l i).st),((nth ends.l i).words).v,((nth ends.l i).prints).v] ti_49 (aO 3 rfl) om9 rfl<|.nl)<|gE1 (fun _ _ h_=>x_lit (n:=1) (cs:= [.int .i64 ((nth ends.l i).st),((nth ends.l i).words).v,((nth ends.l i).prints).v]) ([nth ends.l i]:List OutL) h_ sl_42 ti_49 rfl rfl rfl (by decide) rfl (by kernel_rfl) rfl (fun q hq w h=>by obtain rfl:q=0:=(by simpa using hq);exact ⟨((h.own 3 rfl).inner i (show i<ends.l.length from om9)).1,((h.own 3 rfl).inner i (show i<ends.l.length from om9)).2⟩) (fun q hq b hb=>by obtain rfl:q=0:=(by simpa using hq);rcases hb with hb|hb;exact ⟨_,List.mem_of_getElem? (i:=3) rfl,i,(show i<ends.l.length from om9), .inl hb⟩;exact ⟨_,List.mem_of_getElem? (i:=3) rfl,i,(show i<ends.l.length from om9), .inr hb⟩) rfl rfl) rfl fun v47=>gE1 (fun _ _ h_=>x_app (r:=7) (rm:=0) (s:=(⟨v46,ol++([o])⟩:Ls OutL)) (m:=(⟨v47, [nth ends.l i]⟩:Ls OutL)) h_ sl_42 ti_49 rfl rfl rfl rfl rfl rfl rfl (fun w h=>(h.own 0 rfl)) (fun b hb=>own_on (h_.sh.ok _ (List.mem_of_getElem? (i:=0) rfl)) hb) (fun q hq b hb=>⟨q,hq,hb⟩) rfl rfl rfl inferInstance (show ((ol++([o])).length+([nth ends.l i]).length)*56≤140737488355328∧(ol++([o])).length+([nth ends.l i]).length≤140737488355328 from om9) rfl rfl) rfl fun v48=>gRn (oM 1 rfl<|.nl)<|nK k24<|gF [0,3,4,5,6] rfl<|gL<|gRn (oM 1 rfl<|oadN _ 1 om9 rfl<|oM 1 rfl<|.nl)<|nN<|fun a49 w49 h49=>x_again ⟨_, ?_,i+1,true,(ol++([o]))++([nth ends.l i]),v48, ?_, ?_,h49.nrm ⟨rfl,rfl,rfl,rfl,rfl,trivial⟩ [2,3,4,5,6,7] rfl,rfl⟩
   · rw [hm17];first|omega|(simp only [lens9];omega)
   · omega
   · first|exact PutInv.one hinv (by omega) (by assumption)|exact PutInv.two hinv (by omega) (.inl (by assumption))|exact PutInv.two hinv (by omega) (.inr ⟨by assumption,by assumption⟩)|(subst_vars;first|exact PutInv.one hinv (by omega) (by assumption)|exact PutInv.two hinv (by omega) (.inl rfl)|exact PutInv.two hinv (by omega) (.inr ⟨by assumption,by assumption⟩))
  have hn43:dn=true:=(Bool.not_eq_false' _).mp hb43
  refine gS<|hK k41<|gL<|gRn (oM 2 rfl<|onfl 1 fl_44_4 ti_42 rfl rfl<|oM 1 rfl<|oxN sl_42 ti_49 (aO 2 rfl) _ om9 rfl<|olw2 [.int .i64 ((nth ends.l i).st),((nth ends.l i).words).v,((nth ends.l i).prints).v] ti_49 (aO 2 rfl) om9 rfl<|.nl)<|gE1 (fun _ _ h_=>x_lit (n:=1) (cs:= [.int .i64 ((nth ends.l i).st),((nth ends.l i).words).v,((nth ends.l i).prints).v]) ([nth ends.l i]:List OutL) h_ sl_42 ti_49 rfl rfl rfl (by decide) rfl (by kernel_rfl) rfl (fun q hq w h=>by obtain rfl:q=0:=(by simpa using hq);exact ⟨((h.own 2 rfl).inner i (show i<ends.l.length from om9)).1,((h.own 2 rfl).inner i (show i<ends.l.length from om9)).2⟩) (fun q hq b hb=>by obtain rfl:q=0:=(by simpa using hq);rcases hb with hb|hb;exact ⟨_,List.mem_of_getElem? (i:=2) rfl,i,(show i<ends.l.length from om9), .inl hb⟩;exact ⟨_,List.mem_of_getElem? (i:=2) rfl,i,(show i<ends.l.length from om9), .inr hb⟩) rfl rfl) rfl fun v50=>gE1 (fun _ _ h_=>x_app (r:=6) (rm:=0) (s:=(⟨vo,ol⟩:Ls OutL)) (m:=(⟨v50, [nth ends.l i]⟩:Ls OutL)) h_ sl_42 ti_49 rfl rfl rfl rfl rfl rfl rfl (fun w h=>(h.own 0 rfl)) (fun b hb=>own_on (h_.sh.ok _ (List.mem_of_getElem? (i:=0) rfl)) hb) (fun q hq b hb=>⟨q,hq,hb⟩) rfl rfl rfl inferInstance (show (ol.length+([nth ends.l i]).length)*56≤140737488355328∧ol.length+([nth ends.l i]).length≤140737488355328 from om9) rfl rfl) rfl fun v51=>gRn (oM 1 rfl<|.nl)<|nK k24<|gF [0,3,4,5,6] rfl<|gL<|gRn (oM 1 rfl<|oadN _ 1 om9 rfl<|oM 1 rfl<|.nl)<|nN<|fun a52 w52 h52=>x_again ⟨_, ?_,i+1,dn,ol++([nth ends.l i]),v51, ?_, ?_,h52.nrm ⟨rfl,rfl,rfl,rfl,rfl,trivial⟩ [1,2,3,4,5,6] rfl,rfl⟩
  · rw [hm17];first|omega|(simp only [lens9];omega)
  · omega
  · first|exact PutInv.one hinv (by omega) (by assumption)|exact PutInv.two hinv (by omega) (.inl (by assumption))|exact PutInv.two hinv (by omega) (.inr ⟨by assumption,by assumption⟩)|(subst_vars;first|exact PutInv.one hinv (by omega) (by assumption)|exact PutInv.two hinv (by omega) (.inl rfl)|exact PutInv.two hinv (by omega) (.inr ⟨by assumption,by assumption⟩))
 refine gX<|hK k15<|gK fun _ k53=>sG (oM 1 rfl<|ont rfl<|.nl)<|gCb rfl (fun hb55=> ?_) fun hb55=> ?_
 ·have hn55:dn=false:=(Bool.not_eq_true' _).mp hb55
  refine gL<|gRn (oM 1 rfl<|olw 0 ti_49 rfl rfl<|.nl)<|gE1 (fun _ _ h_=>x_lit (n:=1) (cs:= [.int .i64 o.st,o.words.v,o.prints.v]) ([o]:List OutL) h_ sl_42 ti_49 rfl rfl rfl (by decide) rfl (by kernel_rfl) rfl (fun q hq w h=>by obtain rfl:q=0:=(by simpa using hq);exact ⟨(h.at 3 rfl),(h.at 4 rfl)⟩) (fun q hq b hb=>by obtain rfl:q=0:=(by simpa using hq);rcases hb with hb|hb;exact ⟨_,List.mem_of_getElem? (i:=3) rfl,hb⟩;exact ⟨_,List.mem_of_getElem? (i:=4) rfl,hb⟩) rfl rfl) rfl fun v56=>gE1 (fun _ _ h_=>x_app (r:=6) (rm:=0) (s:=(⟨vo,ol⟩:Ls OutL)) (m:=(⟨v56, [o]⟩:Ls OutL)) h_ sl_42 ti_49 rfl rfl rfl rfl rfl rfl rfl (fun w h=>(h.own 0 rfl)) (fun b hb=>own_on (h_.sh.ok _ (List.mem_of_getElem? (i:=0) rfl)) hb) (fun q hq b hb=>⟨q,hq,hb⟩) rfl rfl rfl inferInstance (show (ol.length+([o]).length)*56≤140737488355328∧ol.length+([o]).length≤140737488355328 from om9) rfl rfl) rfl fun v57=>gRn (oM 1 rfl<|.nl)<|nK k53<|gL<|gRn (oM 2 rfl<|onf fl_44_4 rfl<|.nl)<|gsr 2 ti_42 rfl (aO 6 rfl) rfl<|nN<|fun a59 w59 h59=> ?_
  try simp only [Exit.then,Exit.inBlock,if_true]
  refine x_end0 (fn:=Try.f48) rfl h59<|⟨rfl,⟨v57,ol++([o])⟩, ?_,(h59.sh.sel [2,6,4,5] rfl)⟩
  first|exact .inl ⟨⟨i,by omega,by assumption,by assumption⟩,rfl⟩|exact PutInv.rel (by first|exact hinv|(rw [show dn=true by assumption] at hinv;exact hinv)) (by omega)|exact PutInv.rel0 (by first|exact hinv|(rw [show dn=false by assumption] at hinv;exact hinv)) (by omega)
 have hn55:dn=true:=(Bool.not_eq_false' _).mp hb55
 refine gS<|hK k53<|gL<|gRn (oM 2 rfl<|onf fl_44_4 rfl<|.nl)<|gsr 1 ti_42 rfl (aO 5 rfl) rfl<|nN<|fun a61 w61 h61=> ?_
 try simp only [Exit.then,Exit.inBlock,if_true]
 refine x_end0 (fn:=Try.f48) rfl h61<|⟨rfl,⟨vo,ol⟩, ?_,(h61.sh.sel [1,5,3,4] rfl)⟩
 first|exact .inl ⟨⟨i,by omega,by assumption,by assumption⟩,rfl⟩|exact PutInv.rel (by first|exact hinv|(rw [show dn=true by assumption] at hinv;exact hinv)) (by omega)|exact PutInv.rel0 (by first|exact hinv|(rw [show dn=false by assumption] at hinv;exact hinv)) (by omega)
theorem fit_r {p:Pg}{size n:Int}(h:fitsG p size 114 n=true):0≤n∧n<p.regs:=by
 unfold fitsG at h
 simp only [Int.reduceEq,if_false,if_true,Bool.and_eq_true,decide_eq_true_eq] at h
 exact h
theorem fit_w {p:Pg}{size n:Int}(h:fitsG p size 119 n=true):0≤n∧n<p.words.length:=by
 unfold fitsG at h
 simp only [Int.reduceEq,if_false,if_true,Bool.and_eq_true,decide_eq_true_eq] at h
 exact h
theorem fit_l {p:Pg}{size n:Int}(h:fitsG p size 108 n=true):0≤n∧n<p.locks:=by
 unfold fitsG at h
 simp only [Int.reduceEq,if_false,if_true,Bool.and_eq_true,decide_eq_true_eq] at h
 exact h
theorem fit_c {p:Pg}{size n:Int}(hs:0≤size∧size≤100000)(h:fitsG p size 99 n=true):0≤n∧n≤size:=by
 unfold fitsG at h
 simp only [Int.reduceEq,if_false,if_true,Bool.and_eq_true,decide_eq_true_eq] at h
 rw [IntWalk.wrap64_in _ ⟨by omega,by omega⟩] at h
 omega
theorem num0 {p:Pg}{size:Int}{x:Ins}(h:okNumG p size x 0=true){b:UInt8}{r:List UInt8}(hk:kindsB x.op=⟨(b::r).toArray⟩):fitsG p size (b.toNat:Int) x.a=true:=by
 unfold okNumG at h
 rw [hk] at h
 rw [dif_pos (by simp [ByteArray.size])] at h
 exact h
theorem num1 {p:Pg}{size:Int}{x:Ins}(h:okNumG p size x 1=true){a b:UInt8}{r:List UInt8}(hk:kindsB x.op=⟨(a::b::r).toArray⟩):fitsG p size (b.toNat:Int) x.b=true:=by
 unfold okNumG at h
 rw [hk] at h
 rw [dif_pos (by simp [ByteArray.size])] at h
 exact h
theorem num2 {p:Pg}{size:Int}{x:Ins}(h:okNumG p size x 2=true){a b c:UInt8}{r:List UInt8}(hk:kindsB x.op=⟨(a::b::c::r).toArray⟩):fitsG p size (c.toNat:Int) x.c=true:=by
 unfold okNumG at h
 rw [hk] at h
 rw [dif_pos (by simp [ByteArray.size])] at h
 exact h
theorem insR_ok {p:Pg}{size:Int}{x:Ins}(hs:0≤size∧size≤100000)(hr:0≤p.regs)(hl:0≤p.locks)(h:OkIns p size x):InsR p.regs.toNat p.words.length p.locks.toNat x∧(x.op=14→0≤x.a∧x.a≤size)∧(x.op=15→0≤x.b∧x.b≤size):=by
 have er:(p.regs.toNat:Int)=p.regs:=Int.toNat_of_nonneg hr
 have el:(p.locks.toNat:Int)=p.locks:=Int.toNat_of_nonneg hl
 have h0:=h.n0
 have h1:=h.n1
 have h2:=h.n2
 refine ⟨⟨fun e=> ?_,fun e=> ?_,fun e=> ?_,fun e=> ?_,fun e=> ?_,fun e=> ?_,fun e=> ?_,fun e=> ?_,fun e=> ?_⟩,fun e=> ?_,fun e=> ?_⟩
 ·have k:kindsB x.op=⟨[114,110].toArray⟩:=by rw [e];unfold kindsB;simp
  rw [er];exact fit_r (num0 h0 k)
 ·have k:kindsB x.op=⟨[114,114].toArray⟩:=by rw [e];unfold kindsB;simp
  rw [er];exact ⟨fit_r (num0 h0 k),fit_r (num1 h1 k)⟩
 ·have k:kindsB x.op=⟨[114,114,114].toArray⟩:=by rcases e with e|e|e|e|e<;>(rw [e];unfold kindsB;simp)
  rw [er];exact ⟨fit_r (num0 h0 k),fit_r (num1 h1 k),fit_r (num2 h2 k)⟩
 ·have k:kindsB x.op=⟨[114,119].toArray⟩:=by rw [e];unfold kindsB;simp
  rw [er];exact ⟨fit_r (num0 h0 k),fit_w (num1 h1 k)⟩
 ·have k:kindsB x.op=⟨[119,114].toArray⟩:=by rw [e];unfold kindsB;simp
  rw [er];exact ⟨fit_w (num0 h0 k),fit_r (num1 h1 k)⟩
 ·have k:kindsB x.op=⟨[114,114].toArray⟩:=by rcases e with e|e<;>(rw [e];unfold kindsB;simp)
  rw [er];exact ⟨fit_r (num0 h0 k),fit_r (num1 h1 k)⟩
 ·have k:kindsB x.op=⟨[119,114,114].toArray⟩:=by rw [e];unfold kindsB;simp
  rw [er];exact ⟨fit_w (num0 h0 k),fit_r (num1 h1 k),fit_r (num2 h2 k)⟩
 ·rw [er]
  rcases e with e|e
  ·have k:kindsB x.op=⟨[114,99].toArray⟩:=by rw [e];unfold kindsB;simp
   exact fit_r (num0 h0 k)
  ·have k:kindsB x.op=⟨[114].toArray⟩:=by rw [e];unfold kindsB;simp
   exact fit_r (num0 h0 k)
 ·have k:kindsB x.op=⟨[108].toArray⟩:=by rcases e with e|e<;>(rw [e];unfold kindsB;simp)
  rw [el];exact fit_l (num0 h0 k)
 ·have k:kindsB x.op=⟨[99].toArray⟩:=by rw [e];unfold kindsB;simp
  exact fit_c hs (num0 h0 k)
 ·have k:kindsB x.op=⟨[114,99].toArray⟩:=by rw [e];unfold kindsB;simp
  exact fit_c hs (num1 h1 k)
theorem OkPg.insR {p:Pg}(h:OkPg p){t i:Nat}(ht:t<p.code.length)(hi:i<(nth p.code t).length):InsR p.regs.toNat p.words.length p.locks.toNat (nth (nth p.code t) i)∧((nth (nth p.code t) i).op=14→0≤(nth (nth p.code t) i).a∧(nth (nth p.code t) i).a≤(nth p.code t).length)∧((nth (nth p.code t) i).op=15→0≤(nth (nth p.code t) i).b∧(nth (nth p.code t) i).b≤(nth p.code t).length):=by
 have hl:=h.len t ht
 have:=h.regs
 have:=h.locks
 exact insR_ok ⟨by omega,by omega⟩ (by omega) (by omega) (h.ins t i ht hi)
structure WfS (R W L C:Nat)(x:TS):Prop where
 pc:0≤x.pc∧x.pc≤C
 regs:x.regs.length=R
 wait:x.wait.length≤3
 wt:∀w∈x.wait,if w.lock=true then 0≤w.wh∧w.wh<L else 0≤w.wh∧w.wh<W
 words:x.words.length=W
 owner:x.owner.length=L
section
variable {R W L C:Nat}{x:TS}
theorem WfS.put (h:WfS R W L C x)(k v:Int):WfS R W L C (x.put k v):=⟨h.pc,by simpa [TS.put] using h.regs,h.wait,h.wt,h.words,h.owner⟩
theorem WfS.fell (h:WfS R W L C x):WfS R W L C { x with fell:=true } :=⟨h.pc,h.regs,h.wait,h.wt,h.words,h.owner⟩
theorem WfS.done (h:WfS R W L C x)(w:Wt):WfS R W L C (x.done w):=by
 refine ⟨h.pc,h.regs,h.wait,h.wt, ?_, ?_⟩
 ·show (if w.lock=true then x.words else x.words.set w.wh.toNat w.what).length=W
  split
  ·exact h.words
  ·rw [List.length_set];exact h.words
 ·show (if w.lock=true then x.owner.set w.wh.toNat (-1) else x.owner).length=L
  split
  ·rw [List.length_set];exact h.owner
  ·exact h.owner
theorem WfS.store (h:WfS R W L C x){m:Int}{w:Wt}(hw:if w.lock=true then 0≤w.wh∧w.wh<L else 0≤w.wh∧w.wh<W)(hl:x.wait.length<3):WfS R W L C (x.store m w):=by
 unfold TS.store
 split
 ·refine ⟨h.pc,h.regs,by simp;omega,fun y hy=> ?_,h.words,h.owner⟩
  rcases List.mem_append.1 hy with hy|hy
  ·exact h.wt y hy
  ·obtain rfl:y=w:=by simpa using hy
   exact hw
 ·exact h.done w
theorem WfS.exec (h:WfS R W L C x){m:Int}{n:Nat}{i:Ins}(hR:InsR R W L i)(h14:i.op=14→0≤i.a∧i.a≤C)(h15:i.op=15→0≤i.b∧i.b≤C)(ha:ableL x.owner x.wait.length i=true):WfS R W L C (execT m n i x):=by
 have hst:i.op=9∨i.op=11∨i.op=18→x.wait.length<3:=by
  intro e
  unfold ableL at ha
  rw [if_pos e] at ha
  exact of_decide_eq_true ha
 by_cases e1:i.op=1
 ·rw [execT_1 e1];exact h.put _ _
 by_cases e2:i.op=2
 ·rw [execT_2 e2];exact h.put _ _
 by_cases e3:i.op=3
 ·rw [execT_3 e3];exact h.put _ _
 by_cases e4:i.op=4
 ·rw [execT_4 e4];exact h.put _ _
 by_cases e5:i.op=5
 ·rw [execT_5 e5];exact h.put _ _
 by_cases e6:i.op=6
 ·rw [execT_6 e6];exact h.put _ _
 by_cases e7:i.op=7
 ·rw [execT_7 e7];exact h.put _ _
 by_cases e8:i.op=8
 ·rw [execT_8 e8];exact h.put _ _
 by_cases e9:i.op=9
 ·rw [execT_9 e9]
  have q:=hR.o9 e9
  exact h.store (by show if (false=true) then _ else _;rw [if_neg Bool.false_ne_true];exact q.1) (hst (.inl e9))
 by_cases e10:i.op=10
 ·by_cases hw:0≤x.reg i.b∧x.reg i.b<(x.words.length:Int)
  ·rw [execT_10t e10 hw];exact h.put _ _
  ·rw [execT_10f e10 hw];exact h.fell
 by_cases e11:i.op=11
 ·by_cases hw:0≤x.reg i.a∧x.reg i.a<(x.words.length:Int)
  ·rw [execT_11t e11 hw]
   rw [h.words] at hw
   exact h.store (by show if (false=true) then _ else _;rw [if_neg Bool.false_ne_true];exact hw) (hst (.inr (.inl e11)))
  ·rw [execT_11f e11 hw];exact h.fell
 by_cases e13:i.op=13
 ·by_cases hw:nth x.words i.a.toNat=x.reg i.b
  ·rw [execT_13t e13 hw]
   exact ⟨h.pc,by simpa using h.regs,h.wait,h.wt,by simpa using h.words,h.owner⟩
  ·rw [execT_13f e13 hw];exact h.put _ _
 by_cases e14:i.op=14
 ·rw [execT_14 e14];exact ⟨h14 e14,h.regs,h.wait,h.wt,h.words,h.owner⟩
 by_cases e15:i.op=15
 ·by_cases hw:x.reg i.a=0
  ·rw [execT_15t e15 hw];exact ⟨h15 e15,h.regs,h.wait,h.wt,h.words,h.owner⟩
  ·rw [execT_15f e15 hw];exact h
 by_cases e16:i.op=16
 ·rw [execT_16 e16];exact ⟨h.pc,h.regs,h.wait,h.wt,h.words,h.owner⟩
 by_cases e17:i.op=17
 ·rw [execT_17 e17];exact ⟨h.pc,h.regs,h.wait,h.wt,h.words,by simpa using h.owner⟩
 by_cases e18:i.op=18
 ·have q:=hR.o17 (.inr e18)
  by_cases hw:nth x.owner i.a.toNat≠n
  ·rw [execT_18a e18 hw];exact h.fell
  ·by_cases hh:∃j,j<x.wait.length∧(nth x.wait j).lock=true∧(nth x.wait j).wh=i.a
   ·obtain ⟨j,hj,h1,h2⟩:=hh
    rw [execT_18b e18 hw j hj h1 h2];exact h.fell
   ·rw [execT_18c e18 hw (fun q hq hc=>hh ⟨q,hq,hc⟩)]
    exact h.store (by show if (true=true) then _ else _;rw [if_pos rfl];exact q) (hst (.inr (.inr e18)))
 rw [execT_no ⟨e1,e2,e3,e4,e5,e6,e7,e8,e9,e10,e11,e13,e14,e15,e16,e17,e18⟩]
 exact h
end
theorem mvOK_k {m:Int}{c:List Ins}{x:TS}{k:Nat}(h:mvOK m c x k=true):(k=0∧x.pc<c.length∧ableL x.owner x.wait.length (nextIns c x.pc)=true)∨(0<k∧k≤x.wait.length∧mayK m x.wait (k-1)=true):=by
 unfold mvOK at h
 split at h
 ·rename_i hk
  left
  unfold ableV at h
  simp only [Bool.and_eq_true,decide_eq_true_eq] at h
  exact ⟨hk,h⟩
 ·right
  simp only [Bool.and_eq_true,decide_eq_true_eq] at h
  exact ⟨by omega,h⟩
theorem WfS.doT {R W L:Nat}{x:TS}{m:Int}{n k:Nat}{c:List Ins}(h:WfS R W L c.length x)(hR:∀i,i<c.length→InsR R W L (nth c i)∧((nth c i).op=14→0≤(nth c i).a∧(nth c i).a≤c.length)∧((nth c i).op=15→0≤(nth c i).b∧(nth c i).b≤c.length))(hk:mvOK m c x k=true):WfS R W L c.length (Go.Proofs.Ytmbfcgpneflbmaa.doT m n c k x):=by
 have hpc:=h.pc
 rcases mvOK_k hk with ⟨rfl,h1,h2⟩|⟨h1,h2,h3⟩
 ·rw [doT_0 rfl]
  have hn:nextIns c x.pc=nth c x.pc.toNat:=nextIns_t h1
  obtain ⟨q1,q2,q3⟩:=hR x.pc.toNat (by omega)
  rw [hn] at h2⊢
  exact WfS.exec (x:= { x with pc:=x.pc+1 }) ⟨⟨by show 0≤x.pc+1;omega,by show x.pc+1≤_;omega⟩,h.regs,h.wait,h.wt,h.words,h.owner⟩ q1 q2 q3 h2
 ·unfold Go.Proofs.Ytmbfcgpneflbmaa.doT
  rw [if_pos h1]
  have hd:=h.done (nth x.wait (k-1))
  exact ⟨hd.pc,hd.regs,by show (x.wait.eraseIdx (k-1)).length≤3;have:=List.length_eraseIdx_le x.wait (k-1);have:=h.wait;omega,fun w hw=>h.wt w (List.mem_of_mem_eraseIdx hw),hd.words,hd.owner⟩
structure Wf (p:Pg)(s:MSt):Prop where
 ths:s.ths.length=p.code.length
 th:∀t,t<p.code.length→WfS p.regs.toNat p.words.length p.locks.toNat (nth p.code t).length (s.view t)
 words:s.words.length=p.words.length
 owner:s.owner.length=p.locks.toNat
theorem nth_set0 {α:Type}[Inhabited α](l:List α)(i k:Nat)(x:α):nth (l.set i x) k=if i=k∧i<l.length then x else nth l k:=by
 simp only [nth,List.getD,List.getElem?_set]
 by_cases h:i=k
 ·subst h
  by_cases h2:i<l.length<;>simp [h2]
 ·simp [h]
theorem putT_view {s:MSt}{t:Nat}{y:TS}(ht:t<s.ths.length):(s.putT t y).view t= { y with fell:=false } :=by
 unfold MSt.view MSt.putT
 simp [nth_set0,ht]
theorem putT_other {s:MSt}{t u:Nat}{y:TS}(h:t≠u):(s.putT t y).view u=⟨(s.view u).pc,(s.view u).regs,(s.view u).wait,y.words,y.owner,y.prints,false⟩:=by
 unfold MSt.view MSt.putT
 simp only [nth_set0]
 rw [if_neg (fun hh=>h hh.1)]
theorem Wf.begin_ {p:Pg}(h:OkPg p):Wf p (begin_ p):=by
 refine ⟨by simp [Go.Proofs.Ytmbfcgpneflbmaa.begin_],fun t ht=> ?_,rfl,by simp [Go.Proofs.Ytmbfcgpneflbmaa.begin_]⟩
 have e:nth (Go.Proofs.Ytmbfcgpneflbmaa.begin_ p).ths t=⟨0,List.replicate p.regs.toNat 0, []⟩:=by
  unfold Go.Proofs.Ytmbfcgpneflbmaa.begin_
  rw [nth_map' _ _ _ ht]
 unfold MSt.view
 rw [e]
 exact ⟨⟨Int.le_refl _,by simp⟩,by simp,by simp,fun w hw=>(by cases hw),rfl,by simp [Go.Proofs.Ytmbfcgpneflbmaa.begin_]⟩
theorem Wf.step {p:Pg}(hok:OkPg p){s:MSt}(h:Wf p s){m:Int}{t k:Nat}(ht:t<p.code.length)(hk:mvOK m (nth p.code t) (s.view t) k=true):Wf p (s.putT t (stepT p m s t k)):=by
 have h1:=(h.th t ht).doT (m:=m) (n:=t) (fun i hi=>hok.insR ht hi) hk
 refine ⟨by simpa [MSt.putT] using h.ths,fun u hu=> ?_,h1.words,h1.owner⟩
 by_cases e:t=u
 ·subst e
  rw [putT_view (by rw [h.ths];exact ht)]
  exact ⟨h1.pc,h1.regs,h1.wait,h1.wt,h1.words,h1.owner⟩
 ·rw [putT_other e]
  have h2:=h.th u hu
  exact ⟨h2.pc,h2.regs,h2.wait,h2.wt,h1.words,h1.owner⟩
inductive Reach (p:Pg)(m:Int):MSt→Prop
 |start:Reach p m (begin_ p)
 |step {s:MSt} {t k:Nat} :Reach p m s→t<p.code.length→mvOK m (nth p.code t) (s.view t) k=true→(stepT p m s t k).fell=false→Reach p m (s.putT t (stepT p m s t k))
def Stuck_ (p:Pg)(m:Int)(s:MSt):Prop:=∀t k,t<p.code.length→mvOK m (nth p.code t) (s.view t) k=false
inductive Outs (p:Pg)(m:Int):Outc→Prop
 |done {s:MSt} :Reach p m s→ended p s=true→Outs p m ⟨0,s.words,s.prints⟩
 |stuck {s:MSt} :Reach p m s→ended p s=false→Stuck_ p m s→Outs p m ⟨2,s.words,s.prints⟩
 |fell {s:MSt} {t k:Nat} :Reach p m s→t<p.code.length→mvOK m (nth p.code t) (s.view t) k=true→(stepT p m s t k).fell=true→Outs p m ⟨1, [],(stepT p m s t k).prints⟩
theorem Reach.wf {p:Pg}(hok:OkPg p){m:Int}{s:MSt}(h:Reach p m s):Wf p s:=by
 induction h with
 |start=>exact Wf.begin_ hok
 |step _ ht hk _ ih=>exact ih.step hok ht hk
theorem mem_mvs {m:Int}{c:List Ins}{t:Nat}{x:TS}{v:Int} :v∈mvs m c t x↔∃k,mvOK m c x k=true∧v=((8*t+k:Nat):Int):=by
 unfold mvs
 rw [List.mem_append]
 constructor
 ·rintro (h|h)
  ·split at h
   ·rename_i ha
    exact ⟨0,by unfold mvOK;rw [if_pos rfl];exact ha,by simpa using h⟩
   ·cases h
  ·obtain ⟨k,hk,rfl⟩:=List.mem_map.1 h
   obtain ⟨h1,h2⟩:=List.mem_filter.1 hk
   refine ⟨k+1, ?_,rfl⟩
   unfold mvOK
   rw [if_neg (by omega)]
   have:k+1≤x.wait.length:=by have:=List.mem_range.1 h1;omega
   simp [this,h2]
 ·rintro ⟨k,hk,rfl⟩
  rcases mvOK_k hk with ⟨rfl,h1,h2⟩|⟨h1,h2,h3⟩
  ·left
   have:ableV c x=true:=by unfold ableV;simp [h1,h2]
   rw [if_pos this];simp
  ·right
   refine List.mem_map.2 ⟨k-1,List.mem_filter.2 ⟨by simp;omega,h3⟩, ?_⟩
   rw [show 8*t+(k-1)+1=8*t+k by omega]
theorem mem_moves {p:Pg}{m:Int}{s:MSt}{v:Int} :v∈moves p m s↔∃t k,t<p.code.length∧mvOK m (nth p.code t) (s.view t) k=true∧v=((8*t+k:Nat):Int):=by
 unfold moves
 rw [List.mem_flatMap]
 constructor
 ·rintro ⟨t,ht,h⟩
  obtain ⟨k,hk,e⟩:=mem_mvs.1 h
  exact ⟨t,k,by simpa using ht,hk,e⟩
 ·rintro ⟨t,k,ht,hk,e⟩
  exact ⟨t,by simpa using ht,mem_mvs.2 ⟨k,hk,e⟩⟩
theorem mvOK_le {m:Int}{c:List Ins}{x:TS}{k:Nat}(h:mvOK m c x k=true)(hw:x.wait.length≤3):k≤3:=by
 rcases mvOK_k h with ⟨rfl,_⟩|⟨_,h2,_⟩<;>omega
theorem store_prints (m:Int)(x:TS)(w:Wt):(x.store m w).prints=x.prints:=by unfold TS.store;split<;>rfl
theorem execT_prints (m:Int)(n:Nat)(i:Ins)(x:TS):(execT m n i x).prints.length≤x.prints.length+2:=by
 by_cases e1:i.op=1
 ·rw [execT_1 e1];show x.prints.length≤_;omega
 by_cases e2:i.op=2
 ·rw [execT_2 e2];show x.prints.length≤_;omega
 by_cases e3:i.op=3
 ·rw [execT_3 e3];show x.prints.length≤_;omega
 by_cases e4:i.op=4
 ·rw [execT_4 e4];show x.prints.length≤_;omega
 by_cases e5:i.op=5
 ·rw [execT_5 e5];show x.prints.length≤_;omega
 by_cases e6:i.op=6
 ·rw [execT_6 e6];show x.prints.length≤_;omega
 by_cases e7:i.op=7
 ·rw [execT_7 e7];show x.prints.length≤_;omega
 by_cases e8:i.op=8
 ·rw [execT_8 e8];show x.prints.length≤_;omega
 by_cases e9:i.op=9
 ·rw [execT_9 e9,store_prints];omega
 by_cases e10:i.op=10
 ·by_cases hw:0≤x.reg i.b∧x.reg i.b<(x.words.length:Int)
  ·rw [execT_10t e10 hw];show x.prints.length≤_;omega
  ·rw [execT_10f e10 hw];show x.prints.length≤_;omega
 by_cases e11:i.op=11
 ·by_cases hw:0≤x.reg i.a∧x.reg i.a<(x.words.length:Int)
  ·rw [execT_11t e11 hw,store_prints];omega
  ·rw [execT_11f e11 hw];show x.prints.length≤_;omega
 by_cases e13:i.op=13
 ·by_cases hw:nth x.words i.a.toNat=x.reg i.b
  ·rw [execT_13t e13 hw];show x.prints.length≤_;omega
  ·rw [execT_13f e13 hw];show x.prints.length≤_;omega
 by_cases e14:i.op=14
 ·rw [execT_14 e14];show x.prints.length≤_;omega
 by_cases e15:i.op=15
 ·by_cases hw:x.reg i.a=0
  ·rw [execT_15t e15 hw];show x.prints.length≤_;omega
  ·rw [execT_15f e15 hw];omega
 by_cases e16:i.op=16
 ·rw [execT_16 e16];show (x.prints++_).length≤_;simp
 by_cases e17:i.op=17
 ·rw [execT_17 e17];show x.prints.length≤_;omega
 by_cases e18:i.op=18
 ·by_cases hw:nth x.owner i.a.toNat≠n
  ·rw [execT_18a e18 hw];show x.prints.length≤_;omega
  ·by_cases hh:∃j,j<x.wait.length∧(nth x.wait j).lock=true∧(nth x.wait j).wh=i.a
   ·obtain ⟨j,hj,h1,h2⟩:=hh
    rw [execT_18b e18 hw j hj h1 h2];show x.prints.length≤_;omega
   ·rw [execT_18c e18 hw (fun q hq hc=>hh ⟨q,hq,hc⟩),store_prints];omega
 rw [execT_no ⟨e1,e2,e3,e4,e5,e6,e7,e8,e9,e10,e11,e13,e14,e15,e16,e17,e18⟩]
 omega
theorem doT_prints (m:Int)(n:Nat)(c:List Ins)(k:Nat)(x:TS):(doT m n c k x).prints.length≤x.prints.length+2:=by
 unfold doT
 split
 ·show x.prints.length≤_;omega
 ·exact execT_prints _ _ _ _
theorem wt_inj :∀ {l m:List Wt} {r r' :List Int},l.length=m.length→l.flatMap wtN++r=m.flatMap wtN++r' →l=m∧r=r'
 | [], [],r,r',_,h=>⟨rfl,h⟩
 | [],_::_,_,_,hl,_=>by simp at hl
 |_::_, [],_,_,hl,_=>by simp at hl
 |x::l,y::m,r,r',hl,h=>by
  simp only [List.flatMap_cons,List.append_assoc] at h
  unfold wtN at h
  simp only [List.cons_append,List.nil_append,List.cons.injEq] at h
  obtain ⟨h1,h2,h3,h4⟩:=h
  obtain ⟨e1,e2⟩:=wt_inj (by simpa using hl) h4
  have hlk:x.lock=y.lock:=by
   cases hx:x.lock<;>cases hy:y.lock<;>simp [hx,hy] at h1⊢
  refine ⟨?_,e2⟩
  rw [e1]
  congr 1
  cases x;cases y
  simp only at hlk h2 h3
  rw [hlk,h2,h3]
theorem th_inj {R:Nat} :∀ {l m:List Th} {r r' :List Int},l.length=m.length→(∀x∈l,x.regs.length=R)→(∀x∈m,x.regs.length=R)→l.flatMap thN++r=m.flatMap thN++r' →l=m∧r=r'
 | [], [],r,r',_,_,_,h=>⟨rfl,h⟩
 | [],_::_,_,_,hl,_,_,_=>by simp at hl
 |_::_, [],_,_,hl,_,_,_=>by simp at hl
 |x::l,y::m,r,r',hl,h1,h2,h=>by
  simp only [List.flatMap_cons,List.append_assoc] at h
  unfold thN at h
  simp only [List.append_assoc,List.cons_append,List.nil_append,List.cons.injEq] at h
  obtain ⟨e1,e2,h3⟩:=h
  have hx:=h1 x (by simp)
  have hy:=h2 y (by simp)
  obtain ⟨e3,h4⟩:=List.append_inj h3 (by rw [hx,hy])
  obtain ⟨e4,h5⟩:=wt_inj (by omega) h4
  obtain ⟨e5,e6⟩:=th_inj (by simpa using hl) (fun z hz=>h1 z (by simp [hz])) (fun z hz=>h2 z (by simp [hz])) h5
  refine ⟨?_,e6⟩
  rw [e5]
  congr 1
  cases x;cases y
  simp only at e1 e3 e4
  rw [e1,e3,e4]
def keyOf (s:MSt):List Int:=numbersL s.ths s.words s.owner s.prints
theorem key_inj {p:Pg}{s s' :MSt}(h:Wf p s)(h' :Wf p s')(e:keyOf s=keyOf s'):s=s' :=by
 unfold keyOf numbersL at e
 simp only [List.append_assoc] at e
 have hr:∀ {s:MSt},Wf p s→∀x∈s.ths,x.regs.length=p.regs.toNat:=by
  intro s h x hx
  obtain ⟨i,hi⟩:=List.getElem?_of_mem hx
  obtain ⟨hlt,e⟩:=List.getElem?_eq_some_iff.1 hi
  have:=(h.th i (by rw [←h.ths];exact hlt)).regs
  have e2:nth s.ths i=x:=by rw [nth_lt _ _ hlt];exact e
  unfold MSt.view at this
  simpa [e2] using this
 obtain ⟨e1,h2⟩:=th_inj (by rw [h.ths,h'.ths]) (hr h) (hr h') e
 obtain ⟨e2,h3⟩:=List.append_inj h2 (by rw [h.words,h'.words])
 obtain ⟨e3,e4⟩:=List.append_inj h3 (by rw [h.owner,h'.owner])
 cases s;cases s'
 simp only at e1 e2 e3 e4
 rw [e1,e2,e3,e4]
theorem lessB_irr :∀l:List Int,lessB l l=false
 | []=>by simp [lessB]
 |a::l=>by unfold lessB;rw [if_pos rfl];exact lessB_irr l
theorem lessB_trans :∀ {l m n:List Int},lessB l m=true→lessB m n=true→lessB l n=true
 | [],m, [],h1,h2=>by cases m<;>simp [lessB] at h1 h2
 | [],m,c::n,h1,h2=>by simp [lessB]
 |a::l, [],n,h1,h2=>by simp [lessB] at h1
 |a::l,b::m, [],h1,h2=>by simp [lessB] at h2
 |a::l,b::m,c::n,h1,h2=>by
  unfold lessB at h1 h2⊢
  by_cases e1:a=b
  ·by_cases e2:b=c
   ·rw [if_pos e1] at h1;rw [if_pos e2] at h2;rw [if_pos (e1.trans e2)];exact lessB_trans h1 h2
   ·rw [if_neg e2] at h2;subst e1;rw [if_neg e2];exact h2
  ·rw [if_neg e1] at h1
   by_cases e2:b=c
   ·subst e2;rw [if_neg e1];exact h1
   ·rw [if_neg e2] at h2
    have h1' :a<b:=by simpa using h1
    have h2' :b<c:=by simpa using h2
    rw [if_neg (by omega)]
    simp;omega
theorem lessB_tri :∀ {l m:List Int},lessB l m=false→lessB m l=false→l=m
 | [], [],_,_=>rfl
 | [],b::m,h1,_=>by simp [lessB] at h1
 |a::l, [],_,h2=>by simp [lessB] at h2
 |a::l,b::m,h1,h2=>by
  unfold lessB at h1 h2
  by_cases e:a=b
  ·rw [if_pos e] at h1;rw [if_pos e.symm] at h2
   rw [e,lessB_tri h1 h2]
  ·rw [if_neg e] at h1;rw [if_neg (fun h=>e h.symm)] at h2
   simp at h1 h2;omega
theorem aheadB_tri {a b:Outc}(h1:aheadB a b=false)(h2:aheadB b a=false):a=b:=by
 unfold aheadB at h1 h2
 by_cases e:a.st=b.st
 ·rw [if_pos e] at h1;rw [if_pos e.symm] at h2
  by_cases e2:a.words=b.words
  ·rw [if_pos e2] at h1;rw [if_pos e2.symm] at h2
   have e3:=lessB_tri h1 h2
   cases a;cases b;simp only at e e2 e3;rw [e,e2,e3]
  ·rw [if_neg e2] at h1;rw [if_neg (fun h=>e2 h.symm)] at h2
   exact absurd (lessB_tri h1 h2) e2
 ·rw [if_neg e] at h1;rw [if_neg (fun h=>e h.symm)] at h2
  simp at h1 h2;omega
theorem aheadB_trans {a b c:Outc}(h1:aheadB a b=true)(h2:aheadB b c=true):aheadB a c=true:=by
 unfold aheadB at h1 h2⊢
 by_cases e1:a.st=b.st
 ·rw [if_pos e1] at h1
  by_cases e2:b.st=c.st
  ·rw [if_pos e2] at h2
   rw [if_pos (e1.trans e2)]
   by_cases f1:a.words=b.words
   ·rw [if_pos f1] at h1
    by_cases f2:b.words=c.words
    ·rw [if_pos f2] at h2;rw [if_pos (f1.trans f2)];exact lessB_trans h1 h2
    ·rw [if_neg f2] at h2;rw [if_neg (fun h=>f2 (f1.symm.trans h)),f1];exact h2
   ·rw [if_neg f1] at h1
    by_cases f2:b.words=c.words
    ·rw [if_neg (fun h=>f1 (h.trans f2.symm)),←f2];exact h1
    ·rw [if_neg f2] at h2
     have h3:=lessB_trans h1 h2
     rw [if_neg (fun h=> ?_)]
     ·exact h3
     ·rw [h,lessB_irr] at h3;cases h3
  ·rw [if_neg e2] at h2;rw [if_neg (fun h=>e2 (e1.symm.trans h)),e1];exact h2
 ·rw [if_neg e1] at h1
  have h1' :a.st<b.st:=by simpa using h1
  by_cases e2:b.st=c.st
  ·rw [if_neg (by omega)];simp;omega
  ·rw [if_neg e2] at h2
   have h2' :b.st<c.st:=by simpa using h2
   rw [if_neg (by omega)];simp;omega
def Sorted_ (l:List Outc):Prop:=l.Pairwise fun a b=>aheadB a b=true
theorem PutRel.sorted {o:OutL}{l l' :List OutL}(h:PutRel o l l')(hs:Sorted_ (l.map OutL.out)):Sorted_ (l'.map OutL.out)∧∀y,y∈l'.map OutL.out↔y∈l.map OutL.out∨y=o.out:=by
 rcases h with ⟨⟨i,hi,h1,h2⟩,rfl⟩|⟨k,hk,h1,h2,rfl⟩
 ·refine ⟨hs,fun y=>⟨.inl,fun h=>h.elim id fun e=> ?_⟩⟩
  rw [e,aheadB_tri h1 h2]
  exact List.mem_map.2 ⟨_,nth_mem _ _ hi,rfl⟩
 ·have hsplit:l=l.take k++l.drop k:=(List.take_append_drop k l).symm
  have hb:∀x∈l.take k,aheadB x.out o.out=true:=by
   intro x hx
   obtain ⟨j,hj⟩:=List.getElem?_of_mem hx
   obtain ⟨hlt,e⟩:=List.getElem?_eq_some_iff.1 hj
   have hjk:j<k:=by simp at hlt;omega
   have:=(h1 j hjk).2
   rw [nth_lt _ _ (by simp at hlt;omega)] at this
   rw [←e,List.getElem_take];exact this
  have hs2:Sorted_ (l.take k|>.map OutL.out)∧Sorted_ (l.drop k|>.map OutL.out)∧∀x∈l.take k,∀y∈l.drop k,aheadB x.out y.out=true:=by
   rw [hsplit,List.map_append] at hs
   obtain ⟨a1,a2,a3⟩:=List.pairwise_append.1 hs
   exact ⟨a1,a2,fun x hx y hy=>a3 _ (List.mem_map.2 ⟨x,hx,rfl⟩) _ (List.mem_map.2 ⟨y,hy,rfl⟩)⟩
  have ha:∀x∈l.drop k,aheadB o.out x.out=true:=by
   intro x hx
   rcases Nat.lt_or_ge k l.length with hlt|hge
   ·have hok:=h2 hlt
    rw [nth_lt l k hlt] at hok
    rw [List.drop_eq_getElem_cons hlt] at hx
    rcases List.mem_cons.1 hx with rfl|hx
    ·exact hok
    ·have h3:=hs2.2.1
     rw [List.drop_eq_getElem_cons hlt,List.map_cons] at h3
     exact aheadB_trans hok ((List.pairwise_cons.1 h3).1 _ (List.mem_map.2 ⟨x,hx,rfl⟩))
   ·rw [List.drop_eq_nil_of_le hge] at hx;cases hx
  constructor
  ·unfold Sorted_
   rw [List.map_append,List.map_cons]
   refine List.pairwise_append.2 ⟨hs2.1,List.pairwise_cons.2 ⟨fun y hy=> ?_,hs2.2.1⟩,fun x hx y hy=> ?_⟩
   ·obtain ⟨z,hz,rfl⟩:=List.mem_map.1 hy;exact ha z hz
   ·obtain ⟨z,hz,rfl⟩:=List.mem_map.1 hx
    rcases List.mem_cons.1 hy with rfl|hy
    ·exact hb z hz
    ·obtain ⟨u,hu,rfl⟩:=List.mem_map.1 hy;exact hs2.2.2 z hz u hu
  ·intro y
   conv=>rhs;rw [hsplit]
   simp only [List.map_append,List.map_cons,List.mem_append,List.mem_cons]
   constructor
   ·rintro (h|h|h)
    ·exact .inl (.inl h)
    ·exact .inr h
    ·exact .inl (.inr h)
   ·rintro ((h|h)|h)
    ·exact .inl h
    ·exact .inr (.inr h)
    ·exact .inr (.inl h)
def Handled (p:Pg)(m:Int)(S:List MSt)(E:List Outc)(s:MSt)(t k:Nat):Prop:=if (stepT p m s t k).fell=true then (⟨1, [],(stepT p m s t k).prints⟩:Outc)∈E else s.putT t (stepT p m s t k)∈S
structure Expanded (p:Pg)(m:Int)(S:List MSt)(E:List Outc)(s:MSt):Prop where
 done:ended p s=true→(⟨0,s.words,s.prints⟩:Outc)∈E
 stuck:ended p s=false→Stuck_ p m s→(⟨2,s.words,s.prints⟩:Outc)∈E
 moves:∀t k,t<p.code.length→mvOK m (nth p.code t) (s.view t) k=true→Handled p m S E s t k
structure Inv (p:Pg)(m:Int)(S:List MSt)(E:List Outc)(full:Bool)(i:Nat):Prop where
 start:begin_ p∈S
 reach:∀s∈S,Reach p m s
 pr:∀j,j<S.length→(nth S j).prints.length≤2*j
 len:S.length≤4001
 hfull:full=decide (4000<S.length)
 sound:∀o∈E,Outs p m o
 sorted:Sorted_ E
 done:full=false→∀j,j<i→Expanded p m S E (nth S j)
 nd:S.Nodup
def Big (p:Pg)(m:Int):Prop:=∃S:List MSt,S.Nodup∧(∀s∈S,Reach p m s)∧4000<S.length
theorem nodup_sub :∀ {S T:List MSt},S.Nodup→(∀s∈S,s∈T)→S.length≤T.length
 | [],_,_,_=>Nat.zero_le _
 |a::S,T,h,hs=>by
  obtain ⟨h1,h2⟩:=List.nodup_cons.1 h
  have ha:=hs a (by simp)
  have:=nodup_sub (S:=S) (T:=T.erase a) h2 fun s hm=>(List.mem_erase_of_ne (fun (e:s=a)=>h1 (by rw [←e];exact hm))).2 (hs s (by simp [hm]))
  rw [List.length_erase_of_mem ha] at this
  have:=List.length_pos_of_mem ha
  simp only [List.length_cons];omega
theorem Handled.mono {p:Pg}{m:Int}{S S' :List MSt}{E E' :List Outc}{s:MSt}{t k:Nat}(h:Handled p m S E s t k)(hS:∀x∈S,x∈S')(hE:∀x∈E,x∈E'):Handled p m S' E' s t k:=by
 unfold Handled at h⊢
 split at h
 ·rename_i hf;rw [if_pos hf];exact hE _ h
 ·rename_i hf;rw [if_neg hf];exact hS _ h
theorem Expanded.mono {p:Pg}{m:Int}{S S' :List MSt}{E E' :List Outc}{s:MSt}(h:Expanded p m S E s)(hS:∀x∈S,x∈S')(hE:∀x∈E,x∈E'):Expanded p m S' E' s:=
 ⟨fun e=>hE _ (h.done e),fun e e2=>hE _ (h.stuck e e2),fun t k ht hk=>(h.moves t k ht hk).mono hS hE⟩
theorem Inv.states {p:Pg}{m:Int}{S:List MSt}{E:List Outc}{i:Nat}(h:Inv p m S E false i)(hi:S.length≤i):∀s,s∈S↔Reach p m s:=by
 intro s
 refine ⟨h.reach s,fun hs=> ?_⟩
 induction hs with
 |start=>exact h.start
 | @step s t k hr ht hk hf ih=>
  obtain ⟨j,hj⟩:=List.getElem?_of_mem ih
  obtain ⟨hlt,e⟩:=List.getElem?_eq_some_iff.1 hj
  have h9:=h.done rfl j (by omega)
  rw [nth_lt _ _ hlt,e] at h9
  have:=h9.moves _ _ ht hk
  unfold Handled at this
  rw [if_neg (by rw [hf];decide)] at this
  exact this
theorem Inv.big {p:Pg}{m:Int}{S:List MSt}{E:List Outc}{full:Bool}{i:Nat}(h:Inv p m S E full i)(hi:full=true∨S.length≤i):full=true↔Big p m:=by
 constructor
 ·intro hf
  have:=h.hfull
  rw [hf] at this
  exact ⟨S,h.nd,h.reach,of_decide_eq_true this.symm⟩
 ·rintro ⟨T,h1,h2,h3⟩
  cases hf:full with
  |true=>rfl
  |false=>
   rw [hf] at hi h
   have h4:=nodup_sub h1 fun s hs=>(h.states (hi.resolve_left Bool.false_ne_true) s).2 (h2 s hs)
   have:=h.hfull
   have:=of_decide_eq_false this.symm
   omega
theorem Inv.all {p:Pg}{m:Int}{S:List MSt}{E:List Outc}{i:Nat}(h:Inv p m S E false i)(hi:S.length≤i):∀o,o∈E↔Outs p m o:=by
 have hex:∀s∈S,Expanded p m S E s:=by
  intro s hs
  obtain ⟨j,hj⟩:=List.getElem?_of_mem hs
  obtain ⟨hlt,e⟩:=List.getElem?_eq_some_iff.1 hj
  have:=h.done rfl j (by omega)
  rwa [nth_lt _ _ hlt,e] at this
 have hall:∀s,Reach p m s→s∈S:=by
  intro s hs
  induction hs with
  |start=>exact h.start
  |step hr ht hk hf ih=>
   have:=(hex _ ih).moves _ _ ht hk
   unfold Handled at this
   rw [if_neg (by rw [hf];decide)] at this
   exact this
 intro o
 refine ⟨h.sound o,fun ho=> ?_⟩
 cases ho with
 |done hr he=>exact (hex _ (hall _ hr)).done he
 |stuck hr he hst=>exact (hex _ (hall _ hr)).stuck he hst
 |fell hr ht hk hf=>
  have:=(hex _ (hall _ hr)).moves _ _ ht hk
  unfold Handled at this
  rwa [if_pos hf] at this
theorem store_pc (m:Int)(x:TS)(w:Wt)(u:Int):TS.store m { x with pc:=u } w= { x.store m w with pc:=u } :=by unfold TS.store;split<;>rfl
theorem store_pc' (m:Int)(x:TS)(w:Wt):(x.store m w).pc=x.pc:=by unfold TS.store;split<;>rfl
theorem execT_pc (m:Int)(n:Nat)(i:Ins)(x:TS)(u:Int)(h14:i.op≠14)(h15:i.op≠15):execT m n i { x with pc:=u } = { execT m n i x with pc:=u }∧(execT m n i x).pc=x.pc:=by
 by_cases e1:i.op=1
 ·rw [execT_1 e1,execT_1 e1];exact ⟨rfl,rfl⟩
 by_cases e2:i.op=2
 ·rw [execT_2 e2,execT_2 e2];exact ⟨rfl,rfl⟩
 by_cases e3:i.op=3
 ·rw [execT_3 e3,execT_3 e3];exact ⟨rfl,rfl⟩
 by_cases e4:i.op=4
 ·rw [execT_4 e4,execT_4 e4];exact ⟨rfl,rfl⟩
 by_cases e5:i.op=5
 ·rw [execT_5 e5,execT_5 e5];exact ⟨rfl,rfl⟩
 by_cases e6:i.op=6
 ·rw [execT_6 e6,execT_6 e6];exact ⟨rfl,rfl⟩
 by_cases e7:i.op=7
 ·rw [execT_7 e7,execT_7 e7];exact ⟨rfl,rfl⟩
 by_cases e8:i.op=8
 ·rw [execT_8 e8,execT_8 e8];exact ⟨rfl,rfl⟩
 by_cases e9:i.op=9
 ·rw [execT_9 e9,execT_9 e9];exact ⟨store_pc _ _ _ _,store_pc' _ _ _⟩
 by_cases e10:i.op=10
 ·by_cases hw:0≤x.reg i.b∧x.reg i.b<(x.words.length:Int)
  ·rw [execT_10t e10 hw,execT_10t (x:= { x with pc:=u }) e10 hw];exact ⟨rfl,rfl⟩
  ·rw [execT_10f e10 hw,execT_10f (x:= { x with pc:=u }) e10 hw];exact ⟨rfl,rfl⟩
 by_cases e11:i.op=11
 ·by_cases hw:0≤x.reg i.a∧x.reg i.a<(x.words.length:Int)
  ·rw [execT_11t e11 hw,execT_11t (x:= { x with pc:=u }) e11 hw];exact ⟨store_pc _ _ _ _,store_pc' _ _ _⟩
  ·rw [execT_11f e11 hw,execT_11f (x:= { x with pc:=u }) e11 hw];exact ⟨rfl,rfl⟩
 by_cases e13:i.op=13
 ·by_cases hw:nth x.words i.a.toNat=x.reg i.b
  ·rw [execT_13t e13 hw,execT_13t (x:= { x with pc:=u }) e13 hw];exact ⟨rfl,rfl⟩
  ·rw [execT_13f e13 hw,execT_13f (x:= { x with pc:=u }) e13 hw];exact ⟨rfl,rfl⟩
 by_cases e16:i.op=16
 ·rw [execT_16 e16,execT_16 e16];exact ⟨rfl,rfl⟩
 by_cases e17:i.op=17
 ·rw [execT_17 e17,execT_17 e17];exact ⟨rfl,rfl⟩
 by_cases e18:i.op=18
 ·by_cases hw:nth x.owner i.a.toNat≠n
  ·rw [execT_18a e18 hw,execT_18a (x:= { x with pc:=u }) e18 hw];exact ⟨rfl,rfl⟩
  ·by_cases hh:∃j,j<x.wait.length∧(nth x.wait j).lock=true∧(nth x.wait j).wh=i.a
   ·obtain ⟨j,hj,h1,h2⟩:=hh
    rw [execT_18b e18 hw j hj h1 h2,execT_18b (x:= { x with pc:=u }) e18 hw j hj h1 h2];exact ⟨rfl,rfl⟩
   ·rw [execT_18c e18 hw (fun q hq hc=>hh ⟨q,hq,hc⟩),execT_18c (x:= { x with pc:=u }) e18 hw (fun q hq hc=>hh ⟨q,hq,hc⟩)];exact ⟨store_pc _ _ _ _,store_pc' _ _ _⟩
 rw [execT_no ⟨e1,e2,e3,e4,e5,e6,e7,e8,e9,e10,e11,e13,h14,h15,e16,e17,e18⟩,execT_no ⟨e1,e2,e3,e4,e5,e6,e7,e8,e9,e10,e11,e13,h14,h15,e16,e17,e18⟩]
 exact ⟨rfl,rfl⟩
section
variable {p q:Pg}{m m' :Int}
end
structure RelP (n:Nat)(R:Nat→Int→Int→Prop)(s s' :MSt):Prop where
 words:s'.words=s.words
 owner:s'.owner=s.owner
 prints:s'.prints=s.prints
 regs:∀t,t<n→(nth s'.ths t).regs=(nth s.ths t).regs
 wait:∀t,t<n→(nth s'.ths t).wait=(nth s.ths t).wait
 pc:∀t,t<n→R t (nth s.ths t).pc (nth s'.ths t).pc
theorem RelP.view {n:Nat}{R:Nat→Int→Int→Prop}{s s' :MSt}(h:RelP n R s s'){t:Nat}(ht:t<n):s'.view t= { s.view t with pc:=(nth s'.ths t).pc } :=by
 unfold MSt.view
 simp only [h.words,h.owner,h.prints,h.regs t ht,h.wait t ht]
theorem putT_th {s:MSt}{t u:Nat}{y:TS}(h:t<s.ths.length):nth (s.putT t y).ths u=if t=u then ⟨y.pc,y.regs,y.wait⟩ else nth s.ths u:=by
 unfold MSt.putT
 simp only [nth_set0]
 by_cases e:t=u<;>simp [e,h]
 intro h2;exact absurd h (by rw [e];omega)
theorem RelP.put {n:Nat}{R:Nat→Int→Int→Prop}{s s' :MSt}(h:RelP n R s s'){t:Nat}(hl:t<s.ths.length)(hl' :t<s'.ths.length){y:TS}{u:Int}(hR:t<n→R t y.pc u):RelP n R (s.putT t y) (s'.putT t { y with pc:=u }):=by
 refine ⟨rfl,rfl,rfl,fun v hv=> ?_,fun v hv=> ?_,fun v hv=> ?_⟩
 ·rw [putT_th hl,putT_th hl'];split
  ·rfl
  ·exact h.regs v hv
 ·rw [putT_th hl,putT_th hl'];split
  ·rfl
  ·exact h.wait v hv
 ·rw [putT_th hl,putT_th hl'];split
  ·rename_i e;subst e;exact hR hv
  ·exact h.pc v hv
theorem RelP.left {n:Nat}{R:Nat→Int→Int→Prop}{s s' :MSt}(h:RelP n R s s'){t:Nat}(hl:t<s.ths.length){u:Int}(hR:t<n→R t u (nth s'.ths t).pc):RelP n R (s.putT t { s.view t with pc:=u }) s' :=by
 refine ⟨h.words,h.owner,h.prints,fun v hv=> ?_,fun v hv=> ?_,fun v hv=> ?_⟩
 ·rw [putT_th hl];split
  ·rename_i e;subst e;exact h.regs _ hv
  ·exact h.regs v hv
 ·rw [putT_th hl];split
  ·rename_i e;subst e;exact h.wait _ hv
  ·exact h.wait v hv
 ·rw [putT_th hl];split
  ·rename_i e;subst e;exact hR hv
  ·exact h.pc v hv
theorem RelP.right {n:Nat}{R:Nat→Int→Int→Prop}{s s' :MSt}(h:RelP n R s s'){t:Nat}(hl:t<s'.ths.length){u:Int}(hR:t<n→R t (nth s.ths t).pc u):RelP n R s (s'.putT t { s'.view t with pc:=u }):=by
 refine ⟨h.words,h.owner,h.prints,fun v hv=> ?_,fun v hv=> ?_,fun v hv=> ?_⟩
 ·rw [putT_th hl];split
  ·rename_i e;subst e;exact h.regs _ hv
  ·exact h.regs v hv
 ·rw [putT_th hl];split
  ·rename_i e;subst e;exact h.wait _ hv
  ·exact h.wait v hv
 ·rw [putT_th hl];split
  ·rename_i e;subst e;exact hR hv
  ·exact h.pc v hv
theorem ended_iff {p:Pg}{s:MSt} :ended p s=true↔∀t,t<p.code.length→¬(nth s.ths t).pc<((nth p.code t).length:Int)∧(nth s.ths t).wait.length=0:=by
 unfold ended
 rw [List.all_eq_true]
 simp only [List.mem_range,Bool.and_eq_true,decide_eq_true_eq]
theorem ended_false {p:Pg}{s:MSt}(h:ended p s=false):∃t,t<p.code.length∧((nth s.ths t).pc<((nth p.code t).length:Int)∨(nth s.ths t).wait.length≠0):=by
 apply Classical.byContradiction
 intro hn
 have:ended p s=true:=ended_iff.2 fun t ht=>by
  by_cases h1:(nth s.ths t).pc<((nth p.code t).length:Int)
  ·exact absurd ⟨t,ht, .inl h1⟩ hn
  ·by_cases h2:(nth s.ths t).wait.length=0
   ·exact ⟨h1,h2⟩
   ·exact absurd ⟨t,ht, .inr h2⟩ hn
 rw [h] at this;cases this
theorem Reach.len {p:Pg}{m:Int}(hok:OkPg p){s:MSt}(h:Reach p m s){t:Nat}(ht:t<p.code.length):t<s.ths.length:=by rw [(h.wf hok).ths];exact ht
theorem RelP.trans {n:Nat}{R R' R'' :Nat→Int→Int→Prop}{s s' s'' :MSt}(h:RelP n R s s')(h' :RelP n R' s' s'')(hc:∀t a b c,t<n→R t a b→R' t b c→R'' t a c):RelP n R'' s s'' :=
 ⟨h'.words.trans h.words,h'.owner.trans h.owner,h'.prints.trans h.prints,fun t ht=>(h'.regs t ht).trans (h.regs t ht),fun t ht=>(h'.wait t ht).trans (h.wait t ht),fun t ht=>hc t _ _ _ ht (h.pc t ht) (h'.pc t ht)⟩
theorem RelP.refl (n:Nat)(s:MSt):RelP n (fun _ a b=>b=a) s s:=⟨rfl,rfl,rfl,fun _ _=>rfl,fun _ _=>rfl,fun _ _=>rfl⟩
def At1 (t:Nat)(j:Int)(u:Nat)(a b:Int):Prop:=if u=t then b=j else b=a
theorem RelP.one {n:Nat}{s:MSt}{t:Nat}{u:Int}(hl:t<s.ths.length):RelP n (At1 t u) s (s.putT t { s.view t with pc:=u }):=by
 refine ⟨rfl,rfl,rfl,fun v hv=> ?_,fun v hv=> ?_,fun v hv=> ?_⟩
 ·rw [putT_th hl];split
  ·rename_i e;subst e;rfl
  ·rfl
 ·rw [putT_th hl];split
  ·rename_i e;subst e;rfl
  ·rfl
 ·rw [putT_th hl];unfold At1;split
  ·rename_i e;subst e;rw [if_pos rfl]
  ·rename_i e;rw [if_neg (fun h=>e h.symm)]
theorem At1.trans {t:Nat}{i j:Int}{u:Nat}{a b c:Int}(h:At1 t i u a b)(h' :At1 t j u b c):At1 t j u a c:=by
 unfold At1 at*
 split
 ·rename_i e;rw [if_pos e] at h';exact h'
 ·rename_i e;rw [if_neg e] at h h';rw [h',h]
theorem RelP.both {n:Nat}{R:Nat→Int→Int→Prop}{s s' s'' :MSt}(h:RelP n R s s'){t:Nat}(hl:t<s.ths.length){u j:Int}(h' :RelP n (At1 t j) s' s'')(hR:t<n→R t u j):RelP n R (s.putT t { s.view t with pc:=u }) s'' :=by
 refine ⟨h'.words.trans h.words,h'.owner.trans h.owner,h'.prints.trans h.prints,fun v hv=> ?_,fun v hv=> ?_,fun v hv=> ?_⟩
 ·rw [h'.regs v hv,h.regs v hv,putT_th hl];split
  ·rename_i e;subst e;rfl
  ·rfl
 ·rw [h'.wait v hv,h.wait v hv,putT_th hl];split
  ·rename_i e;subst e;rfl
  ·rfl
 ·rw [putT_th hl]
  have h1:=h'.pc v hv
  unfold At1 at h1
  by_cases e:t=v
  ·subst e
   rw [if_pos rfl] at h1
   rw [if_pos rfl,h1]
   exact hR hv
  ·rw [if_neg (fun h=>e h.symm)] at h1
   rw [if_neg e,h1]
   exact h.pc v hv
theorem stepT_e {p:Pg}{m:Int}{s:MSt}{t:Nat} :stepT p m s t 0=execT m t (nextIns (nth p.code t) (s.view t).pc) { s.view t with pc:=(s.view t).pc+1 } :=doT_0 rfl
end Go.Proofs.Ytmbfcgpneflbmaa
