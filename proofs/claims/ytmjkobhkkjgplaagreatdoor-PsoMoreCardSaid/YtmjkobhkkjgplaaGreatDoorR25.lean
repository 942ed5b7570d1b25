/- Each outcome with stores that wait in order is one with stores that pass each other, and whatever a script makes is one of these; for every program and every script: the statement holds, under no condition. -/
import Derived.Test.YtmjkobhkkjgplaaGreatDoorQ4
import Derived.ProofKit
import Derived.OpenShut
import Derived.Deep.Slices
import Derived.Carry
import Derived.SizedLaws
import Derived.Test.YtmjkobhkkjgplaaGreatDoorCards
import Derived.Test.YtmjkobhkkjgplaaGreatDoorTie
import Derived.LaidLaws
import Derived.LaidHandle
import Derived.LaidMore
import Derived.Handed
import Derived.SevenTiedAt
namespace Go.Proofs.YtmjkobhkkjgplaaGreatDoor
open Go.RowKit
set_option linter.unusedSimpArgs false
set_option linter.unusedVariables false
def nextS (p:Pg)(m:Int)(s:MSt):List MSt:=(List.range p.code.length).flatMap fun t=>(List.range ((s.view t).wait.length+1)).filterMap fun k=>if mvOK m (nth p.code t) (s.view t) k&& !(stepT p m s t k).fell then some (s.putT t (stepT p m s t k)) else none
def hasS (S:List MSt)(s:MSt):Bool:=S.any fun x=>decide (x=s)
def closeB (p:Pg)(m:Int)(S:List MSt):Bool:=hasS S (begin_ p)&&S.all fun s=>(nextS p m s).all (hasS S)
def growS (p:Pg)(m:Int):Nat→List MSt→List MSt→List MSt
 |0,_,S=>S
 |_+1, [],S=>S
 |n+1,s::r,S=>
  let N:=(nextS p m s).foldl (fun (a:List MSt) x=>if hasS S x||hasS a x then a else x::a) []
  growS p m n (N++r) (N++S)
section
variable {p:Pg}{m:Int}{S:List MSt}{s:MSt}
theorem hasS_mem (h:hasS S s=true):s∈S:=by
 obtain ⟨x,hx,e⟩:=List.any_eq_true.1 h
 rw [←of_decide_eq_true e];exact hx
theorem mvOK_lt9 {c:List Ins}{x:TS}{k:Nat}(h:mvOK m c x k=true):k<x.wait.length+1:=by
 unfold mvOK at h
 split at h
 ·omega
 ·simp only [Bool.and_eq_true,decide_eq_true_eq] at h;omega
theorem mem_nextS {t k:Nat}(ht:t<p.code.length)(hk:mvOK m (nth p.code t) (s.view t) k=true)(hf:(stepT p m s t k).fell=false):s.putT t (stepT p m s t k)∈nextS p m s:=
 List.mem_flatMap.2 ⟨t,List.mem_range.2 ht,List.mem_filterMap.2 ⟨k,List.mem_range.2 (mvOK_lt9 hk),by rw [hk,hf];rfl⟩⟩
theorem close_all (h:closeB p m S=true)(hr:Reach p m s):s∈S:=by
 simp only [closeB,Bool.and_eq_true] at h
 induction hr with
 |start=>exact hasS_mem h.1
 |step _ ht hk hf ih=>exact hasS_mem (List.all_eq_true.1 (List.all_eq_true.1 h.2 _ ih) _ (mem_nextS ht hk hf))
theorem close_big (h:closeB p m S=true)(hl:S.length≤4000):¬Big p m:=fun ⟨T,hn,hr,ht⟩=>by
 have:=nodup_sub hn fun s hs=>close_all h (hr s hs)
 omega
def pathS (p:Pg)(m:Int):List (Nat×Nat)→MSt→Option MSt
 | [],s=>some s
 |(t,k)::r,s=>if decide (t<p.code.length)&&mvOK m (nth p.code t) (s.view t) k&& !(stepT p m s t k).fell then pathS p m r (s.putT t (stepT p m s t k)) else none
theorem path_reach :∀ {l:List (Nat×Nat)} {s s' :MSt},Reach p m s→pathS p m l s=some s' →Reach p m s'
 | [],s,s',h,e=>by cases e;exact h
 |(t,k)::r,s,s',h,e=>by
  unfold pathS at e
  split at e
  ·rename_i hb
   simp only [Bool.and_eq_true,decide_eq_true_eq,Bool.not_eq_true'] at hb
   exact path_reach (.step h hb.1.1 hb.1.2 hb.2) e
  ·cases e
def endB (p:Pg)(m:Int)(l:List (Nat×Nat))(o:Outc):Bool:=match pathS p m l (begin_ p) with
 |some s=>ended p s&&decide (o=⟨0,s.words,s.prints⟩)
 |none=>false
theorem end_outs {l:List (Nat×Nat)}{o:Outc}(h:endB p m l o=true):Outs p m o:=by
 unfold endB at h
 split at h
 ·rename_i s hs
  simp only [Bool.and_eq_true] at h
  rw [of_decide_eq_true h.2]
  exact .done (path_reach .start hs) h.1
 ·cases h
def outB (p:Pg)(m:Int)(E:Outc→Bool)(s:MSt):Bool:=
 (if ended p s then E ⟨0,s.words,s.prints⟩ else !((List.range p.code.length).all fun t=> !ableV (nth p.code t) (s.view t)&&(s.view t).wait.isEmpty)||E ⟨2,s.words,s.prints⟩)&&
 (List.range p.code.length).all fun t=>(List.range ((s.view t).wait.length+1)).all fun k=> !(mvOK m (nth p.code t) (s.view t) k&&(stepT p m s t k).fell)||E ⟨1, [],(stepT p m s t k).prints⟩
theorem out_all {E:Outc→Bool}{o:Outc}(h:closeB p m S=true)(hE:S.all (outB p m E)=true)(ho:Outs p m o):E o=true:=by
 have key:∀s,Reach p m s→outB p m E s=true:=fun s hr=>List.all_eq_true.1 hE s (close_all h hr)
 cases ho with
 |done hr he=>
  have:=key _ hr
  simp only [outB,Bool.and_eq_true,he,if_true] at this
  exact this.1
 |stuck hr he hs=>
  have:=key _ hr
  simp only [outB,Bool.and_eq_true,he] at this
  have h1:=this.1
  simp only [Bool.false_eq_true,if_false,Bool.or_eq_true,Bool.not_eq_true'] at h1
  rcases h1 with h1|h1
  ·exfalso
   rw [List.all_eq_false] at h1
   obtain ⟨t,ht,h2⟩:=h1
   have:=mvOK_none fun k=>hs t k (List.mem_range.1 ht)
   rw [this.1,this.2] at h2
   simp at h2
  ·exact h1
 |fell hr ht hk hf=>
  have:=key _ hr
  simp only [outB,Bool.and_eq_true] at this
  have h2:=List.all_eq_true.1 (List.all_eq_true.1 this.2 _ (List.mem_range.2 ht)) _ (List.mem_range.2 (mvOK_lt9 hk))
  rw [hk,hf] at h2
  simpa using h2
end
set_option maxHeartbeats 2000000
theorem close_big9 {p:Pg}{m:Int}{S:List MSt}(h:closeB p m S=true)(hl:Nat.ble S.length 4000=true):¬Big p m:=close_big h (Nat.le_of_ble_eq_true hl)
theorem nodup_sub9 {α:Type}[DecidableEq α]:∀ {S T:List α},S.Nodup→(∀s∈S,s∈T)→S.length≤T.length
 | [],T,_,_=>Nat.zero_le _
 |a::S,T,h,hs=>by
  obtain ⟨h1,h2⟩:=List.nodup_cons.1 h
  have ha:=hs a (by simp)
  have:=nodup_sub9 (S:=S) (T:=T.erase a) h2 fun s hm=>(List.mem_erase_of_ne (fun (e:s=a)=>h1 (by rw [←e];exact hm))).2 (hs s (by simp [hm]))
  rw [List.length_erase_of_mem ha] at this
  have:=List.length_pos_of_mem ha
  simp only [List.length_cons];omega
theorem sorted_nodup :∀ {l:List Outc},Sorted_ l→l.Nodup:=by
 intro l h
 unfold Sorted_ at h
 exact h.imp fun hab e=>by subst e;rw [aheadB_irr] at hab;cases hab
section
variable {code:Ls (Ls Ins)}{words0:Ls Int}{Lk R:Nat}{m:Int}{script:List Int}{nx k:Nat}{x z:SD}
end
set_option maxRecDepth 100000
set_option maxHeartbeats 4000000
def endW (st:Int)(wd:Ls Int):Ls Int:=if st=1 then ⟨.slice none 0 0, []⟩ else wd
theorem endW_at {st:Int}{wd:Ls Int}{w:World}(h:wd.At w):(endW st wd).At w:=by
 unfold endW
 split
 ·exact LsNil _
 ·exact h
theorem endW_l {st:Int}{wd:Ls Int} :(endW st wd).l=if st=1 then [] else wd.l:=by unfold endW;split<;>rfl
theorem out_iff {a b:OutL} :a.out=b.out↔a.st=b.st∧a.words.l=b.words.l∧a.prints.l=b.prints.l:=by simp [OutL.out]
theorem found_yes {l:List OutL}{o:OutL}{k:Nat}(hk:k<l.length)(h1:(nth l k).st=o.st)(h2:(nth l k).words.l=o.words.l)(h3:(nth l k).prints.l=o.prints.l):o.out∈l.map OutL.out:=List.mem_map.2 ⟨nth l k,nth_mem _ _ hk,out_iff.2 ⟨h1,h2,h3⟩⟩
theorem found_no {l:List OutL}{o:OutL}{k:Nat}(hk:k=l.length)(h:∀j,j<k→(nth l j).out≠o.out):¬o.out∈l.map OutL.out:=fun hm=>by
 obtain ⟨x,hx,e⟩:=List.mem_map.1 hm
 obtain ⟨j,hj,rfl⟩:=List.mem_iff_getElem.1 hx
 exact h j (by omega) (by rw [nth_lt _ _ hj];exact e)
theorem kints_c (x y:Ls Int)(W:World)(hx:x.At W)(hy:y.At W):
    Rets Tryz.prog 78 [x.v,y.v] W (fun v w' =>v= .bool (decide (x.l=y.l))∧Sh0 W w' []):=by
 refine gen Tryz.func78 Tryz.ntmps78 (Sh0.ext2 hx hy:Sh (fun _=>False) W W [.at_ x, .at_ y]) rfl fun a10 h10=>gG h10<|sG (oM 1 rfl<|.nl)<|gK fun _ k12=>sK fun _ k13=>gNl (aA 0 rfl) fun hl14=>gNl (aA 1 rfl) fun hl15=>gRn (oM 1 rfl<|oln sl_23 (aA 0 rfl) rfl<|oM 1 rfl<|oln sl_23 (aA 1 rfl) rfl<|oneN _ _ rfl<|.nl)<|nK k13<|?_;clear h10
 refine gcd rfl (fun hb16 hp16=> ?_) fun hb16 hp16=> ?_
 ·skip
  refine sG (oM 1 rfl<|.nl)<|gR<|uT<|fun a18 w18 h18=>x_ret1 (fn:=Tryz.f78) (t:=4) rfl h18 rfl<|⟨?_,(h18.sh.sel [] rfl)⟩
  congr 1
  first|(exact (decide_eq_true (ext_nth _ _ (by omega) fun i hi=>hall i (by omega))).symm)|(refine (decide_eq_false fun e=> ?_).symm;first|(rw [e] at*;omega)|(simp_all;done))
 refine gS<|hK k12<|gK fun _ k19=>sG (oM 1 rfl<|.nl)<|gB<|fun a22 w22 h22=>x_loop (fun m a w=>∃(k:Nat),(k≤x.l.length)∧(∀j,j<k→nth x.l j=nth y.l j)∧St 26 (fun _=>False) W a w [(0,x.v),(1,y.v),(5, .int .i64 ((k:Nat):Int))] [.at_ x, .at_ y]∧m=x.l.length-k) ⟨_,0,(by omega),(fun j hj=>absurd hj (by omega)),h22.nf ⟨rfl,rfl,rfl,trivial⟩,rfl⟩ ?_
 clear h22
 rintro m21 a21 w21 ⟨k,hk,hall,h21,hm21⟩
 refine gG h21<|gK fun _ k23=>sG (oM 2 rfl<|oln sl_23 (aA 0 rfl) rfl<|oltN _ _ rfl<|.nl)<|?_;clear h21
 refine gcd rfl (fun hb25 hp25=> ?_) fun hb25 hp25=> ?_
 ·skip
  refine gS<|hK k23<|gK fun _ k26=>gB<|gK fun _ k27=>rQ (oM 2 rfl<|oxN sl_23 ti_3 (aA 0 rfl) _ om9 rfl<|olI ti_3 (aA 0 rfl) om9 rfl<|oM 2 rfl<|oxN sl_23 ti_3 (aA 1 rfl) _ om9 rfl<|olI ti_3 (aA 1 rfl) om9 rfl<|oneI _ _ rfl<|.nl)<|hK k27<|gcd rfl (fun hb28 hp28=> ?_) fun hb28 hp28=> ?_
  ·skip
   refine sG (oM 1 rfl<|.nl)<|gR<|uB<|uT<|uT<|uB<|uT<|fun a30 w30 h30=>x_ret1 (fn:=Tryz.f78) (t:=4) rfl h30 rfl<|⟨?_,(h30.sh.sel [] rfl)⟩
   congr 1
   first|(exact (decide_eq_true (ext_nth _ _ (by omega) fun i hi=>hall i (by omega))).symm)|(refine (decide_eq_false fun e=> ?_).symm;first|(rw [e] at*;omega)|(simp_all;done))
  refine gS<|hK k26<|gL<|gRn (oM 1 rfl<|oadN _ 1 om9 rfl<|oM 1 rfl<|.nl)<|nN<|fun a31 w31 h31=>x_again ⟨_, ?_,k+1, ?_, ?_,h31.nf ⟨rfl,rfl,rfl,trivial⟩,rfl⟩
  · rw [hm21];first|omega|(simp only [lens9];omega)
  · omega
  · intro j hj;rcases Nat.lt_or_ge j k with h|h;exact hall j h;obtain rfl:j=k:=(by omega);omega
 refine gX<|hK k19<|sG (oM 1 rfl<|.nl)<|gR<|fun a33 w33 h33=>x_ret1 (fn:=Tryz.f78) (t:=4) rfl h33 rfl<|⟨?_,(h33.sh.sel [] rfl)⟩
 congr 1
 first|(exact (decide_eq_true (ext_nth _ _ (by omega) fun i hi=>hall i (by omega))).symm)|(refine (decide_eq_false fun e=> ?_).symm;first|(rw [e] at*;omega)|(simp_all;done))
theorem found_c (al:Ls OutL)(o1:OutL)(W:World)(ha:al.At W)(hw:o1.words.At W)(hp:o1.prints.At W):
    Rets Tryz.prog 35 [al.v, .agg #[.int .i64 o1.st,o1.words.v,o1.prints.v]] W (fun v w' =>v= .bool (decide (o1.out∈al.l.map OutL.out))∧Sh0 W w' []):=by
 refine gen Tryz.func35 Tryz.ntmps35 (Sh0.ext3 ha hw hp:Sh (fun _=>False) W W [.at_ al, .at_ o1.words, .at_ o1.prints]) rfl fun a10 h10=>gG h10<|sK fun _ k11=>gbx rfl rfl fun b12=>gRn (oM 1 rfl<|.nl)<|nK k11<|gK fun _ k13=>sG (oM 1 rfl<|.nl)<|gB<|fun a16 w16 h16=>x_loop (fun m a w=>∃(k:Nat),(k≤al.l.length)∧(∀j,j<k→(nth al.l j).out≠o1.out)∧St 44 (fun _=>False) W a w [(0,al.v),(3, .pointer (some ⟨b12,0,none⟩)),(5, .int .i64 ((k:Nat):Int))] [.blk b12 39 [.int .i64 o1.st,o1.words.v,o1.prints.v], .at_ al, .at_ o1.words, .at_ o1.prints]∧m=al.l.length-k) ⟨_,0,(by omega),(fun j hj=>absurd hj (by omega)),h16.nf ⟨rfl,rfl,rfl,trivial⟩,rfl⟩ ?_;clear h10
 clear h16
 rintro m15 a15 w15 ⟨k,hk,hno,h15,hm15⟩
 refine gG h15<|gK fun _ k17=>sK fun _ k18=>gNl (aA 1 rfl) fun hl19=>gRn (oM 2 rfl<|oln sl_35 (aA 1 rfl) rfl<|oltN _ _ rfl<|.nl)<|nK k18<|?_;clear h15
 refine gcd rfl (fun hb20 hp20=> ?_) fun hb20 hp20=> ?_
 ·skip
  refine gS<|hK k17<|gK fun _ k21=>gB<|gK fun _ k22=>fun a23 w23 h23=>x_quiet (by kernel_rfl) (by kernel_rfl) h23 fun _ z24=>qQ h23.fr<|qRn (oM 2 rfl<|oxN sl_35 ti_39 (aA 1 rfl) _ om9 rfl<|ofE fl_39_1 rfl<|olE (((nth al.l k).words).v) ti_23 (aA 1 rfl) om9 rfl<|ofB fl_39_1 rfl<|olB 0 ti_23 rfl rfl<|.nl)<|qP bd_78 rfl (fun w h=>(kints_c ((nth al.l k).words) o1.words _ ((h.at 1 rfl).inner k (show k<al.l.length from (by omega))).1 (h.at 2 rfl)))<|qRn (oM 1 rfl<|.nl)<|qN z24<|hK k22<|gK fun _ k25=>fun a26 w26 h26=>x_quiet (by kernel_rfl) (by kernel_rfl) h26 fun _ z27=>qQ h26.fr<|qRn (oM 2 rfl<|oxN sl_35 ti_39 (aA 1 rfl) _ om9 rfl<|ofE fl_39_2 rfl<|olE (((nth al.l k).prints).v) ti_23 (aA 1 rfl) om9 rfl<|ofB fl_39_2 rfl<|olB 0 ti_23 rfl rfl<|.nl)<|qP bd_78 rfl (fun w h=>(kints_c ((nth al.l k).prints) o1.prints _ ((h.at 1 rfl).inner k (show k<al.l.length from (by omega))).2 (h.at 3 rfl)))<|qRn (oM 1 rfl<|.nl)<|qN z27<|hK k25<|gK fun _ k28=>fun a29 w29 h29=>x_quiet (by kernel_rfl) (by kernel_rfl) h29 fun _ z30=>qQ h29.fr<|qRn (oM 2 rfl<|oxN sl_35 ti_39 (aA 1 rfl) _ om9 rfl<|ofE fl_39_0 rfl<|olI ti_3 (aA 1 rfl) om9 rfl<|ofB fl_39_0 rfl<|olB 0 ti_3 rfl rfl<|oeqI _ _ rfl<|oM 1 rfl<|.nl)<|?_;clear h23 h26
  rcases dsp ((nth al.l k).st=o1.st) with ⟨hb31,hp31⟩|⟨hb31,hp31⟩
  ·skip
   refine qRn (oG hb31 (r_move rfl rfl) rfl<|opT hb31 rfl<|oM 1 rfl<|.nl)<|?_
   rcases dsp (((nth al.l k).words).l=o1.words.l) with ⟨hb33,hp33⟩|⟨hb33,hp33⟩
   ·skip
    refine qRn (oG hb33 (r_move rfl rfl) rfl<|opT hb33 rfl<|.nl)<|qN z30<|?_;clear h29
    refine hK k28<|gF [0,3,5,43] rfl<|gcd rfl (fun hb35 hp35=> ?_) fun hb35 hp35=> ?_
    ·skip
     refine sG (oM 1 rfl<|.nl)<|gR<|uB<|uT<|uT<|uB<|uT<|fun a37 w37 h37=>x_ret1 (fn:=Tryz.f35) (t:=4) rfl h37 rfl<|⟨congrArg Value.bool ?_,(h37.sh.sel [] rfl)⟩
     exact (decide_eq_true (found_yes (k:=k) (by omega) (by first|assumption|omega) (by assumption) (by assumption))).symm
    refine gS<|hK k21<|gL<|gRn (oM 1 rfl<|oadN _ 1 om9 rfl<|oM 1 rfl<|.nl)<|nN<|fun a38 w38 h38=>x_again ⟨_, ?_,k+1, ?_, ?_,h38.nf ⟨rfl,rfl,rfl,trivial⟩,rfl⟩
    · rw [hm15];first|omega|(simp only [lens9];omega)
    · omega
    · exact snocQ hno (fun e9=>by obtain ⟨e1,e2,e3⟩:=out_iff.1 e9;contradiction)
   refine qRn (oK hb33 rfl<|opF hb33 rfl<|.nl)<|qN z30<|?_;clear h29
   refine hK k28<|gF [0,3,5,43] rfl<|gcF rfl rfl<|gS<|hK k21<|gL<|gRn (oM 1 rfl<|oadN _ 1 om9 rfl<|oM 1 rfl<|.nl)<|nN<|fun a40 w40 h40=>x_again ⟨_, ?_,k+1, ?_, ?_,h40.nf ⟨rfl,rfl,rfl,trivial⟩,rfl⟩
   · rw [hm15];first|omega|(simp only [lens9];omega)
   · omega
   · exact snocQ hno (fun e9=>by obtain ⟨e1,e2,e3⟩:=out_iff.1 e9;contradiction)
  refine qRn (oK hb31 rfl<|opF hb31 rfl<|oM 1 rfl<|oK rfl rfl<|opF rfl rfl<|.nl)<|qN z30<|?_;clear h29
  refine hK k28<|gF [0,3,5,43] rfl<|gcF rfl rfl<|gS<|hK k21<|gL<|gRn (oM 1 rfl<|oadN _ 1 om9 rfl<|oM 1 rfl<|.nl)<|nN<|fun a43 w43 h43=>x_again ⟨_, ?_,k+1, ?_, ?_,h43.nf ⟨rfl,rfl,rfl,trivial⟩,rfl⟩
  · rw [hm15];first|omega|(simp only [lens9];omega)
  · omega
  · exact snocQ hno (fun e9=>by obtain ⟨e1,e2,e3⟩:=out_iff.1 e9;contradiction)
 refine gX<|hK k13<|sG (oM 1 rfl<|.nl)<|gR<|fun a45 w45 h45=>x_ret1 (fn:=Tryz.f35) (t:=4) rfl h45 rfl<|⟨congrArg Value.bool ?_,(h45.sh.sel [] rfl)⟩
 exact (decide_eq_false (found_no (by omega) hno)).symm
theorem kended_c (pr wd:Ls Int)(st:Int)(sn:Nat)(W:World)(hp:pr.At W)(hw:wd.At W):
    Rets Tryz.prog 34 [.agg #[pr.v, .int .i64 st,wd.v, .int .i64 ((sn:Nat):Int)]] W (fun v w' =>v= .agg #[.int .i64 st,(endW st wd).v,pr.v]∧Sh0 W w' []):=by
 refine gen Tryz.func34 Tryz.ntmps34 (Sh0.ext2 hp hw:Sh (fun _=>False) W W [.at_ pr, .at_ wd]) rfl fun a10 h10=>gG h10<|sK fun _ k11=>gbx rfl rfl fun b12=>gal ti_39 rfl fun b13=>nK k11<|sK fun _ k14=>gRn (ofB fl_60_1 rfl<|olB 1 ti_3 rfl rfl<|ofB fl_60_0 rfl<|olB 1 ti_23 rfl rfl<|oV (r_buildS (cs:= [.int .i64 st,(.slice none 0 0),pr.v]) rfl rfl (fun w h=>by obtain ⟨A15,n15,c15,(e15:pr.v=_)⟩:=((h.at 2 rfl)).form;rw [e15];kernel_rfl)) rfl<|.nl)<|gal ti_39 rfl fun b16=>gE (fun _ _ h_=>x_stb (i:=0) (vs:= [.int .i64 st,(.slice none 0 0),pr.v]) (cs' := [.int .i64 st,(.slice none 0 0),pr.v]) h_ ti_39 rfl rfl rfl rfl rfl rfl rfl (allOne_cons rfl (allOne_cons rfl (allOne_cons ((h_.sh.at 3 rfl)).one allOne_nil))) (Nat.le_of_ble_eq_true rfl) rfl) rfl<|nK k14<|gK fun _ k18=>sG (ofB fl_60_1 rfl<|olB 2 ti_3 rfl rfl<|oneI _ _ rfl<|.nl)<|?_;clear h10
 refine gcd rfl (fun hb20 hp20=> ?_) fun hb20 hp20=> ?_
 ·skip
  refine gL<|gRn (ofB fl_60_2 rfl<|olB 2 ti_23 rfl rfl<|ofB fl_39_1 rfl<|.nl)<|gsr 0 ti_23 rfl (aA 4 rfl) rfl<|nK k18<|sK fun _ k22=>gRn (olw 0 ti_39 rfl rfl<|.nl)<|gE (fun _ _ h_=>x_stb (i:=1) (vs:= [.int .i64 st,wd.v,pr.v]) (cs' := [.int .i64 st,wd.v,pr.v]) h_ ti_39 rfl rfl rfl rfl rfl rfl rfl (allOne_cons rfl (allOne_cons ((h_.sh.at 4 rfl)).one (allOne_cons ((h_.sh.at 3 rfl)).one allOne_nil))) (Nat.le_of_ble_eq_true rfl) rfl) rfl<|nK k22<|gR<|fun a24 w24 h24=>x_ret1c (fn:=Tryz.f34) (t:=2) (i:=1) ti_39 rfl h24 rfl rfl rfl<|⟨?_,(h24.sh.sel [] rfl)⟩
  rw [show endW st wd=wd from if_neg (of_decide_eq_true hb20)]
 refine gS<|hK k18<|sK fun _ k25=>gRn (olw 0 ti_39 rfl rfl<|.nl)<|gE (fun _ _ h_=>x_stb (i:=1) (vs:= [.int .i64 st,(.slice none 0 0),pr.v]) (cs' := [.int .i64 st,(.slice none 0 0),pr.v]) h_ ti_39 rfl rfl rfl rfl rfl rfl rfl (allOne_cons rfl (allOne_cons rfl (allOne_cons ((h_.sh.at 3 rfl)).one allOne_nil))) (Nat.le_of_ble_eq_true rfl) rfl) rfl<|nK k25<|gR<|fun a27 w27 h27=>x_ret1c (fn:=Tryz.f34) (t:=2) (i:=1) ti_39 rfl h27 rfl rfl rfl<|⟨?_,(h27.sh.sel [] rfl)⟩
 rw [show endW st wd=⟨.slice none 0 0, []⟩ from if_pos (by have h9:=of_decide_eq_false hb20;omega)]
end Go.Proofs.YtmjkobhkkjgplaaGreatDoor
namespace Go.Proofs.YtmjkobhkkjgplaaGreatDoor
open Go.ChangeShapes Go.WideShapes Go.ChangeAt Go.RowKit
open Go.Deep (open_slice)
set_option linter.unusedSimpArgs false
set_option linter.unusedVariables false
class Rd (α:Type) extends Enc α where
 ty:Program→TypeId→Prop
 fine:α→Prop
 read:∀ {H:Type} {enc:TypeId×Value→H} {P:Program} {w:World} {base:Nat} {spare:Nat→Bool} {held:Bool} {fuel:Nat} {T:TypeId} {cs:List Value} {x:DataW H×List MemPlace},
  ty P T→DataW.trod enc P w base spare held fuel T cs=some x→(∀n∈DataW.weights P T x.1,n≤reachBytes)→∃a:α,cs=cellsOf a∧Enc.inner a w∧fine a
instance : Rd Int where
 ty P T:=P.underlying T=some (.int .i64)
 fine n:=(Lit.int .i64 n).wf=true
 read hT h _:=by
  obtain ⟨n,rfl,_,hw⟩:=DataW.trod_int hT h
  exact ⟨n,rfl,trivial,hw⟩
instance : Rd Bool where
 ty P T:=P.underlying T=some .bool
 fine _:=True
 read hT h _:=by
  obtain ⟨b,rfl,_⟩:=DataW.trod_bool hT h
  exact ⟨b,rfl,trivial,trivial⟩
def intFields (P:Program)(fs:Array Field)(n:Nat):Prop:=fs.size=n∧∀(j:Nat) (f:Field),fs[j]? =some f→f.offset=j∧P.underlying f.type=some (.int .i64)∧P.cellsOf f.type=1
theorem read_ints {H:Type}{enc:TypeId×Value→H}{P:Program}{w:World}{base:Nat}{spare:Nat→Bool}{held:Bool}{fuel:Nat}{T:TypeId}{cs:List Value}{x:DataW H×List MemPlace}{fs:Array Field}{n:Nat}
  (hT:P.underlying T=some (.struct fs)) (hfs:intFields P fs n) (hC:P.cellsOf T=n) (h:DataW.trod enc P w base spare held fuel T cs=some x):
  cs.length=n∧∀j,j<n→∃k:Int,cs[j]? =some (.int .i64 k)∧(Lit.int .i64 k).wf=true:=by
 obtain ⟨xs,m,_,_,hlen,hxl,hf⟩:=DataW.trod_struct hT h
 refine ⟨hlen.trans hC,fun j hj=> ?_⟩
 obtain ⟨hs,hall⟩:=hfs
 have hjs:j<fs.size:=by omega
 obtain ⟨ho,ht,hc⟩:=hall j fs[j] (by simp [hjs])
 have h1:=hf j fs[j] (by simp [hjs])
 rw [ho,hc,List.getElem?_eq_getElem (by omega)] at h1
 obtain ⟨k,hk,_,hw⟩:=DataW.trod_int ht h1
 refine ⟨k, ?_,hw⟩
 rw [List.drop_eq_getElem_cons (by omega)] at hk
 simp only [List.take_succ_cons,List.take_zero,List.cons.injEq,and_true] at hk
 rw [List.getElem?_eq_getElem (by omega),hk]
instance : Rd Ins where
 ty P T:=∃fs,P.underlying T=some (.struct fs)∧intFields P fs 4∧P.cellsOf T=4
 fine x:=(Lit.int .i64 x.op).wf=true∧(Lit.int .i64 x.a).wf=true∧(Lit.int .i64 x.b).wf=true∧(Lit.int .i64 x.c).wf=true
 read:=by
  rintro H enc P w base spare held fuel T cs x ⟨fs,hT,hfs,hC⟩ h _
  obtain ⟨hl,hj⟩:=read_ints hT hfs hC h
  obtain ⟨k0,e0,w0⟩:=hj 0 (by omega)
  obtain ⟨k1,e1,w1⟩:=hj 1 (by omega)
  obtain ⟨k2,e2,w2⟩:=hj 2 (by omega)
  obtain ⟨k3,e3,w3⟩:=hj 3 (by omega)
  match cs,hl with
  | [c0,c1,c2,c3],_=>
   simp only [List.getElem?_cons_zero,List.getElem?_cons_succ,Option.some.injEq] at e0 e1 e2 e3
   subst e0 e1 e2 e3
   exact ⟨⟨k0,k1,k2,k3⟩,rfl,trivial,w0,w1,w2,w3⟩
theorem weights_slice {H:Type}{P:Program}{T e:TypeId}{elems spare:List (DataW H)}(hT:P.underlying T=some (.slice e))(h:∀n∈DataW.weights P T (.slice elems spare),n≤reachBytes):
  (elems.length+spare.length)*P.bytesOf e≤reachBytes∧∀d∈elems,∀n∈DataW.weights P e d,n≤reachBytes:=by
 unfold DataW.weights at h
 rw [hT] at h
 refine ⟨h _ (by simp),fun d hd n hn=>h n ?_⟩
 have:∀l:List (DataW H),d∈l→n∈DataW.weightsAll P e l:=by
  intro l hl
  induction l with
  |nil=>cases hl
  |cons y l ih=>
   unfold DataW.weightsAll
   rcases List.mem_cons.1 hl with rfl|hl
   ·exact List.mem_append.2 (.inl hn)
   ·exact List.mem_append.2 (.inr (ih hl))
 simp only [List.mem_cons,List.mem_append]
 exact .inr (.inl (this _ hd))
instance {α:Type}[Rd α]:Rd (Sl α) where
 ty P T:=∃e,P.underlying T=some (.slice e)∧P.cellsOf e=Enc.sz α∧1≤P.bytesOf e∧0<Enc.sz α∧Rd.ty α P e
 fine s:=∀i,i<s.l.length→Rd.fine (nth s.l i)
 read:=by
  rintro H enc P w base spare held fuel T cs x ⟨e,hT,hC,hB,hpos,hty⟩ h hw
  rcases open_slice hT h with ⟨rfl,rfl⟩|⟨a,len,cap,m,n,D,Pl,rfl,_,hl,hm,hmm,rfl,hi⟩
  ·refine ⟨⟨none,0, []⟩,rfl,⟨Nat.le_refl _,by simp,by simp,fun hh=>absurd hh (by simp),fun hh=>absurd hh (by simp),fun i j hi=>absurd hi (by simp),fun i hi=>absurd hi (by simp)⟩,fun i hi=>absurd hi (by simp)⟩
  ·obtain ⟨hb,hd⟩:=weights_slice hT hw
   have hlm:len≤m:=by rw [hmm];split<;>omega
   have hlen:len≤140737488355328:=by
    simp only [List.length_map,List.length_range,reachBytes] at hb
    have:(len+(m-len))*1≤(len+(m-len))*P.bytesOf e:=Nat.mul_le_mul_left _ hB
    omega
   have key:∀i,i<len→∃y:α,(∀j,j<Enc.sz α→w.cell? ((a.add (i*Enc.sz α)).add j)=some (Enc.cell y j))∧Enc.inner y w∧Rd.fine y:=by
    intro i hil
    obtain ⟨cs',hc',ht'⟩:=hi i (by omega)
    obtain ⟨y,hy,hin,hf⟩:=Rd.read hty ht' (hd _ (List.mem_map.2 ⟨i,by simpa using hil,rfl⟩))
    obtain ⟨_,hcl,hat⟩:=World.cells?_some hc'
    rw [hC] at hc' hat hcl
    refine ⟨y,fun j hj=> ?_,hin,hf⟩
    rw [hat j (by first|exact hj|omega)]
    subst hy
    simp [cellsOf,hj]
   obtain ⟨F,hF⟩:=Go.Deep.choose_lt key
   let l:=(List.range len).map F
   have hll:l.length=len:=by simp [l]
   have hn:∀i,i<len→nth l i=F i:=by intro i hil;simp [nth,l,hil]
   have hcell0:0<len→∃v,w.cell? a=some v:=fun h0=>⟨_,by
    have h1:=(hF 0 h0).1 0 hpos
    rw [Nat.zero_mul,Addr.add_zero',Addr.add_zero'] at h1
    exact h1⟩
   have hspot:0<len→a.spot=none:=by
    intro h0
    obtain ⟨v,hv⟩:=hcell0 h0
    unfold World.cell? at hv
    split at hv
    ·split at hv
     ·cases hv
     ·rename_i hs
      simpa using hs
    ·cases hv
   refine ⟨⟨some a,cap,l⟩,by simp [cellsOf,Enc.cell,Enc.sz,hll],⟨by rw [hll];exact hl,hm,by rw [hll];exact hlen, ?_, ?_, ?_, ?_⟩, ?_⟩
   ·intro h0
    exact ⟨a,rfl,hspot (by rw [←hll];exact h0)⟩
   ·intro h0
    obtain ⟨v,hv⟩:=hcell0 (by rw [←hll];exact h0)
    exact World.block_lt_of_cell? w a hv
   ·intro i j hi' hj
    rw [hll] at hi'
    show w.cell? ⟨a.block,a.off+i*Enc.sz α+j,none⟩=some (Enc.cell (nth l i) j)
    rw [hn i hi',←(hF i hi').1 j hj]
    have hs:=hspot (by omega)
    rcases a with ⟨b,o,sp⟩
    simp only at hs
    subst hs
    rw [Addr.add_lit,Addr.add_lit]
   ·intro i hi'
    rw [hll] at hi'
    rw [hn i hi']
    exact (hF i hi').2.1
   ·intro i hi'
    rw [hll] at hi'
    rw [hn i hi']
    exact (hF i hi').2.2
def prFields (P:Program)(fs:Array Field):Prop:=
 ∃f0 f1 f2 f3:Field,fs= #[f0,f1,f2,f3]∧(f0.offset=0∧P.cellsOf f0.type=1∧Rd.ty (Sl (Sl Ins)) P f0.type)∧(f1.offset=1∧P.cellsOf f1.type=1∧Rd.ty (Sl Int) P f1.type)∧
  (f2.offset=2∧P.cellsOf f2.type=1∧Rd.ty Int P f2.type)∧(f3.offset=3∧P.cellsOf f3.type=1∧Rd.ty Int P f3.type)
def PR.fine (p:PR):Prop:=Rd.fine p.code∧Rd.fine p.words∧(Lit.int .i64 p.locks).wf=true∧(Lit.int .i64 p.regs).wf=true
theorem weights_agg {H:Type}{P:Program}{T:TypeId}{f0 f1 f2 f3:Field}{d0 d1 d2 d3:DataW H}(hT:P.underlying T=some (.struct #[f0,f1,f2,f3]))(h:∀n∈DataW.weights P T (.agg [d0,d1,d2,d3]),n≤reachBytes):
  (∀n∈DataW.weights P f0.type d0,n≤reachBytes)∧(∀n∈DataW.weights P f1.type d1,n≤reachBytes)∧(∀n∈DataW.weights P f2.type d2,n≤reachBytes)∧(∀n∈DataW.weights P f3.type d3,n≤reachBytes):=by
 unfold DataW.weights at h
 rw [hT] at h
 simp only [List.map_cons,List.map_nil,DataW.weightsEach,List.append_nil,List.mem_append] at h
 exact ⟨fun n hn=>h n (.inl hn),fun n hn=>h n (.inr (.inl hn)),fun n hn=>h n (.inr (.inr (.inl hn))),fun n hn=>h n (.inr (.inr (.inr hn)))⟩
theorem open_PR {H:Type}{enc:TypeId×Value→H}{P:Program}{w:World}{base:Nat}{spare:Nat→Bool}{held:Bool}{r:Go.Reach}{b0:Nat}{T:TypeId}{fs:Array Field}{v:Value}{d:DataW H}{p:List MemPlace}
  (hT:P.underlying T=some (.struct fs)) (hfs:prFields P fs) (hC:P.cellsOf T=4) (hv:Value.okWide P w r b0 T v) (h:DataW.Trod enc P w base spare held T v d p) (hw:∀n∈DataW.weights P T d,n≤reachBytes):
  ∃q:PR,v=q.val∧q.At w∧q.fine:=by
 obtain ⟨f0,f1,f2,f3,rfl,⟨o0,c0,t0⟩,⟨o1,c1,t1⟩,⟨o2,c2,t2⟩,⟨o3,c3,t3⟩⟩:=hfs
 obtain ⟨cs,rfl,hsz⟩:=okWide_struct hT hv
 obtain ⟨l⟩:=cs
 match l,hsz.trans hC with
 | [v0,v1,v2,v3],_=>
  obtain ⟨fuel,hf⟩:=h
  obtain ⟨xs,n,_,hx,_,hlen,hg⟩:=DataW.trod_struct hT hf
  match xs,hlen with
  | [y0,y1,y2,y3],_=>
   simp only [Prod.mk.injEq,List.map_cons,List.map_nil] at hx
   rw [hx.1] at hw
   obtain ⟨w0,w1,w2,w3⟩:=weights_agg hT hw
   have g0:=hg 0 f0 rfl
   have g1:=hg 1 f1 rfl
   have g2:=hg 2 f2 rfl
   have g3:=hg 3 f3 rfl
   rw [o0,c0] at g0
   rw [o1,c1] at g1
   rw [o2,c2] at g2
   rw [o3,c3] at g3
   simp [Value.cells] at g0 g1 g2 g3
   obtain ⟨s0,e0,i0,k0⟩:=Rd.read t0 g0 w0
   obtain ⟨s1,e1,i1,k1⟩:=Rd.read t1 g1 w1
   obtain ⟨s2,e2,i2,k2⟩:=Rd.read t2 g2 w2
   obtain ⟨s3,e3,i3,k3⟩:=Rd.read t3 g3 w3
   simp [cellsOf,Enc.cell,Enc.sz] at e0 e1 e2 e3
   subst e0 e1 e2 e3
   exact ⟨⟨s0,s1,s2,s3⟩,rfl,⟨i0,i1⟩,k0,k1,k2,k3⟩
end Go.Proofs.YtmjkobhkkjgplaaGreatDoor
namespace Go.Proofs.YtmjkobhkkjgplaaGreatDoor
open Go.ChangeShapes Go.WideShapes Go.ChangeAt Go.RowKit
set_option linter.unusedSimpArgs false
set_option linter.unusedVariables false
theorem own :ownKnob Tryz.prog.godebug=none:=by kernel_rfl
theorem laidOut :laidOutB Tryz.prog=true:=by kernel_rfl
theorem ty_int :Rd.ty Int Tryz.prog 3:=Tryz.underlying3
theorem ty_ins :Rd.ty Ins Tryz.prog 32:=by
 refine ⟨_,Tryz.underlying32,⟨rfl,fun j f hf=> ?_⟩,by kernel_rfl⟩
 rcases j with _|_|_|_|j<;>simp at hf<;>subst hf<;>exact ⟨rfl,Tryz.underlying3,by kernel_rfl⟩
theorem ty_ints :Rd.ty (Sl Int) Tryz.prog 23:=⟨_,Tryz.underlying23,by kernel_rfl,of_decide_eq_true (by kernel_rfl),by decide,ty_int⟩
theorem ty_code :Rd.ty (Sl Ins) Tryz.prog 33:=⟨_,Tryz.underlying33,by kernel_rfl,of_decide_eq_true (by kernel_rfl),by decide,ty_ins⟩
theorem ty_codes :Rd.ty (Sl (Sl Ins)) Tryz.prog 22:=⟨_,Tryz.underlying22,by kernel_rfl,of_decide_eq_true (by kernel_rfl),by decide,ty_code⟩
theorem ty_pr :∃fs,Tryz.prog.underlying 25=some (.struct fs)∧prFields Tryz.prog fs:=
 ⟨_,Tryz.underlying25,_,_,_,_,rfl,⟨rfl,by kernel_rfl,ty_codes⟩,⟨rfl,by kernel_rfl,ty_ints⟩,⟨rfl,by kernel_rfl,ty_int⟩,⟨rfl,by kernel_rfl,ty_int⟩⟩
section
variable {α:Type}[Enc α]
def ofSl (s:Sl α):Ls α:=⟨.slice s.A s.l.length s.cap,s.l⟩
theorem ofSl_at {s:Sl α}{w:World}(h:s.At w):(ofSl s).At w:=⟨s.A,s.cap,rfl,h⟩
def ofSl2 (s:Sl (Sl α)):Ls (Ls α):=⟨.slice s.A s.l.length s.cap,s.l.map ofSl⟩
theorem ofSl2_at {s:Sl (Sl α)}{w:World}(h:s.At w):(ofSl2 s).At w:=by
 refine ⟨s.A,s.cap,by simp [ofSl2],⟨by simpa [ofSl2] using h.le,h.max,by simpa [ofSl2] using h.len,by simpa [ofSl2] using h.some,by simpa [ofSl2] using h.lt',fun i j hi hj=> ?_,fun i hi=> ?_⟩⟩
 ·have hi' :i<s.l.length:=by simpa [ofSl2] using hi
  show w.cell? _=some (Enc.cell (nth (s.l.map ofSl) i) j)
  rw [nth_map' ofSl _ _ hi']
  exact h.cell i j hi' hj
 ·have hi' :i<s.l.length:=by simpa [ofSl2] using hi
  show Enc.inner (nth (s.l.map ofSl) i) w
  rw [nth_map' ofSl _ _ hi']
  exact ofSl_at (h.inner i hi')
end
end Go.Proofs.YtmjkobhkkjgplaaGreatDoor
namespace Go.Proofs.YtmjkobhkkjgplaaGreatDoor
open Go.RowKit
set_option linter.unusedSimpArgs false
set_option linter.unusedVariables false
theorem exact_len {p:Pg}{m:Int}{A E:List Outc}(ha:Sorted_ A)(hA:∀o,o∈A↔Outs p m o)(hE:E.Nodup)(h1:∀o∈E,Outs p m o)(h2:∀o,Outs p m o→o∈E):A.length=E.length:=
 Nat.le_antisymm (nodup_sub9 (sorted_nodup ha) fun o ho=>h2 o ((hA o).1 ho)) (nodup_sub9 hE fun o ho=>(hA o).2 (h1 o ho))
def twoP :Pg:=⟨[[⟨1,0,1,0⟩,⟨9,0,0,0⟩,⟨9,1,0,0⟩], [⟨8,0,1,0⟩,⟨8,1,0,0⟩,⟨16,0,0,0⟩,⟨16,1,0,0⟩]], [0,0],0,2⟩
def twoS (m:Int):List MSt:=growS twoP m 1000 [begin_ twoP] [begin_ twoP]
set_option maxHeartbeats 2000000
theorem two_1 :closeB twoP 1 (twoS 1)=true:=by kernel_rfl
theorem two_2 :closeB twoP 2 (twoS 2)=true:=by kernel_rfl
theorem two_big1 :¬Big twoP 1:=close_big9 two_1 (by kernel_rfl)
theorem two_big2 :¬Big twoP 2:=close_big9 two_2 (by kernel_rfl)
def twoE :List Outc:= [⟨0, [1,1], [1,0,1,0]⟩,⟨0, [1,1], [1,0,1,1]⟩,⟨0, [1,1], [1,1,1,1]⟩]
def twoO :Outc:=⟨0, [1,1], [1,1,1,0]⟩
theorem any_mem {E:List Outc}{o:Outc}(h:(E.any fun x=>decide (o=x))=true):o∈E:=by
 obtain ⟨x,hx,e⟩:=List.any_eq_true.1 h
 rw [of_decide_eq_true e];exact hx
theorem two_E1 :∀o∈twoE,Outs twoP 1 o:=by
 intro o ho
 simp only [twoE,List.mem_cons,List.not_mem_nil,or_false] at ho
 rcases ho with rfl|rfl|rfl
 ·exact end_outs (l:= [(1,0),(1,0),(1,0),(1,0),(0,0),(0,0),(0,0),(0,1),(0,1)]) (by kernel_rfl)
 ·exact end_outs (l:= [(1,0),(0,0),(0,0),(0,0),(0,1),(0,1),(1,0),(1,0),(1,0)]) (by kernel_rfl)
 ·exact end_outs (l:= [(0,0),(0,0),(0,0),(0,1),(0,1),(1,0),(1,0),(1,0),(1,0)]) (by kernel_rfl)
theorem two_O :Outs twoP 2 twoO:=end_outs (l:= [(0,0),(0,0),(0,0),(0,2),(1,0),(1,0),(1,0),(1,0),(0,1)]) (by kernel_rfl)
theorem two_len {A B:List Outc}(ha:Sorted_ A)(hA:∀o,o∈A↔Outs twoP 1 o)(hb:Sorted_ B)(hB:∀o,o∈B↔Outs twoP 2 o):A.length=3∧B.length=4:=by
 refine ⟨exact_len (E:=twoE) ha hA (by decide) two_E1 fun o ho=>any_mem (out_all (E:=fun o=>twoE.any fun x=>decide (o=x)) two_1 (by kernel_rfl) ho),exact_len (E:=twoO::twoE) hb hB (by decide) (fun o ho=> ?_) fun o ho=>any_mem (out_all (E:=fun o=>(twoO::twoE).any fun x=>decide (o=x)) two_2 (by kernel_rfl) ho)⟩
 rcases List.mem_cons.1 ho with rfl|ho
 ·exact two_O
 ·exact outs_12 (two_E1 o ho)
set_option maxRecDepth 100000
set_option maxHeartbeats 20000000
theorem take_hund {β:Type}{l:List β}{t:Nat}(h1:t≤l.length)(h2:t≤100)(h3:¬(t<l.length∧t<100)):l.take 100=l.take t:=by
 rcases Nat.lt_or_ge t 100 with h|h
 ·rw [List.take_of_length_le (by omega),List.take_of_length_le (by omega)]
 ·rw [show t=100 by omega]
theorem two_ok :OkPg twoP:=checkG_code_pos.1 (by kernel_rfl)
theorem two_r :PgR twoP:=by constructor<;>simp [twoP,R64I,R64L,R64]
theorem two_pg {code:Ls (Ls Ins)}{words0:Ls Int}(hc:code.l.map (·.l)=twoP.code)(hw:words0.l= [0,0]):pgN code words0 0 2=twoP:=by
 simp only [pgN,pgOf,hc,hw]
 rfl
theorem two_len9 {u v:Ls OutL}{W W' :World}{K K' :Nat→Prop}(h:FRes twoP 1 (fun (_:Unit) _=>()) () K W true u ())(h2:FRes twoP 2 (fun (_:Unit) _=>()) () K' W' true v ()):u.l.length=3∧v.l.length=4:=by
 have h9:=two_len (h.good rfl).2.1 (h.good rfl).2.2.1 (h2.good rfl).2.1 (h2.good rfl).2.2.1
 simpa only [List.length_map] using h9
theorem run_in9 {p:Pg}{m:Int}{script:List Int}{st:Int}{sn:Nat}{pr wd:Ls Int}{u:Ls OutL}{W:World}{K:Nat→Prop}{b:Bool}(hok:OkPg p)(hrun:runM p m script=⟨st,sn,wd.l,pr.l⟩)(h3:st≠3)(hb:b=true)(hf:FRes p m (fun (_:Unit) _=>()) () K W b u ()):(⟨st,endW st wd,pr⟩:OutL).out∈u.l.map OutL.out:=by
 refine ((hf.good hb).2.2.1 _).2 ?_
 have h9:=run_outs (m:=m) hok script (by rw [hrun];exact h3)
 rw [hrun] at h9
 simpa only [OutL.out,endW_l] using h9
theorem out_in9 {p:Pg}{u v:Ls OutL}{W W' :World}{K K' :Nat→Prop}{b b' :Bool}{i:Nat}(hf:FRes p 1 (fun (_:Unit) _=>()) () K W b u ())(hg:FRes p 2 (fun (_:Unit) _=>()) () K' W' b' v ())(hb:b=true)(hb' :b' =true)(hi:i<u.l.length):(nth u.l i).out∈v.l.map OutL.out:=((hg.good hb').2.2.1 _).2 (outs_12 (((hf.good hb).2.2.1 _).1 (List.mem_map.2 ⟨_,nth_mem _ _ hi,rfl⟩)))
theorem kvast_c (code:Ls (Ls Ins))(words:Ls Int)(locks regs:Int)(W:World)(hcode:code.At W)(hwords:words.At W):
    Rets Tryz.prog 32 [.agg #[code.v,words.v, .int .i64 locks, .int .i64 regs]] W (fun v w' =>v= .bool (vastG (code.l.map (·.l)) words.l)∧Sh0 W w' []):=by
 refine gen Tryz.func32 Tryz.ntmps32 (Sh0.ext2 hcode hwords:Sh (fun _=>False) W W [.at_ code, .at_ words]) rfl fun a10 h10=>gG h10<|sK fun _ k11=>gbx rfl rfl fun b12=>gRn (oM 1 rfl<|.nl)<|nK k11<|sK fun _ k13=>gNl (aA 1 rfl) fun hl14=>gNl (aA 2 rfl) fun hl15=>gRn (ofB fl_25_0 rfl<|olB 0 ti_22 rfl rfl<|oln sl_22 (aA 1 rfl) rfl<|ofB fl_25_1 rfl<|olB 0 ti_23 rfl rfl<|oln sl_23 (aA 2 rfl) rfl<|oadN _ _ (show code.l.length+words.l.length<9223372036854775808 from (by first|omega|(have:=(hcode.inner t (by omega):(nth code.l t).At W).len;omega))) rfl<|oM 1 rfl<|.nl)<|nK k13<|gK fun _ k16=>sG (oM 1 rfl<|.nl)<|gB<|?_;clear h10
 have hwl:=hwords.len
 have hcl:=hcode.len
 intro a19 w19 h19
 refine x_loop (fun m a w=>∃(n t:Nat),(t≤code.l.length∧t≤100)∧((n:Int)=code.l.length+words.l.length+(((code.l.map (·.l)).take t).map fun s=>(s.length:Int)).sum)∧(n≤(t+2)*140737488355328)∧St 39 (fun _=>False) W a w [(1, .pointer (some ⟨b12,0,none⟩)),(3, .int .i64 ((n:Nat):Int)),(4, .int .i64 ((t:Nat):Int))] [.blk b12 25 [code.v,words.v, .int .i64 locks, .int .i64 regs], .at_ code, .at_ words]∧m=code.l.length-t) ⟨_,code.l.length+words.l.length,0,(by omega),(by simp),(by omega),h19.nf ⟨rfl,rfl,rfl,trivial⟩,rfl⟩ ?_
 clear h19
 rintro m18 a18 w18 ⟨n,t,ht,hn,hn2,h18,hm18⟩
 refine gG h18<|gK fun _ k20=>sK fun _ k21=>gRn (oM 1 rfl<|ofB fl_25_0 rfl<|olB 0 ti_22 rfl rfl<|oln sl_22 (aA 1 rfl) rfl<|oltN _ _ rfl<|oM 1 rfl<|.nl)<|?_;clear h18
 rcases dsp (t<code.l.length) with ⟨hb22,hp22⟩|⟨hb22,hp22⟩
 ·skip
  refine gRn (oG hb22 (r_move rfl rfl) rfl<|oG hb22 (r_lssN (p:=t) (q:=100) rfl rfl rfl) rfl<|opT hb22 rfl<|.nl)<|nK k21<|gcd rfl (fun hb23 hp23=> ?_) fun hb23 hp23=> ?_
  ·skip
   refine gS<|hK k20<|?_
   have hlt:=(hcode.inner t (by omega):(nth code.l t).At W).len
   refine gK fun _ k24=>gB<|gL<|gNl (fun w h=>((h.at 1 rfl).nth t (show t<code.l.length from (by omega)))) fun (hl25:((nth code.l t).l).length≤140737488355328)=>gRn (oM 1 rfl<|ofB fl_25_0 rfl<|olB 0 ti_22 rfl rfl<|oM 1 rfl<|oxN sl_22 ti_33 (aA 1 rfl) _ om9 rfl<|olE ((nth code.l t).v) ti_33 (aA 1 rfl) om9 rfl<|oln (n:=((nth code.l t).l).length) sl_33 (fun w h=>((h.at 1 rfl).nth t (show t<code.l.length from (by omega)))) rfl<|oadN _ _ (show n+(((nth code.l t).l).length)<9223372036854775808 from (by first|omega|(have:=(hcode.inner t (by omega):(nth code.l t).At W).len;omega))) rfl<|oM 1 rfl<|.nl)<|nK k24<|gL<|gRn (oM 1 rfl<|oadN _ 1 (show t+1<9223372036854775808 from (by first|omega|(have:=(hcode.inner t (by omega):(nth code.l t).At W).len;omega))) rfl<|oM 1 rfl<|.nl)<|nN<|fun a26 w26 h26=> ?_
   refine x_again ⟨_, ?_,n+(((nth code.l t).l).length),t+1, ?_, ?_, ?_,h26.nf ⟨rfl,rfl,rfl,trivial⟩,rfl⟩
   · rw [hm18];first|omega|(simp only [lens9];omega)
   · omega
   · rw [take_succ_nth _ _ (by simp;omega),List.map_append,List.sum_append,nth_map' _ _ _ (by omega)];simp only [List.map_cons,List.map_nil,List.sum_cons,List.sum_nil];omega
   · omega
  refine gX<|hK k16<|sK fun _ k27=>gRn (oM 1 rfl<|ogtN _ 5000 rfl<|oM 1 rfl<|.nl)<|?_
  rcases dsp (5000<n) with ⟨hb28,hp28⟩|⟨hb28,hp28⟩
  ·skip
   refine gRn (oKs 4 hb28 rfl rfl<|opT hb28 rfl<|oM 1 rfl<|.nl)<|nK k27<|gR<|fun a29 w29 h29=>x_ret1 (fn:=Tryz.f32) (t:=2) rfl h29 rfl<|⟨?_,(h29.sh.sel [] rfl)⟩
   congr 1
   have hv:vastG (code.l.map (·.l)) words.l=(decide (5000<n)||decide (100<code.l.length)):=by unfold vastG;rw [take_hund (l:=code.l.map (·.l)) (t:=t) (by simp;omega) (by omega) (by simp;omega),List.length_map];congr 1<;>(rw [decide_eq_decide];omega)
   rw [hv]
   first|(rw [show decide (5000<n)=true by assumption];rfl)|(rw [show decide (5000<n)=false by assumption];rfl)
  refine gRn (oG hb28 (r_fieldB (r:=0) fl_25_0 rfl rfl rfl) rfl<|oG hb28 (r_ldb (i:=0) ti_22 rfl rfl rfl rfl) rfl<|oG hb28 (r_len (s:=code) (n:=code.l.length) sl_22 rfl rfl (fun w h=>(h.at 1 rfl)) rfl) rfl<|oG hb28 (r_gtrN (p:=code.l.length) (q:=100) rfl rfl rfl) rfl<|opF hb28 rfl<|oM 1 rfl<|.nl)<|nK k27<|gR<|fun a30 w30 h30=>x_ret1 (fn:=Tryz.f32) (t:=2) rfl h30 rfl<|⟨?_,(h30.sh.sel [] rfl)⟩
  congr 1
  have hv:vastG (code.l.map (·.l)) words.l=(decide (5000<n)||decide (100<code.l.length)):=by unfold vastG;rw [take_hund (l:=code.l.map (·.l)) (t:=t) (by simp;omega) (by omega) (by simp;omega),List.length_map];congr 1<;>(rw [decide_eq_decide];omega)
  rw [hv]
  first|(rw [show decide (5000<n)=true by assumption];rfl)|(rw [show decide (5000<n)=false by assumption];rfl)
 refine gRn (oKs 2 hb22 rfl rfl<|opF hb22 rfl<|.nl)<|nK k21<|gcF rfl rfl<|gX<|hK k16<|sK fun _ k31=>gRn (oM 1 rfl<|ogtN _ 5000 rfl<|oM 1 rfl<|.nl)<|?_
 rcases dsp (5000<n) with ⟨hb32,hp32⟩|⟨hb32,hp32⟩
 ·skip
  refine gRn (oKs 4 hb32 rfl rfl<|opT hb32 rfl<|oM 1 rfl<|.nl)<|nK k31<|gR<|fun a33 w33 h33=>x_ret1 (fn:=Tryz.f32) (t:=2) rfl h33 rfl<|⟨?_,(h33.sh.sel [] rfl)⟩
  congr 1
  have hv:vastG (code.l.map (·.l)) words.l=(decide (5000<n)||decide (100<code.l.length)):=by unfold vastG;rw [take_hund (l:=code.l.map (·.l)) (t:=t) (by simp;omega) (by omega) (by simp;omega),List.length_map];congr 1<;>(rw [decide_eq_decide];omega)
  rw [hv]
  first|(rw [show decide (5000<n)=true by assumption];rfl)|(rw [show decide (5000<n)=false by assumption];rfl)
 refine gRn (oG hb32 (r_fieldB (r:=0) fl_25_0 rfl rfl rfl) rfl<|oG hb32 (r_ldb (i:=0) ti_22 rfl rfl rfl rfl) rfl<|oG hb32 (r_len (s:=code) (n:=code.l.length) sl_22 rfl rfl (fun w h=>(h.at 1 rfl)) rfl) rfl<|oG hb32 (r_gtrN (p:=code.l.length) (q:=100) rfl rfl rfl) rfl<|opF hb32 rfl<|oM 1 rfl<|.nl)<|nK k31<|gR<|fun a34 w34 h34=>x_ret1 (fn:=Tryz.f32) (t:=2) rfl h34 rfl<|⟨?_,(h34.sh.sel [] rfl)⟩
 congr 1
 have hv:vastG (code.l.map (·.l)) words.l=(decide (5000<n)||decide (100<code.l.length)):=by unfold vastG;rw [take_hund (l:=code.l.map (·.l)) (t:=t) (by simp;omega) (by omega) (by simp;omega),List.length_map];congr 1<;>(rw [decide_eq_decide];omega)
 rw [hv]
 first|(rw [show decide (5000<n)=true by assumption];rfl)|(rw [show decide (5000<n)=false by assumption];rfl)
theorem po1_c (g:Nat)(W:World):
    Rets Tryz.prog 63 [.pointer (some ⟨g,0,none⟩)] W (fun v w' =>v= .tuple #[]∧Sh0 W w' []):=by
 refine gen Tryz.func63 Tryz.ntmps63 (Sh0.start _:Sh (fun _=>False) W W []) rfl fun a10 h10=>gG h10<|gS<|fun a11 w11 h11=> ?_;clear h10
 try simp only [Exit.then,Exit.inBlock,if_true]
 refine x_end0 (fn:=Tryz.f63) rfl h11 ?_
 exact ⟨rfl,(h11.sh.sel [] rfl)⟩
theorem pso_k (code:Ls (Ls Ins))(words0:Ls Int)(Lk R:Nat)(W:World)(hcode:code.At W)(hwords:words0.At W)(hok:OkPg (pgN code words0 Lk R))(hR:PgR (pgN code words0 Lk R)):
    Rets Tryz.prog 24 [.agg #[code.v,words0.v, .int .i64 ((Lk:Nat):Int), .int .i64 ((R:Nat):Int)]] W (fun v w' =>∃(u:Ls OutL) (ok:Bool),v= .tuple #[u.v, .agg #[.int .i64 (if ok=true then 0 else 10), .int .i64 0, .int .i64 0]]∧FRes (pgN code words0 Lk R) 2 (fun (_:Unit) _=>()) () (fun _=>False) W ok u ()∧Sh0 W w' [.own 39 u]):=by
 obtain ⟨hl1,hcl,hwn,hlk,hR2⟩:=ok_lenP hok
 have hz:checkG (pgOf code words0 ((Lk:Nat):Int) ((R:Nat):Int))=⟨0,0,0⟩:=checkG_ok hok
 refine gen Tryz.func24 Tryz.ntmps24 (Sh0.ext2 hcode hwords:Sh (fun _=>False) W W [.at_ code, .at_ words0]) rfl fun a10 h10=>gG h10<|sK fun _ k11=>gbx rfl rfl fun b12=>gRn (oM 1 rfl<|.nl)<|gal ti_28 rfl fun b13=>nK k11<|gK fun _ k14=>sK fun _ k15=>gRn (olw 1 ti_25 rfl rfl<|.nl)<|fun a17 w17 h17=>wl_ex (x_call h17 bd_43 rfl rfl rfl rfl rfl (asmCheck_c (code:=code) (words:=words0) (locks:=((Lk:Nat):Int)) (regs:=((R:Nat):Int)) (h17.sh.at 2 rfl) (h17.sh.at 3 rfl))) (wanted_none rfl _) ?_;clear h10
 rintro a18 w18 ⟨_,⟨rfl,hs18⟩,hf18⟩
 have h18:St 25 (fun _=>False) W a18 w18 _ _:=⟨hf18,h17.sh.call0 hs18⟩
 clear hf18 hs18
 clear h17
 refine gG h18<|gal ti_28 rfl fun b19=>gsw 0 ti_28 rfl rfl rfl<|nK k15<|sG (ofB fl_28_0 rfl<|olB 0 ti_26 rfl rfl<|oneI _ _ rfl<|.nl)<|gcF rfl (by rw [hz];rfl)<|gS<|hK k14<|fun a23 w23 h23=> ?_;clear h18
 have h22:St _ _ _ _ _ _ _:=⟨h23.fr,h23.sh.emp⟩
 clear h23
 refine gG h22<|gK fun _ k24=>gF [0,1,2,3,4,7,8,9,10,11] rfl<|fun a26 w26 h26=>x_any ((fun Φ Ψ S a w=>(S 2=false∧S 3=false∧FrI 25 S Φ Ψ a∧Sh (fun _=>False) W w [Asn.emp, .blk b19 28 [.int .i64 ((checkG (pgOf code words0 ((Lk:Nat):Int) ((R:Nat):Int))).code), .int .i64 ((checkG (pgOf code words0 ((Lk:Nat):Int) ((R:Nat):Int))).thread), .int .i64 ((checkG (pgOf code words0 ((Lk:Nat):Int) ((R:Nat):Int))).at_)], .blk b13 28 [.int .i64 0, .int .i64 0, .int .i64 0], .blk b12 25 [code.v,words0.v, .int .i64 ((Lk:Nat):Int), .int .i64 ((R:Nat):Int)], .at_ code, .at_ words0])∨(S 2=true∧S 3=false∧∃(gl7002:Nat) (gt7002:Nat) (g7002:Nat) (mw7002:Ls Int) (mo7002:Ls Int) (q7002:Ls (Ls Wt)),(mw7002.l=words0.l)∧(mo7002.l=List.replicate Lk (-1))∧((memL gl7002 gt7002 g7002).qs q7002=List.replicate code.l.length [])∧FrI 25 S Φ (Ψ++ [(2,16, .iface (memL gl7002 gt7002 g7002).T (.pointer (some (memL gl7002 gt7002 g7002).u)))]) a∧Sh (fun _=>False) W w [.blk g7002 182 [mw7002.v,mo7002.v], .own 3 mw7002, .own 3 mo7002,(memL gl7002 gt7002 g7002).X q7002,Asn.emp, .blk b19 28 [.int .i64 ((checkG (pgOf code words0 ((Lk:Nat):Int) ((R:Nat):Int))).code), .int .i64 ((checkG (pgOf code words0 ((Lk:Nat):Int) ((R:Nat):Int))).thread), .int .i64 ((checkG (pgOf code words0 ((Lk:Nat):Int) ((R:Nat):Int))).at_)], .blk b13 28 [.int .i64 0, .int .i64 0, .int .i64 0], .blk b12 25 [code.v,words0.v, .int .i64 ((Lk:Nat):Int), .int .i64 ((R:Nat):Int)], .at_ code, .at_ words0])∨(S 2=true∧S 3=true∧∃(gl7002:Nat) (gt7002:Nat) (g7002:Nat) (mw7002:Ls Int) (mo7002:Ls Int) (q7002:Ls (Ls Wt)) (u7003:Ls OutL) (ok7003:Bool) (z7003:Unit),(mw7002.l=words0.l)∧(mo7002.l=List.replicate Lk (-1))∧((memL gl7002 gt7002 g7002).qs q7002=List.replicate code.l.length [])∧(FRes (pgN code words0 Lk R) 2 (fun (_:Unit) _=>()) () (fun _=>False) W ok7003 u7003 z7003)∧FrI 25 S Φ (Ψ++ [(2,16, .iface (memL gl7002 gt7002 g7002).T (.pointer (some (memL gl7002 gt7002 g7002).u))),(3,17, .tuple #[u7003.v, .bool ok7003]),(4,13, .tuple #[u7003.v, .bool ok7003]),(5,18,u7003.v),(6,19, .bool ok7003),(7,5,u7003.v),(8,6, .bool ok7003)]) a∧Sh (fun _=>False) W w [.own 39 u7003,Asn.emp, .blk b19 28 [.int .i64 ((checkG (pgOf code words0 ((Lk:Nat):Int) ((R:Nat):Int))).code), .int .i64 ((checkG (pgOf code words0 ((Lk:Nat):Int) ((R:Nat):Int))).thread), .int .i64 ((checkG (pgOf code words0 ((Lk:Nat):Int) ((R:Nat):Int))).at_)], .blk b13 28 [.int .i64 0, .int .i64 0, .int .i64 0], .blk b12 25 [code.v,words0.v, .int .i64 ((Lk:Nat):Int), .int .i64 ((R:Nat):Int)], .at_ words0])) [(0, .agg #[code.v,words0.v, .int .i64 ((Lk:Nat):Int), .int .i64 ((R:Nat):Int)]),(1, .pointer (some ⟨b12,0,none⟩)),(2,(.slice none 0 0)),(3, .pointer (some ⟨b13,0,none⟩)),(4, .pointer (some ⟨b19,0,none⟩)),(7, .agg #[code.v,words0.v, .int .i64 ((Lk:Nat):Int), .int .i64 ((R:Nat):Int)]),(8, .agg #[.int .i64 ((checkG (pgOf code words0 ((Lk:Nat):Int) ((R:Nat):Int))).code), .int .i64 ((checkG (pgOf code words0 ((Lk:Nat):Int) ((R:Nat):Int))).thread), .int .i64 ((checkG (pgOf code words0 ((Lk:Nat):Int) ((R:Nat):Int))).at_)]),(9, .pointer (some ⟨b19,0,none⟩)),(10, .int .i64 ((checkG (pgOf code words0 ((Lk:Nat):Int) ((R:Nat):Int))).code)),(11, .bool (decide ((checkG (pgOf code words0 ((Lk:Nat):Int) ((R:Nat):Int))).code≠0)))] [(0,14, .agg #[code.v,words0.v, .int .i64 ((Lk:Nat):Int), .int .i64 ((R:Nat):Int)]),(1,15, .agg #[code.v,words0.v, .int .i64 ((Lk:Nat):Int), .int .i64 ((R:Nat):Int)])]) (by kernel_rfl) (by kernel_rfl) (Or.inl (⟨rfl,rfl,FrI.start h26.fr,h26.sh.drew⟩)) ?_ ?_;clear h22
 ·intro S i o ho hSi hcl hdep a w hI
  clear h26
  rcases i with _|_|_|_|_|_|_|_|_|i
  ·obtain rfl:_=o:=Option.some.inj ho
   rcases hI with ⟨ν2,ν3,φ,ς⟩|⟨ν2,ν3,gl7002,gt7002,g7002,mw7002,mo7002,q7002,hmw7002,hmo7002,hq7002,φ,ς⟩|⟨_,ν3,_⟩
   ·exact sq φ φ.fr0 ς (r_ldbw (i:=3) (vs:= [code.v,words0.v, .int .i64 ((Lk:Nat):Int), .int .i64 ((R:Nat):Int)]) ti_25 rfl rfl rfl rfl rfl) 0 rfl rfl rfl rfl rfl rfl fun a hg=>Or.inl (⟨un rfl ν2,un rfl ν3,hg,ς⟩)
   ·exact sq φ φ.fr0 ς (r_ldbw (i:=7) (vs:= [code.v,words0.v, .int .i64 ((Lk:Nat):Int), .int .i64 ((R:Nat):Int)]) ti_25 rfl rfl rfl rfl rfl) 0 rfl rfl rfl rfl rfl rfl fun a hg=>Or.inr (Or.inl (⟨un rfl ν2,un rfl ν3,gl7002,gt7002,g7002,mw7002,mo7002,q7002,hmw7002,hmo7002,hq7002,hg,ς⟩))
   ·exact no_way (cA hcl 3 0 rfl ν3) hSi
  ·obtain rfl:_=o:=Option.some.inj ho
   rcases hI with ⟨ν2,ν3,φ,ς⟩|⟨ν2,_⟩|⟨ν2,_⟩
   ·exact sq φ φ.fr0 ς (r_ldbw (i:=3) (vs:= [code.v,words0.v, .int .i64 ((Lk:Nat):Int), .int .i64 ((R:Nat):Int)]) ti_25 rfl rfl rfl rfl rfl) 1 rfl rfl rfl rfl rfl rfl fun a hg=>Or.inl (⟨un rfl ν2,un rfl ν3,hg,ς⟩)
   ·exact no_way (cA hcl 2 1 rfl ν2) hSi
   ·exact no_way (cA hcl 2 1 rfl ν2) hSi
  ·obtain rfl:_=o:=Option.some.inj ho
   have hd1:S 1=true:=depAt hdep 0 rfl rfl
   rcases hI with ⟨ν2,ν3,φ,ς⟩|⟨ν2,_⟩|⟨ν2,_⟩
   ·have hs:=St.mk (Fr.cons φ.fr0 (φ.at_ 1 1 15 _ rfl hd1)) ς
    refine step_ex (x_call hs bd_62 rfl rfl rfl rfl rfl (lbegin_c code words0 Lk ((R:Nat):Int) _ (hs.sh.at 4 rfl) (hs.sh.at 5 rfl) (by omega) hwn hlk)) (wanted_none rfl _) ?_
    rintro a33 w33 ⟨_,⟨gl33,gt33,g33,mw33,mo33,q33,rfl,hmw33,hmo33,hq33,hs33⟩,hf33⟩ ⟨v0,ht33⟩
    have h33:=(⟨hf33,hs.sh.call hs33 (by intro A hA b hb;simp only [memA,List.mem_cons,List.not_mem_nil,or_false] at hA;first|(subst hA;exact Flat.noRd hb)|(rcases hA with rfl|rfl|rfl|rfl<;>first|exact (hb:False).elim|exact Flat.noRd hb|exact (memT_rd hb).elim|exact (memL_rd hb).elim))⟩:St 25 (fun _=>False) W a33 w33 _ _)
    clear hf33 hs33
    exact Or.inr (Or.inl (⟨upd_self _ _,un rfl ν3,gl33,gt33,g33,mw33,mo33,q33,hmw33,hmo33,hq33,φ.stepW hcl hSi [0,1] (by kernel_rfl) (by kernel_rfl) ht33 h33.fr.defers (h33.fr.at_ 16 _ rfl) 2 rfl rfl rfl rfl,(h33.sh.sel [0,1,2,3,4,5,6,7,8,9] rfl)⟩))
   ·exact no_way ν2 hSi
   ·exact no_way ν2 hSi
  ·obtain rfl:_=o:=Option.some.inj ho
   have hd0:S 0=true:=depAt hdep 0 rfl rfl
   have hd2:S 2=true:=depAt hdep 1 rfl rfl
   rcases hI with ⟨ν2,_⟩|⟨ν2,ν3,gl7002,gt7002,g7002,mw7002,mo7002,q7002,hmw7002,hmo7002,hq7002,φ,ς⟩|⟨_,ν3,_⟩
   ·exact no_way hd2 ν2
   ·have hs:=St.mk (Fr.cons (Fr.cons φ.fr0 (φ.at_ 0 0 14 _ rfl hd0)) (φ.at_ 2 2 16 _ rfl hd2)) ς
    have h34:=hs.sel (L' := [_,_,_,_,_,_,_,_,_,_]) [0,1,2,3,8,4,5,6,7,9] rfl
    have hp35:=h34.sh.passL (Lp:= [_,_,_,_,_,_])
    refine step_ex (x_call h34 bd_61 rfl rfl rfl rfl rfl (from_c2 _ FL Unit (fun _=>Asn.emp) (fun _ _=>()) () 63 [] [] (gl7002,gt7002,g7002) q7002 code words0 mw7002 mo7002 _ Lk R _ FL_ok hp35 hok hR hq7002 hmw7002 hmo7002 bd_63 (fun _ _ h=>h) (fun K' W' gp x z _ _ h9=>Rets.mono (po1_c x.g W') fun v w' h8=>⟨h8.1,h9.call0 h8.2⟩))) (wanted_none rfl _) ?_
    rintro a36 w36 ⟨_,⟨u36,ok36,z36,rfl,hfq36,hs36⟩,hf36⟩ ⟨v0,ht36⟩
    have hfr36:=hfq36.up (K' :=fun _=>False) (W' :=W) (fun b hb=>h34.sh.mineL (Lp:= [.blk g7002 182 [mw7002.v,mo7002.v], .own 3 mw7002, .own 3 mo7002,(memL gl7002 gt7002 g7002).X q7002, .at_ code,Asn.emp]) hb)
    have h36:St 25 (fun _=>False) W a36 w36 _ [_,_,_,_,_,_]:=⟨hf36,h34.sh.backL (Lp:= [_,_,_,_,_,_]) hs36 (by intro A hA b hb;simp only [List.mem_cons,List.not_mem_nil,or_false] at hA;rcases hA with rfl|rfl<;>first|exact (hb:False).elim|exact Flat.noRd hb|exact .inl ⟨_,List.mem_cons_self .., .inr hb⟩|(obtain ⟨i9,hi9,hb9⟩:=hb;exact (hfq36.nw _ (nth_mem _ _ hi9) _ hb9).elim (fun ⟨A9,hA9,hf9⟩=> .inl ⟨A9,hA9, .inl hf9⟩) (fun h9=> .inr (.inr h9)))|exact .inl ⟨_,by simp, .inr hb⟩)⟩
    clear hf36 hs36
    exact Or.inr (Or.inr (⟨un rfl ν2,upd_self _ _,gl7002,gt7002,g7002,mw7002,mo7002,q7002,u36,ok36,z36,hmw7002,hmo7002,hq7002,hfr36,φ.stepW hcl hSi [0,1,2] (by kernel_rfl) (by kernel_rfl) ht36 h36.fr.defers (h36.fr.at_ 17 _ rfl) 3 rfl rfl rfl rfl,(h36.sh.sel [0,1,2,3,4,5] rfl)⟩))
   ·exact no_way ν3 hSi
  ·obtain rfl:_=o:=Option.some.inj ho
   have hd3:S 3=true:=depAt hdep 0 rfl rfl
   rcases hI with ⟨ν2,_⟩|⟨_,ν3,_⟩|⟨ν2,ν3,gl7002,gt7002,g7002,mw7002,mo7002,q7002,u7003,ok7003,z7003,hmw7002,hmo7002,hq7002,hfr7003,φ,ς⟩
   ·exact no_way (cA hcl 3 2 rfl hd3) ν2
   ·exact no_way hd3 ν3
   ·exact sq φ (Fr.cons φ.fr0 (φ.at_ 3 3 17 _ rfl hd3)) ς (r_move rfl rfl) 4 rfl rfl rfl rfl rfl rfl fun a hg=>Or.inr (Or.inr (⟨un rfl ν2,un rfl ν3,gl7002,gt7002,g7002,mw7002,mo7002,q7002,u7003,ok7003,z7003,hmw7002,hmo7002,hq7002,hfr7003,hg,ς⟩))
  ·obtain rfl:_=o:=Option.some.inj ho
   have hd4:S 4=true:=depAt hdep 0 rfl rfl
   rcases hI with ⟨ν2,_⟩|⟨_,ν3,_⟩|⟨ν2,ν3,gl7002,gt7002,g7002,mw7002,mo7002,q7002,u7003,ok7003,z7003,hmw7002,hmo7002,hq7002,hfr7003,φ,ς⟩
   ·exact no_way (cA hcl 4 2 rfl hd4) ν2
   ·exact no_way (cA hcl 4 3 rfl hd4) ν3
   ·exact sq φ (Fr.cons φ.fr0 (φ.at_ 4 4 13 _ rfl hd4)) ς (r_extract rfl rfl rfl) 5 rfl rfl rfl rfl rfl rfl fun a hg=>Or.inr (Or.inr (⟨un rfl ν2,un rfl ν3,gl7002,gt7002,g7002,mw7002,mo7002,q7002,u7003,ok7003,z7003,hmw7002,hmo7002,hq7002,hfr7003,hg,ς⟩))
  ·obtain rfl:_=o:=Option.some.inj ho
   have hd4:S 4=true:=depAt hdep 0 rfl rfl
   rcases hI with ⟨ν2,_⟩|⟨_,ν3,_⟩|⟨ν2,ν3,gl7002,gt7002,g7002,mw7002,mo7002,q7002,u7003,ok7003,z7003,hmw7002,hmo7002,hq7002,hfr7003,φ,ς⟩
   ·exact no_way (cA hcl 4 2 rfl hd4) ν2
   ·exact no_way (cA hcl 4 3 rfl hd4) ν3
   ·exact sq φ (Fr.cons φ.fr0 (φ.at_ 4 4 13 _ rfl hd4)) ς (r_extract rfl rfl rfl) 6 rfl rfl rfl rfl rfl rfl fun a hg=>Or.inr (Or.inr (⟨un rfl ν2,un rfl ν3,gl7002,gt7002,g7002,mw7002,mo7002,q7002,u7003,ok7003,z7003,hmw7002,hmo7002,hq7002,hfr7003,hg,ς⟩))
  ·obtain rfl:_=o:=Option.some.inj ho
   have hd5:S 5=true:=depAt hdep 0 rfl rfl
   have hd3:S 3=true:=depAt hdep 1 rfl rfl
   have hd2:S 2=true:=depAt hdep 4 rfl rfl
   rcases hI with ⟨ν2,_⟩|⟨_,ν3,_⟩|⟨ν2,ν3,gl7002,gt7002,g7002,mw7002,mo7002,q7002,u7003,ok7003,z7003,hmw7002,hmo7002,hq7002,hfr7003,φ,ς⟩
   ·exact no_way hd2 ν2
   ·exact no_way hd3 ν3
   ·exact sq φ (Fr.cons φ.fr0 (φ.at_ 5 5 18 _ rfl hd5)) ς (r_assign rfl rfl) 7 rfl rfl rfl rfl rfl rfl fun a hg=>Or.inr (Or.inr (⟨un rfl ν2,un rfl ν3,gl7002,gt7002,g7002,mw7002,mo7002,q7002,u7003,ok7003,z7003,hmw7002,hmo7002,hq7002,hfr7003,hg,ς⟩))
  ·obtain rfl:_=o:=Option.some.inj ho
   have hd6:S 6=true:=depAt hdep 0 rfl rfl
   have hd2:S 2=true:=depAt hdep 4 rfl rfl
   have hd3:S 3=true:=depAt hdep 5 rfl rfl
   rcases hI with ⟨ν2,_⟩|⟨_,ν3,_⟩|⟨ν2,ν3,gl7002,gt7002,g7002,mw7002,mo7002,q7002,u7003,ok7003,z7003,hmw7002,hmo7002,hq7002,hfr7003,φ,ς⟩
   ·exact no_way hd2 ν2
   ·exact no_way hd3 ν3
   ·exact sq φ (Fr.cons φ.fr0 (φ.at_ 6 6 19 _ rfl hd6)) ς (r_assign rfl rfl) 8 rfl rfl rfl rfl rfl rfl fun a hg=>Or.inr (Or.inr (⟨un rfl ν2,un rfl ν3,gl7002,gt7002,g7002,mw7002,mo7002,q7002,u7003,ok7003,z7003,hmw7002,hmo7002,hq7002,hfr7003,hg,ς⟩))
  · simp at ho
 intro S hall a w hI
 clear h26
 rcases hI with ⟨ν2,ν3,φ,ς⟩|⟨ν2,ν3,gl7002,gt7002,g7002,mw7002,mo7002,q7002,hmw7002,hmo7002,hq7002,φ,ς⟩|⟨ν2,ν3,gl7002,gt7002,g7002,mw7002,mo7002,q7002,u7003,ok7003,z7003,hmw7002,hmo7002,hq7002,hfr7003,φ,ς⟩
 · exact no_way (hall 2 (by decide)) ν2
 · exact no_way (hall 3 (by decide)) ν3
 have h42:St 25 (fun _=>False) W a w _ _:=⟨(Fr.cons (Fr.cons φ.fr0 (φ.at_ 7 7 5 _ rfl (hall 7 (by decide)))) (φ.at_ 8 8 6 _ rfl (hall 8 (by decide)))),ς⟩
 clear hall φ ς ν2 ν3
 refine gG h42<|hK k24<|gK fun _ k43=>sG (oM 1 rfl<|ont rfl<|.nl)<|?_;clear h42
 refine gCb rfl (fun hb45=> ?_) fun hb45=> ?_
 ·have hn45:ok7003=false:=(Bool.not_eq_true' _).mp hb45
  refine sK fun _ k46=>gRn (oV (r_build (cs:= [.int .i64 10, .int .i64 0, .int .i64 0]) rfl rfl (by kernel_rfl)) rfl<|oM 1 rfl<|.nl)<|gsw 3 ti_28 rfl rfl rfl<|nK k46<|gR<|uT<|fun a48 w48 h48=>x_rettc (fn:=Tryz.f24) (t:=3) (u:=2) (i:=3) ti_28 rfl h48 rfl rfl rfl rfl ?_
  have h49:=h48.nil (α:=OutL) 39
  clear h48
  have hof:ok7003=false:=by simpa using hn45
  exact ⟨⟨.slice none 0 0, []⟩,false,rfl,FRes.nilU (u:=u7003) (hof▸hfr7003),(h49.sh.sel [0] rfl)⟩
 have hn45:ok7003=true:=(Bool.not_eq_false' _).mp hb45
 refine gS<|hK k43<|sK fun _ k50=>gRn (oM 1 rfl<|oV (r_build (cs:= [.int .i64 0, .int .i64 0, .int .i64 0]) rfl rfl (by kernel_rfl)) rfl<|oM 1 rfl<|.nl)<|gsw 3 ti_28 rfl rfl rfl<|nK k50<|gR<|fun a52 w52 h52=>x_rettc (fn:=Tryz.f24) (t:=3) (u:=2) (i:=3) ti_28 rfl h52 rfl rfl rfl rfl ?_
 have hof:ok7003=true:=by simpa using hn45
 exact ⟨u7003,true,rfl,hof▸hfr7003,(h52.sh.sel [0] rfl)⟩
theorem pso_b (code:Ls (Ls Ins))(words:Ls Int)(locks regs:Int)(W:World)(hcode:code.At W)(hwords:words.At W)(hz:(checkG (pgOf code words locks regs)).code≠0):
    Rets Tryz.prog 24 [.agg #[code.v,words.v, .int .i64 locks, .int .i64 regs]] W (fun v w' =>v= .tuple #[.slice none 0 0,(checkG (pgOf code words locks regs)).val]∧Sh0 W w' []):=by
 refine gen Tryz.func24 Tryz.ntmps24 (Sh0.ext2 hcode hwords:Sh (fun _=>False) W W [.at_ code, .at_ words]) rfl fun a10 h10=>gG h10<|sK fun _ k11=>gbx rfl rfl fun b12=>gRn (oM 1 rfl<|.nl)<|gal ti_28 rfl fun b13=>nK k11<|gK fun _ k14=>sK fun _ k15=>gRn (olw 1 ti_25 rfl rfl<|.nl)<|gC (fun _ _ h_=>xCl h_ bd_43 rfl (asmCheck_c (code:=code) (words:=words) (locks:=locks) (regs:=regs) (h_.sh.at 2 rfl) (h_.sh.at 3 rfl))) rfl<|?_;clear h10
 rintro _ _ w16 ⟨rfl,hs16⟩
 refine gWk hs16 rfl<|gU<|gal ti_28 rfl fun b17=>gsw 0 ti_28 rfl rfl rfl<|nK k15<|sG (ofB fl_28_0 rfl<|olB 0 ti_26 rfl rfl<|oneI _ _ rfl<|.nl)<|gcT rfl (decide_eq_true hz)<|gK fun _ k20=>rT 2 [] (olw 0 ti_28 rfl rfl<|oM 1 rfl<|.nl)<|gsw 1 ti_28 rfl rfl rfl<|nK k20<|gR<|uT<|fun a22 w22 h22=> ?_;clear hs16
 refine x_rettc (fn:=Tryz.f24) (t:=3) (u:=2) (i:=1) ti_28 rfl h22 rfl rfl rfl rfl ?_
 exact ⟨rfl,(h22.sh.sel [] rfl)⟩
theorem stsoT (code:Ls (Ls Ins))(words0:Ls Int)(W:World)(hcode:code.At W)(hwords:words0.At W)(hc:code.l.map (·.l)=twoP.code)(hw:words0.l= [0,0]):
  Rets Tryz.prog 18 [.agg #[code.v,words0.v, .int .i64 0, .int .i64 2]] W (fun v w' =>∃u:Ls OutL,v= .tuple #[u.v, .agg #[.int .i64 0, .int .i64 0, .int .i64 0]]∧FRes twoP 1 (fun (_:Unit) _=>()) () (fun _=>False) W true u ()∧Sh0 W w' [.own 39 u]):=by
 have e:=two_pg hc hw
 refine Rets.mono (stso_k code words0 0 2 W hcode hwords (e▸two_ok) (e▸two_r)) ?_
 rintro v w' ⟨u,ok,rfl,hf,hs⟩
 rw [e] at hf
 cases ok with
 |false=>exact absurd (hf.big rfl).1 two_big1
 |true=>exact ⟨u,rfl,hf,hs⟩
theorem psoT (code:Ls (Ls Ins))(words0:Ls Int)(W:World)(hcode:code.At W)(hwords:words0.At W)(hc:code.l.map (·.l)=twoP.code)(hw:words0.l= [0,0]):
  Rets Tryz.prog 24 [.agg #[code.v,words0.v, .int .i64 0, .int .i64 2]] W (fun v w' =>∃u:Ls OutL,v= .tuple #[u.v, .agg #[.int .i64 0, .int .i64 0, .int .i64 0]]∧FRes twoP 2 (fun (_:Unit) _=>()) () (fun _=>False) W true u ()∧Sh0 W w' [.own 39 u]):=by
 have e:=two_pg hc hw
 refine Rets.mono (pso_k code words0 0 2 W hcode hwords (e▸two_ok) (e▸two_r)) ?_
 rintro v w' ⟨u,ok,rfl,hf,hs⟩
 rw [e] at hf
 cases ok with
 |false=>exact absurd (hf.big rfl).1 two_big2
 |true=>exact ⟨u,rfl,hf,hs⟩
theorem psoMore_v (code:Ls (Ls Ins))(words script:Ls Int)(locks regs:Int)(W:World)(hcode:code.At W)(hwords:words.At W)(hscript:script.At W)(hv:vastG (code.l.map (·.l)) words.l=true):
    Rets Tryz.prog 11 [.agg #[code.v,words.v, .int .i64 locks, .int .i64 regs],script.v] W (fun v w' =>v= .bool true∧Sh0 W w' []):=by
 refine gen Tryz.func11 Tryz.ntmps11 (Sh0.ext3 hcode hwords hscript:Sh (fun _=>False) W W [.at_ code, .at_ words, .at_ script]) rfl fun a10 h10=>gG h10<|sK fun _ k11=>gbx rfl rfl fun b12=>gRn (oM 1 rfl<|.nl)<|nK k11<|sK fun _ k13=>gRn (oV (r_build (cs:= [.int .i64 1, .int .i64 0, .int .i64 1, .int .i64 0]) rfl rfl (by kernel_rfl)) rfl<|oV (r_build (cs:= [.int .i64 9, .int .i64 0, .int .i64 0, .int .i64 0]) rfl rfl (by kernel_rfl)) rfl<|oV (r_build (cs:= [.int .i64 9, .int .i64 1, .int .i64 0, .int .i64 0]) rfl rfl (by kernel_rfl)) rfl<|.nl)<|gE1 (fun _ _ h_=>x_lit (n:=3) (cs:= [.int .i64 1, .int .i64 0, .int .i64 1, .int .i64 0, .int .i64 9, .int .i64 0, .int .i64 0, .int .i64 0, .int .i64 9, .int .i64 1, .int .i64 0, .int .i64 0]) ([(⟨1,0,1,0⟩:Ins),(⟨9,0,0,0⟩:Ins),(⟨9,1,0,0⟩:Ins)]:List Ins) h_ sl_33 ti_32 rfl rfl rfl (by decide) rfl (by kernel_rfl) rfl (fun q hq w h=>Flat.inner _ _) (fun q hq b hb=>(Flat.on _ _ hb).elim) rfl rfl) rfl fun v14=>gRn (oM 1 rfl<|.nl)<|nK k13<|sK fun _ k15=>gRn (oV (r_build (cs:= [.int .i64 8, .int .i64 0, .int .i64 1, .int .i64 0]) rfl rfl (by kernel_rfl)) rfl<|oV (r_build (cs:= [.int .i64 8, .int .i64 1, .int .i64 0, .int .i64 0]) rfl rfl (by kernel_rfl)) rfl<|oV (r_build (cs:= [.int .i64 16, .int .i64 0, .int .i64 0, .int .i64 0]) rfl rfl (by kernel_rfl)) rfl<|oV (r_build (cs:= [.int .i64 16, .int .i64 1, .int .i64 0, .int .i64 0]) rfl rfl (by kernel_rfl)) rfl<|.nl)<|gE1 (fun _ _ h_=>x_lit (n:=4) (cs:= [.int .i64 8, .int .i64 0, .int .i64 1, .int .i64 0, .int .i64 8, .int .i64 1, .int .i64 0, .int .i64 0, .int .i64 16, .int .i64 0, .int .i64 0, .int .i64 0, .int .i64 16, .int .i64 1, .int .i64 0, .int .i64 0]) ([(⟨8,0,1,0⟩:Ins),(⟨8,1,0,0⟩:Ins),(⟨16,0,0,0⟩:Ins),(⟨16,1,0,0⟩:Ins)]:List Ins) h_ sl_33 ti_32 rfl rfl rfl (by decide) rfl (by kernel_rfl) rfl (fun q hq w h=>Flat.inner _ _) (fun q hq b hb=>(Flat.on _ _ hb).elim) rfl rfl) rfl fun v16=>gRn (oM 1 rfl<|.nl)<|nK k15<|sK fun _ k17=>gRn (oM 2 rfl<|.nl)<|fun a22 w22 h22=>wl_ex (x_lit (n:=2) (cs:= [v14,v16]) ([⟨v14⟩,⟨v16⟩]:List RV) h22 sl_22 ti_33 rfl rfl rfl (by decide) rfl (by obtain ⟨A23,n23,c23,(e23:v14=_)⟩:=((h22.sh.own 1 rfl)).form;rw [e23];obtain ⟨A21,n21,c21,(e21:v16=_)⟩:=((h22.sh.own 0 rfl)).form;rw [e21];kernel_rfl) rfl (fun _ _ _ _=>trivial) (fun q hq b hb=>(Flat.on _ _ hb).elim) rfl rfl) (wanted_none rfl _) ?_;clear h10
 rintro a24 w24 ⟨v24,h24⟩
 have h25:=h24.sel (L' := [_,_,_,_,_,_,_]) [0,2,1,3,4,5,6] rfl
 have h26:St 119 (fun _=>False) W a24 w24 _ _:=⟨h25.fr,(Sh.close (B:=matX (.own 32) 33 v24 [(⟨v14, [(⟨1,0,1,0⟩:Ins),(⟨9,0,0,0⟩:Ins),(⟨9,1,0,0⟩:Ins)]⟩:Ls Ins),(⟨v16, [(⟨8,0,1,0⟩:Ins),(⟨8,1,0,0⟩:Ins),(⟨16,0,0,0⟩:Ins),(⟨16,1,0,0⟩:Ins)]⟩:Ls Ins)]) h25.sh).matDeep own_mat⟩
 clear h25
 clear h22
 refine gG h26<|gE1 (fun _ _ h_=>x_lit (n:=2) (cs:= [.int .i64 0, .int .i64 0]) ([0,0]:List Int) h_ sl_23 ti_3 rfl rfl rfl (by decide) rfl (by kernel_rfl) rfl (fun q hq w h=>Flat.inner _ _) (fun q hq b hb=>(Flat.on _ _ hb).elim) rfl rfl) rfl fun v27=>gRn (oV (r_buildS (cs:= [v24,v27, .int .i64 0, .int .i64 2]) rfl rfl (fun w h=>by obtain ⟨A29,n29,c29,(e29:v27=_)⟩:=((h.own 0 rfl)).form;rw [e29];obtain ⟨A28,n28,c28,(e28:v24=_)⟩:=((h.deep 1 rfl)).form;rw [e28];kernel_rfl)) rfl<|.nl)<|gal ti_25 rfl fun b30=>gE (fun _ _ h_=>x_stb (i:=0) (vs:= [v24,v27, .int .i64 0, .int .i64 2]) (cs' := [v24,v27, .int .i64 0, .int .i64 2]) h_ ti_25 rfl rfl rfl rfl rfl rfl rfl (allOne_cons ((h_.sh.deep 2 rfl)).one (allOne_cons ((h_.sh.own 1 rfl)).one (allOne_cons rfl (allOne_cons rfl allOne_nil)))) (Nat.le_of_ble_eq_true rfl) rfl) rfl<|nK k17<|sK fun _ k32=>gRn (olw 0 ti_25 rfl rfl<|.nl)<|fun a34 w34 h34=>wl_ex (x_call h34 bd_18 rfl rfl rfl rfl rfl (stsoT (⟨v24, [(⟨v14, [(⟨1,0,1,0⟩:Ins),(⟨9,0,0,0⟩:Ins),(⟨9,1,0,0⟩:Ins)]⟩:Ls Ins),(⟨v16, [(⟨8,0,1,0⟩:Ins),(⟨8,1,0,0⟩:Ins),(⟨16,0,0,0⟩:Ins),(⟨16,1,0,0⟩:Ins)]⟩:Ls Ins)]⟩:Ls (Ls Ins)) (⟨v27, [0,0]⟩:Ls Int) _ (h34.sh.deep 2 rfl) (h34.sh.own 1 rfl) rfl rfl)) (wanted_none rfl _) ?_;clear h26
 rintro a35 w35 ⟨_,⟨u35,rfl,hfu35,hs35⟩,hf35⟩
 have h35:=(⟨hf35,h34.sh.call hs35 (by intro A hA b hb;obtain rfl:=List.mem_singleton.1 hA;obtain ⟨i9,hi9,hb9⟩:=hb;exact .inl ((hfu35.nw _ (nth_mem _ _ hi9) b hb9).resolve_left id))⟩:St 119 (fun _=>False) W a35 w35 _ _)
 have hfr35:=hfu35.up (K' :=fun _=>False) (W' :=W) (fun b hb=>hb.imp id (fun h9=>Nat.le_trans h34.sh.chg.size h9))
 clear hf35 hs35
 clear h34
 refine gG h35<|gRn (oM 1 rfl<|oxt rfl<|oxt rfl<|.nl)<|gal ti_28 rfl fun b36=>gRn (oM 1 rfl<|.nl)<|gsw 0 ti_28 rfl rfl rfl<|nK k32<|gF [1,2,7,8,9] rfl<|sK fun _ k38=>gRn (olw 2 ti_25 rfl rfl<|.nl)<|fun a40 w40 h40=>wl_ex (x_call h40 bd_24 rfl rfl rfl rfl rfl (psoT (⟨v24, [(⟨v14, [(⟨1,0,1,0⟩:Ins),(⟨9,0,0,0⟩:Ins),(⟨9,1,0,0⟩:Ins)]⟩:Ls Ins),(⟨v16, [(⟨8,0,1,0⟩:Ins),(⟨8,1,0,0⟩:Ins),(⟨16,0,0,0⟩:Ins),(⟨16,1,0,0⟩:Ins)]⟩:Ls Ins)]⟩:Ls (Ls Ins)) (⟨v27, [0,0]⟩:Ls Int) _ (h40.sh.deep 4 rfl) (h40.sh.own 3 rfl) rfl rfl)) (wanted_none rfl _) ?_;clear h35
 rintro a41 w41 ⟨_,⟨u41,rfl,hfu41,hs41⟩,hf41⟩
 have h41:=(⟨hf41,h40.sh.call hs41 (by intro A hA b hb;obtain rfl:=List.mem_singleton.1 hA;obtain ⟨i9,hi9,hb9⟩:=hb;exact .inl ((hfu41.nw _ (nth_mem _ _ hi9) b hb9).resolve_left id))⟩:St 119 (fun _=>False) W a41 w41 _ _)
 have hfr41:=hfu41.up (K' :=fun _=>False) (W' :=W) (fun b hb=>hb.imp id (fun h9=>Nat.le_trans h40.sh.chg.size h9))
 clear hf41 hs41
 clear h40
 refine gG h41<|gRn (oM 1 rfl<|oxt rfl<|oxt rfl<|.nl)<|gal ti_28 rfl fun b42=>gRn (oM 1 rfl<|.nl)<|gsw 0 ti_28 rfl rfl rfl<|nK k38<|?_;clear h41
 obtain ⟨hbl,hbl2⟩:=two_len9 hfr35 hfr41
 refine gK fun _ k44=>sK fun _ k45=>gNl (aO 3 rfl) fun hl46=>gNl (aO 1 rfl) fun hl47=>gRn (ofB fl_28_0 rfl<|olB 2 ti_26 rfl rfl<|oneN 0 0 rfl<|oM 1 rfl<|oG (by decide) (r_fieldB (r:=0) fl_28_0 rfl rfl rfl) rfl<|oG (by decide) (r_ldb (i:=0) ti_26 rfl rfl rfl rfl) rfl<|oG (by decide) (r_neqN (p:=0) (q:=0) rfl rfl rfl) rfl<|opF (by decide) rfl<|oM 1 rfl<|oG (by decide) (r_move rfl rfl) rfl<|oG (by decide) (r_len (s:=u35) (n:=u35.l.length) sl_35 rfl rfl (fun w h=>(h.own 3 rfl)) rfl) rfl<|oG (by decide) (r_neqN (p:=u35.l.length) (q:=3) rfl rfl rfl) rfl<|opF (by decide) rfl<|oM 1 rfl<|oG (decide_eq_false (by omega)) (r_move rfl rfl) rfl<|oG (decide_eq_false (by omega)) (r_len (s:=u41) (n:=u41.l.length) sl_35 rfl rfl (fun w h=>(h.own 1 rfl)) rfl) rfl<|oG (decide_eq_false (by omega)) (r_neqN (p:=u41.l.length) (q:=4) rfl rfl rfl) rfl<|opF (decide_eq_false (by omega)) rfl<|.nl)<|nK k45<|gF [1,2,9,11,58] rfl<|gcF rfl (decide_eq_false (by omega))<|gS<|hK k44<|gK fun _ k48=>sK fun _ k49=>gRn (olw 7 ti_25 rfl rfl<|.nl)<|fun a51 w51 h51=>wl_ex (x_call h51 bd_32 rfl rfl rfl rfl rfl (kvast_c code words locks regs _ (h51.sh.at 8 rfl) (h51.sh.at 9 rfl))) (wanted_none rfl _) ?_
 rintro a52 w52 ⟨_,⟨rfl,hs52⟩,hf52⟩
 have h52:St 119 (fun _=>False) W a52 w52 _ _:=⟨hf52,h51.sh.call0 hs52⟩
 clear hf52 hs52
 clear h51
 refine gG h52<|nK k49<|gcT rfl hv<|sG (oM 1 rfl<|.nl)<|gR<|uT<|fun a54 w54 h54=>x_ret1 (fn:=Tryz.f11) (t:=4) rfl h54 rfl<|⟨?_,(h54.sh.sel [] rfl)⟩;clear h52
 first|rfl|exact congrArg _ (decide_eq_true rfl)
theorem psoMore_b (code:Ls (Ls Ins))(words script:Ls Int)(locks regs:Int)(W:World)(hcode:code.At W)(hwords:words.At W)(hscript:script.At W)(hv:vastG (code.l.map (·.l)) words.l=false)(hz:(checkG (pgOf code words locks regs)).code≠0):
    Rets Tryz.prog 11 [.agg #[code.v,words.v, .int .i64 locks, .int .i64 regs],script.v] W (fun v w' =>v= .bool true∧Sh0 W w' []):=by
 refine gen Tryz.func11 Tryz.ntmps11 (Sh0.ext3 hcode hwords hscript:Sh (fun _=>False) W W [.at_ code, .at_ words, .at_ script]) rfl fun a10 h10=>gG h10<|sK fun _ k11=>gbx rfl rfl fun b12=>gRn (oM 1 rfl<|.nl)<|nK k11<|sK fun _ k13=>gRn (oV (r_build (cs:= [.int .i64 1, .int .i64 0, .int .i64 1, .int .i64 0]) rfl rfl (by kernel_rfl)) rfl<|oV (r_build (cs:= [.int .i64 9, .int .i64 0, .int .i64 0, .int .i64 0]) rfl rfl (by kernel_rfl)) rfl<|oV (r_build (cs:= [.int .i64 9, .int .i64 1, .int .i64 0, .int .i64 0]) rfl rfl (by kernel_rfl)) rfl<|.nl)<|gE1 (fun _ _ h_=>x_lit (n:=3) (cs:= [.int .i64 1, .int .i64 0, .int .i64 1, .int .i64 0, .int .i64 9, .int .i64 0, .int .i64 0, .int .i64 0, .int .i64 9, .int .i64 1, .int .i64 0, .int .i64 0]) ([(⟨1,0,1,0⟩:Ins),(⟨9,0,0,0⟩:Ins),(⟨9,1,0,0⟩:Ins)]:List Ins) h_ sl_33 ti_32 rfl rfl rfl (by decide) rfl (by kernel_rfl) rfl (fun q hq w h=>Flat.inner _ _) (fun q hq b hb=>(Flat.on _ _ hb).elim) rfl rfl) rfl fun v14=>gRn (oM 1 rfl<|.nl)<|nK k13<|sK fun _ k15=>gRn (oV (r_build (cs:= [.int .i64 8, .int .i64 0, .int .i64 1, .int .i64 0]) rfl rfl (by kernel_rfl)) rfl<|oV (r_build (cs:= [.int .i64 8, .int .i64 1, .int .i64 0, .int .i64 0]) rfl rfl (by kernel_rfl)) rfl<|oV (r_build (cs:= [.int .i64 16, .int .i64 0, .int .i64 0, .int .i64 0]) rfl rfl (by kernel_rfl)) rfl<|oV (r_build (cs:= [.int .i64 16, .int .i64 1, .int .i64 0, .int .i64 0]) rfl rfl (by kernel_rfl)) rfl<|.nl)<|gE1 (fun _ _ h_=>x_lit (n:=4) (cs:= [.int .i64 8, .int .i64 0, .int .i64 1, .int .i64 0, .int .i64 8, .int .i64 1, .int .i64 0, .int .i64 0, .int .i64 16, .int .i64 0, .int .i64 0, .int .i64 0, .int .i64 16, .int .i64 1, .int .i64 0, .int .i64 0]) ([(⟨8,0,1,0⟩:Ins),(⟨8,1,0,0⟩:Ins),(⟨16,0,0,0⟩:Ins),(⟨16,1,0,0⟩:Ins)]:List Ins) h_ sl_33 ti_32 rfl rfl rfl (by decide) rfl (by kernel_rfl) rfl (fun q hq w h=>Flat.inner _ _) (fun q hq b hb=>(Flat.on _ _ hb).elim) rfl rfl) rfl fun v16=>gRn (oM 1 rfl<|.nl)<|nK k15<|sK fun _ k17=>gRn (oM 2 rfl<|.nl)<|fun a22 w22 h22=>wl_ex (x_lit (n:=2) (cs:= [v14,v16]) ([⟨v14⟩,⟨v16⟩]:List RV) h22 sl_22 ti_33 rfl rfl rfl (by decide) rfl (by obtain ⟨A23,n23,c23,(e23:v14=_)⟩:=((h22.sh.own 1 rfl)).form;rw [e23];obtain ⟨A21,n21,c21,(e21:v16=_)⟩:=((h22.sh.own 0 rfl)).form;rw [e21];kernel_rfl) rfl (fun _ _ _ _=>trivial) (fun q hq b hb=>(Flat.on _ _ hb).elim) rfl rfl) (wanted_none rfl _) ?_;clear h10
 rintro a24 w24 ⟨v24,h24⟩
 have h25:=h24.sel (L' := [_,_,_,_,_,_,_]) [0,2,1,3,4,5,6] rfl
 have h26:St 119 (fun _=>False) W a24 w24 _ _:=⟨h25.fr,(Sh.close (B:=matX (.own 32) 33 v24 [(⟨v14, [(⟨1,0,1,0⟩:Ins),(⟨9,0,0,0⟩:Ins),(⟨9,1,0,0⟩:Ins)]⟩:Ls Ins),(⟨v16, [(⟨8,0,1,0⟩:Ins),(⟨8,1,0,0⟩:Ins),(⟨16,0,0,0⟩:Ins),(⟨16,1,0,0⟩:Ins)]⟩:Ls Ins)]) h25.sh).matDeep own_mat⟩
 clear h25
 clear h22
 refine gG h26<|gE1 (fun _ _ h_=>x_lit (n:=2) (cs:= [.int .i64 0, .int .i64 0]) ([0,0]:List Int) h_ sl_23 ti_3 rfl rfl rfl (by decide) rfl (by kernel_rfl) rfl (fun q hq w h=>Flat.inner _ _) (fun q hq b hb=>(Flat.on _ _ hb).elim) rfl rfl) rfl fun v27=>gRn (oV (r_buildS (cs:= [v24,v27, .int .i64 0, .int .i64 2]) rfl rfl (fun w h=>by obtain ⟨A29,n29,c29,(e29:v27=_)⟩:=((h.own 0 rfl)).form;rw [e29];obtain ⟨A28,n28,c28,(e28:v24=_)⟩:=((h.deep 1 rfl)).form;rw [e28];kernel_rfl)) rfl<|.nl)<|gal ti_25 rfl fun b30=>gE (fun _ _ h_=>x_stb (i:=0) (vs:= [v24,v27, .int .i64 0, .int .i64 2]) (cs' := [v24,v27, .int .i64 0, .int .i64 2]) h_ ti_25 rfl rfl rfl rfl rfl rfl rfl (allOne_cons ((h_.sh.deep 2 rfl)).one (allOne_cons ((h_.sh.own 1 rfl)).one (allOne_cons rfl (allOne_cons rfl allOne_nil)))) (Nat.le_of_ble_eq_true rfl) rfl) rfl<|nK k17<|sK fun _ k32=>gRn (olw 0 ti_25 rfl rfl<|.nl)<|fun a34 w34 h34=>wl_ex (x_call h34 bd_18 rfl rfl rfl rfl rfl (stsoT (⟨v24, [(⟨v14, [(⟨1,0,1,0⟩:Ins),(⟨9,0,0,0⟩:Ins),(⟨9,1,0,0⟩:Ins)]⟩:Ls Ins),(⟨v16, [(⟨8,0,1,0⟩:Ins),(⟨8,1,0,0⟩:Ins),(⟨16,0,0,0⟩:Ins),(⟨16,1,0,0⟩:Ins)]⟩:Ls Ins)]⟩:Ls (Ls Ins)) (⟨v27, [0,0]⟩:Ls Int) _ (h34.sh.deep 2 rfl) (h34.sh.own 1 rfl) rfl rfl)) (wanted_none rfl _) ?_;clear h26
 rintro a35 w35 ⟨_,⟨u35,rfl,hfu35,hs35⟩,hf35⟩
 have h35:=(⟨hf35,h34.sh.call hs35 (by intro A hA b hb;obtain rfl:=List.mem_singleton.1 hA;obtain ⟨i9,hi9,hb9⟩:=hb;exact .inl ((hfu35.nw _ (nth_mem _ _ hi9) b hb9).resolve_left id))⟩:St 119 (fun _=>False) W a35 w35 _ _)
 have hfr35:=hfu35.up (K' :=fun _=>False) (W' :=W) (fun b hb=>hb.imp id (fun h9=>Nat.le_trans h34.sh.chg.size h9))
 clear hf35 hs35
 clear h34
 refine gG h35<|gRn (oM 1 rfl<|oxt rfl<|oxt rfl<|.nl)<|gal ti_28 rfl fun b36=>gRn (oM 1 rfl<|.nl)<|gsw 0 ti_28 rfl rfl rfl<|nK k32<|gF [1,2,7,8,9] rfl<|sK fun _ k38=>gRn (olw 2 ti_25 rfl rfl<|.nl)<|fun a40 w40 h40=>wl_ex (x_call h40 bd_24 rfl rfl rfl rfl rfl (psoT (⟨v24, [(⟨v14, [(⟨1,0,1,0⟩:Ins),(⟨9,0,0,0⟩:Ins),(⟨9,1,0,0⟩:Ins)]⟩:Ls Ins),(⟨v16, [(⟨8,0,1,0⟩:Ins),(⟨8,1,0,0⟩:Ins),(⟨16,0,0,0⟩:Ins),(⟨16,1,0,0⟩:Ins)]⟩:Ls Ins)]⟩:Ls (Ls Ins)) (⟨v27, [0,0]⟩:Ls Int) _ (h40.sh.deep 4 rfl) (h40.sh.own 3 rfl) rfl rfl)) (wanted_none rfl _) ?_;clear h35
 rintro a41 w41 ⟨_,⟨u41,rfl,hfu41,hs41⟩,hf41⟩
 have h41:=(⟨hf41,h40.sh.call hs41 (by intro A hA b hb;obtain rfl:=List.mem_singleton.1 hA;obtain ⟨i9,hi9,hb9⟩:=hb;exact .inl ((hfu41.nw _ (nth_mem _ _ hi9) b hb9).resolve_left id))⟩:St 119 (fun _=>False) W a41 w41 _ _)
 have hfr41:=hfu41.up (K' :=fun _=>False) (W' :=W) (fun b hb=>hb.imp id (fun h9=>Nat.le_trans h40.sh.chg.size h9))
 clear hf41 hs41
 clear h40
 refine gG h41<|gRn (oM 1 rfl<|oxt rfl<|oxt rfl<|.nl)<|gal ti_28 rfl fun b42=>gRn (oM 1 rfl<|.nl)<|gsw 0 ti_28 rfl rfl rfl<|nK k38<|?_;clear h41
 obtain ⟨hbl,hbl2⟩:=two_len9 hfr35 hfr41
 refine gK fun _ k44=>sK fun _ k45=>gNl (aO 3 rfl) fun hl46=>gNl (aO 1 rfl) fun hl47=>gRn (ofB fl_28_0 rfl<|olB 2 ti_26 rfl rfl<|oneN 0 0 rfl<|oM 1 rfl<|oG (by decide) (r_fieldB (r:=0) fl_28_0 rfl rfl rfl) rfl<|oG (by decide) (r_ldb (i:=0) ti_26 rfl rfl rfl rfl) rfl<|oG (by decide) (r_neqN (p:=0) (q:=0) rfl rfl rfl) rfl<|opF (by decide) rfl<|oM 1 rfl<|oG (by decide) (r_move rfl rfl) rfl<|oG (by decide) (r_len (s:=u35) (n:=u35.l.length) sl_35 rfl rfl (fun w h=>(h.own 3 rfl)) rfl) rfl<|oG (by decide) (r_neqN (p:=u35.l.length) (q:=3) rfl rfl rfl) rfl<|opF (by decide) rfl<|oM 1 rfl<|oG (decide_eq_false (by omega)) (r_move rfl rfl) rfl<|oG (decide_eq_false (by omega)) (r_len (s:=u41) (n:=u41.l.length) sl_35 rfl rfl (fun w h=>(h.own 1 rfl)) rfl) rfl<|oG (decide_eq_false (by omega)) (r_neqN (p:=u41.l.length) (q:=4) rfl rfl rfl) rfl<|opF (decide_eq_false (by omega)) rfl<|.nl)<|nK k45<|gF [1,2,9,11,58] rfl<|gcF rfl (decide_eq_false (by omega))<|gS<|hK k44<|gK fun _ k48=>sK fun _ k49=>gRn (olw 7 ti_25 rfl rfl<|.nl)<|fun a51 w51 h51=>wl_ex (x_call h51 bd_32 rfl rfl rfl rfl rfl (kvast_c code words locks regs _ (h51.sh.at 8 rfl) (h51.sh.at 9 rfl))) (wanted_none rfl _) ?_
 rintro a52 w52 ⟨_,⟨rfl,hs52⟩,hf52⟩
 have h52:St 119 (fun _=>False) W a52 w52 _ _:=⟨hf52,h51.sh.call0 hs52⟩
 clear hf52 hs52
 clear h51
 refine gG h52<|nK k49<|gcF rfl hv<|gS<|hK k48<|sK fun _ k53=>gRn (olw 7 ti_25 rfl rfl<|.nl)<|fun a55 w55 h55=>wl_ex (x_call h55 bd_18 rfl rfl rfl rfl rfl (stso_b code words locks regs _ (h55.sh.at 8 rfl) (h55.sh.at 9 rfl) hz)) (wanted_none rfl _) ?_;clear h52
 rintro a56 w56 ⟨_,⟨rfl,hs56⟩,hf56⟩
 have h56:St 119 (fun _=>False) W a56 w56 _ _:=⟨hf56,h55.sh.call0 hs56⟩
 clear hf56 hs56
 clear h55
 refine gG h56<|gRn (oM 1 rfl<|oxt rfl<|oxt rfl<|oM 1 rfl<|.nl)<|gsw 2 ti_28 rfl rfl rfl<|nK k53<|sK fun _ k58=>gRn (olw 7 ti_25 rfl rfl<|.nl)<|fun a60 w60 h60=>wl_ex (x_call h60 bd_24 rfl rfl rfl rfl rfl (pso_b code words locks regs _ (h60.sh.at 8 rfl) (h60.sh.at 9 rfl) hz)) (wanted_none rfl _) ?_;clear h56
 rintro a61 w61 ⟨_,⟨rfl,hs61⟩,hf61⟩
 have h61:St 119 (fun _=>False) W a61 w61 _ _:=⟨hf61,h60.sh.call0 hs61⟩
 clear hf61 hs61
 clear h60
 refine gG h61<|gRn (oM 1 rfl<|oxt rfl<|oxt rfl<|oM 1 rfl<|.nl)<|gsw 0 ti_28 rfl rfl rfl<|nK k58<|gK fun _ k63=>sG (ofB fl_28_0 rfl<|olB 0 ti_26 rfl rfl<|oneI _ _ rfl<|.nl)<|gcT rfl (decide_eq_true hz)<|sK fun _ k65=>gNl (fun w h=>(Sh.nilAt (α:=OutL) h)) fun (hl66:([]).length≤140737488355328)=>gRn (oM 1 rfl<|oln (n:=([]).length) sl_35 (fun w h=>(Sh.nilAt (α:=OutL) h)) rfl<|oeqN _ 0 rfl<|oM 1 rfl<|.nl)<|nK k65<|gF [4] rfl<|gR<|uT<|fun a67 w67 h67=>x_ret1 (fn:=Tryz.f11) (t:=4) rfl h67 rfl<|⟨?_,(h67.sh.sel [] rfl)⟩;clear h61
 first|rfl|exact congrArg _ (decide_eq_true rfl)
theorem psoMore_k (code:Ls (Ls Ins))(words script:Ls Int)(Lk R:Nat)(W:World)(hcode:code.At W)(hwords:words.At W)(hscript:script.At W)(hv:vastG (code.l.map (·.l)) words.l=false)(hok:OkPg (pgN code words Lk R))(hR:PgR (pgN code words Lk R)):
    Rets Tryz.prog 11 [.agg #[code.v,words.v, .int .i64 ((Lk:Nat):Int), .int .i64 ((R:Nat):Int)],script.v] W (fun v w' =>v= .bool true∧Sh0 W w' []):=by
 have hz:checkG (pgOf code words ((Lk:Nat):Int) ((R:Nat):Int))=⟨0,0,0⟩:=checkG_ok hok
 refine gen Tryz.func11 Tryz.ntmps11 (Sh0.ext3 hcode hwords hscript:Sh (fun _=>False) W W [.at_ code, .at_ words, .at_ script]) rfl fun a10 h10=>gG h10<|sK fun _ k11=>gbx rfl rfl fun b12=>gRn (oM 1 rfl<|.nl)<|nK k11<|sK fun _ k13=>gRn (oV (r_build (cs:= [.int .i64 1, .int .i64 0, .int .i64 1, .int .i64 0]) rfl rfl (by kernel_rfl)) rfl<|oV (r_build (cs:= [.int .i64 9, .int .i64 0, .int .i64 0, .int .i64 0]) rfl rfl (by kernel_rfl)) rfl<|oV (r_build (cs:= [.int .i64 9, .int .i64 1, .int .i64 0, .int .i64 0]) rfl rfl (by kernel_rfl)) rfl<|.nl)<|gE1 (fun _ _ h_=>x_lit (n:=3) (cs:= [.int .i64 1, .int .i64 0, .int .i64 1, .int .i64 0, .int .i64 9, .int .i64 0, .int .i64 0, .int .i64 0, .int .i64 9, .int .i64 1, .int .i64 0, .int .i64 0]) ([(⟨1,0,1,0⟩:Ins),(⟨9,0,0,0⟩:Ins),(⟨9,1,0,0⟩:Ins)]:List Ins) h_ sl_33 ti_32 rfl rfl rfl (by decide) rfl (by kernel_rfl) rfl (fun q hq w h=>Flat.inner _ _) (fun q hq b hb=>(Flat.on _ _ hb).elim) rfl rfl) rfl fun v14=>gRn (oM 1 rfl<|.nl)<|nK k13<|sK fun _ k15=>gRn (oV (r_build (cs:= [.int .i64 8, .int .i64 0, .int .i64 1, .int .i64 0]) rfl rfl (by kernel_rfl)) rfl<|oV (r_build (cs:= [.int .i64 8, .int .i64 1, .int .i64 0, .int .i64 0]) rfl rfl (by kernel_rfl)) rfl<|oV (r_build (cs:= [.int .i64 16, .int .i64 0, .int .i64 0, .int .i64 0]) rfl rfl (by kernel_rfl)) rfl<|oV (r_build (cs:= [.int .i64 16, .int .i64 1, .int .i64 0, .int .i64 0]) rfl rfl (by kernel_rfl)) rfl<|.nl)<|gE1 (fun _ _ h_=>x_lit (n:=4) (cs:= [.int .i64 8, .int .i64 0, .int .i64 1, .int .i64 0, .int .i64 8, .int .i64 1, .int .i64 0, .int .i64 0, .int .i64 16, .int .i64 0, .int .i64 0, .int .i64 0, .int .i64 16, .int .i64 1, .int .i64 0, .int .i64 0]) ([(⟨8,0,1,0⟩:Ins),(⟨8,1,0,0⟩:Ins),(⟨16,0,0,0⟩:Ins),(⟨16,1,0,0⟩:Ins)]:List Ins) h_ sl_33 ti_32 rfl rfl rfl (by decide) rfl (by kernel_rfl) rfl (fun q hq w h=>Flat.inner _ _) (fun q hq b hb=>(Flat.on _ _ hb).elim) rfl rfl) rfl fun v16=>gRn (oM 1 rfl<|.nl)<|nK k15<|sK fun _ k17=>gRn (oM 2 rfl<|.nl)<|fun a22 w22 h22=>wl_ex (x_lit (n:=2) (cs:= [v14,v16]) ([⟨v14⟩,⟨v16⟩]:List RV) h22 sl_22 ti_33 rfl rfl rfl (by decide) rfl (by obtain ⟨A23,n23,c23,(e23:v14=_)⟩:=((h22.sh.own 1 rfl)).form;rw [e23];obtain ⟨A21,n21,c21,(e21:v16=_)⟩:=((h22.sh.own 0 rfl)).form;rw [e21];kernel_rfl) rfl (fun _ _ _ _=>trivial) (fun q hq b hb=>(Flat.on _ _ hb).elim) rfl rfl) (wanted_none rfl _) ?_;clear h10
 rintro a24 w24 ⟨v24,h24⟩
 have h25:=h24.sel (L' := [_,_,_,_,_,_,_]) [0,2,1,3,4,5,6] rfl
 have h26:St 119 (fun _=>False) W a24 w24 _ _:=⟨h25.fr,(Sh.close (B:=matX (.own 32) 33 v24 [(⟨v14, [(⟨1,0,1,0⟩:Ins),(⟨9,0,0,0⟩:Ins),(⟨9,1,0,0⟩:Ins)]⟩:Ls Ins),(⟨v16, [(⟨8,0,1,0⟩:Ins),(⟨8,1,0,0⟩:Ins),(⟨16,0,0,0⟩:Ins),(⟨16,1,0,0⟩:Ins)]⟩:Ls Ins)]) h25.sh).matDeep own_mat⟩
 clear h25
 clear h22
 refine gG h26<|gE1 (fun _ _ h_=>x_lit (n:=2) (cs:= [.int .i64 0, .int .i64 0]) ([0,0]:List Int) h_ sl_23 ti_3 rfl rfl rfl (by decide) rfl (by kernel_rfl) rfl (fun q hq w h=>Flat.inner _ _) (fun q hq b hb=>(Flat.on _ _ hb).elim) rfl rfl) rfl fun v27=>gRn (oV (r_buildS (cs:= [v24,v27, .int .i64 0, .int .i64 2]) rfl rfl (fun w h=>by obtain ⟨A29,n29,c29,(e29:v27=_)⟩:=((h.own 0 rfl)).form;rw [e29];obtain ⟨A28,n28,c28,(e28:v24=_)⟩:=((h.deep 1 rfl)).form;rw [e28];kernel_rfl)) rfl<|.nl)<|gal ti_25 rfl fun b30=>gE (fun _ _ h_=>x_stb (i:=0) (vs:= [v24,v27, .int .i64 0, .int .i64 2]) (cs' := [v24,v27, .int .i64 0, .int .i64 2]) h_ ti_25 rfl rfl rfl rfl rfl rfl rfl (allOne_cons ((h_.sh.deep 2 rfl)).one (allOne_cons ((h_.sh.own 1 rfl)).one (allOne_cons rfl (allOne_cons rfl allOne_nil)))) (Nat.le_of_ble_eq_true rfl) rfl) rfl<|nK k17<|sK fun _ k32=>gRn (olw 0 ti_25 rfl rfl<|.nl)<|fun a34 w34 h34=>wl_ex (x_call h34 bd_18 rfl rfl rfl rfl rfl (stsoT (⟨v24, [(⟨v14, [(⟨1,0,1,0⟩:Ins),(⟨9,0,0,0⟩:Ins),(⟨9,1,0,0⟩:Ins)]⟩:Ls Ins),(⟨v16, [(⟨8,0,1,0⟩:Ins),(⟨8,1,0,0⟩:Ins),(⟨16,0,0,0⟩:Ins),(⟨16,1,0,0⟩:Ins)]⟩:Ls Ins)]⟩:Ls (Ls Ins)) (⟨v27, [0,0]⟩:Ls Int) _ (h34.sh.deep 2 rfl) (h34.sh.own 1 rfl) rfl rfl)) (wanted_none rfl _) ?_;clear h26
 rintro a35 w35 ⟨_,⟨u35,rfl,hfu35,hs35⟩,hf35⟩
 have h35:=(⟨hf35,h34.sh.call hs35 (by intro A hA b hb;obtain rfl:=List.mem_singleton.1 hA;obtain ⟨i9,hi9,hb9⟩:=hb;exact .inl ((hfu35.nw _ (nth_mem _ _ hi9) b hb9).resolve_left id))⟩:St 119 (fun _=>False) W a35 w35 _ _)
 have hfr35:=hfu35.up (K' :=fun _=>False) (W' :=W) (fun b hb=>hb.imp id (fun h9=>Nat.le_trans h34.sh.chg.size h9))
 clear hf35 hs35
 clear h34
 refine gG h35<|gRn (oM 1 rfl<|oxt rfl<|oxt rfl<|.nl)<|gal ti_28 rfl fun b36=>gRn (oM 1 rfl<|.nl)<|gsw 0 ti_28 rfl rfl rfl<|nK k32<|gF [1,2,7,8,9] rfl<|sK fun _ k38=>gRn (olw 2 ti_25 rfl rfl<|.nl)<|fun a40 w40 h40=>wl_ex (x_call h40 bd_24 rfl rfl rfl rfl rfl (psoT (⟨v24, [(⟨v14, [(⟨1,0,1,0⟩:Ins),(⟨9,0,0,0⟩:Ins),(⟨9,1,0,0⟩:Ins)]⟩:Ls Ins),(⟨v16, [(⟨8,0,1,0⟩:Ins),(⟨8,1,0,0⟩:Ins),(⟨16,0,0,0⟩:Ins),(⟨16,1,0,0⟩:Ins)]⟩:Ls Ins)]⟩:Ls (Ls Ins)) (⟨v27, [0,0]⟩:Ls Int) _ (h40.sh.deep 4 rfl) (h40.sh.own 3 rfl) rfl rfl)) (wanted_none rfl _) ?_;clear h35
 rintro a41 w41 ⟨_,⟨u41,rfl,hfu41,hs41⟩,hf41⟩
 have h41:=(⟨hf41,h40.sh.call hs41 (by intro A hA b hb;obtain rfl:=List.mem_singleton.1 hA;obtain ⟨i9,hi9,hb9⟩:=hb;exact .inl ((hfu41.nw _ (nth_mem _ _ hi9) b hb9).resolve_left id))⟩:St 119 (fun _=>False) W a41 w41 _ _)
 have hfr41:=hfu41.up (K' :=fun _=>False) (W' :=W) (fun b hb=>hb.imp id (fun h9=>Nat.le_trans h40.sh.chg.size h9))
 clear hf41 hs41
 clear h40
 refine gG h41<|gRn (oM 1 rfl<|oxt rfl<|oxt rfl<|.nl)<|gal ti_28 rfl fun b42=>gRn (oM 1 rfl<|.nl)<|gsw 0 ti_28 rfl rfl rfl<|nK k38<|?_;clear h41
 obtain ⟨hbl,hbl2⟩:=two_len9 hfr35 hfr41
 refine gK fun _ k44=>sK fun _ k45=>gNl (aO 3 rfl) fun hl46=>gNl (aO 1 rfl) fun hl47=>gRn (ofB fl_28_0 rfl<|olB 2 ti_26 rfl rfl<|oneN 0 0 rfl<|oM 1 rfl<|oG (by decide) (r_fieldB (r:=0) fl_28_0 rfl rfl rfl) rfl<|oG (by decide) (r_ldb (i:=0) ti_26 rfl rfl rfl rfl) rfl<|oG (by decide) (r_neqN (p:=0) (q:=0) rfl rfl rfl) rfl<|opF (by decide) rfl<|oM 1 rfl<|oG (by decide) (r_move rfl rfl) rfl<|oG (by decide) (r_len (s:=u35) (n:=u35.l.length) sl_35 rfl rfl (fun w h=>(h.own 3 rfl)) rfl) rfl<|oG (by decide) (r_neqN (p:=u35.l.length) (q:=3) rfl rfl rfl) rfl<|opF (by decide) rfl<|oM 1 rfl<|oG (decide_eq_false (by omega)) (r_move rfl rfl) rfl<|oG (decide_eq_false (by omega)) (r_len (s:=u41) (n:=u41.l.length) sl_35 rfl rfl (fun w h=>(h.own 1 rfl)) rfl) rfl<|oG (decide_eq_false (by omega)) (r_neqN (p:=u41.l.length) (q:=4) rfl rfl rfl) rfl<|opF (decide_eq_false (by omega)) rfl<|.nl)<|nK k45<|gF [1,2,9,11,58] rfl<|gcF rfl (decide_eq_false (by omega))<|gS<|hK k44<|gK fun _ k48=>sK fun _ k49=>gRn (olw 7 ti_25 rfl rfl<|.nl)<|fun a51 w51 h51=>wl_ex (x_call h51 bd_32 rfl rfl rfl rfl rfl (kvast_c code words ((Lk:Nat):Int) ((R:Nat):Int) _ (h51.sh.at 8 rfl) (h51.sh.at 9 rfl))) (wanted_none rfl _) ?_
 rintro a52 w52 ⟨_,⟨rfl,hs52⟩,hf52⟩
 have h52:St 119 (fun _=>False) W a52 w52 _ _:=⟨hf52,h51.sh.call0 hs52⟩
 clear hf52 hs52
 clear h51
 refine gG h52<|nK k49<|gcF rfl hv<|gS<|hK k48<|sK fun _ k53=>gRn (olw 7 ti_25 rfl rfl<|.nl)<|fun a55 w55 h55=>wl_ex (x_call h55 bd_18 rfl rfl rfl rfl rfl (stso_k code words Lk R _ (h55.sh.at 8 rfl) (h55.sh.at 9 rfl) hok hR)) (wanted_none rfl _) ?_;clear h52
 rintro a56 w56 ⟨_,⟨u56,ok56,rfl,hfu56,hs56⟩,hf56⟩
 have h56:=(⟨hf56,h55.sh.call hs56 (by intro A hA b hb;obtain rfl:=List.mem_singleton.1 hA;obtain ⟨i9,hi9,hb9⟩:=hb;exact .inl ((hfu56.nw _ (nth_mem _ _ hi9) b hb9).resolve_left id))⟩:St 119 (fun _=>False) W a56 w56 _ _)
 have hfr56:=hfu56.up (K' :=fun _=>False) (W' :=W) (fun b hb=>hb.imp id (fun h9=>Nat.le_trans h55.sh.chg.size h9))
 clear hf56 hs56
 clear h55
 refine gG h56<|gRn (oM 1 rfl<|oxt rfl<|oxt rfl<|oM 1 rfl<|.nl)<|gsw 3 ti_28 rfl rfl rfl<|nK k53<|sK fun _ k58=>gRn (olw 8 ti_25 rfl rfl<|.nl)<|fun a60 w60 h60=>wl_ex (x_call h60 bd_24 rfl rfl rfl rfl rfl (pso_k code words Lk R _ (h60.sh.at 9 rfl) (h60.sh.at 10 rfl) hok hR)) (wanted_none rfl _) ?_;clear h56
 rintro a61 w61 ⟨_,⟨u61,ok61,rfl,hfu61,hs61⟩,hf61⟩
 have h61:=(⟨hf61,h60.sh.call hs61 (by intro A hA b hb;obtain rfl:=List.mem_singleton.1 hA;obtain ⟨i9,hi9,hb9⟩:=hb;exact .inl ((hfu61.nw _ (nth_mem _ _ hi9) b hb9).resolve_left id))⟩:St 119 (fun _=>False) W a61 w61 _ _)
 have hfr61:=hfu61.up (K' :=fun _=>False) (W' :=W) (fun b hb=>hb.imp id (fun h9=>Nat.le_trans h60.sh.chg.size h9))
 clear hf61 hs61
 clear h60
 refine gG h61<|gRn (oM 1 rfl<|oxt rfl<|oxt rfl<|oM 1 rfl<|.nl)<|gsw 2 ti_28 rfl rfl rfl<|nK k58<|gK fun _ k63=>sG (ofB fl_28_0 rfl<|olB 2 ti_26 rfl rfl<|oneI _ _ rfl<|.nl)<|?_;clear h61
 refine gcd rfl (fun hb65 hp65=> ?_) fun hb65 hp65=> ?_
 ·skip
  refine sK fun _ k66=>gNl (aO 0 rfl) fun hl67=>gRn (oM 1 rfl<|oln sl_35 (aO 0 rfl) rfl<|oeqN _ 0 rfl<|oM 1 rfl<|.nl)<|nK k66<|gF [4] rfl<|gR<|uT<|fun a68 w68 h68=>x_ret1 (fn:=Tryz.f11) (t:=4) rfl h68 rfl<|⟨?_,(h68.sh.sel [] rfl)⟩
  first|rfl|exact congrArg _ (decide_eq_true rfl)|exact congrArg _ (decide_eq_true (by rw [(hfr61.big (cd_no (by assumption))).2];rfl))
 refine gS<|hK k63<|sK fun _ k69=>gRn (olw 9 ti_25 rfl rfl<|oM 1 rfl<|.nl)<|fun a71 w71 h71=>wl_ex (x_call h71 bd_33 rfl rfl rfl rfl rfl (psoRun_k code words script Lk R _ (h71.sh.at 10 rfl) (h71.sh.at 11 rfl) (h71.sh.at 12 rfl) hok)) (wanted_none rfl _) ?_
 rintro a72 w72 ⟨_,⟨pr72,wd72,st72,sn72,rfl,hrun72,hs72⟩,hf72⟩
 have h72:=(⟨hf72,h71.sh.call hs72 (by intro A hA b hb;simp only [List.mem_cons,List.not_mem_nil,or_false] at hA;first|(subst hA;exact Flat.noRd hb)|(rcases hA with rfl|rfl<;>first|exact (hb:False).elim|exact Flat.noRd hb|exact .inl (hb:_)))⟩:St 119 (fun _=>False) W a72 w72 _ _)
 clear hf72 hs72
 clear h71
 refine gG h72<|gRn (oM 1 rfl<|oxt rfl<|oxt rfl<|.nl)<|gal ti_60 rfl fun b73=>gE (fun _ _ h_=>x_stb (i:=0) (vs:= [pr72.v, .int .i64 st72,wd72.v, .int .i64 ((sn72:Nat):Int)]) (cs' := [pr72.v, .int .i64 st72,wd72.v, .int .i64 ((sn72:Nat):Int)]) h_ ti_60 rfl rfl rfl rfl rfl rfl rfl (allOne_cons ((h_.sh.own 1 rfl)).one (allOne_cons rfl (allOne_cons ((h_.sh.own 2 rfl)).one (allOne_cons rfl allOne_nil)))) (Nat.le_of_ble_eq_true rfl) rfl) rfl<|gsw 5 ti_28 rfl rfl rfl<|nK k69<|gF [8,9,10,11,12] rfl<|sK fun _ k76=>gRn (olw 0 ti_60 rfl rfl<|.nl)<|gP (fun _ _ h_=>xCl h_ bd_34 rfl (kended_c pr72 wd72 st72 sn72 _ (h_.sh.own 1 rfl) (h_.sh.own 2 rfl))) rfl<|gal ti_39 rfl fun b78=>gE (fun _ _ h_=>x_stb (i:=0) (vs:= [.int .i64 st72,(endW st72 wd72).v,pr72.v]) (cs' := [.int .i64 st72,(endW st72 wd72).v,pr72.v]) h_ ti_39 rfl rfl rfl rfl rfl rfl rfl (allOne_cons rfl (allOne_cons ((endW_at (h_.sh.own 3 rfl))).one (allOne_cons ((h_.sh.own 2 rfl)).one allOne_nil))) (Nat.le_of_ble_eq_true rfl) rfl) rfl<|nK k76<|sK fun _ k80=>gRn (oM 1 rfl<|olw 0 ti_39 rfl rfl<|.nl)<|gP (fun _ _ h_=>xCl h_ bd_35 rfl (found_c u61 (⟨st72,(endW st72 wd72),pr72⟩:OutL) _ (h_.sh.own 4 rfl) (endW_at (h_.sh.own 3 rfl)) (h_.sh.own 2 rfl))) rfl<|gRn (oM 1 rfl<|.nl)<|nK k80<|gK fun _ k82=>sK fun _ k83=>gRn (ofB fl_28_0 rfl<|olB 6 ti_26 rfl rfl<|oneN 0 0 rfl<|oM 1 rfl<|oG (by decide) (r_fieldB (r:=1) fl_60_1 rfl rfl rfl) rfl<|oG (by decide) (r_ldb (i:=1) ti_3 rfl rfl rfl rfl) rfl<|oG (by decide) (r_neqI (p:=st72) (q:=3) rfl rfl rfl) rfl<|oG (by decide) (r_move rfl rfl) rfl<|.nl)<|?_;clear h72
 rcases dsp (st72≠3) with ⟨hb84,hp84⟩|⟨hb84,hp84⟩
 ·skip
  refine gRn (oG hb84 (r_move rfl rfl) rfl<|oG hb84 (r_not rfl rfl) rfl<|oG (by decide) (r_pickT rfl rfl hb84 rfl) rfl<|opF (by decide) rfl<|.nl)<|nK k83<|gcF rfl (by rw [(decide_eq_true (run_in9 hok hrun72 (by first|assumption|omega) (cd_ok (by assumption)) hfr61))];rfl)<|gS<|hK k82<|gK fun _ k85=>sG (oM 1 rfl<|.nl)<|gB<|fun a88 w88 h88=>x_loop (fun m a w=>∃(k:Nat),(k≤u56.l.length)∧St 119 (fun _=>False) W a w [(8,u56.v),(9, .pointer (some ⟨b36,0,none⟩)),(10,u61.v),(15, .int .i64 ((k:Nat):Int))] [.own 3 pr72, .own 3 wd72, .own 39 u61, .own 39 u56, .own 39 u41, .blk b36 28 [.int .i64 (if ok56=true then (0:Int) else 10), .int .i64 0, .int .i64 0], .own 39 u35, .at_ code, .at_ words, .at_ script]∧m=u56.l.length-k) ⟨_,0,(by omega),h88.nrm ⟨rfl,rfl,rfl,rfl,trivial⟩ [2,3,4,5,7,8,9,14,15,16] rfl,rfl⟩ ?_
  clear h88
  rintro m87 a87 w87 ⟨k,hk,h87,hm87⟩
  refine gG h87<|gK fun _ k89=>sK fun _ k90=>gNl (aO 3 rfl) fun hl91=>gRn (oM 2 rfl<|oln sl_35 (aO 3 rfl) rfl<|oltN _ _ rfl<|oM 1 rfl<|.nl)<|?_;clear h87
  rcases dsp (k<u56.l.length) with ⟨hb92,hp92⟩|⟨hb92,hp92⟩
  ·skip
   refine gRn (oG hb92 (r_fieldB (r:=0) fl_28_0 rfl rfl rfl) rfl<|oG hb92 (r_ldb (i:=5) ti_26 rfl rfl rfl rfl) rfl<|oG hb92 (r_eqlI (p:=(if ok56=true then (0:Int) else 10)) (q:=0) rfl rfl rfl) rfl<|opT hb92 rfl<|.nl)<|nK k90<|gcd rfl (fun hb93 hp93=> ?_) fun hb93 hp93=> ?_
   ·skip
    refine gS<|hK k89<|gK fun _ k94=>gB<|sK fun _ k95=>gRn (oM 3 rfl<|oxN sl_35 ti_39 (aO 3 rfl) _ om9 rfl<|olw2 [.int .i64 ((nth u56.l k).st),((nth u56.l k).words).v,((nth u56.l k).prints).v] ti_39 (aO 3 rfl) om9 rfl<|.nl)<|gP (fun _ _ h_=>xCl h_ bd_35 rfl (found_c u61 (nth u56.l k) _ (h_.sh.own 2 rfl) ((h_.sh.own 3 rfl).inner k (show k<u56.l.length from (by omega))).1 ((h_.sh.own 3 rfl).inner k (show k<u56.l.length from (by omega))).2)) rfl<|gRn (oM 1 rfl<|.nl)<|nK k95<|sG (oM 1 rfl<|ont rfl<|.nl)<|gcF rfl (by rw [(decide_eq_true (out_in9 hfr56 hfr61 (cd_eq.symm.trans (by assumption)) (cd_ok (by assumption)) (by omega)))];rfl)<|gS<|hK k94<|gL<|gRn (oM 1 rfl<|oadN _ 1 om9 rfl<|oM 1 rfl<|.nl)<|nN<|fun a98 w98 h98=> ?_
    refine x_again ⟨_, ?_,k+1, ?_,h98.nf ⟨rfl,rfl,rfl,rfl,trivial⟩,rfl⟩
    · rw [hm87];first|omega|(simp only [lens9];omega)
    · omega
   refine gX<|hK k85<|sG (oM 1 rfl<|.nl)<|gR<|fun a100 w100 h100=>x_ret1 (fn:=Tryz.f11) (t:=4) rfl h100 rfl<|⟨?_,(h100.sh.sel [] rfl)⟩
   first|rfl|exact congrArg _ (decide_eq_true rfl)|exact congrArg _ (decide_eq_true (by rw [(hfr61.big (cd_no (by assumption))).2];rfl))
  refine gRn (oKs 3 hb92 rfl rfl<|opF hb92 rfl<|.nl)<|nK k90<|gcF rfl rfl<|gX<|hK k85<|sG (oM 1 rfl<|.nl)<|gR<|fun a102 w102 h102=>x_ret1 (fn:=Tryz.f11) (t:=4) rfl h102 rfl<|⟨?_,(h102.sh.sel [] rfl)⟩
  first|rfl|exact congrArg _ (decide_eq_true rfl)|exact congrArg _ (decide_eq_true (by rw [(hfr61.big (cd_no (by assumption))).2];rfl))
 refine gRn (oKs 2 hb84 rfl rfl<|oG (by decide) (r_pickF rfl rfl hb84 rfl) rfl<|opF (by decide) rfl<|.nl)<|nK k83<|gcF rfl rfl<|gS<|hK k82<|gK fun _ k103=>sG (oM 1 rfl<|.nl)<|gB<|fun a106 w106 h106=>x_loop (fun m a w=>∃(k:Nat),(k≤u56.l.length)∧St 119 (fun _=>False) W a w [(8,u56.v),(9, .pointer (some ⟨b36,0,none⟩)),(10,u61.v),(15, .int .i64 ((k:Nat):Int))] [.own 3 pr72, .own 3 wd72, .own 39 u61, .own 39 u56, .own 39 u41, .blk b36 28 [.int .i64 (if ok56=true then (0:Int) else 10), .int .i64 0, .int .i64 0], .own 39 u35, .at_ code, .at_ words, .at_ script]∧m=u56.l.length-k) ⟨_,0,(by omega),h106.nrm ⟨rfl,rfl,rfl,rfl,trivial⟩ [2,3,4,5,7,8,9,14,15,16] rfl,rfl⟩ ?_
 clear h106
 rintro m105 a105 w105 ⟨k,hk,h105,hm105⟩
 refine gG h105<|gK fun _ k107=>sK fun _ k108=>gNl (aO 3 rfl) fun hl109=>gRn (oM 2 rfl<|oln sl_35 (aO 3 rfl) rfl<|oltN _ _ rfl<|oM 1 rfl<|.nl)<|?_;clear h105
 rcases dsp (k<u56.l.length) with ⟨hb110,hp110⟩|⟨hb110,hp110⟩
 ·skip
  refine gRn (oG hb110 (r_fieldB (r:=0) fl_28_0 rfl rfl rfl) rfl<|oG hb110 (r_ldb (i:=5) ti_26 rfl rfl rfl rfl) rfl<|oG hb110 (r_eqlI (p:=(if ok56=true then (0:Int) else 10)) (q:=0) rfl rfl rfl) rfl<|opT hb110 rfl<|.nl)<|nK k108<|gcd rfl (fun hb111 hp111=> ?_) fun hb111 hp111=> ?_
  ·skip
   refine gS<|hK k107<|gK fun _ k112=>gB<|sK fun _ k113=>gRn (oM 3 rfl<|oxN sl_35 ti_39 (aO 3 rfl) _ om9 rfl<|olw2 [.int .i64 ((nth u56.l k).st),((nth u56.l k).words).v,((nth u56.l k).prints).v] ti_39 (aO 3 rfl) om9 rfl<|.nl)<|gP (fun _ _ h_=>xCl h_ bd_35 rfl (found_c u61 (nth u56.l k) _ (h_.sh.own 2 rfl) ((h_.sh.own 3 rfl).inner k (show k<u56.l.length from (by omega))).1 ((h_.sh.own 3 rfl).inner k (show k<u56.l.length from (by omega))).2)) rfl<|gRn (oM 1 rfl<|.nl)<|nK k113<|sG (oM 1 rfl<|ont rfl<|.nl)<|gcF rfl (by rw [(decide_eq_true (out_in9 hfr56 hfr61 (cd_eq.symm.trans (by assumption)) (cd_ok (by assumption)) (by omega)))];rfl)<|gS<|hK k112<|gL<|gRn (oM 1 rfl<|oadN _ 1 om9 rfl<|oM 1 rfl<|.nl)<|nN<|fun a116 w116 h116=> ?_
   refine x_again ⟨_, ?_,k+1, ?_,h116.nf ⟨rfl,rfl,rfl,rfl,trivial⟩,rfl⟩
   · rw [hm105];first|omega|(simp only [lens9];omega)
   · omega
  refine gX<|hK k103<|sG (oM 1 rfl<|.nl)<|gR<|fun a118 w118 h118=>x_ret1 (fn:=Tryz.f11) (t:=4) rfl h118 rfl<|⟨?_,(h118.sh.sel [] rfl)⟩
  first|rfl|exact congrArg _ (decide_eq_true rfl)|exact congrArg _ (decide_eq_true (by rw [(hfr61.big (cd_no (by assumption))).2];rfl))
 refine gRn (oKs 3 hb110 rfl rfl<|opF hb110 rfl<|.nl)<|nK k108<|gcF rfl rfl<|gX<|hK k103<|sG (oM 1 rfl<|.nl)<|gR<|fun a120 w120 h120=>x_ret1 (fn:=Tryz.f11) (t:=4) rfl h120 rfl<|⟨?_,(h120.sh.sel [] rfl)⟩
 first|rfl|exact congrArg _ (decide_eq_true rfl)|exact congrArg _ (decide_eq_true (by rw [(hfr61.big (cd_no (by assumption))).2];rfl))
theorem psoMore_any (code:Ls (Ls Ins))(words script:Ls Int)(locks regs:Int)(W:World)(hcode:code.At W)(hwords:words.At W)(hscript:script.At W)(hR:PgR (pgOf code words locks regs)):Rets Tryz.prog 11 [.agg #[code.v,words.v, .int .i64 locks, .int .i64 regs],script.v] W (fun v w' =>v= .bool true∧Sh0 W w' []):=by
 cases hv:vastG (code.l.map (·.l)) words.l with
 |true=>exact psoMore_v code words script locks regs W hcode hwords hscript hv
 |false=>
  by_cases hok:OkPg (pgOf code words locks regs)
  ·obtain ⟨Lk,rfl⟩:=Int.eq_ofNat_of_zero_le hok.locks.1
   obtain ⟨R,rfl⟩:=Int.eq_ofNat_of_zero_le (show 0≤regs by have:=hok.regs.1;have e:(pgOf code words (Lk:Int) regs).regs=regs:=rfl;omega)
   exact psoMore_k code words script Lk R W hcode hwords hscript hv hok hR
  ·exact psoMore_b code words script locks regs W hcode hwords hscript hv (fun h=>hok (checkG_code_pos.1 h))
end Go.Proofs.YtmjkobhkkjgplaaGreatDoor
namespace Go.Proofs.YtmjkobhkkjgplaaGreatDoor
open Go Go.ChangeShapes Go.WideShapes Go.ChangeAt Go.RowKit
set_option linter.unusedSimpArgs false
set_option linter.unusedVariables false
theorem open_Sl {α:Type}[Rd α]{H:Type}{enc:TypeId×Value→H}{P:Program}{w:World}{base:Nat}{spare:Nat→Bool}{held:Bool}{r:Go.Reach}{b0:Nat}{T e:TypeId}{v:Value}{d:DataW H}{p:List MemPlace}
  (hT:P.underlying T=some (.slice e)) (hR:Rd.ty (Sl α) P T) (hv:Value.okWide P w r b0 T v) (h:DataW.Trod enc P w base spare held T v d p) (hw:∀n∈DataW.weights P T d,n≤reachBytes):∃s:Ls α,v=s.v∧s.At w:=by
 obtain ⟨a,len,cap,rfl⟩:=okWide_slice hT hv
 obtain ⟨fuel,hf⟩:=h
 obtain ⟨s,e1,hat,_⟩:=Rd.read hR hf hw
 have e2:(Value.slice a len cap)= .slice s.A s.l.length s.cap:=by
  have: [(Value.slice a len cap)]= [.slice s.A s.l.length s.cap]:=e1
  exact (List.cons.inj this).1
 exact ⟨⟨.slice s.A s.l.length s.cap,s.l⟩,e2,s.A,s.cap,rfl,hat⟩
theorem wf64 {n:Int}(h:(Lit.int .i64 n).wf=true):R64 n:=by
 unfold Lit.wf at h
 simp only [Bool.and_eq_true,decide_eq_true_eq] at h
 have e1:IntKind.i64.min= -9223372036854775808:=by kernel_rfl
 have e2:IntKind.i64.max=9223372036854775807:=by kernel_rfl
 rw [e1,e2] at h
 unfold R64
 omega
theorem pr_fine {pr:PR}(h:pr.fine):PgR (pgOf (ofSl2 pr.code) (ofSl pr.words) pr.locks pr.regs):=by
 obtain ⟨h1,h2,_,_⟩:=h
 refine ⟨fun c hc i hi=> ?_,fun n hn=> ?_⟩
 ·obtain ⟨l,hl,rfl⟩:=List.mem_map.1 hc
  obtain ⟨s,hs,rfl⟩:=List.mem_map.1 hl
  obtain ⟨k,hk,rfl⟩:=List.mem_iff_getElem.1 hs
  have h3:=h1 k hk
  rw [nth_lt _ _ hk] at h3
  obtain ⟨q,hq,rfl⟩:=List.mem_iff_getElem.1 hi
  have h4:=h3 q hq
  have hq' :q<(pr.code.l[k]).l.length:=hq
  rw [nth_lt _ _ hq'] at h4
  exact ⟨wf64 h4.2.1,wf64 h4.2.2.1,wf64 h4.2.2.2⟩
 ·obtain ⟨k,hk,rfl⟩:=List.mem_iff_getElem.1 hn
  have hk' :k<pr.words.l.length:=hk
  have h3:=h2 k hk'
  rw [nth_lt _ _ hk'] at h3
  exact wf64 h3
theorem door_met (os:Os)(args:Array Value):laidMetH Tryz.prog Rows.psoMoreRow.laid ((World.doorLaid Tryz.prog 24 os).forCall (fun _ _=>0) ⟨#[],args, []⟩).memory:=
 laidMetH_of_parts3 (fuel:=8) (laidMet_of_run' 8 (by kernel_rfl) (by kernel_rfl)) (by kernel_rfl) (by kernel_rfl)
set_option maxRecDepth 100000 in
theorem psoMore_lifted (os:Os)(started:os.Started)(H:Type)(enc:TypeId×Value→H):
  ReturnsInHanded {} Tryz.checked os 11 .any (fun w args=>(Rows.psoMoreSpec.pre enc Tryz.prog Tryz.f11 [] false w args∧laidMetH Tryz.prog Rows.psoMoreRow.laid w)∧sizedMet enc Tryz.prog Tryz.f11 (OpenSpec.ofChange Rows.psoMoreSpec) false w args) (Rows.psoMoreSpec.post enc Tryz.prog Tryz.f11 false true false false):=by
 refine returnsInHanded_of_change_and (C:=Tryz.checked) (X:=fun w _=>laidMetH Tryz.prog Rows.psoMoreRow.laid w) (fun _ _ _ hh h=>h.of_heap hh) own started (by kernel_rfl) Tryz.func11
  (ChangeSpec.witness_shaped (enc:=enc) (C:=Tryz.checked) (os:=os) (X:=fun w _=>laidMetH Tryz.prog Rows.psoMoreRow.laid w) false (World.doorLaid Tryz.prog 24 os) #[.agg #[.slice none 0 0, .slice none 0 0, .int .i64 0, .int .i64 0], .slice none 0 0] 8 rfl (World.shaped_of_RefB (by kernel_rfl) (by kernel_rfl)) (by kernel_rfl) (by kernel_rfl) (by kernel_rfl) (door_met os _)) ?_
 intro W base args ds gs before hval0 hW _ hsz0 _ _
 have hsz:(DataW.weightsEach Tryz.prog (Tryz.f11.params.toList++Rows.psoMoreSpec.plain.varTypes Tryz.prog) (ds++gs)).all (· ≤reachBytes)=true:=hsz0
 have hval:∀(j:Nat) t v,Tryz.f11.params[j]? =some t→args[j]? =some v→Value.okWide Tryz.prog W .any base t v:=hval0
 have hW' :=hW
 obtain ⟨p,q,hA0,hV,rfl,hfz,hnd⟩:=hW
 have hA:DataW.TrodAll enc Tryz.prog W 0 (fun _=>true) true Tryz.f11.params.toList args.toList ds p:=hA0
 rw [Tryz.params11] at hA hval hsz
 obtain ⟨v0,v1,d0,d1,p0,p1,rfl,rfl,rfl,h0,h1⟩:=trodAll_two hA
 obtain ⟨rfl,rfl⟩:=trodVars_none hV
 clear hA0 hval0
 simp only [List.append_nil] at hW'
 have hw0:∀n∈DataW.weights Tryz.prog 25 d0,n≤reachBytes:=by
  intro n hn
  have:=List.all_eq_true.1 hsz n (by simp [DataW.weightsEach,hn])
  simpa using this
 have hw1:∀n∈DataW.weights Tryz.prog 23 d1,n≤reachBytes:=by
  intro n hn
  have:=List.all_eq_true.1 hsz n (by simp [DataW.weightsEach,hn])
  simpa using this
 obtain ⟨fs,hfs,hpf⟩:=ty_pr
 obtain ⟨pr,rfl,hAt,hfin⟩:=open_PR hfs hpf (by kernel_rfl) (hval 0 25 v0 rfl rfl) h0 hw0
 obtain ⟨sc,hv1,hsc⟩:=open_Sl (α:=Int) Tryz.underlying23 ty_ints (hval 1 23 v1 rfl rfl) h1 hw1
 subst hv1
 have hlt:∀x∈p0++p1,x.block<W.heap.size:=fun x hx=>by simpa using hW'.lt x hx
 have hcall:=psoMore_any (ofSl2 pr.code) (ofSl pr.words) sc pr.locks pr.regs W (ofSl2_at hAt.code) (ofSl_at hAt.words) hsc (pr_fine hfin)
 refine Calls.mono hcall fun e W' ⟨v',he,hv',hg0⟩=> ?_
 have hg:=hg0.chg.to_below
 subst he
 subst hv'
 have hm:=trodAll_mk2 (Below.trod laidOut (by kernel_rfl) (of_decide_eq_true (by kernel_rfl)) h0 hg (fun x hx=>hlt x (by simp [hx]))) (Below.trod laidOut (by kernel_rfl) (of_decide_eq_true (by kernel_rfl)) h1 hg (fun x hx=>hlt x (by simp [hx])))
 exact ⟨_,rfl,_,_,_, [],p0++p1, [],hW',trodAll_mk1 (shut_bool Tryz.underlying4 true),hm,rfl,hg.frame _,fun h=>by cases h⟩
theorem psoMore_said :Rows.PsoMoreSaid:=
 OpenClaim.holds_of_wide 11 Tryz.f11 rfl rfl rfl rfl rfl rfl rfl ⟨rfl,rfl,rfl,rfl,rfl⟩ rfl rfl rfl rfl rfl (by kernel_rfl) Tryz.func11 (by kernel_rfl)
  (of_decide_eq_true (by kernel_rfl)) (by unfold Func.isWrapper;first|(rw [if_pos (by decide+kernel)];kernel_rfl)|(rw [if_neg (by decide+kernel)];exact ⟨rfl,rfl⟩))
  (fun os started H enc _=>psoMore_lifted os started H enc)
theorem psoMore_holds :Rows.PsoMoreCardSaid:=
 Claim7.holds_tied_plain_at .later [] [.data, .data, .data] true (true, "7156a00dd565ccc5b243c7c66c0e1b87025c3a7a962659fa9eea236c69567f4f") false
  psoMore_said (fun _ h=>by cases h) (by kernel_rfl) (fun _ h=>by cases h) psoMore_row_tie rfl ⟨rfl,rfl⟩ (by kernel_rfl) rfl
  (fun f fn hf hfn=>by
   obtain rfl:f=11:=Option.some.inj ((show Tryz.prog.funcNamed Rows.psoMoreRow.func=some 11 by kernel_rfl).symm.trans hf)|>.symm
   obtain rfl:fn=Tryz.f11:=(Option.some.inj (Tryz.func11.symm.trans hfn)).symm
   exact ⟨by kernel_rfl,fun j t ht=>by
    rw [Tryz.params11] at ht
    have h3:t=25∨t=23:=by
     rcases j with _|_|j
     ·exact .inl (by simpa using ht.symm)
     ·exact .inr (by simpa using ht.symm)
     ·simp at ht
    rcases h3 with rfl|rfl
    ·exact (show Tryz.prog.wantsStandIn 25=false by kernel_rfl)
    ·exact (show Tryz.prog.wantsStandIn 23=false by kernel_rfl)⟩)
  (by kernel_rfl)
end Go.Proofs.YtmjkobhkkjgplaaGreatDoor
