/- For every program the program tells all outcomes of runs in which stores wait, and whether there are more than without: the statement holds, under no condition. -/
import Derived.Test.YtmjkobhkkjgplaaGreatDoorQ5
import Derived.ProofKit
import Derived.OpenShut
import Derived.Deep.Slices
import Derived.Carry
import Derived.SizedLaws
import Derived.Test.YtmjkobhkkjgplaaGreatDoorCards
import Derived.Test.YtmjkobhkkjgplaaGreatDoorTie
import Derived.LaidLaws
import Derived.LaidHandle
import Derived.LaidMore
import Derived.Handed
import Derived.SevenTiedAt
namespace Go.Proofs.YtmjkobhkkjgplaaGreatDoor
open Go.RowKit
set_option linter.unusedSimpArgs false
set_option linter.unusedVariables false
set_option maxRecDepth 100000
set_option maxHeartbeats 40000000
theorem do_tk (K:Nat→Prop)(g mv t k:Nat)(code:Ls (Ls Ins))(vt:Value)(rows:List ThL)(words owner prints:Ls Int)(pw:Value)(locks nregs mode:Int)(fell:Bool)(W:World)
  (hS:Sh K W W (stA g [code.v,pw, .int .i64 locks, .int .i64 nregs, .int .i64 mode] vt rows words owner prints fell++ [.at_ code])) (et:mv/8=t) (ek:mv%8=k)
  (hn:t<rows.length) (htc:t<code.l.length) (hmv:mv<1000000) (hpc:0≤(nth rows t).pc∧(nth rows t).pc<1000000) (hwl:(nth rows t).wait.l.length≤3) (hkw:k≤(nth rows t).wait.l.length) (hpl:prints.l.length≤100000000) (hol:owner.l.length≤100)
  (hwt:∀j,j<(nth rows t).wait.l.length→if (nth (nth rows t).wait.l j).lock=true then 0≤(nth (nth rows t).wait.l j).wh∧(nth (nth rows t).wait.l j).wh<owner.l.length else 0≤(nth (nth rows t).wait.l j).wh∧(nth (nth rows t).wait.l j).wh<words.l.length)
  (hio:k=0→InsR (nth rows t).regs.l.length words.l.length owner.l.length (nextIns (nth code.l t).l (nth rows t).pc)):
  Rets Tryz.prog 73 [.pointer (some ⟨g,0,none⟩), .int .i64 ((mv:Nat):Int)] W (fun v w' =>v= .tuple #[]∧∃(rows' :List ThL) (words' owner' prints' :Ls Int) (fell' :Bool) (y:TS),
   y=doT mode t (nth code.l t).l k ⟨(nth rows t).pc,(nth rows t).regs.l,(nth rows t).wait.l,words.l,owner.l,prints.l,fell⟩∧rows'.map ThL.th=(rows.map ThL.th).set t ⟨y.pc,y.regs,y.wait⟩∧words'.l=y.words∧owner'.l=y.owner∧prints'.l=y.prints∧fell' =y.fell∧
   Sh K W w' (stA g [code.v,pw, .int .i64 locks, .int .i64 nregs, .int .i64 mode] vt rows' words' owner' prints' fell' ++ [.at_ code])):=by
 subst et;subst ek
 exact do_full K g mv code vt rows words owner prints pw locks nregs mode fell W hS hn htc hmv hpc hwl hkw hpl hol hwt hio
theorem Sh.own_new {α:Type}[Enc α][Flat α]{K:Nat→Prop}{W w:World}{L:List Asn}{E:TypeId}{s:Ls α}(h:Sh K W w L)(i:Nat)(hi:L[i]? =some (.own E s)):∀b,s.on b→K b∨W.heap.size≤b:=fun b hb=>by
 have hm:=List.mem_of_getElem? hi
 rcases own_on (h.ok _ hm) hb with h1|h1
 ·exact h.mine _ hm b h1
 ·exact Flat.noRd h1
theorem nilOn {b:Nat}(h:(⟨.slice none 0 0, []⟩:Ls Int).on b):False:=by
 rcases h with ⟨h,_⟩|⟨_,h,_⟩<;>exact absurd h (by simp)
structure SData (W:World)(ST:TypeId)(hd:List Value)(states:List SD)(ends:List OutL):Prop where
 hd:∀x∈states,x.hd=hd∧x.E=ST∧x.fell=false∧∀b,Enc.on x b→W.heap.size≤b
 en:∀o∈ends,∀b,Enc.on o b→W.heap.size≤b
theorem SData.put {W:World}{ST:TypeId}{hd:List Value}{states:List SD}{ends ends' :List OutL}{o:OutL}(h:SData W ST hd states ends)(hr:PutRel o ends ends')(ho:∀b,Enc.on o b→W.heap.size≤b):SData W ST hd states ends' ∧ends'.length≤ends.length+1:=by
 rcases hr with ⟨_,rfl⟩|⟨k,hk,_,_,rfl⟩
 ·exact ⟨h,by omega⟩
 ·refine ⟨⟨h.hd,fun x hx=> ?_⟩,by simp;omega⟩
  rcases List.mem_append.1 hx with hx|hx
  ·exact h.en x (List.mem_of_mem_take hx)
  ·rcases List.mem_cons.1 hx with rfl|hx
   ·exact ho
   ·exact h.en x (List.mem_of_mem_drop hx)
theorem SData.more {W:World}{ST:TypeId}{hd:List Value}{states:List SD}{ends:List OutL}{x:SD}(h:SData W ST hd states ends)(hx:x.hd=hd∧x.E=ST∧x.fell=false∧∀b,Enc.on x b→W.heap.size≤b):SData W ST hd (states++ [x]) ends:=
 ⟨fun y hy=>(List.mem_append.1 hy).elim (h.hd y) (fun hy=>by
  obtain rfl:y=x:=by simpa using hy
  exact hx),h.en⟩
theorem key_put {p:Pg}(hok:OkPg p){m:Int}{x:SD}{states states' :List SD}{keys keys' :List (Ls Int)}{heads before heads' before' :List Int}{full full' :Bool}{E:List Outc}{i:Nat}
  (h:KeyRel (keyOf x.st) x states states' keys keys' heads before heads' before' full full') (hk:keys.map (·.l)=(states.map SD.st).map keyOf) (hlen:states.length=keys.length)
  (hi:Inv p m (states.map SD.st) E full i) (hf:full=false) (hil:i≤states.length) (hr:Reach p m x.st) (hp:x.st.prints.length≤2*states.length):
  Inv p m (states'.map SD.st) E full' i∧keys'.map (·.l)=(states'.map SD.st).map keyOf∧states'.length=keys'.length∧x.st∈states'.map SD.st∧(∀s∈states.map SD.st,s∈states'.map SD.st)∧(states' =states∨states' =states++ [x]):=by
 rcases h with ⟨⟨j,hj,e⟩,e1,e2,_,e5⟩|⟨hno,rfl,e2,_,rfl⟩
 ·have h1:(nth (states.map SD.st) j)∈states.map SD.st:=nth_mem _ _ (by simp;omega)
  have e3:keyOf (nth (states.map SD.st) j)=keyOf x.st:=by
   have:=congrArg (fun l=>nth l j) hk
   simp only [nth_map' (fun s:Ls Int=>s.l) _ _ hj,nth_map' keyOf (states.map SD.st) j (by simp;omega)] at this
   rw [←this];exact e
  have e4:=key_inj ((hi.reach _ h1).wf hok) (hr.wf hok) e3
  rw [e1,e5]
  refine ⟨hi,e2.trans hk, ?_,e4▸h1,fun s hs=>hs, .inl rfl⟩
  have:=congrArg List.length e2
  simp at this;omega
 ·refine ⟨?_, ?_, ?_,by simp,fun s hs=>by simp at hs⊢;exact .inl hs, .inr rfl⟩
  ·have:=hi.addState hf (by simpa using hil) hr (by simpa using hp) (fun hx=>by
    obtain ⟨j,hj⟩:=List.getElem?_of_mem hx
    obtain ⟨hlt,e⟩:=List.getElem?_eq_some_iff.1 hj
    have hlt' :j<keys.length:=by rw [←hlen];simpa using hlt
    refine hno j hlt' ?_
    have:=congrArg (fun l=>nth l j) hk
    simp only [nth_map' (fun s:Ls Int=>s.l) _ _ hlt',nth_map' keyOf (states.map SD.st) j hlt] at this
    rw [this,nth_lt _ _ hlt,e])
   simpa using this
  ·rw [e2,hk];simp
  ·have:=congrArg List.length e2
   simp at this⊢;omega
theorem keyRel_ok {L:List Int}{x:SD}{states states' :List SD}{keys keys' :List (Ls Int)}{heads before heads' before' :List Int}{full full' :Bool}(h:KeyRel L x states states' keys keys' heads before heads' before' full full'):HeadsOK (keys'.map (·.l)) heads' before' :=by
 rcases h with ⟨_,_,_,h,_⟩|⟨_,_,_,h,_⟩<;>exact h
theorem headsOK0 :HeadsOK (([]:List (Ls Int)).map (·.l)) (List.replicate 4096 (-1)) []:=by
 refine ⟨List.length_replicate,rfl,fun h hh=> .inl ⟨?_,fun j hj=>absurd hj (Nat.not_lt_zero _)⟩,fun i hi=>absurd hi (Nat.not_lt_zero _)⟩
 simp only [nth,List.getD,List.getElem?_replicate,if_pos hh];rfl
theorem bigNoRd {INT WT:TypeId}{rows:List ThL}{X:Prop}{b:Nat}(h:(Asn.big (rowsA INT WT rows)).rd b):X:=by
 obtain ⟨A,hA,hb⟩:=h
 obtain ⟨x,_,hx⟩:=List.mem_flatMap.1 hA
 simp only [thA,List.mem_cons,List.not_mem_nil,or_false] at hx
 rcases hx with rfl|rfl<;>exact Flat.noRd hb
theorem KeyRel.rd {L:List Int}{x:SD}{states states' :Ls SD}{keys keys' :List (Ls Int)}{heads before heads' before' :List Int}{full full' :Bool}(h:KeyRel L x states.l states'.l keys keys' heads before heads' before' full full'){E:TypeId}{b:Nat}(hb:(Asn.own E states').rd b):(Asn.own E states).rd b∨(Asn.rd1 x).rd b:=by
 obtain ⟨i,hi,hb⟩:=hb
 rcases h with ⟨_,e1,_⟩|⟨_,e1,_⟩
 ·rw [e1] at hi hb;exact .inl ⟨i,hi,hb⟩
 ·rw [e1] at hi hb
  simp at hi
  rcases Nat.lt_or_ge i states.l.length with h1|h1
  ·rw [nth_left _ _ _ h1] at hb;exact .inl ⟨i,h1,hb⟩
  ·obtain rfl:i=states.l.length:=by omega
   rw [nth_last] at hb;exact .inr hb
theorem PutRel.rd {o:OutL}{ends ends' :Ls OutL}(h:PutRel o ends.l ends'.l){E:TypeId}{b:Nat}(hb:(Asn.own E ends').rd b):(Asn.own E ends).rd b∨o.words.on b∨o.prints.on b:=by
 obtain ⟨i,hi,hb⟩:=hb
 have hm:=nth_mem _ _ hi
 have key:∀y∈ends.l,Enc.on y b→(Asn.own E ends).rd b:=fun y hy hyb=>by
  obtain ⟨j,hj⟩:=List.getElem?_of_mem hy
  obtain ⟨hlt,e⟩:=List.getElem?_eq_some_iff.1 hj
  exact ⟨j,hlt,by rw [nth_lt _ _ hlt,e];exact hyb⟩
 rcases h with ⟨_,e1⟩|⟨k,_,_,_,e1⟩
 ·exact .inl (key _ (e1▸hm) hb)
 ·rw [e1] at hm hb
  rcases List.mem_append.1 hm with h1|h1
  ·exact .inl (key _ (List.mem_of_mem_take h1) hb)
  ·rcases List.mem_cons.1 h1 with h1|h1
   ·rw [h1] at hb;exact .inr hb
   ·exact .inl (key _ (List.mem_of_mem_drop h1) hb)
theorem ok_lenN {code:Ls (Ls Ins)}{words:Ls Int}{Lk R:Nat}(h:OkPg (pgN code words Lk R)):1≤code.l.length∧code.l.length≤4∧words.l.length≤64∧0≤(Lk:Int)∧(Lk:Int)≤4∧1≤(R:Int)∧(R:Int)≤200:=by
 have h1:=h.code
 have h2:=h.words
 have h3:=h.locks
 have h4:=h.regs
 simp only [pgN,pgOf,List.length_map] at h1 h2 h3 h4
 omega
theorem st_mapAt {states:List SD}{i:Nat}(h:i<states.length):nth (states.map SD.st) i=(nth states i).st:=nth_map' _ _ _ h
theorem by_c (code:Ls (Ls Ins))(words:Ls Int)(Lk R:Nat)(mode:Int)(W:World)(hcode:code.At W)(hwords:words.At W)(hok:OkPg (pgN code words Lk R)):
    Rets Tryz.prog 26 [.agg #[code.v,words.v, .int .i64 ((Lk:Nat):Int), .int .i64 ((R:Nat):Int)], .int .i64 mode] W (fun v w' =>∃(g:Nat) (full:Bool) (sv kv hv bv:Value) (ends:Ls OutL),v= .pointer (some ⟨g,0,none⟩)∧(full=true↔Big (pgN code words Lk R) mode)∧(full=false→Sorted_ (ends.l.map OutL.out)∧∀o,o∈ends.l.map OutL.out↔Outs (pgN code words Lk R) mode o)∧ends.l.length≤70000∧(∀o∈ends.l,∀b,Enc.on o b→W.heap.size≤b)∧Sh0 W w' [.blk g 52 [sv,kv,hv,bv,ends.v, .bool full], .own 39 ends]):=by
 obtain ⟨hl1,hcl,hwn,_,hlk9,_,hR9⟩:=ok_lenN hok
 have hlk:Lk≤4:=by omega
 have hR:R≤200:=by omega
 refine gen Tryz.func26 Tryz.ntmps26 (Sh0.ext2 hcode hwords:Sh (fun _=>False) W W [.at_ code, .at_ words]) rfl fun a10 h10=>gG h10<|sK fun _ k11=>gbx rfl rfl fun b12=>gRn (oM 1 rfl<|.nl)<|nK k11<|sK fun _ k13=>gRn (oV (r_build (cs:= [(.slice none 0 0),(.slice none 0 0),(.slice none 0 0),(.slice none 0 0),(.slice none 0 0), .bool false]) rfl rfl (by kernel_rfl)) rfl<|.nl)<|gbx rfl rfl fun b14=>gRn (oM 1 rfl<|.nl)<|nK k13<|gK fun _ k15=>sG (oM 1 rfl<|.nl)<|gB<|fun a19 w19 h19=> ?_;clear h10
 have h18:=h19.nil (α:=Int) 3
 clear h19
 refine x_loop (fun m a w=>∃(i:Nat) (hl:List Int) (vh:Value),(i≤4096)∧(hl=List.replicate i (-1))∧(hl.length=i)∧St 124 (fun _=>False) W a w [(1, .int .i64 mode),(2, .pointer (some ⟨b12,0,none⟩)),(5, .pointer (some ⟨b14,0,none⟩)),(6, .int .i64 ((i:Nat):Int))] [.blk b14 52 [(.slice none 0 0),(.slice none 0 0),vh,(.slice none 0 0),(.slice none 0 0), .bool false], .blk b12 25 [code.v,words.v, .int .i64 ((Lk:Nat):Int), .int .i64 ((R:Nat):Int)], .at_ code, .at_ words, .own 3 (⟨vh,hl⟩:Ls Int)]∧m=4096-i) ⟨_,0, [],(.slice none 0 0),(by omega),(rfl),(rfl),h18.nrm ⟨rfl,rfl,rfl,rfl,trivial⟩ [1,2,3,4,0] rfl,rfl⟩ ?_
 clear h18
 rintro m17 a17 w17 ⟨i,hl,vh,hi,hhl,hhn,h17,hm17⟩
 refine gG h17<|gK fun _ k20=>sG (oM 1 rfl<|oltN _ 4096 rfl<|.nl)<|?_;clear h17
 refine gcd rfl (fun hb22 hp22=> ?_) fun hb22 hp22=> ?_
 ·skip
  refine gS<|hK k20<|gK fun _ k23=>gB<|gL<|gRn (oM 2 rfl<|onfl 0 fl_52_2 ti_23 rfl rfl<|.nl)<|gE1 (fun _ _ h_=>x_lit (n:=1) (cs:= [.int .i64 (-1)]) ([(-1)]:List Int) h_ sl_23 ti_3 rfl rfl rfl (by decide) rfl (by kernel_rfl) rfl (fun q hq w h=>Flat.inner _ _) (fun q hq b hb=>(Flat.on _ _ hb).elim) rfl rfl) rfl fun v24=>gE1 (fun _ _ h_=>x_app (r:=5) (rm:=0) (s:=(⟨vh,hl⟩:Ls Int)) (m:=(⟨v24, [(-1)]⟩:Ls Int)) h_ sl_23 ti_3 rfl rfl rfl rfl rfl rfl rfl (fun w h=>(h.own 0 rfl)) (fun b hb=>own_on (h_.sh.ok _ (List.mem_of_getElem? (i:=0) rfl)) hb) (fun q hq b hb=>⟨q,hq,hb⟩) rfl rfl rfl inferInstance (show (hl.length+([(-1)]).length)*8≤140737488355328∧hl.length+([(-1)]).length≤140737488355328 from om9) rfl rfl) rfl fun v25=>gRn (onf fl_52_2 rfl<|.nl)<|gsr 1 ti_23 rfl (aO 5 rfl) rfl<|nK k23<|gL<|gRn (oM 1 rfl<|oadN _ 1 om9 rfl<|oM 1 rfl<|.nl)<|nN<|fun a27 w27 h27=>x_again ⟨_, ?_,i+1,hl++([(-1)]),v25, ?_, ?_, ?_,h27.nrm ⟨rfl,rfl,rfl,rfl,trivial⟩ [1,2,3,4,5] rfl,rfl⟩
  · rw [hm17];first|omega|(simp only [lens9];omega)
  · omega
  · rw [hhl,List.replicate_succ']
  · simp [hhn]
 refine gX<|hK k15<|?_
 have hi9:i=4096:=by omega
 refine sK fun _ k28=>gRn (olw 1 ti_25 rfl rfl<|oM 1 rfl<|.nl)<|fun a30 w30 h30=>wl_ex (x_call h30 bd_67 rfl rfl rfl rfl rfl (begin_c code words Lk R mode _ (h30.sh.at 2 rfl) (h30.sh.at 3 rfl) hcl hlk hR hwn)) (wanted_none rfl _) ?_
 rintro a31 w31 ⟨_,⟨g31,rows31,vt31,w31w,o31w,p31w,rfl,hrw31,hw31,ho31,hp31,hs31⟩,hf31⟩
 have hyb:=hrw31;have hyw:=hw31;have hyo:=ho31;have hyp:=hp31
 have h31:=(⟨hf31,h30.sh.call hs31 (by intro A hA b hb;simp only [List.mem_cons,List.not_mem_nil,or_false] at hA;rcases hA with rfl|rfl|rfl|rfl|rfl|rfl<;>first|exact (hb:False).elim|exact Flat.noRd hb|exact bigNoRd hb)⟩:St 124 (fun _=>False) W a31 w31 _ _)
 clear hf31 hs31
 clear h30
 refine gG h31<|gRn (oM 1 rfl<|.nl)<|nK k28<|sK fun _ k32=>gRn (oM 2 rfl<|.nl)<|fun a34 w34 h34=> ?_;clear h31
 have h33:=h34.nil (α:=SD) 103
 clear h34
 have h35:=h33.nilDeep (α:=Ls Int) 23
 clear h33
 have h36:=h35.nil (α:=Int) 3
 clear h35
 have h37:=h36.nil (α:=OutL) 39
 clear h36
 have h38:=h37.sel (L' := [_,_,_,_,_,_,_,_,_,_,_,_,_,_,_]) [4,5,6,7,8,9,0,1,2,3,10,11,12,13,14] rfl
 obtain ⟨x39,hx39⟩:∃x,x=(⟨g31,111, [code.v,words.v, .int .i64 ((Lk:Nat):Int), .int .i64 ((R:Nat):Int), .int .i64 mode],⟨vt31,rows31⟩,w31w,o31w,p31w,false⟩:SD):=⟨_,rfl⟩
 have hfz39:=(Sh.freeze (hd:= [code.v,words.v, .int .i64 ((Lk:Nat):Int), .int .i64 ((R:Nat):Int), .int .i64 mode]) (rows:=rows31) (words:=w31w) (owner:=o31w) (prints:=p31w) (vt:=vt31) h38.sh)
 rw [←hx39] at hfz39
 have hz39:St 124 (fun _=>False) W a34 w34 _ [.rd1 x39, .own 39 (⟨.slice none 0 0, []⟩:Ls OutL), .own 3 (⟨.slice none 0 0, []⟩:Ls Int), .deep 23 (⟨.slice none 0 0, []⟩:Ls (Ls Int)), .own 103 (⟨.slice none 0 0, []⟩:Ls SD), .blk b14 52 [(.slice none 0 0),(.slice none 0 0),vh,(.slice none 0 0),(.slice none 0 0), .bool false], .blk b12 25 [code.v,words.v, .int .i64 ((Lk:Nat):Int), .int .i64 ((R:Nat):Int)], .at_ code, .at_ words, .own 3 (⟨vh,hl⟩:Ls Int)]:=⟨h38.fr,hfz39.1⟩
 clear h38
 have hg39:g31=x39.g:=by rw [hx39]
 have hst39:x39.st=begin_ (pgN code words Lk R):=by rw [hx39];unfold SD.st begin_;simp only [hyb,hyw,hyo,hyp];simp [pgN,pgOf,Function.comp_def,List.map_const']
 have hwf39:WfX code words Lk R x39:=by have h9:=Wf.begin_ hok;rw [←hst39] at h9;exact h9.toX
 have hpl39:x39.prints.l.length=0:=by rw [hx39];simp only [hyp];rfl
 have hdy39:x39.hd= [code.v,words.v, .int .i64 ((Lk:Nat):Int), .int .i64 ((R:Nat):Int), .int .i64 mode]∧x39.E=111∧x39.fell=false∧∀b,Enc.on x39 b→W.heap.size≤b:=⟨by rw [hx39],by rw [hx39],by rw [hx39],fun b hb=>(hfz39.2 b hb).elim (fun h=>h.elim) id⟩
 have h40:=hz39.sel (L' := [_,_,_,_,_,_,_,_,_,_]) [5,4,3,9,2,0,1,6,7,8] rfl
 have hp41:=h40.sh.passL (Lp:= [_,_,_,_,_,_])
 refine wl_ex (x_call h40 bd_68 rfl rfl rfl rfl rfl (by have h9:=put_c _ b14 x39 (⟨.slice none 0 0, []⟩:Ls SD) (⟨.slice none 0 0, []⟩:Ls (Ls Int)) (⟨vh,hl⟩:Ls Int) (⟨.slice none 0 0, []⟩:Ls Int) (.slice none 0 0) false _ _ _ _ _ _ hp41 (by rw [hhl,hi9];exact headsOK0) rfl (by simp) hdy39.1 hdy39.2.1 (by rw [hwf39.thl];exact hcl) (fun i hi=>by have h9:=hwf39.regs i hi;omega) hwf39.wait (by have h9:=hwf39.words;have h8:=hwf39.owner;have h7:=hpl39;omega);rw [←hg39] at h9;exact h9)) (wanted_none rfl _) ?_
 rintro a42 w42 ⟨_,⟨rfl,st42,ke42,he42,be42,fu42,hkr42,hs42⟩,hf42⟩
 have h42:St 124 (fun _=>False) W a42 w42 _ [_,_,_,_,_,_,_,_,_,_]:=⟨hf42,h40.sh.backL (Lp:= [_,_,_,_,_,_]) hs42 (by intro A hA b hb;simp only [List.mem_cons,List.not_mem_nil,or_false] at hA;rcases hA with rfl|rfl|rfl|rfl|rfl|rfl<;>first|exact (hb:False).elim|exact Flat.noRd hb|exact .inl ⟨_,List.mem_cons_self .., .inr hb⟩|exact (hkr42.rd hb).elim (fun h=> .inl ⟨_,List.mem_of_getElem? (i:=1) rfl, .inr h⟩) (fun h=> .inl ⟨_,List.mem_of_getElem? (i:=5) rfl, .inr h⟩)|exact .inl ⟨_,by simp, .inr hb⟩)⟩
 clear hf42 hs42
 clear h40
 refine gG h42<|nK k32<|?_;clear h42
 obtain ⟨hc1,hc2,hc3⟩:st42.l= [x39]∧ke42.l.map (·.l)= [keyOf x39.st]∧fu42=(false||decide (4000<0+1)):=by rcases hkr42 with ⟨⟨j,hj,_⟩,_⟩|⟨_,e1,e2,_,e3⟩;exact absurd hj (by simp);exact ⟨e1,e2,e3⟩
 have hinv0:Inv (pgN code words Lk R) mode (st42.l.map SD.st) (([]:List OutL).map OutL.out) fu42 0:=by rw [hc1,hc3];exact Inv.first _ hst39
 have hkey0:ke42.l.map (·.l)=(st42.l.map SD.st).map keyOf:=by rw [hc2,hc1];rfl
 have hhok0:=keyRel_ok hkr42
 have hlen0:st42.l.length=ke42.l.length:=by have h9:=congrArg List.length hc2;simp at h9;rw [hc1];simp [h9]
 have hsd0:SData W 111 [code.v,words.v, .int .i64 ((Lk:Nat):Int), .int .i64 ((R:Nat):Int), .int .i64 mode] st42.l ([]:List OutL):=⟨fun y hy=>(by rw [hc1] at hy;obtain rfl:y=x39:=(by simpa using hy);exact hdy39),fun o ho=>(by cases ho)⟩
 have hel0:([]:List OutL).length≤16*0:=by simp
 refine gK fun _ k43=>sG (oM 1 rfl<|.nl)<|gB<|fun a46 w46 h46=>x_loop (fun m a w=>∃(i:Nat) (full:Bool) (states:Ls SD) (keys:Ls (Ls Int)) (heads before:Ls Int) (ends:Ls OutL),(i≤states.l.length)∧(Inv (pgN code words Lk R) mode (states.l.map SD.st) (ends.l.map OutL.out) full i)∧(keys.l.map (·.l)=(states.l.map SD.st).map keyOf)∧(HeadsOK (keys.l.map (·.l)) heads.l before.l)∧(states.l.length=keys.l.length)∧(SData W 111 [code.v,words.v, .int .i64 ((Lk:Nat):Int), .int .i64 ((R:Nat):Int), .int .i64 mode] states.l ends.l)∧(ends.l.length≤16*i)∧St 124 (fun _=>False) W a w [(5, .pointer (some ⟨b14,0,none⟩)),(8, .int .i64 ((i:Nat):Int))] [.blk b14 52 [states.v,keys.v,heads.v,before.v,ends.v, .bool full], .own 103 states, .deep 23 keys, .own 3 heads, .own 3 before, .rd1 x39, .own 39 ends, .blk b12 25 [code.v,words.v, .int .i64 ((Lk:Nat):Int), .int .i64 ((R:Nat):Int)], .at_ code, .at_ words]∧m=4002-i) ⟨_,0,fu42,st42,ke42,he42,be42,(⟨.slice none 0 0, []⟩:Ls OutL),(by omega),(hinv0),(hkey0),(hhok0),(hlen0),(hsd0),(hel0),h46.nf ⟨rfl,rfl,trivial⟩,rfl⟩ ?_
 clear h46
 rintro m45 a45 w45 ⟨i,full,states,keys,heads,before,ends,hi,hinv,hkey,hhok,hlen,hsd,hel,h45,hm45⟩
 refine gG h45<|gK fun _ k47=>sK fun _ k48=>gNl (aO 1 rfl) fun hl49=>gRn (oM 2 rfl<|onfl 0 fl_52_0 ti_49 rfl rfl<|oln sl_49 (aO 1 rfl) rfl<|oltN _ _ rfl<|oM 1 rfl<|.nl)<|?_;clear h45
 rcases dsp (i<states.l.length) with ⟨hb50,hp50⟩|⟨hb50,hp50⟩
 ·skip
  refine gRn (oG hb50 (r_move rfl rfl) rfl<|oG hb50 (r_nil rfl rfl) rfl<|oG hb50 (r_fieldB (r:=5) fl_52_5 rfl rfl rfl) rfl<|oG hb50 (r_ldb (i:=0) ti_4 rfl rfl rfl rfl) rfl<|oG hb50 (r_not rfl rfl) rfl<|opT hb50 rfl<|.nl)<|nK k48<|gCb rfl (fun hb51=> ?_) fun hb51=> ?_
  ·have hn51:full=false:=(Bool.not_eq_true' _).mp hb51
   refine gS<|hK k47<|gK fun _ k52=>gB<|sG (oM 1 rfl<|onfl 0 fl_52_0 ti_49 rfl rfl<|oM 1 rfl<|oxN sl_49 ti_103 (aO 1 rfl) _ om9 rfl<|olE (.pointer (some ⟨(nth states.l i).g,0,none⟩)) ti_103 (aO 1 rfl) om9 rfl<|oM 1 rfl<|.nl)<|fun a55 w55 h55=> ?_
   obtain ⟨x,hxx⟩:∃x,x=nth states.l i:=⟨_,rfl⟩
   rw [←hxx] at h55
   have hil:i<states.l.length:=by omega
   have hxm:x∈states.l:=by rw [hxx];exact nth_mem _ _ hil
   have hxs:x.st∈states.l.map SD.st:=List.mem_map.2 ⟨x,hxm,rfl⟩
   have hxi:nth (states.l.map SD.st) i=x.st:=by rw [st_mapAt hil,←hxx]
   have hws:=(hinv.reach _ hxs).wf hok
   have hwx:=hws.toX
   obtain ⟨hd1,hd2,hd3,hd4⟩:=hsd.hd x hxm
   have hin54:=(h55.sh.own 1 rfl).inner i (by omega)
   rw [←hxx] at hin54
   obtain ⟨hn1,hn2,hn3,hn4,hn5⟩:=(show Enc.inner x _ from hin54)
   rw [hd2,SD.cells,hd1,hd3] at hn1
   have hprx:x.prints.l.length≤2*i:=by have h9:=hinv.pr i (by simpa using hil);rw [hxi] at h9;exact h9
   have hnl:states.l.length≤4001:=by have h9:=hinv.len;simpa using h9
   have hxl:x.words.l.length≤100000∧x.owner.l.length≤100000∧x.prints.l.length≤100000000:=by have h9:=hwx.words;have h8:=hwx.owner;omega
   have h56:=h55.addRd (A:= .rblk x.g 111 [code.v,words.v, .int .i64 ((Lk:Nat):Int), .int .i64 ((R:Nat):Int), .int .i64 mode,x.thr.v,x.words.v,x.owner.v,x.prints.v, .bool false]) hn1 (fun b hb=>hb) (fun b hb=>⟨.own 103 states,List.mem_of_getElem? (i:=1) rfl,i,hil,by rw [←hxx];exact .inl hb⟩)
   clear h55
   have h57:=h56.addRd (A:= .at_ x.thr) hn2 (fun b hb=>hb) (fun b hb=>⟨.own 103 states,List.mem_of_getElem? (i:=2) rfl,i,hil,by rw [←hxx];exact .inr (.inl hb)⟩)
   clear h56
   have h58:=h57.addRd (A:= .at_ x.words) hn3 (fun b hb=>hb) (fun b hb=>⟨.own 103 states,List.mem_of_getElem? (i:=3) rfl,i,hil,by rw [←hxx];exact .inr (.inr (.inl hb))⟩)
   clear h57
   have h59:=h58.addRd (A:= .at_ x.owner) hn4 (fun b hb=>hb) (fun b hb=>⟨.own 103 states,List.mem_of_getElem? (i:=4) rfl,i,hil,by rw [←hxx];exact .inr (.inr (.inr (.inl hb)))⟩)
   clear h58
   have h60:=h59.addRd (A:= .at_ x.prints) hn5 (fun b hb=>hb) (fun b hb=>⟨.own 103 states,List.mem_of_getElem? (i:=5) rfl,i,hil,by rw [←hxx];exact .inr (.inr (.inr (.inr hb)))⟩)
   clear h59
   skip
   refine gG h60<|sK fun _ k61=>gRn (oM 1 rfl<|.nl)<|gP (fun _ _ h_=>xCl h_ bd_69 rfl (ended_c x.g code x.thr _ _ _ _ _ _ _ _ _ (h_.sh.rblk 4 rfl) (h_.sh.at 13 rfl) (h_.sh.at 3 rfl) hcl hwx.thl (fun t ht=>(hwx.pc t ht).1))) rfl<|gRn (oM 1 rfl<|.nl)<|nK k61<|gF [5,8,9,10] rfl<|sK fun _ k63=>gRn (oM 1 rfl<|.nl)<|fun a65 w65 h65=>wl_ex (x_call h65 bd_70 rfl rfl rfl rfl rfl (moves_c x.g code x.thr x.owner _ _ _ _ _ _ _ _ (h65.sh.rblk 4 rfl) (h65.sh.at 13 rfl) (h65.sh.at 3 rfl) (h65.sh.at 1 rfl) hcl hwx.thl (fun t ht=>(hwx.pc t ht).1) (fun t ht i hi h17=>by have h9:=lock_N hok ht hi h17;rw [hwx.owner];exact h9) (fun t ht=>hwx.wait t (by rw [hwx.thl];exact ht)))) (wanted_none rfl _) ?_;clear h60
   rintro a66 w66 ⟨_,⟨ml66,rfl,hml66,hs66⟩,hf66⟩
   rw [moves_eq (Lk:=Lk) (R:=R) (words:=words) hwx.thl] at hml66
   have hmv:=hml66
   have hmvl:ml66.l.length≤16:=by rw [hmv];exact moves_len hwx.thl hcl hwx.wait
   have h66:St _ (fun _=>False) W a66 w66 _ _:=⟨hf66,h65.sh.callI hs66⟩
   clear hf66 hs66
   clear h65
   refine gG h66<|gRn (oM 1 rfl<|.nl)<|nK k63<|gK fun _ k67=>sG (oM 1 rfl<|.nl)<|?_;clear h66
   refine gCb rfl (fun hb69=> ?_) fun hb69=> ?_
   ·skip
    refine gK fun _ k70=>fun a73 w73 h73=>x_tail 10 [] (by kernel_rfl) (by kernel_rfl) h73 fun _ z74=>qQ h73.fr<|qRn (oM 2 rfl<|onf fl_111_3 rfl<|olR 5 ti_23 rfl rfl<|oM 1 rfl<|onf fl_111_5 rfl<|olR 5 ti_23 rfl rfl<|oV (r_build (cs:= [.int .i64 0,x.words.v,x.prints.v]) rfl rfl (by obtain ⟨A76,n76,c76,(e76:x.prints.v=_)⟩:=((h73.sh.at 1 rfl)).form;rw [e76];obtain ⟨A75,n75,c75,(e75:x.words.v=_)⟩:=((h73.sh.at 3 rfl)).form;rw [e75];kernel_rfl)) rfl<|.nl)<|qN z74<|gO [6,12,3,1,0,2,4,5,7,8,9,10,11,13,14,15] rfl<|fun a82 w82 h82=> ?_;clear h73
    have hp81:=h82.sh.passL (Lp:= [_,_,_,_])
    refine wl_ex (x_call h82 bd_71 rfl rfl rfl rfl rfl (putO_c _ _ (⟨0,x.words,x.prints⟩:OutL) ends _ _ _ _ _ _ hp81 (by omega))) (wanted_none rfl _) ?_
    rintro a83 w83 ⟨_,⟨rfl,en83,hpr83,hs83⟩,hf83⟩
    have h83:St 124 (fun _=>False) W a83 w83 _ [_,_,_,_,_,_,_,_,_,_,_,_,_,_,_,_]:=⟨hf83,h82.sh.backL (Lp:= [_,_,_,_]) hs83 (by intro A hA b hb;simp only [List.mem_cons,List.not_mem_nil,or_false] at hA;rcases hA with rfl|rfl|rfl|rfl<;>first|exact (hb:False).elim|exact Flat.noRd hb|exact .inl ⟨_,List.mem_cons_self .., .inr hb⟩|exact (hpr83.rd hb).elim (fun h=> .inl ⟨_,List.mem_of_getElem? (i:=1) rfl, .inr h⟩) (fun h=>h.elim (fun h=> .inl ⟨_,List.mem_of_getElem? (i:=2) rfl, .inr h⟩) (fun h=> .inl ⟨_,List.mem_of_getElem? (i:=3) rfl, .inr h⟩))|exact .inl ⟨_,by simp, .inr hb⟩)⟩
    clear hf83 hs83
    clear h82
    refine gG h83<|nK k70<|gX<|hK k52<|gL<|gRn (oM 1 rfl<|oadN _ 1 om9 rfl<|oM 1 rfl<|.nl)<|nN<|?_;clear h83
    have hps:=hpr83.sorted hinv.sorted
    have hinvN:=hinv.ended (by simpa using hil) (by rw [hxi,←ended_eq hwx.thl];assumption) hps.1 (by intro y;rw [hps.2 y,hxi];rfl)
    obtain ⟨hsdN,hle9⟩:=hsd.put hpr83 (fun b hb=>hd4 b (hb.elim (fun hb=> .inr (.inr (.inl hb))) (fun hb=> .inr (.inr (.inr (.inr hb))))))
    have helN:en83.l.length≤16*(i+1):=by omega
    have hiN:i+1≤states.l.length:=by omega
    intro a84 w84 h84
    refine x_again ⟨_, ?_,(i+1),full,states,keys,heads,before,en83, ?_, ?_, ?_, ?_, ?_, ?_, ?_,h84.nrm ⟨rfl,rfl,trivial⟩ [0,8,9,10,11,12,1,13,14,15] rfl,rfl⟩
    · rw [hm45];omega
    · first|exact hiN|omega
    · first|exact hinvN|exact hinv
    · first|exact hkeyN|exact hkey
    · first|exact hhokN|exact hhok
    · first|exact hlenN|exact hlen
    · first|exact hsdN|exact hsd
    · first|exact helN|omega
   refine gS<|hK k67<|gK fun _ k85=>sK fun _ k86=>gNl (aO 0 rfl) fun hl87=>gRn (oM 1 rfl<|oln sl_23 (aO 0 rfl) rfl<|oeqN _ 0 rfl<|.nl)<|nK k86<|gcd rfl (fun hb88 hp88=> ?_) fun hb88 hp88=> ?_
   ·skip
    refine gK fun _ k89=>fun a92 w92 h92=>x_tail 10 [] (by kernel_rfl) (by kernel_rfl) h92 fun _ z93=>qQ h92.fr<|qRn (oM 2 rfl<|onf fl_111_3 rfl<|olR 5 ti_23 rfl rfl<|oM 1 rfl<|onf fl_111_5 rfl<|olR 5 ti_23 rfl rfl<|oV (r_build (cs:= [.int .i64 2,x.words.v,x.prints.v]) rfl rfl (by obtain ⟨A95,n95,c95,(e95:x.prints.v=_)⟩:=((h92.sh.at 1 rfl)).form;rw [e95];obtain ⟨A94,n94,c94,(e94:x.words.v=_)⟩:=((h92.sh.at 3 rfl)).form;rw [e94];kernel_rfl)) rfl<|.nl)<|qN z93<|gO [6,12,3,1,0,2,4,5,7,8,9,10,11,13,14,15] rfl<|fun a101 w101 h101=> ?_;clear h92
    have hp100:=h101.sh.passL (Lp:= [_,_,_,_])
    refine wl_ex (x_call h101 bd_71 rfl rfl rfl rfl rfl (putO_c _ _ (⟨2,x.words,x.prints⟩:OutL) ends _ _ _ _ _ _ hp100 (by omega))) (wanted_none rfl _) ?_
    rintro a102 w102 ⟨_,⟨rfl,en102,hpr102,hs102⟩,hf102⟩
    have h102:St 124 (fun _=>False) W a102 w102 _ [_,_,_,_,_,_,_,_,_,_,_,_,_,_,_,_]:=⟨hf102,h101.sh.backL (Lp:= [_,_,_,_]) hs102 (by intro A hA b hb;simp only [List.mem_cons,List.not_mem_nil,or_false] at hA;rcases hA with rfl|rfl|rfl|rfl<;>first|exact (hb:False).elim|exact Flat.noRd hb|exact .inl ⟨_,List.mem_cons_self .., .inr hb⟩|exact (hpr102.rd hb).elim (fun h=> .inl ⟨_,List.mem_of_getElem? (i:=1) rfl, .inr h⟩) (fun h=>h.elim (fun h=> .inl ⟨_,List.mem_of_getElem? (i:=2) rfl, .inr h⟩) (fun h=> .inl ⟨_,List.mem_of_getElem? (i:=3) rfl, .inr h⟩))|exact .inl ⟨_,by simp, .inr hb⟩)⟩
    clear hf102 hs102
    clear h101
    refine gG h102<|nK k89<|gX<|hK k52<|gL<|gRn (oM 1 rfl<|oadN _ 1 om9 rfl<|oM 1 rfl<|.nl)<|nN<|?_;clear h102
    have hps:=hpr102.sorted hinv.sorted
    have hinvN:=hinv.stuck (by simpa using hil) (by rw [hxi,←ended_eq hwx.thl];assumption) (by rw [hxi,←hmv];exact List.eq_nil_of_length_eq_zero (by omega)) hps.1 (by intro y;rw [hps.2 y,hxi];rfl)
    obtain ⟨hsdN,hle9⟩:=hsd.put hpr102 (fun b hb=>hd4 b (hb.elim (fun hb=> .inr (.inr (.inl hb))) (fun hb=> .inr (.inr (.inr (.inr hb))))))
    have helN:en102.l.length≤16*(i+1):=by omega
    have hiN:i+1≤states.l.length:=by omega
    intro a103 w103 h103
    refine x_again ⟨_, ?_,(i+1),full,states,keys,heads,before,en102, ?_, ?_, ?_, ?_, ?_, ?_, ?_,h103.nrm ⟨rfl,rfl,trivial⟩ [0,8,9,10,11,12,1,13,14,15] rfl,rfl⟩
    · rw [hm45];omega
    · first|exact hiN|omega
    · first|exact hinvN|exact hinv
    · first|exact hkeyN|exact hkey
    · first|exact hhokN|exact hhok
    · first|exact hlenN|exact hlen
    · first|exact hsdN|exact hsd
    · first|exact helN|omega
   refine gS<|hK k85<|sG (oM 1 rfl<|.nl)<|gB<|?_
   have hmv0:ml66.l.length≠0:=by omega
   intro a106 w106 h106
   refine x_loop (fun m a w=>∃(k:Nat) (full2:Bool) (states2:Ls SD) (keys2:Ls (Ls Int)) (heads2 before2:Ls Int) (ends2:Ls OutL),(k≤ml66.l.length)∧(Inv (pgN code words Lk R) mode (states2.l.map SD.st) (ends2.l.map OutL.out) full2 i)∧(keys2.l.map (·.l)=(states2.l.map SD.st).map keyOf)∧(HeadsOK (keys2.l.map (·.l)) heads2.l before2.l)∧(states2.l.length=keys2.l.length)∧(SData W 111 [code.v,words.v, .int .i64 ((Lk:Nat):Int), .int .i64 ((R:Nat):Int), .int .i64 mode] states2.l ends2.l)∧(ends2.l.length≤16*i+k)∧(states.l.length≤states2.l.length)∧(nth (states2.l.map SD.st) i=x.st)∧(x∈states2.l)∧(full2=false→∀q,q<k→HandM (pgN code words Lk R) mode (states2.l.map SD.st) (ends2.l.map OutL.out) x.st (nth ml66.l q))∧St 124 (fun _=>False) W a w [(5, .pointer (some ⟨b14,0,none⟩)),(8, .int .i64 ((i:Nat):Int)),(9, .pointer (some ⟨x.g,0,none⟩)),(11,ml66.v),(12, .int .i64 ((k:Nat):Int))] [.own 3 ml66, .at_ x.prints, .at_ x.owner, .at_ x.words, .at_ x.thr, .rblk x.g 111 [code.v,words.v, .int .i64 ((Lk:Nat):Int), .int .i64 ((R:Nat):Int), .int .i64 mode,x.thr.v,x.words.v,x.owner.v,x.prints.v, .bool false], .blk b14 52 [states2.v,keys2.v,heads2.v,before2.v,ends2.v, .bool full2], .own 103 states2, .deep 23 keys2, .own 3 heads2, .own 3 before2, .rd1 x39, .own 39 ends2, .blk b12 25 [code.v,words.v, .int .i64 ((Lk:Nat):Int), .int .i64 ((R:Nat):Int)], .at_ code, .at_ words]∧m=ml66.l.length-k) ⟨_,0,full,states,keys,heads,before,ends,(by omega),(hinv),(hkey),(hhok),(hlen),(hsd),(by omega),(Nat.le_refl _),(hxi),(hxm),(fun _ q hq=>absurd hq (by omega)),h106.nf ⟨rfl,rfl,rfl,rfl,rfl,trivial⟩,rfl⟩ ?_
   clear h106
   rintro m105 a105 w105 ⟨k,full2,states2,keys2,heads2,before2,ends2,hk,hinv2,hkey2,hhok2,hlen2,hsd2,hel2,hle2,hx2,hrd2,hhand,h105,hm105⟩
   refine gG h105<|gK fun _ k107=>sK fun _ k108=>gRn (oM 2 rfl<|oln sl_23 (aO 0 rfl) rfl<|oltN _ _ rfl<|oM 1 rfl<|.nl)<|?_;clear h105
   rcases dsp (k<ml66.l.length) with ⟨hb109,hp109⟩|⟨hb109,hp109⟩
   ·skip
    refine gRn (oG hb109 (r_move rfl rfl) rfl<|oG hb109 (r_nil rfl rfl) rfl<|oG hb109 (r_fieldB (r:=5) fl_52_5 rfl rfl rfl) rfl<|oG hb109 (r_ldb (i:=6) ti_4 rfl rfl rfl rfl) rfl<|oG hb109 (r_not rfl rfl) rfl<|opT hb109 rfl<|.nl)<|nK k108<|gCb rfl (fun hb110=> ?_) fun hb110=> ?_
    ·have hn110:full2=false:=(Bool.not_eq_true' _).mp hb110
     refine gS<|hK k107<|gK fun _ k111=>gB<|sK fun _ k112=>gRn (oM 1 rfl<|.nl)<|fun a114 w114 h114=>wl_ex (x_call h114 bd_72 rfl rfl rfl rfl rfl (copy_c x.g x.thr x.words x.owner x.prints _ _ _ _ _ _ _ (h114.sh.rblk 5 rfl) (h114.sh.at 4 rfl) (h114.sh.at 3 rfl) (h114.sh.at 2 rfl) (h114.sh.at 1 rfl) (by rw [hwx.thl];exact hcl) (fun i hi=>by have h9:=hwx.regs i hi;omega) hwx.wait hxl)) (wanted_none rfl _) ?_
     rintro a115 w115 ⟨_,⟨g115,rows115,vt115,w115w,o115w,p115w,rfl,hrw115,hw115,ho115,hp115,hs115⟩,hf115⟩
     have h115:=(⟨hf115,h114.sh.call hs115 (by intro A hA b hb;simp only [List.mem_cons,List.not_mem_nil,or_false] at hA;rcases hA with rfl|rfl|rfl|rfl|rfl|rfl<;>first|exact (hb:False).elim|exact Flat.noRd hb|exact bigNoRd hb)⟩:St 124 (fun _=>False) W a115 w115 _ _)
     clear hf115 hs115
     clear h114
     refine gG h115<|gRn (oM 1 rfl<|.nl)<|nK k112<|sK fun _ k116=>gRn (oM 3 rfl<|oxN sl_23 ti_3 (aO 6 rfl) _ om9 rfl<|olI ti_3 (aO 6 rfl) om9 rfl<|.nl)<|?_;clear h115
     obtain ⟨t,kk,htt,hkk,hmt⟩:=mem_moves.1 (by rw [←hmv];exact nth_mem ml66.l k (by omega))
     rw [pgN_len] at htt
     have hk3:kk≤3:=mvOK_le hkk ((hws.th t (by rw [pgN_len];exact htt)).wait)
     obtain ⟨hrl,hra⟩:=rows_at hrw115
     obtain ⟨hr1,hr2,hr3⟩:=hra t (by rw [hwx.thl];exact htt)
     have hpcx:=hwx.pc t htt
     have h400:(nth code.l t).l.length≤400:=by have h9:=hok.len t (by rw [pgN_len];exact htt);rwa [pgN_code htt] at h9
     have hkw:kk≤(nth rows115 t).wait.l.length∧(kk=0→(nth x.thr.l t).pc<(nth code.l t).l.length):=by rw [hr3];rw [pgN_code htt,st_view (by rw [hwx.thl];exact htt)] at hkk;rcases mvOK_k hkk with ⟨e9,h9,_⟩|⟨h9,h8,_⟩;exact ⟨by omega,fun _=>h9⟩;exact ⟨h8,fun e=>by omega⟩
     intro a118 w118 h118
     have h117:=h118.same (d:=107) (v' := .int .i64 ((8*t+kk:Nat):Int)) rfl (by rw [hmt])
     clear h118
     have h119:=h117.sel (L' := [_,_,_,_,_,_,_,_,_,_,_,_,_,_,_,_,_,_,_,_,_,_]) [0,1,2,3,4,5,20,6,7,8,9,10,11,12,13,14,15,16,17,18,19,21] rfl
     have hp120:=h119.sh.passL (Lp:= [_,_,_,_,_,_,_])
     refine wl_ex (x_call h119 bd_73 rfl rfl rfl rfl rfl (do_tk _ g115 (8*t+kk) t kk code vt115 rows115 w115w o115w p115w _ _ _ mode false _ hp120 (by omega) (by omega) (by rw [hrl,hwx.thl];exact htt) htt (by omega) (by rw [hr1];omega) (by rw [hr3];exact hwx.wait t (by rw [hwx.thl];exact htt)) hkw.1 (by rw [hp115];exact hxl.2.2) (by rw [ho115];have h9:=hwx.owner;omega) (by rw [hr3,ho115,hw115];exact hwx.wt t (by rw [hwx.thl];exact htt)) (fun e=>by rw [hr1,hr2,hw115,ho115,hwx.regs t (by rw [hwx.thl];exact htt),hwx.words,hwx.owner];exact insR_N hok htt hpcx.1 (hkw.2 e)))) (wanted_none rfl _) ?_
     rintro a121 w121 ⟨_,⟨rfl,rows121,w121w,o121w,p121w,f121w,y121,hy121,hyr121,hyw121,hyo121,hyp121,hyf121,hs121⟩,hf121⟩
     change Sh _ _ _ [.blk g115 111 [code.v,words.v, .int .i64 ((Lk:Nat):Int), .int .i64 ((R:Nat):Int), .int .i64 mode,vt115,w121w.v,o121w.v,p121w.v, .bool f121w], .own 119 (⟨vt115,rows121.map ThL.toV⟩:Ls ThV), .big (rowsA 3 167 rows121), .own 3 w121w, .own 3 o121w, .own 3 p121w, .at_ code] at hs121
     have h121:St 124 (fun _=>False) W a121 w121 _ [_,_,_,_,_,_,_,_,_,_,_,_,_,_,_,_,_,_,_,_,_,_]:=⟨hf121,h119.sh.backL (Lp:= [_,_,_,_,_,_,_]) hs121 (by intro A hA b hb;simp only [List.mem_cons,List.not_mem_nil,or_false] at hA;rcases hA with rfl|rfl|rfl|rfl|rfl|rfl|rfl<;>first|exact (hb:False).elim|exact Flat.noRd hb|exact .inl ⟨_,List.mem_cons_self .., .inr hb⟩|exact bigNoRd hb|exact .inl ⟨_,List.mem_of_getElem? (i:=6) rfl, .inr hb⟩|exact .inl ⟨_,by simp, .inr hb⟩)⟩
     clear hf121 hs121
     clear h119
     refine gG h121<|nK k116<|sG (oM 1 rfl<|onfl 0 fl_111_6 ti_4 rfl rfl<|.nl)<|?_;clear h121
     refine gCb rfl (fun hb123=> ?_) fun hb123=> ?_
     ·skip
      obtain ⟨hya,_⟩:=st_step (x:=x) (z:=x) (rows' :=rows121) htt hwx.thl hrw115 hw115 ho115 hp115 hy121
      have hfy:(stepT (pgN code words Lk R) mode x.st t kk).fell=true:=by rw [←hya,←hyf121];assumption
      have hyps:p121w.l=(stepT (pgN code words Lk R) mode x.st t kk).prints:=by rw [hyp121,hya]
      refine gL<|gRn (oM 2 rfl<|onfl 0 fl_111_5 ti_23 rfl rfl<|.nl)<|fun a126 w126 h126=>wv h126 (r_build (cs:= [.int .i64 1,(.slice none 0 0),p121w.v]) rfl rfl (by obtain ⟨A125,n125,c125,(e125:p121w.v=_)⟩:=((h126.sh.own 5 rfl)).form;rw [e125];kernel_rfl)) rfl rfl fun a127 h127=> ?_;clear h126
      have h128:=h127.addRd (A:= .at_ (⟨.slice none 0 0, []⟩:Ls Int)) (LsNil _) (fun b hb=>hb) (fun b hb=>(nilOn hb).elim)
      clear h127
      have hnw129:=h128.sh.own_new 6 rfl
      have h129:St 124 (fun _=>False) W a127 w126 _ _:=⟨h128.fr,h128.sh.share 6 rfl⟩
      clear h128
      have h130:=h129.sel (L' := [_,_,_,_,_,_,_,_,_,_,_,_,_,_,_,_,_,_,_,_,_,_,_]) [14,20,0,6,1,2,3,4,5,7,8,9,10,11,12,13,15,16,17,18,19,21,22] rfl
      have hp131:=h130.sh.passL (Lp:= [_,_,_,_])
      refine wl_ex (x_call h130 bd_71 rfl rfl rfl rfl rfl (putO_c _ _ (⟨1,(⟨.slice none 0 0, []⟩:Ls Int),p121w⟩:OutL) ends2 _ _ _ _ _ _ hp131 (by omega))) (wanted_none rfl _) ?_
      rintro a132 w132 ⟨_,⟨rfl,en132,hpr132,hs132⟩,hf132⟩
      have h132:St 124 (fun _=>False) W a132 w132 _ [_,_,_,_,_,_,_,_,_,_,_,_,_,_,_,_,_,_,_,_,_,_,_]:=⟨hf132,h130.sh.backL (Lp:= [_,_,_,_]) hs132 (by intro A hA b hb;simp only [List.mem_cons,List.not_mem_nil,or_false] at hA;rcases hA with rfl|rfl|rfl|rfl<;>first|exact (hb:False).elim|exact Flat.noRd hb|exact .inl ⟨_,List.mem_cons_self .., .inr hb⟩|exact (hpr132.rd hb).elim (fun h=> .inl ⟨_,List.mem_of_getElem? (i:=1) rfl, .inr h⟩) (fun h=>h.elim (fun h=> .inl ⟨_,List.mem_of_getElem? (i:=2) rfl, .inr h⟩) (fun h=> .inl ⟨_,List.mem_of_getElem? (i:=3) rfl, .inr h⟩))|exact .inl ⟨_,by simp, .inr hb⟩)⟩
      clear hf132 hs132
      clear h130
      refine gG h132<|nK k111<|gF [5,8,9,11,12] rfl<|gL<|gRn (oM 1 rfl<|oadN _ 1 om9 rfl<|oM 1 rfl<|.nl)<|nN<|?_;clear h132
      have hps:=hpr132.sorted hinv2.sorted
      have hinvM:=hinv2.addOut (.fell (hinv.reach _ hxs) (by rw [pgN_len];exact htt) hkk hfy) hps.1 (by intro y;rw [hps.2 y];simp only [OutL.out,hyps])
      obtain ⟨hsdM,hle9⟩:=hsd2.put hpr132 (fun b hb=>hb.elim (fun hb=>(nilOn hb).elim) (fun hb=>(hnw129 b hb).elim (fun h=>h.elim) id))
      have hkeyM:=hkey2;have hhokM:=hhok2;have hlenM:=hlen2;have hleM:=hle2;have hxM:=hx2;have hrdM:=hrd2
      have helM:en132.l.length≤16*i+(k+1):=by omega
      have hhandM:full2=false→∀q,q<k+1→HandM (pgN code words Lk R) mode (states2.l.map SD.st) (en132.l.map OutL.out) x.st (nth ml66.l q):=by
       intro hf q hq;rcases Nat.lt_or_ge q k with h9|h9;exact (hhand hf q h9).mono (fun _ h=>h) (fun y hy=>(hps.2 y).2 (.inl hy));obtain rfl:q=k:=(by omega);exact HandM.of hmt hk3 (by unfold Handled;rw [if_pos hfy];exact (hps.2 _).2 (.inr (by simp only [OutL.out,hyps])))
      intro a133 w133 h133
      refine x_again ⟨_, ?_,(k+1),full2,states2,keys2,heads2,before2,en132, ?_, ?_, ?_, ?_, ?_, ?_, ?_, ?_, ?_, ?_, ?_,h133.nrm ⟨rfl,rfl,rfl,rfl,rfl,trivial⟩ [10,11,12,13,14,15,0,16,17,18,19,20,1,21,9,22] rfl,rfl⟩
      · rw [hm105];first|omega|(simp only [lens9];omega)
      · omega
      · exact hinvM
      · exact hkeyM
      · exact hhokM
      · exact hlenM
      · exact hsdM
      · exact helM
      · exact hleM
      · exact hxM
      · exact hrdM
      · exact hhandM
     refine gL<|gRn (oM 2 rfl<|.nl)<|?_
     have hff134:f121w=false:=by assumption
     intro a135 w135 h135
     rw [hff134] at h135
     obtain ⟨x134,hx134⟩:∃x,x=(⟨g115,111, [code.v,words.v, .int .i64 ((Lk:Nat):Int), .int .i64 ((R:Nat):Int), .int .i64 mode],⟨vt115,rows121⟩,w121w,o121w,p121w,false⟩:SD):=⟨_,rfl⟩
     have hfz134:=(Sh.freeze (hd:= [code.v,words.v, .int .i64 ((Lk:Nat):Int), .int .i64 ((R:Nat):Int), .int .i64 mode]) (rows:=rows121) (words:=w121w) (owner:=o121w) (prints:=p121w) (vt:=vt115) h135.sh)
     rw [←hx134] at hfz134
     have hz134:St 124 (fun _=>False) W a135 w135 _ [.rd1 x134, .at_ code, .own 3 ml66, .at_ x.prints, .at_ x.owner, .at_ x.words, .at_ x.thr, .rblk x.g 111 [code.v,words.v, .int .i64 ((Lk:Nat):Int), .int .i64 ((R:Nat):Int), .int .i64 mode,x.thr.v,x.words.v,x.owner.v,x.prints.v, .bool false], .blk b14 52 [states2.v,keys2.v,heads2.v,before2.v,ends2.v, .bool full2], .own 103 states2, .deep 23 keys2, .own 3 heads2, .own 3 before2, .rd1 x39, .own 39 ends2, .blk b12 25 [code.v,words.v, .int .i64 ((Lk:Nat):Int), .int .i64 ((R:Nat):Int)], .at_ words]:=⟨h135.fr,hfz134.1⟩
     clear h135
     have hg134:g115=x134.g:=by rw [hx134]
     obtain ⟨hya,hyb⟩:=st_step (x:=x) (z:=x134) (rows' :=rows121) htt hwx.thl hrw115 hw115 ho115 hp115 hy121
     have hst134:x134.st=x.st.putT t (stepT (pgN code words Lk R) mode x.st t kk):=by rw [←hya];exact hyb (by rw [hx134]) hyr121 (by rw [hx134];exact hyw121) (by rw [hx134];exact hyo121) (by rw [hx134];exact hyp121)
     have hfy:(stepT (pgN code words Lk R) mode x.st t kk).fell=false:=by rw [←hya,←hyf121];assumption
     have hry134:Reach (pgN code words Lk R) mode x134.st:=by rw [hst134];exact .step (hinv.reach _ hxs) (by rw [pgN_len];exact htt) hkk hfy
     have hwf134:=(hry134.wf hok).toX
     have hpy134:x134.st.prints.length≤2*states2.l.length:=by rw [hst134];have h9:=doT_prints mode t (nth (pgN code words Lk R).code t) kk (x.st.view t);have h8:(x.st.view t).prints.length=x.prints.l.length:=rfl;have h7:(x.st.putT t (stepT (pgN code words Lk R) mode x.st t kk)).prints=(stepT (pgN code words Lk R) mode x.st t kk).prints:=rfl;rw [h7];unfold stepT;omega
     have hpl134:x134.prints.l.length≤100000000:=by have h9:x134.st.prints.length=x134.prints.l.length:=rfl;have h8:=hinv2.len;simp at h8;omega
     have hdy134:x134.hd= [code.v,words.v, .int .i64 ((Lk:Nat):Int), .int .i64 ((R:Nat):Int), .int .i64 mode]∧x134.E=111∧x134.fell=false∧∀b,Enc.on x134 b→W.heap.size≤b:=⟨by rw [hx134],by rw [hx134],by rw [hx134],fun b hb=>(hfz134.2 b hb).elim (fun h=>h.elim) id⟩
     have h136:=hz134.sel (L' := [_,_,_,_,_,_,_,_,_,_,_,_,_,_,_,_,_]) [8,9,10,11,12,0,1,2,3,4,5,6,7,13,14,15,16] rfl
     have hp137:=h136.sh.passL (Lp:= [_,_,_,_,_,_])
     refine wl_ex (x_call h136 bd_68 rfl rfl rfl rfl rfl (by have h9:=put_c _ b14 x134 states2 keys2 heads2 before2 ends2.v full2 _ _ _ _ _ _ hp137 hhok2 hlen2 (by have h9:=hinv2.len;simp at h9;omega) hdy134.1 hdy134.2.1 (by rw [hwf134.thl];exact hcl) (fun i hi=>by have h9:=hwf134.regs i hi;omega) hwf134.wait (by have h9:=hwf134.words;have h8:=hwf134.owner;have h7:=hpl134;omega);rw [←hg134] at h9;exact h9)) (wanted_none rfl _) ?_
     rintro a138 w138 ⟨_,⟨rfl,st138,ke138,he138,be138,fu138,hkr138,hs138⟩,hf138⟩
     have h138:St 124 (fun _=>False) W a138 w138 _ [_,_,_,_,_,_,_,_,_,_,_,_,_,_,_,_,_]:=⟨hf138,h136.sh.backL (Lp:= [_,_,_,_,_,_]) hs138 (by intro A hA b hb;simp only [List.mem_cons,List.not_mem_nil,or_false] at hA;rcases hA with rfl|rfl|rfl|rfl|rfl|rfl<;>first|exact (hb:False).elim|exact Flat.noRd hb|exact .inl ⟨_,List.mem_cons_self .., .inr hb⟩|exact (hkr138.rd hb).elim (fun h=> .inl ⟨_,List.mem_of_getElem? (i:=1) rfl, .inr h⟩) (fun h=> .inl ⟨_,List.mem_of_getElem? (i:=5) rfl, .inr h⟩)|exact .inl ⟨_,by simp, .inr hb⟩)⟩
     clear hf138 hs138
     clear h136
     refine gG h138<|nK k111<|gF [5,8,9,11,12] rfl<|gL<|gRn (oM 1 rfl<|oadN _ 1 om9 rfl<|oM 1 rfl<|.nl)<|nN<|?_;clear h138
     obtain ⟨hinvM,hkeyM,hlenM,hmemM,hsubM,hcM⟩:=key_put hok hkr138 hkey2 hlen2 hinv2 (by assumption) (by omega) hry134 hpy134
     have hhokM:=keyRel_ok hkr138
     have hsdM:SData W 111 [code.v,words.v, .int .i64 ((Lk:Nat):Int), .int .i64 ((R:Nat):Int), .int .i64 mode] st138.l ends2.l:=by rcases hcM with e9|e9<;>rw [e9];exact hsd2;exact hsd2.more hdy134
     have helM:ends2.l.length≤16*i+(k+1):=by omega
     have hleM:states.l.length≤st138.l.length:=by rcases hcM with e9|e9<;>rw [e9];exact hle2;simp;omega
     have hxM:nth (st138.l.map SD.st) i=x.st:=by rcases hcM with e9|e9<;>rw [e9];exact hx2;rw [List.map_append,nth_left _ _ _ (by simp;omega)];exact hx2
     have hrdM:x∈st138.l:=by rcases hcM with e9|e9<;>rw [e9];exact hrd2;simp [hrd2]
     have hhandM:fu138=false→∀q,q<k+1→HandM (pgN code words Lk R) mode (st138.l.map SD.st) (ends2.l.map OutL.out) x.st (nth ml66.l q):=by
      intro hf q hq;rcases Nat.lt_or_ge q k with h9|h9;exact (hhand (by assumption) q h9).mono hsubM (fun _ h=>h);obtain rfl:q=k:=(by omega);exact HandM.of hmt hk3 (by unfold Handled;rw [if_neg (by rw [hfy];decide)];rw [←hst134];exact hmemM)
     intro a139 w139 h139
     refine x_again ⟨_, ?_,(k+1),fu138,st138,ke138,he138,be138,ends2, ?_, ?_, ?_, ?_, ?_, ?_, ?_, ?_, ?_, ?_, ?_,h139.nrm ⟨rfl,rfl,rfl,rfl,rfl,trivial⟩ [7,8,9,10,11,12,0,1,2,3,4,13,14,15,6,16] rfl,rfl⟩
     · rw [hm105];first|omega|(simp only [lens9];omega)
     · omega
     · exact hinvM
     · exact hkeyM
     · exact hhokM
     · exact hlenM
     · exact hsdM
     · exact helM
     · exact hleM
     · exact hxM
     · exact hrdM
     · exact hhandM
    have hn110:full2=true:=(Bool.not_eq_false' _).mp hb110
    refine gX<|hK k52<|gL<|gRn (oM 1 rfl<|oadN _ 1 om9 rfl<|oM 1 rfl<|.nl)<|nN<|?_
    have hinvN:=hinv2.expanded (by simp;omega) (by rw [hx2,←ended_eq hwx.thl];assumption) (by rw [hx2,←hmv];intro e9;rw [e9] at hmv0;simp at hmv0) (by rw [hx2];exact hws) (fun hf q hq=>by rw [hx2] at hq⊢;rw [←hmv] at hq⊢;exact hhand hf q (by first|omega|exact absurd (hf.symm.trans (show _=true by assumption)) Bool.false_ne_true))
    have hkeyN:=hkey2;have hhokN:=hhok2;have hlenN:=hlen2;have hsdN:=hsd2
    have helN:ends2.l.length≤16*(i+1):=by omega
    have hiN:i+1≤states2.l.length:=by omega
    have hnl2:states2.l.length≤4001:=by have h9:=hinv2.len;simpa using h9
    intro a140 w140 h140
    refine x_again ⟨_, ?_,(i+1),full2,states2,keys2,heads2,before2,ends2, ?_, ?_, ?_, ?_, ?_, ?_, ?_,h140.nrm ⟨rfl,rfl,trivial⟩ [6,7,8,9,10,11,12,13,14,15] rfl,rfl⟩
    · rw [hm45];omega
    · first|exact hiN|omega
    · first|exact hinvN|exact hinv
    · first|exact hkeyN|exact hkey
    · first|exact hhokN|exact hhok
    · first|exact hlenN|exact hlen
    · first|exact hsdN|exact hsd
    · first|exact helN|omega
   refine gRn (oKs 5 hb109 rfl rfl<|opF hb109 rfl<|.nl)<|nK k108<|gcF rfl rfl<|gX<|hK k52<|gL<|gRn (oM 1 rfl<|oadN _ 1 om9 rfl<|oM 1 rfl<|.nl)<|nN<|?_
   have hinvN:=hinv2.expanded (by simp;omega) (by rw [hx2,←ended_eq hwx.thl];assumption) (by rw [hx2,←hmv];intro e9;rw [e9] at hmv0;simp at hmv0) (by rw [hx2];exact hws) (fun hf q hq=>by rw [hx2] at hq⊢;rw [←hmv] at hq⊢;exact hhand hf q (by first|omega|exact absurd (hf.symm.trans (show _=true by assumption)) Bool.false_ne_true))
   have hkeyN:=hkey2;have hhokN:=hhok2;have hlenN:=hlen2;have hsdN:=hsd2
   have helN:ends2.l.length≤16*(i+1):=by omega
   have hiN:i+1≤states2.l.length:=by omega
   have hnl2:states2.l.length≤4001:=by have h9:=hinv2.len;simpa using h9
   intro a141 w141 h141
   refine x_again ⟨_, ?_,(i+1),full2,states2,keys2,heads2,before2,ends2, ?_, ?_, ?_, ?_, ?_, ?_, ?_,h141.nrm ⟨rfl,rfl,trivial⟩ [6,7,8,9,10,11,12,13,14,15] rfl,rfl⟩
   · rw [hm45];omega
   · first|exact hiN|omega
   · first|exact hinvN|exact hinv
   · first|exact hkeyN|exact hkey
   · first|exact hhokN|exact hhok
   · first|exact hlenN|exact hlen
   · first|exact hsdN|exact hsd
   · first|exact helN|omega
  have hn51:full=true:=(Bool.not_eq_false' _).mp hb51
  refine gX<|hK k43<|sG (oM 2 rfl<|.nl)<|gR<|fun a143 w143 h143=>x_ret1 (fn:=Tryz.f26) (t:=4) rfl h143 rfl<|⟨b14,full,_,_,_,_,ends,rfl,hinv.big (by first|exact .inl (by assumption)|exact .inr (by simp;omega)), ?_,(by have h9:=hinv.len;simp at h9;omega),fun o ho b hb=>hsd.en o ho b hb,(h143.sh.sel [0,6] rfl)⟩
  intro hf;first|exact absurd (hf.symm.trans (show _=true by assumption)) Bool.false_ne_true|(refine ⟨hinv.sorted, ?_⟩;rw [hf] at hinv;exact hinv.all (by simp;omega))
 refine gRn (oKs 5 hb50 rfl rfl<|opF hb50 rfl<|.nl)<|nK k48<|gcF rfl rfl<|gX<|hK k43<|sG (oM 2 rfl<|.nl)<|gR<|fun a145 w145 h145=>x_ret1 (fn:=Tryz.f26) (t:=4) rfl h145 rfl<|⟨b14,full,_,_,_,_,ends,rfl,hinv.big (by first|exact .inl (by assumption)|exact .inr (by simp;omega)), ?_,(by have h9:=hinv.len;simp at h9;omega),fun o ho b hb=>hsd.en o ho b hb,(h145.sh.sel [0,6] rfl)⟩
 intro hf;first|exact absurd (hf.symm.trans (show _=true by assumption)) Bool.false_ne_true|(refine ⟨hinv.sorted, ?_⟩;rw [hf] at hinv;exact hinv.all (by simp;omega))
end Go.Proofs.YtmjkobhkkjgplaaGreatDoor
namespace Go.Proofs.YtmjkobhkkjgplaaGreatDoor
open Go.ChangeShapes Go.WideShapes Go.ChangeAt Go.RowKit
open Go.Deep (open_slice)
set_option linter.unusedSimpArgs false
set_option linter.unusedVariables false
class Rd (α:Type) extends Enc α where
 ty:Program→TypeId→Prop
 fine:α→Prop
 read:∀ {H:Type} {enc:TypeId×Value→H} {P:Program} {w:World} {base:Nat} {spare:Nat→Bool} {held:Bool} {fuel:Nat} {T:TypeId} {cs:List Value} {x:DataW H×List MemPlace},
  ty P T→DataW.trod enc P w base spare held fuel T cs=some x→(∀n∈DataW.weights P T x.1,n≤reachBytes)→∃a:α,cs=cellsOf a∧Enc.inner a w∧fine a
instance : Rd Int where
 ty P T:=P.underlying T=some (.int .i64)
 fine n:=(Lit.int .i64 n).wf=true
 read hT h _:=by
  obtain ⟨n,rfl,_,hw⟩:=DataW.trod_int hT h
  exact ⟨n,rfl,trivial,hw⟩
instance : Rd Bool where
 ty P T:=P.underlying T=some .bool
 fine _:=True
 read hT h _:=by
  obtain ⟨b,rfl,_⟩:=DataW.trod_bool hT h
  exact ⟨b,rfl,trivial,trivial⟩
def intFields (P:Program)(fs:Array Field)(n:Nat):Prop:=fs.size=n∧∀(j:Nat) (f:Field),fs[j]? =some f→f.offset=j∧P.underlying f.type=some (.int .i64)∧P.cellsOf f.type=1
theorem read_ints {H:Type}{enc:TypeId×Value→H}{P:Program}{w:World}{base:Nat}{spare:Nat→Bool}{held:Bool}{fuel:Nat}{T:TypeId}{cs:List Value}{x:DataW H×List MemPlace}{fs:Array Field}{n:Nat}
  (hT:P.underlying T=some (.struct fs)) (hfs:intFields P fs n) (hC:P.cellsOf T=n) (h:DataW.trod enc P w base spare held fuel T cs=some x):
  cs.length=n∧∀j,j<n→∃k:Int,cs[j]? =some (.int .i64 k)∧(Lit.int .i64 k).wf=true:=by
 obtain ⟨xs,m,_,_,hlen,hxl,hf⟩:=DataW.trod_struct hT h
 refine ⟨hlen.trans hC,fun j hj=> ?_⟩
 obtain ⟨hs,hall⟩:=hfs
 have hjs:j<fs.size:=by omega
 obtain ⟨ho,ht,hc⟩:=hall j fs[j] (by simp [hjs])
 have h1:=hf j fs[j] (by simp [hjs])
 rw [ho,hc,List.getElem?_eq_getElem (by omega)] at h1
 obtain ⟨k,hk,_,hw⟩:=DataW.trod_int ht h1
 refine ⟨k, ?_,hw⟩
 rw [List.drop_eq_getElem_cons (by omega)] at hk
 simp only [List.take_succ_cons,List.take_zero,List.cons.injEq,and_true] at hk
 rw [List.getElem?_eq_getElem (by omega),hk]
instance : Rd Ins where
 ty P T:=∃fs,P.underlying T=some (.struct fs)∧intFields P fs 4∧P.cellsOf T=4
 fine x:=(Lit.int .i64 x.op).wf=true∧(Lit.int .i64 x.a).wf=true∧(Lit.int .i64 x.b).wf=true∧(Lit.int .i64 x.c).wf=true
 read:=by
  rintro H enc P w base spare held fuel T cs x ⟨fs,hT,hfs,hC⟩ h _
  obtain ⟨hl,hj⟩:=read_ints hT hfs hC h
  obtain ⟨k0,e0,w0⟩:=hj 0 (by omega)
  obtain ⟨k1,e1,w1⟩:=hj 1 (by omega)
  obtain ⟨k2,e2,w2⟩:=hj 2 (by omega)
  obtain ⟨k3,e3,w3⟩:=hj 3 (by omega)
  match cs,hl with
  | [c0,c1,c2,c3],_=>
   simp only [List.getElem?_cons_zero,List.getElem?_cons_succ,Option.some.injEq] at e0 e1 e2 e3
   subst e0 e1 e2 e3
   exact ⟨⟨k0,k1,k2,k3⟩,rfl,trivial,w0,w1,w2,w3⟩
theorem weights_slice {H:Type}{P:Program}{T e:TypeId}{elems spare:List (DataW H)}(hT:P.underlying T=some (.slice e))(h:∀n∈DataW.weights P T (.slice elems spare),n≤reachBytes):
  (elems.length+spare.length)*P.bytesOf e≤reachBytes∧∀d∈elems,∀n∈DataW.weights P e d,n≤reachBytes:=by
 unfold DataW.weights at h
 rw [hT] at h
 refine ⟨h _ (by simp),fun d hd n hn=>h n ?_⟩
 have:∀l:List (DataW H),d∈l→n∈DataW.weightsAll P e l:=by
  intro l hl
  induction l with
  |nil=>cases hl
  |cons y l ih=>
   unfold DataW.weightsAll
   rcases List.mem_cons.1 hl with rfl|hl
   ·exact List.mem_append.2 (.inl hn)
   ·exact List.mem_append.2 (.inr (ih hl))
 simp only [List.mem_cons,List.mem_append]
 exact .inr (.inl (this _ hd))
instance {α:Type}[Rd α]:Rd (Sl α) where
 ty P T:=∃e,P.underlying T=some (.slice e)∧P.cellsOf e=Enc.sz α∧1≤P.bytesOf e∧0<Enc.sz α∧Rd.ty α P e
 fine s:=∀i,i<s.l.length→Rd.fine (nth s.l i)
 read:=by
  rintro H enc P w base spare held fuel T cs x ⟨e,hT,hC,hB,hpos,hty⟩ h hw
  rcases open_slice hT h with ⟨rfl,rfl⟩|⟨a,len,cap,m,n,D,Pl,rfl,_,hl,hm,hmm,rfl,hi⟩
  ·refine ⟨⟨none,0, []⟩,rfl,⟨Nat.le_refl _,by simp,by simp,fun hh=>absurd hh (by simp),fun hh=>absurd hh (by simp),fun i j hi=>absurd hi (by simp),fun i hi=>absurd hi (by simp)⟩,fun i hi=>absurd hi (by simp)⟩
  ·obtain ⟨hb,hd⟩:=weights_slice hT hw
   have hlm:len≤m:=by rw [hmm];split<;>omega
   have hlen:len≤140737488355328:=by
    simp only [List.length_map,List.length_range,reachBytes] at hb
    have:(len+(m-len))*1≤(len+(m-len))*P.bytesOf e:=Nat.mul_le_mul_left _ hB
    omega
   have key:∀i,i<len→∃y:α,(∀j,j<Enc.sz α→w.cell? ((a.add (i*Enc.sz α)).add j)=some (Enc.cell y j))∧Enc.inner y w∧Rd.fine y:=by
    intro i hil
    obtain ⟨cs',hc',ht'⟩:=hi i (by omega)
    obtain ⟨y,hy,hin,hf⟩:=Rd.read hty ht' (hd _ (List.mem_map.2 ⟨i,by simpa using hil,rfl⟩))
    obtain ⟨_,hcl,hat⟩:=World.cells?_some hc'
    rw [hC] at hc' hat hcl
    refine ⟨y,fun j hj=> ?_,hin,hf⟩
    rw [hat j (by first|exact hj|omega)]
    subst hy
    simp [cellsOf,hj]
   obtain ⟨F,hF⟩:=Go.Deep.choose_lt key
   let l:=(List.range len).map F
   have hll:l.length=len:=by simp [l]
   have hn:∀i,i<len→nth l i=F i:=by intro i hil;simp [nth,l,hil]
   have hcell0:0<len→∃v,w.cell? a=some v:=fun h0=>⟨_,by
    have h1:=(hF 0 h0).1 0 hpos
    rw [Nat.zero_mul,Addr.add_zero',Addr.add_zero'] at h1
    exact h1⟩
   have hspot:0<len→a.spot=none:=by
    intro h0
    obtain ⟨v,hv⟩:=hcell0 h0
    unfold World.cell? at hv
    split at hv
    ·split at hv
     ·cases hv
     ·rename_i hs
      simpa using hs
    ·cases hv
   refine ⟨⟨some a,cap,l⟩,by simp [cellsOf,Enc.cell,Enc.sz,hll],⟨by rw [hll];exact hl,hm,by rw [hll];exact hlen, ?_, ?_, ?_, ?_⟩, ?_⟩
   ·intro h0
    exact ⟨a,rfl,hspot (by rw [←hll];exact h0)⟩
   ·intro h0
    obtain ⟨v,hv⟩:=hcell0 (by rw [←hll];exact h0)
    exact World.block_lt_of_cell? w a hv
   ·intro i j hi' hj
    rw [hll] at hi'
    show w.cell? ⟨a.block,a.off+i*Enc.sz α+j,none⟩=some (Enc.cell (nth l i) j)
    rw [hn i hi',←(hF i hi').1 j hj]
    have hs:=hspot (by omega)
    rcases a with ⟨b,o,sp⟩
    simp only at hs
    subst hs
    rw [Addr.add_lit,Addr.add_lit]
   ·intro i hi'
    rw [hll] at hi'
    rw [hn i hi']
    exact (hF i hi').2.1
   ·intro i hi'
    rw [hll] at hi'
    rw [hn i hi']
    exact (hF i hi').2.2
def prFields (P:Program)(fs:Array Field):Prop:=
 ∃f0 f1 f2 f3:Field,fs= #[f0,f1,f2,f3]∧(f0.offset=0∧P.cellsOf f0.type=1∧Rd.ty (Sl (Sl Ins)) P f0.type)∧(f1.offset=1∧P.cellsOf f1.type=1∧Rd.ty (Sl Int) P f1.type)∧
  (f2.offset=2∧P.cellsOf f2.type=1∧Rd.ty Int P f2.type)∧(f3.offset=3∧P.cellsOf f3.type=1∧Rd.ty Int P f3.type)
def PR.fine (p:PR):Prop:=Rd.fine p.code∧Rd.fine p.words∧(Lit.int .i64 p.locks).wf=true∧(Lit.int .i64 p.regs).wf=true
theorem weights_agg {H:Type}{P:Program}{T:TypeId}{f0 f1 f2 f3:Field}{d0 d1 d2 d3:DataW H}(hT:P.underlying T=some (.struct #[f0,f1,f2,f3]))(h:∀n∈DataW.weights P T (.agg [d0,d1,d2,d3]),n≤reachBytes):
  (∀n∈DataW.weights P f0.type d0,n≤reachBytes)∧(∀n∈DataW.weights P f1.type d1,n≤reachBytes)∧(∀n∈DataW.weights P f2.type d2,n≤reachBytes)∧(∀n∈DataW.weights P f3.type d3,n≤reachBytes):=by
 unfold DataW.weights at h
 rw [hT] at h
 simp only [List.map_cons,List.map_nil,DataW.weightsEach,List.append_nil,List.mem_append] at h
 exact ⟨fun n hn=>h n (.inl hn),fun n hn=>h n (.inr (.inl hn)),fun n hn=>h n (.inr (.inr (.inl hn))),fun n hn=>h n (.inr (.inr (.inr hn)))⟩
theorem open_PR {H:Type}{enc:TypeId×Value→H}{P:Program}{w:World}{base:Nat}{spare:Nat→Bool}{held:Bool}{r:Go.Reach}{b0:Nat}{T:TypeId}{fs:Array Field}{v:Value}{d:DataW H}{p:List MemPlace}
  (hT:P.underlying T=some (.struct fs)) (hfs:prFields P fs) (hC:P.cellsOf T=4) (hv:Value.okWide P w r b0 T v) (h:DataW.Trod enc P w base spare held T v d p) (hw:∀n∈DataW.weights P T d,n≤reachBytes):
  ∃q:PR,v=q.val∧q.At w∧q.fine:=by
 obtain ⟨f0,f1,f2,f3,rfl,⟨o0,c0,t0⟩,⟨o1,c1,t1⟩,⟨o2,c2,t2⟩,⟨o3,c3,t3⟩⟩:=hfs
 obtain ⟨cs,rfl,hsz⟩:=okWide_struct hT hv
 obtain ⟨l⟩:=cs
 match l,hsz.trans hC with
 | [v0,v1,v2,v3],_=>
  obtain ⟨fuel,hf⟩:=h
  obtain ⟨xs,n,_,hx,_,hlen,hg⟩:=DataW.trod_struct hT hf
  match xs,hlen with
  | [y0,y1,y2,y3],_=>
   simp only [Prod.mk.injEq,List.map_cons,List.map_nil] at hx
   rw [hx.1] at hw
   obtain ⟨w0,w1,w2,w3⟩:=weights_agg hT hw
   have g0:=hg 0 f0 rfl
   have g1:=hg 1 f1 rfl
   have g2:=hg 2 f2 rfl
   have g3:=hg 3 f3 rfl
   rw [o0,c0] at g0
   rw [o1,c1] at g1
   rw [o2,c2] at g2
   rw [o3,c3] at g3
   simp [Value.cells] at g0 g1 g2 g3
   obtain ⟨s0,e0,i0,k0⟩:=Rd.read t0 g0 w0
   obtain ⟨s1,e1,i1,k1⟩:=Rd.read t1 g1 w1
   obtain ⟨s2,e2,i2,k2⟩:=Rd.read t2 g2 w2
   obtain ⟨s3,e3,i3,k3⟩:=Rd.read t3 g3 w3
   simp [cellsOf,Enc.cell,Enc.sz] at e0 e1 e2 e3
   subst e0 e1 e2 e3
   exact ⟨⟨s0,s1,s2,s3⟩,rfl,⟨i0,i1⟩,k0,k1,k2,k3⟩
end Go.Proofs.YtmjkobhkkjgplaaGreatDoor
namespace Go.Proofs.YtmjkobhkkjgplaaGreatDoor
open Go.ChangeShapes Go.WideShapes Go.ChangeAt Go.RowKit
set_option linter.unusedSimpArgs false
set_option linter.unusedVariables false
theorem own :ownKnob Tryz.prog.godebug=none:=by kernel_rfl
theorem laidOut :laidOutB Tryz.prog=true:=by kernel_rfl
theorem ty_int :Rd.ty Int Tryz.prog 3:=Tryz.underlying3
theorem ty_ins :Rd.ty Ins Tryz.prog 32:=by
 refine ⟨_,Tryz.underlying32,⟨rfl,fun j f hf=> ?_⟩,by kernel_rfl⟩
 rcases j with _|_|_|_|j<;>simp at hf<;>subst hf<;>exact ⟨rfl,Tryz.underlying3,by kernel_rfl⟩
theorem ty_ints :Rd.ty (Sl Int) Tryz.prog 23:=⟨_,Tryz.underlying23,by kernel_rfl,of_decide_eq_true (by kernel_rfl),by decide,ty_int⟩
theorem ty_code :Rd.ty (Sl Ins) Tryz.prog 33:=⟨_,Tryz.underlying33,by kernel_rfl,of_decide_eq_true (by kernel_rfl),by decide,ty_ins⟩
theorem ty_codes :Rd.ty (Sl (Sl Ins)) Tryz.prog 22:=⟨_,Tryz.underlying22,by kernel_rfl,of_decide_eq_true (by kernel_rfl),by decide,ty_code⟩
theorem ty_pr :∃fs,Tryz.prog.underlying 25=some (.struct fs)∧prFields Tryz.prog fs:=
 ⟨_,Tryz.underlying25,_,_,_,_,rfl,⟨rfl,by kernel_rfl,ty_codes⟩,⟨rfl,by kernel_rfl,ty_ints⟩,⟨rfl,by kernel_rfl,ty_int⟩,⟨rfl,by kernel_rfl,ty_int⟩⟩
section
variable {α:Type}[Enc α]
def ofSl (s:Sl α):Ls α:=⟨.slice s.A s.l.length s.cap,s.l⟩
theorem ofSl_at {s:Sl α}{w:World}(h:s.At w):(ofSl s).At w:=⟨s.A,s.cap,rfl,h⟩
def ofSl2 (s:Sl (Sl α)):Ls (Ls α):=⟨.slice s.A s.l.length s.cap,s.l.map ofSl⟩
theorem ofSl2_at {s:Sl (Sl α)}{w:World}(h:s.At w):(ofSl2 s).At w:=by
 refine ⟨s.A,s.cap,by simp [ofSl2],⟨by simpa [ofSl2] using h.le,h.max,by simpa [ofSl2] using h.len,by simpa [ofSl2] using h.some,by simpa [ofSl2] using h.lt',fun i j hi hj=> ?_,fun i hi=> ?_⟩⟩
 ·have hi' :i<s.l.length:=by simpa [ofSl2] using hi
  show w.cell? _=some (Enc.cell (nth (s.l.map ofSl) i) j)
  rw [nth_map' ofSl _ _ hi']
  exact h.cell i j hi' hj
 ·have hi' :i<s.l.length:=by simpa [ofSl2] using hi
  show Enc.inner (nth (s.l.map ofSl) i) w
  rw [nth_map' ofSl _ _ hi']
  exact ofSl_at (h.inner i hi')
end
end Go.Proofs.YtmjkobhkkjgplaaGreatDoor
namespace Go.Proofs.YtmjkobhkkjgplaaGreatDoor
open Go.RowKit
set_option linter.unusedSimpArgs false
set_option linter.unusedVariables false
section
variable {P:Program}{o:Oper}{N:Nat}{K:Nat→Prop}{W w:World}{a:Act}{F:List (Nat×Value)}{L:List Asn}
theorem cells4 (x:Ins):cellsOf x= [.int .i64 x.op, .int .i64 x.a, .int .i64 x.b, .int .i64 x.c]:=rfl
theorem r_neBB {T U:TypeId}{x y:Operand}{p q:Bool}(ho:o.op= .binOp .neq T x y U)(hx:ev F x=some (.bool p))(hy:ev F y=some (.bool q))(hT:P.underlying T=some .bool):Rn P o N K W F L (.bool (p !=q)):=fun a w h=>by
 have e1:(eqGuard .neq T x y (.bool p) (.bool q)).run P w= .ok () w:=by simp [eqGuard]
 have e2:(binOp .neq T (.bool p) (.bool q)).run P w= .ok (.bool (p !=q)) w:=by simp [binOp,Op.equal,Op.maxDepth,go_sem,hT,bne]
 unfold execOp
 simp only [ho,h.fr.ev hx,h.fr.ev hy,Sem.run_bind,Sem.run_pure,Result.andThen_ok,e1,e2]
end
set_option maxRecDepth 100000
set_option maxHeartbeats 8000000
theorem neq_flt (f g:Flt)(w:World):(binOp .neq 28 f.val g.val).run Tryz.prog w= .ok (.bool (decide (f≠g))) w:=by
 obtain ⟨a,b,c⟩:=f
 obtain ⟨a',b',c'⟩:=g
 simp [binOp,Flt.val,Op.equal,Op.maxDepth,go_sem]
 by_cases h1:a=a' <;>by_cases h2:b=b' <;>by_cases h3:c=c' <;>simp [h1,h2,h3]
theorem neq_fltG (x y:Operand)(f g:Flt)(w:World):(eqGuard .neq 28 x y f.val g.val).run Tryz.prog w= .ok () w:=by
 simp [eqGuard,Flt.val]
 try kernel_rfl
theorem r_neqS {P:Program}{o:Oper}{N:Nat}{K:Nat→Prop}{W:World}{F:List (Nat×Value)}{L:List Asn}{T U:TypeId}{x y:Operand}{u v:Value}{b:Bool}(ho:o.op= .binOp .neq T x y U)(hx:ev F x=some u)(hy:ev F y=some v)(hg:∀w,(eqGuard .neq T x y u v).run P w= .ok () w)(hb:∀w,(binOp .neq T u v).run P w= .ok (.bool b) w):Rn P o N K W F L (.bool b):=fun a w h=>by
 unfold execOp
 simp only [ho,h.fr.ev hx,h.fr.ev hy,Sem.run_bind,Sem.run_pure,Result.andThen_ok,hg,hb]
theorem make0_b (code:Ls (Ls Ins))(words:Ls Int)(Lk R:Nat)(W:World)(hcode:code.At W)(hwords:words.At W)(hok:OkPg (pgN code words Lk R)):
    Rets Tryz.prog 30 [.agg #[code.v,words.v, .int .i64 ((Lk:Nat):Int), .int .i64 ((R:Nat):Int)], .bool false] W (fun v w' =>∃(g:Nat) (full:Bool) (sv kv hv bv:Value) (ends:Ls OutL),v= .pointer (some ⟨g,0,none⟩)∧(full=true↔Big (pgN code words Lk R) 0)∧(full=false→Sorted_ (ends.l.map OutL.out)∧∀o,o∈ends.l.map OutL.out↔Outs (pgN code words Lk R) 0 o)∧ends.l.length≤70000∧(∀o∈ends.l,∀b,Enc.on o b→W.heap.size≤b)∧Sh0 W w' [.blk g 52 [sv,kv,hv,bv,ends.v, .bool full], .own 39 ends]):=by
 refine gen Tryz.func30 Tryz.ntmps30 (Sh0.ext2 hcode hwords:Sh (fun _=>False) W W [.at_ code, .at_ words]) rfl fun a10 h10=>gG h10<|sK fun _ k11=>gbx rfl rfl fun b12=>gRn (oM 1 rfl<|.nl)<|nK k11<|gK fun _ k13=>sG (oM 1 rfl<|.nl)<|gcF rfl rfl<|gS<|hK k13<|sK fun _ k15=>gRn (olw 0 ti_25 rfl rfl<|.nl)<|fun a17 w17 h17=>wl_ex (x_call h17 bd_26 rfl rfl rfl rfl rfl (by_c code words Lk R 0 _ (h17.sh.at 1 rfl) (h17.sh.at 2 rfl) hok)) (wanted_none rfl _) ?_;clear h10
 rintro a18 w18 ⟨_,⟨g18,fu18,sv18,kv18,hv18,bv18,en18,rfl,hbg18,hby18,hel18,hnw18,hs18⟩,hf18⟩
 have hsz18:=h17.sh.chg.size
 have h18:=(⟨hf18,h17.sh.call hs18 (by intro A hA b hb;simp only [List.mem_cons,List.not_mem_nil,or_false] at hA;rcases hA with rfl|rfl;exact (hb:False).elim;exact .inl (by obtain ⟨i9,hi9,hb9⟩:=hb;exact hnw18 _ (nth_mem _ _ hi9) b hb9))⟩:St 10 (fun _=>False) W a18 w18 _ _)
 clear hf18 hs18
 clear h17
 refine gG h18<|gRn (oM 1 rfl<|.nl)<|nK k15<|gR<|fun a19 w19 h19=>x_ret1 (fn:=Tryz.f30) (t:=4) rfl h19 rfl ?_;clear h18
 exact ⟨g18,fu18,_,_,_,_,en18,rfl,hbg18,hby18,hel18,(fun o ho b hb=>Nat.le_trans hsz18 (hnw18 o ho b hb)),(h19.sh.sel [0,1] rfl)⟩
theorem make1_b (code:Ls (Ls Ins))(words:Ls Int)(Lk R:Nat)(W:World)(hcode:code.At W)(hwords:words.At W)(hok:OkPg (pgN code words Lk R)):
    Rets Tryz.prog 30 [.agg #[code.v,words.v, .int .i64 ((Lk:Nat):Int), .int .i64 ((R:Nat):Int)], .bool true] W (fun v w' =>∃(g:Nat) (full:Bool) (sv kv hv bv:Value) (ends:Ls OutL),v= .pointer (some ⟨g,0,none⟩)∧(full=true↔Big (pgN code words Lk R) 1)∧(full=false→Sorted_ (ends.l.map OutL.out)∧∀o,o∈ends.l.map OutL.out↔Outs (pgN code words Lk R) 1 o)∧ends.l.length≤70000∧(∀o∈ends.l,∀b,Enc.on o b→W.heap.size≤b)∧Sh0 W w' [.blk g 52 [sv,kv,hv,bv,ends.v, .bool full], .own 39 ends]):=by
 refine gen Tryz.func30 Tryz.ntmps30 (Sh0.ext2 hcode hwords:Sh (fun _=>False) W W [.at_ code, .at_ words]) rfl fun a10 h10=>gG h10<|sK fun _ k11=>gbx rfl rfl fun b12=>gRn (oM 1 rfl<|.nl)<|nK k11<|gK fun _ k13=>sG (oM 1 rfl<|.nl)<|gcT rfl rfl<|sK fun _ k15=>gRn (olw 0 ti_25 rfl rfl<|.nl)<|fun a17 w17 h17=>wl_ex (x_call h17 bd_26 rfl rfl rfl rfl rfl (by_c code words Lk R 1 _ (h17.sh.at 1 rfl) (h17.sh.at 2 rfl) hok)) (wanted_none rfl _) ?_;clear h10
 rintro a18 w18 ⟨_,⟨g18,fu18,sv18,kv18,hv18,bv18,en18,rfl,hbg18,hby18,hel18,hnw18,hs18⟩,hf18⟩
 have hsz18:=h17.sh.chg.size
 have h18:=(⟨hf18,h17.sh.call hs18 (by intro A hA b hb;simp only [List.mem_cons,List.not_mem_nil,or_false] at hA;rcases hA with rfl|rfl;exact (hb:False).elim;exact .inl (by obtain ⟨i9,hi9,hb9⟩:=hb;exact hnw18 _ (nth_mem _ _ hi9) b hb9))⟩:St 10 (fun _=>False) W a18 w18 _ _)
 clear hf18 hs18
 clear h17
 refine gG h18<|gRn (oM 1 rfl<|.nl)<|nK k15<|gR<|uT<|fun a19 w19 h19=>x_ret1 (fn:=Tryz.f30) (t:=4) rfl h19 rfl ?_;clear h18
 exact ⟨g18,fu18,_,_,_,_,en18,rfl,hbg18,hby18,hel18,(fun o ho b hb=>Nat.le_trans hsz18 (hnw18 o ho b hb)),(h19.sh.sel [0,1] rfl)⟩
theorem lfull_c (W:World):
    Rets Tryz.prog 27 [] W (fun v w' =>v= .agg #[.int .i64 10, .int .i64 0, .int .i64 0]∧Sh0 W w' []):=by
 refine gen Tryz.func27 Tryz.ntmps27 (Sh0.start _:Sh (fun _=>False) W W []) rfl fun a10 h10=>gG h10<|sK fun _ k11=>gal ti_28 rfl fun b12=>nK k11<|sK fun _ k13=>gRn (oV (r_build (cs:= [.int .i64 10, .int .i64 0, .int .i64 0]) rfl rfl (by kernel_rfl)) rfl<|.nl)<|gsw 0 ti_28 rfl rfl rfl<|nK k13<|gR<|fun a15 w15 h15=>x_ret1c (fn:=Tryz.f27) (t:=0) (i:=0) ti_28 rfl h15 rfl rfl rfl ?_;clear h10
 exact ⟨rfl,(h15.sh.sel [] rfl)⟩
theorem spaceTSO_v (code:Ls (Ls Ins))(words:Ls Int)(locks regs:Int)(W:World)(hcode:code.At W)(hwords:words.At W)(hv:vastG (code.l.map (·.l)) words.l=true):
    Rets Tryz.prog 8 [.agg #[code.v,words.v, .int .i64 locks, .int .i64 regs]] W (fun v w' =>v= .bool true∧Sh0 W w' []):=by
 refine gen Tryz.func8 Tryz.ntmps8 (Sh0.ext2 hcode hwords:Sh (fun _=>False) W W [.at_ code, .at_ words]) rfl fun a10 h10=>gG h10<|sK fun _ k11=>gbx rfl rfl fun b12=>gRn (oM 1 rfl<|.nl)<|nK k11<|gK fun _ k13=>sK fun _ k14=>gRn (olw 0 ti_25 rfl rfl<|.nl)<|gC (fun _ _ h_=>xCl h_ bd_23 rfl (vast_c (code:=code) (words:=words) (locks:=locks) (regs:=regs) (h_.sh.at 1 rfl) (h_.sh.at 2 rfl))) rfl<|?_;clear h10
 rintro _ _ w15 ⟨rfl,hs15⟩
 refine gWk hs15 rfl<|gU<|nK k14<|gcT rfl hv<|sG (oM 1 rfl<|.nl)<|gR<|uT<|fun a17 w17 h17=> ?_;clear hs15
 refine x_ret1 (fn:=Tryz.f8) (t:=2) rfl h17 rfl ?_
 exact ⟨rfl,(h17.sh.sel [] rfl)⟩
theorem spaceTSO_b (code:Ls (Ls Ins))(words:Ls Int)(locks regs:Int)(W:World)(hcode:code.At W)(hwords:words.At W)(hv:vastG (code.l.map (·.l)) words.l=false)(hz:(checkG (pgOf code words locks regs)).code≠0):
    Rets Tryz.prog 8 [.agg #[code.v,words.v, .int .i64 locks, .int .i64 regs]] W (fun v w' =>v= .bool true∧Sh0 W w' []):=by
 refine gen Tryz.func8 Tryz.ntmps8 (Sh0.ext2 hcode hwords:Sh (fun _=>False) W W [.at_ code, .at_ words]) rfl fun a10 h10=>gG h10<|sK fun _ k11=>gbx rfl rfl fun b12=>gRn (oM 1 rfl<|.nl)<|nK k11<|gK fun _ k13=>sK fun _ k14=>gRn (olw 0 ti_25 rfl rfl<|.nl)<|gC (fun _ _ h_=>xCl h_ bd_23 rfl (vast_c (code:=code) (words:=words) (locks:=locks) (regs:=regs) (h_.sh.at 1 rfl) (h_.sh.at 2 rfl))) rfl<|?_;clear h10
 rintro _ _ w15 ⟨rfl,hs15⟩
 refine gWk hs15 rfl<|gU<|nK k14<|gcF rfl hv<|gS<|hK k13<|sK fun _ k16=>gRn (olw 0 ti_25 rfl rfl<|.nl)<|gC (fun _ _ h_=>xCl h_ bd_18 rfl (stso_b code words locks regs _ (h_.sh.at 1 rfl) (h_.sh.at 2 rfl) hz)) rfl<|?_;clear hs15
 rintro _ _ w17 ⟨rfl,hs17⟩
 refine gWk hs17 rfl<|gU<|gRn (oM 1 rfl<|oxt rfl<|oxt rfl<|.nl)<|gal ti_28 rfl fun b18=>gRn (oM 1 rfl<|.nl)<|gsw 0 ti_28 rfl rfl rfl<|nK k16<|sK fun _ k20=>gRn (olw 1 ti_25 rfl rfl<|.nl)<|gC (fun _ _ h_=>xCl h_ bd_21 rfl (rob_b code words locks regs _ (h_.sh.at 2 rfl) (h_.sh.at 3 rfl) hz)) rfl<|?_;clear hs17
 rintro _ _ w21 ⟨rfl,hs21⟩
 refine gWk hs21 rfl<|gU<|gRn (oM 1 rfl<|oxt rfl<|oxt rfl<|.nl)<|gal ti_28 rfl fun b22=>gRn (oM 1 rfl<|.nl)<|gsw 0 ti_28 rfl rfl rfl<|nK k20<|sK fun _ k24=>gRn (olw 2 ti_25 rfl rfl<|.nl)<|gC (fun _ _ h_=>xCl h_ bd_25 rfl (refCheck_c (code:=code) (words:=words) (locks:=locks) (regs:=regs) (h_.sh.at 3 rfl) (h_.sh.at 4 rfl))) rfl<|?_;clear hs21
 rintro _ _ w25 ⟨rfl,hs25⟩
 refine gWk hs25 rfl<|gU<|gal ti_28 rfl fun b26=>gsw 0 ti_28 rfl rfl rfl<|nK k24<|gK fun _ k28=>sG (ofB fl_28_0 rfl<|olB 0 ti_26 rfl rfl<|oneI _ _ rfl<|.nl)<|gcT rfl (decide_eq_true hz)<|sK fun _ k30=>gNl (fun w h=>(Sh.nilAt (α:=OutL) h)) fun (hl31:([]).length≤140737488355328)=>gRn (olw 2 ti_28 rfl rfl<|olw 0 ti_28 rfl rfl<|oV (r_eqS rfl rfl rfl (fun w=>eq_fltG _ _ ⟨(checkG (pgOf code words locks regs)).code,(checkG (pgOf code words locks regs)).thread,(checkG (pgOf code words locks regs)).at_⟩ ⟨(checkG (pgOf code words locks regs)).code,(checkG (pgOf code words locks regs)).thread,(checkG (pgOf code words locks regs)).at_⟩ w) (fun w=>eq_flt ⟨(checkG (pgOf code words locks regs)).code,(checkG (pgOf code words locks regs)).thread,(checkG (pgOf code words locks regs)).at_⟩ ⟨(checkG (pgOf code words locks regs)).code,(checkG (pgOf code words locks regs)).thread,(checkG (pgOf code words locks regs)).at_⟩ w)) rfl<|oM 1 rfl<|oG (decide_eq_true rfl) (r_ldbw (i:=1) (vs:= [.int .i64 ((checkG (pgOf code words locks regs)).code), .int .i64 ((checkG (pgOf code words locks regs)).thread), .int .i64 ((checkG (pgOf code words locks regs)).at_)]) ti_28 rfl rfl rfl rfl rfl) rfl<|oG (decide_eq_true rfl) (r_ldbw (i:=0) (vs:= [.int .i64 ((checkG (pgOf code words locks regs)).code), .int .i64 ((checkG (pgOf code words locks regs)).thread), .int .i64 ((checkG (pgOf code words locks regs)).at_)]) ti_28 rfl rfl rfl rfl rfl) rfl<|oG (decide_eq_true rfl) (r_eqS rfl rfl rfl (fun w=>eq_fltG _ _ ⟨(checkG (pgOf code words locks regs)).code,(checkG (pgOf code words locks regs)).thread,(checkG (pgOf code words locks regs)).at_⟩ ⟨(checkG (pgOf code words locks regs)).code,(checkG (pgOf code words locks regs)).thread,(checkG (pgOf code words locks regs)).at_⟩ w) (fun w=>eq_flt ⟨(checkG (pgOf code words locks regs)).code,(checkG (pgOf code words locks regs)).thread,(checkG (pgOf code words locks regs)).at_⟩ ⟨(checkG (pgOf code words locks regs)).code,(checkG (pgOf code words locks regs)).thread,(checkG (pgOf code words locks regs)).at_⟩ w)) rfl<|opT (decide_eq_true rfl) rfl<|oM 1 rfl<|oG (decide_eq_true rfl) (r_move rfl rfl) rfl<|oG (decide_eq_true rfl) (r_len (s:=(⟨.slice none 0 0, []⟩:Ls OutL)) (n:=([]).length) sl_35 rfl rfl (fun w h=>(Sh.nilAt (α:=OutL) h)) rfl) rfl<|oG (decide_eq_true rfl) (r_eqlN (p:=([]).length) (q:=0) rfl rfl rfl) rfl<|opT (decide_eq_true rfl) rfl<|oM 1 rfl<|oG (decide_eq_true rfl) (r_move rfl rfl) rfl<|oG (decide_eq_true rfl) (r_not rfl rfl) rfl<|opT (decide_eq_true rfl) rfl<|oM 1 rfl<|.nl)<|nK k30<|gF [2] rfl<|gR<|uT<|fun a32 w32 h32=> ?_;clear hs25
 refine x_ret1 (fn:=Tryz.f8) (t:=2) rfl h32 rfl<|⟨?_,(h32.sh.sel [] rfl)⟩
 first|rfl|exact congrArg _ (decide_eq_true rfl)|exact congrArg _ (decide_eq_true hu0)|exact congrArg _ (decide_eq_true hsame)
theorem spaceTSO_k (code:Ls (Ls Ins))(words:Ls Int)(Lk R:Nat)(W:World)(hcode:code.At W)(hwords:words.At W)(hv:vastG (code.l.map (·.l)) words.l=false)(hok:OkPg (pgN code words Lk R))(hR:PgR (pgN code words Lk R)):
    Rets Tryz.prog 8 [.agg #[code.v,words.v, .int .i64 ((Lk:Nat):Int), .int .i64 ((R:Nat):Int)]] W (fun v w' =>v= .bool true∧Sh0 W w' []):=by
 have hz:checkG (pgOf code words ((Lk:Nat):Int) ((R:Nat):Int))=⟨0,0,0⟩:=checkG_ok hok
 refine gen Tryz.func8 Tryz.ntmps8 (Sh0.ext2 hcode hwords:Sh (fun _=>False) W W [.at_ code, .at_ words]) rfl fun a10 h10=>gG h10<|sK fun _ k11=>gbx rfl rfl fun b12=>gRn (oM 1 rfl<|.nl)<|nK k11<|gK fun _ k13=>sK fun _ k14=>gRn (olw 0 ti_25 rfl rfl<|.nl)<|gC (fun _ _ h_=>xCl h_ bd_23 rfl (vast_c (code:=code) (words:=words) (locks:=((Lk:Nat):Int)) (regs:=((R:Nat):Int)) (h_.sh.at 1 rfl) (h_.sh.at 2 rfl))) rfl<|?_;clear h10
 rintro _ _ w15 ⟨rfl,hs15⟩
 refine gWk hs15 rfl<|gU<|nK k14<|gcF rfl hv<|gS<|hK k13<|sK fun _ k16=>gRn (olw 0 ti_25 rfl rfl<|.nl)<|fun a18 w18 h18=> ?_;clear hs15
 refine wl_ex (x_call h18 bd_18 rfl rfl rfl rfl rfl (stso_k code words Lk R _ (h18.sh.at 1 rfl) (h18.sh.at 2 rfl) hok hR)) (wanted_none rfl _) ?_
 rintro a19 w19 ⟨_,⟨u19,ok19,rfl,hfu19,hs19⟩,hf19⟩
 have h19:=(⟨hf19,h18.sh.call hs19 (by intro A hA b hb;obtain rfl:=List.mem_singleton.1 hA;obtain ⟨i9,hi9,hb9⟩:=hb;exact .inl ((hfu19.nw _ (nth_mem _ _ hi9) b hb9).resolve_left id))⟩:St 107 (fun _=>False) W a19 w19 _ _)
 have hfr19:=hfu19.up (K' :=fun _=>False) (W' :=W) (fun b hb=>hb.imp id (fun h9=>Nat.le_trans h18.sh.chg.size h9))
 clear hf19 hs19
 clear h18
 refine gG h19<|gRn (oM 1 rfl<|oxt rfl<|oxt rfl<|.nl)<|gal ti_28 rfl fun b20=>gRn (oM 1 rfl<|.nl)<|gsw 0 ti_28 rfl rfl rfl<|nK k16<|sK fun _ k22=>gRn (olw 2 ti_25 rfl rfl<|.nl)<|gC (fun _ _ h_=>xCl h_ bd_21 rfl (rob_k code words Lk R _ (h_.sh.at 3 rfl) (h_.sh.at 4 rfl) hok hR)) rfl<|?_;clear h19
 rintro _ _ w23 ⟨rb23,rk23,rfl,hrob23,hs23⟩
 refine gWk hs23 rfl<|gU<|gRn (oM 1 rfl<|oxt rfl<|oxt rfl<|.nl)<|gal ti_28 rfl fun b24=>gRn (oM 1 rfl<|.nl)<|gsw 0 ti_28 rfl rfl rfl<|nK k22<|sK fun _ k26=>gRn (olw 3 ti_25 rfl rfl<|.nl)<|gC (fun _ _ h_=>xCl h_ bd_25 rfl (refCheck_c (code:=code) (words:=words) (locks:=((Lk:Nat):Int)) (regs:=((R:Nat):Int)) (h_.sh.at 4 rfl) (h_.sh.at 5 rfl))) rfl<|?_;clear hs23
 rintro _ _ w27 ⟨rfl,hs27⟩
 refine gWk hs27 rfl<|gU<|gal ti_28 rfl fun b28=>gsw 0 ti_28 rfl rfl rfl<|nK k26<|gK fun _ k30=>sG (ofB fl_28_0 rfl<|olB 0 ti_26 rfl rfl<|oneI _ _ rfl<|.nl)<|gcF rfl (by rw [hz];rfl)<|gS<|hK k30<|sK fun _ k32=>gRn (olw 4 ti_25 rfl rfl<|.nl)<|fun a34 w34 h34=> ?_;clear hs27
 refine wl_ex (x_call h34 bd_30 rfl rfl rfl rfl rfl (make1_b code words Lk R _ (h34.sh.at 5 rfl) (h34.sh.at 6 rfl) hok)) (wanted_none rfl _) ?_
 rintro a35 w35 ⟨_,⟨g35,fu35,sv35,kv35,hv35,bv35,en35,rfl,hbg35,hby35,hel35,hnw35,hs35⟩,hf35⟩
 have hsz35:=h34.sh.chg.size
 have h35:=(⟨hf35,h34.sh.call hs35 (by intro A hA b hb;simp only [List.mem_cons,List.not_mem_nil,or_false] at hA;rcases hA with rfl|rfl;exact (hb:False).elim;exact .inl (by obtain ⟨i9,hi9,hb9⟩:=hb;exact hnw35 _ (nth_mem _ _ hi9) b hb9))⟩:St 107 (fun _=>False) W a35 w35 _ _)
 clear hf35 hs35
 clear h34
 refine gG h35<|gRn (oM 1 rfl<|.nl)<|nK k32<|sK fun _ k36=>gRn (olw 6 ti_25 rfl rfl<|.nl)<|fun a38 w38 h38=>wl_ex (x_call h38 bd_30 rfl rfl rfl rfl rfl (make0_b code words Lk R _ (h38.sh.at 7 rfl) (h38.sh.at 8 rfl) hok)) (wanted_none rfl _) ?_;clear h35
 rintro a39 w39 ⟨_,⟨g39,fu39,sv39,kv39,hv39,bv39,en39,rfl,hbg39,hby39,hel39,hnw39,hs39⟩,hf39⟩
 have hsz39:=h38.sh.chg.size
 have h39:=(⟨hf39,h38.sh.call hs39 (by intro A hA b hb;simp only [List.mem_cons,List.not_mem_nil,or_false] at hA;rcases hA with rfl|rfl;exact (hb:False).elim;exact .inl (by obtain ⟨i9,hi9,hb9⟩:=hb;exact hnw39 _ (nth_mem _ _ hi9) b hb9))⟩:St 107 (fun _=>False) W a39 w39 _ _)
 clear hf39 hs39
 clear h38
 refine gG h39<|gRn (oM 1 rfl<|.nl)<|nK k36<|gF [3,4,5,6,8,9] rfl<|gK fun _ k40=>sK fun _ k41=>gRn (oM 1 rfl<|onfl 0 fl_52_5 ti_4 rfl rfl<|oM 1 rfl<|.nl)<|?_;clear h39
 rcases Bool.eq_false_or_eq_true fu39 with hb42|hb42
 ·skip
  refine gRn (oKs 4 hb42 rfl rfl<|opT hb42 rfl<|.nl)<|nK k41<|gcT rfl rfl<|?_
  have hrk:rk23=false:=by cases h9:rk23 with|false=>rfl|true=>exact absurd ((hbg39).1 hb42) (by have h8:=hrob23.yes h9;first|exact h8.1|exact h8.2.1)
  have hrb:rb23=false:=(hrob23.no hrk).2
  have e10:((if rk23=true then (0:Int) else 10):Int)=10:=by rw [hrk];rfl
  intro a43 w43 h43
  rw [e10] at h43
  refine gG h43<|gK fun _ k44=>fun a45 w45 h45=>x_quiet (by kernel_rfl) (by kernel_rfl) h45 fun _ z46=>qQ h45.fr<|qRn (olw 5 ti_28 rfl rfl<|.nl)<|qP bd_27 rfl (fun w h=>(lfull_c _))<|qRn (oV (r_neqS rfl rfl rfl (fun w=>neq_fltG _ _ ⟨10,0,0⟩ ⟨10,0,0⟩ w) (fun w=>neq_flt ⟨10,0,0⟩ ⟨10,0,0⟩ w)) rfl<|oM 1 rfl<|oG (decide_eq_false (by simp)) (r_move rfl rfl) rfl<|opF (decide_eq_false (by simp)) rfl<|.nl)<|qN z46<|hK k44<|gcF rfl hrb<|gS<|hK k40<|gK fun _ k48=>sG (oM 1 rfl<|onfl 2 fl_52_5 ti_4 rfl rfl<|.nl)<|?_;clear h43 h45
  refine gCb rfl (fun hb50=> ?_) fun hb50=> ?_
  ·skip
   have hof:ok19=false:=by cases h9:ok19 with|false=>rfl|true=>exact absurd ((hbg35).1 hb50) (hfr19.good h9).1
   have hu0:u19.l.length=0:=by rw [(hfr19.big hof).2];rfl
   have e10:((if ok19=true then (0:Int) else 10):Int)=10:=by rw [hof];rfl
   intro a51 w51 h51
   rw [e10] at h51
   refine gG h51<|gK fun _ k52=>fun a53 w53 h53=>x_quiet (by kernel_rfl) (by kernel_rfl) h53 fun _ z54=>qQ h53.fr<|qRn (olw 6 ti_28 rfl rfl<|.nl)<|qP bd_27 rfl (fun w h=>(lfull_c _))<|qRn (oV (r_eqS rfl rfl rfl (fun w=>eq_fltG _ _ ⟨10,0,0⟩ ⟨10,0,0⟩ w) (fun w=>eq_flt ⟨10,0,0⟩ ⟨10,0,0⟩ w)) rfl<|oM 1 rfl<|oG (decide_eq_true rfl) (r_move rfl rfl) rfl<|.nl)<|?_;clear h51
   have hl57:u19.l.length≤140737488355328:=(h53.sh.own 7 rfl).len
   refine qRn (oG (decide_eq_true rfl) (r_len (s:=u19) (n:=u19.l.length) sl_35 rfl rfl (fun w h=>(h.own 7 rfl)) rfl) rfl<|oG (decide_eq_true rfl) (r_eqlN (p:=u19.l.length) (q:=0) rfl rfl rfl) rfl<|opT (decide_eq_true rfl) rfl<|oM 1 rfl<|.nl)<|qN z54<|hK k52<|gF [2] rfl<|gR<|uT<|fun a59 w59 h59=>x_ret1 (fn:=Tryz.f8) (t:=2) rfl h59 rfl<|⟨?_,(h59.sh.sel [] rfl)⟩;clear h53
   first|rfl|exact congrArg _ (decide_eq_true rfl)|exact congrArg _ (decide_eq_true hu0)|exact congrArg _ (decide_eq_true hsame)
  have hof:ok19=true:=by cases h9:ok19 with|true=>rfl|false=>exact absurd ((hbg35).2 (hfr19.big h9).1) (by rw [hb50];decide)
  obtain ⟨_,hso,hou,_⟩:=hfr19.good hof
  obtain ⟨hso2,hou2⟩:=hby35 hb50
  have hsame:u19.l.map OutL.out=en35.l.map OutL.out:=same_ends hso hou hso2 hou2 (fun o=>Iff.rfl)
  have e10:((if ok19=true then (0:Int) else 10):Int)=0:=by rw [hof];rfl
  intro a60 w60 h60
  rw [e10] at h60
  refine gG h60<|gS<|hK k48<|gF [3,4,8] rfl<|sK fun _ k61=>gRn (oM 2 rfl<|onfl 2 fl_52_4 ti_35 rfl rfl<|.nl)<|gP (fun _ _ h_=>xCl h_ bd_28 rfl (sameO_c u19 en35 _ (h_.sh.own 7 rfl) (h_.sh.own 3 rfl))) rfl<|gRn (oM 1 rfl<|.nl)<|nK k61<|sG (ofB fl_28_0 rfl<|olB 6 ti_26 rfl rfl<|oeqN 0 0 rfl<|oM 1 rfl<|oG (by decide) (r_move rfl rfl) rfl<|opT (by decide) rfl<|oM 1 rfl<|.nl)<|gR<|fun a64 w64 h64=>x_ret1 (fn:=Tryz.f8) (t:=2) rfl h64 rfl<|⟨?_,(h64.sh.sel [] rfl)⟩;clear h60
  first|rfl|exact congrArg _ (decide_eq_true rfl)|exact congrArg _ (decide_eq_true hu0)|exact congrArg _ (decide_eq_true hsame)
 refine gRn (oG hb42 (r_move rfl rfl) rfl<|oG hb42 (r_nil rfl rfl) rfl<|oG hb42 (r_fieldB (r:=5) fl_52_5 rfl rfl rfl) rfl<|oG hb42 (r_ldb (i:=2) ti_4 rfl rfl rfl rfl) rfl<|opF hb42 rfl<|.nl)<|nK k41<|gCb rfl (fun hb65=> ?_) fun hb65=> ?_
 ·skip
  have hrk:rk23=false:=by cases h9:rk23 with|false=>rfl|true=>exact absurd ((hbg35).1 hb65) (by have h8:=hrob23.yes h9;first|exact h8.1|exact h8.2.1)
  have hrb:rb23=false:=(hrob23.no hrk).2
  have e10:((if rk23=true then (0:Int) else 10):Int)=10:=by rw [hrk];rfl
  intro a66 w66 h66
  rw [e10] at h66
  refine gG h66<|gK fun _ k67=>fun a68 w68 h68=>x_quiet (by kernel_rfl) (by kernel_rfl) h68 fun _ z69=>qQ h68.fr<|qRn (olw 5 ti_28 rfl rfl<|.nl)<|qP bd_27 rfl (fun w h=>(lfull_c _))<|qRn (oV (r_neqS rfl rfl rfl (fun w=>neq_fltG _ _ ⟨10,0,0⟩ ⟨10,0,0⟩ w) (fun w=>neq_flt ⟨10,0,0⟩ ⟨10,0,0⟩ w)) rfl<|oM 1 rfl<|oG (decide_eq_false (by simp)) (r_move rfl rfl) rfl<|opF (decide_eq_false (by simp)) rfl<|.nl)<|qN z69<|hK k67<|gcF rfl hrb<|gS<|hK k40<|gK fun _ k71=>sG (oM 1 rfl<|onfl 2 fl_52_5 ti_4 rfl rfl<|.nl)<|gcT rfl hb65<|?_;clear h66 h68
  have hof:ok19=false:=by cases h9:ok19 with|false=>rfl|true=>exact absurd ((hbg35).1 hb65) (hfr19.good h9).1
  have hu0:u19.l.length=0:=by rw [(hfr19.big hof).2];rfl
  have e10:((if ok19=true then (0:Int) else 10):Int)=10:=by rw [hof];rfl
  intro a73 w73 h73
  rw [e10] at h73
  refine gG h73<|gK fun _ k74=>fun a75 w75 h75=>x_quiet (by kernel_rfl) (by kernel_rfl) h75 fun _ z76=>qQ h75.fr<|qRn (olw 6 ti_28 rfl rfl<|.nl)<|qP bd_27 rfl (fun w h=>(lfull_c _))<|qRn (oV (r_eqS rfl rfl rfl (fun w=>eq_fltG _ _ ⟨10,0,0⟩ ⟨10,0,0⟩ w) (fun w=>eq_flt ⟨10,0,0⟩ ⟨10,0,0⟩ w)) rfl<|oM 1 rfl<|oG (decide_eq_true rfl) (r_move rfl rfl) rfl<|.nl)<|?_;clear h73
  have hl79:u19.l.length≤140737488355328:=(h75.sh.own 7 rfl).len
  refine qRn (oG (decide_eq_true rfl) (r_len (s:=u19) (n:=u19.l.length) sl_35 rfl rfl (fun w h=>(h.own 7 rfl)) rfl) rfl<|oG (decide_eq_true rfl) (r_eqlN (p:=u19.l.length) (q:=0) rfl rfl rfl) rfl<|opT (decide_eq_true rfl) rfl<|oM 1 rfl<|.nl)<|qN z76<|hK k74<|gF [2] rfl<|gR<|uT<|fun a81 w81 h81=>x_ret1 (fn:=Tryz.f8) (t:=2) rfl h81 rfl<|⟨?_,(h81.sh.sel [] rfl)⟩;clear h75
  first|rfl|exact congrArg _ (decide_eq_true rfl)|exact congrArg _ (decide_eq_true hu0)|exact congrArg _ (decide_eq_true hsame)
 have hrk:rk23=true:=by cases h9:rk23 with|true=>rfl|false=>exact ((hrob23.no h9).1.elim (fun h8=>absurd ((hbg39).2 h8) (by rw [hb42];decide)) (fun h8=>absurd ((hbg35).2 h8) (by rw [hb65];decide)))
 obtain ⟨_,hso1,hou1⟩:True∧_∧_:=⟨trivial,hby35 hb65⟩
 obtain ⟨_,hso2,hou2⟩:True∧_∧_:=⟨trivial,hby39 hb42⟩
 have hrb:rb23=decide (en35.l.map OutL.out=en39.l.map OutL.out):=by
   rw [Bool.eq_iff_iff,(hrob23.yes hrk).2.2,decide_eq_true_iff]
   exact ⟨fun e=>sorted_ext hso1 hso2 fun o=>(hou1 o).trans ((e o).symm.trans (hou2 o).symm),fun e o=>by rw [←hou2,←hou1,e]⟩
 have e10:((if rk23=true then (0:Int) else 10):Int)=0:=by rw [hrk];rfl
 intro a82 w82 h82
 rw [e10] at h82
 refine gG h82<|gK fun _ k83=>fun a84 w84 h84=>x_quiet (by kernel_rfl) (by kernel_rfl) h84 fun _ z85=>qQ h84.fr<|qRn (oM 1 rfl<|onfl 2 fl_52_4 ti_35 rfl rfl<|oM 1 rfl<|onfl 0 fl_52_4 ti_35 rfl rfl<|.nl)<|qP bd_28 rfl (fun w h=>(sameO_c en35 en39 _ (h.own 3 rfl) (h.own 1 rfl)))<|qRn (oM 1 rfl<|.nl)<|qN z85<|hK k83<|sG (ofB fl_28_0 rfl<|olB 5 ti_26 rfl rfl<|oneN 0 0 rfl<|oM 1 rfl<|oG (by decide) (r_move rfl rfl) rfl<|oG (by decide) (r_move rfl rfl) rfl<|oG (by decide) (r_neBB rfl rfl rfl (by kernel_rfl)) rfl<|opF (by decide) rfl<|.nl)<|gF [3,4,8,82] rfl<|gcF rfl (by rw [hrb];simp)<|gS<|hK k40<|gK fun _ k87=>sG (oM 1 rfl<|onfl 2 fl_52_5 ti_4 rfl rfl<|.nl)<|gcF rfl hb65<|?_;clear h82 h84
 have hof:ok19=true:=by cases h9:ok19 with|true=>rfl|false=>exact absurd ((hbg35).2 (hfr19.big h9).1) (by rw [hb65];decide)
 obtain ⟨_,hso,hou,_⟩:=hfr19.good hof
 obtain ⟨hso2,hou2⟩:=hby35 hb65
 have hsame:u19.l.map OutL.out=en35.l.map OutL.out:=same_ends hso hou hso2 hou2 (fun o=>Iff.rfl)
 have e10:((if ok19=true then (0:Int) else 10):Int)=0:=by rw [hof];rfl
 intro a89 w89 h89
 rw [e10] at h89
 refine gG h89<|gS<|hK k87<|sK fun _ k90=>gRn (oM 2 rfl<|onfl 2 fl_52_4 ti_35 rfl rfl<|.nl)<|gP (fun _ _ h_=>xCl h_ bd_28 rfl (sameO_c u19 en35 _ (h_.sh.own 7 rfl) (h_.sh.own 3 rfl))) rfl<|gRn (oM 1 rfl<|.nl)<|nK k90<|sG (ofB fl_28_0 rfl<|olB 6 ti_26 rfl rfl<|oeqN 0 0 rfl<|oM 1 rfl<|oG (by decide) (r_move rfl rfl) rfl<|opT (by decide) rfl<|oM 1 rfl<|.nl)<|gR<|fun a93 w93 h93=>x_ret1 (fn:=Tryz.f8) (t:=2) rfl h93 rfl<|⟨?_,(h93.sh.sel [] rfl)⟩;clear h89
 first|rfl|exact congrArg _ (decide_eq_true rfl)|exact congrArg _ (decide_eq_true hu0)|exact congrArg _ (decide_eq_true hsame)
theorem spaceTSO_any (code:Ls (Ls Ins))(words:Ls Int)(locks regs:Int)(W:World)(hcode:code.At W)(hwords:words.At W)(hR:PgR (pgOf code words locks regs)):Rets Tryz.prog 8 [.agg #[code.v,words.v, .int .i64 locks, .int .i64 regs]] W (fun v w' =>v= .bool true∧Sh0 W w' []):=by
 cases hv:vastG (code.l.map (·.l)) words.l with
 |true=>exact spaceTSO_v code words locks regs W hcode hwords hv
 |false=>
  by_cases hok:OkPg (pgOf code words locks regs)
  ·obtain ⟨Lk,rfl⟩:=Int.eq_ofNat_of_zero_le hok.locks.1
   obtain ⟨R,rfl⟩:=Int.eq_ofNat_of_zero_le (show 0≤regs by have:=hok.regs.1;have e:(pgOf code words (Lk:Int) regs).regs=regs:=rfl;omega)
   exact spaceTSO_k code words Lk R W hcode hwords hv hok hR
  ·exact spaceTSO_b code words locks regs W hcode hwords hv (fun h=>hok (checkG_code_pos.1 h))
end Go.Proofs.YtmjkobhkkjgplaaGreatDoor
namespace Go.Proofs.YtmjkobhkkjgplaaGreatDoor
open Go Go.ChangeShapes Go.WideShapes Go.ChangeAt Go.RowKit
set_option linter.unusedSimpArgs false
set_option linter.unusedVariables false
theorem wf64 {n:Int}(h:(Lit.int .i64 n).wf=true):R64 n:=by
 unfold Lit.wf at h
 simp only [Bool.and_eq_true,decide_eq_true_eq] at h
 have e1:IntKind.i64.min= -9223372036854775808:=by kernel_rfl
 have e2:IntKind.i64.max=9223372036854775807:=by kernel_rfl
 rw [e1,e2] at h
 unfold R64
 omega
theorem pr_fine {pr:PR}(h:pr.fine):PgR (pgOf (ofSl2 pr.code) (ofSl pr.words) pr.locks pr.regs):=by
 obtain ⟨h1,h2,_,_⟩:=h
 refine ⟨fun c hc i hi=> ?_,fun n hn=> ?_⟩
 ·obtain ⟨l,hl,rfl⟩:=List.mem_map.1 hc
  obtain ⟨s,hs,rfl⟩:=List.mem_map.1 hl
  obtain ⟨k,hk,rfl⟩:=List.mem_iff_getElem.1 hs
  have h3:=h1 k hk
  rw [nth_lt _ _ hk] at h3
  obtain ⟨q,hq,rfl⟩:=List.mem_iff_getElem.1 hi
  have h4:=h3 q hq
  have hq' :q<(pr.code.l[k]).l.length:=hq
  rw [nth_lt _ _ hq'] at h4
  exact ⟨wf64 h4.2.1,wf64 h4.2.2.1,wf64 h4.2.2.2⟩
 ·obtain ⟨k,hk,rfl⟩:=List.mem_iff_getElem.1 hn
  have hk' :k<pr.words.l.length:=hk
  have h3:=h2 k hk'
  rw [nth_lt _ _ hk'] at h3
  exact wf64 h3
theorem door_met (os:Os)(args:Array Value):laidMetH Tryz.prog Rows.spaceTSORow.laid ((World.doorLaid Tryz.prog 24 os).forCall (fun _ _=>0) ⟨#[],args, []⟩).memory:=
 laidMetH_of_parts3 (fuel:=8) (laidMet_of_run' 8 (by kernel_rfl) (by kernel_rfl)) (by kernel_rfl) (by kernel_rfl)
set_option maxRecDepth 100000 in
theorem spaceTSO_lifted (os:Os)(started:os.Started)(H:Type)(enc:TypeId×Value→H):
  ReturnsInHanded {} Tryz.checked os 8 .any (fun w args=>(Rows.spaceTSOSpec.pre enc Tryz.prog Tryz.f8 [] false w args∧laidMetH Tryz.prog Rows.spaceTSORow.laid w)∧sizedMet enc Tryz.prog Tryz.f8 (OpenSpec.ofChange Rows.spaceTSOSpec) false w args) (Rows.spaceTSOSpec.post enc Tryz.prog Tryz.f8 false true false false):=by
 refine returnsInHanded_of_change_and (C:=Tryz.checked) (X:=fun w _=>laidMetH Tryz.prog Rows.spaceTSORow.laid w) (fun _ _ _ hh h=>h.of_heap hh) own started (by kernel_rfl) Tryz.func8
  (ChangeSpec.witness_shaped (enc:=enc) (C:=Tryz.checked) (os:=os) (X:=fun w _=>laidMetH Tryz.prog Rows.spaceTSORow.laid w) false (World.doorLaid Tryz.prog 24 os) #[.agg #[.slice none 0 0, .slice none 0 0, .int .i64 0, .int .i64 0]] 8 rfl (World.shaped_of_RefB (by kernel_rfl) (by kernel_rfl)) (by kernel_rfl) (by kernel_rfl) (by kernel_rfl) (door_met os _)) ?_
 intro W base args ds gs before hval0 hW _ hsz0 _ _
 have hsz:(DataW.weightsEach Tryz.prog (Tryz.f8.params.toList++Rows.spaceTSOSpec.plain.varTypes Tryz.prog) (ds++gs)).all (· ≤reachBytes)=true:=hsz0
 have hval:∀(j:Nat) t v,Tryz.f8.params[j]? =some t→args[j]? =some v→Value.okWide Tryz.prog W .any base t v:=hval0
 have hW' :=hW
 obtain ⟨p,q,hA0,hV,rfl,hfz,hnd⟩:=hW
 have hA:DataW.TrodAll enc Tryz.prog W 0 (fun _=>true) true Tryz.f8.params.toList args.toList ds p:=hA0
 rw [Tryz.params8] at hA hval hsz
 obtain ⟨v0,d0,rfl,rfl,h0⟩:=trodAll_one hA
 obtain ⟨rfl,rfl⟩:=trodVars_none hV
 clear hA0 hval0
 simp only [List.append_nil] at hW'
 have hw0:∀n∈DataW.weights Tryz.prog 25 d0,n≤reachBytes:=by
  intro n hn
  have:=List.all_eq_true.1 hsz n (by simp [DataW.weightsEach,hn])
  simpa using this
 obtain ⟨fs,hfs,hpf⟩:=ty_pr
 obtain ⟨pr,rfl,hAt,hfin⟩:=open_PR hfs hpf (by kernel_rfl) (hval 0 25 v0 rfl rfl) h0 hw0
 have hlt:∀x∈p,x.block<W.heap.size:=fun x hx=>by simpa using hW'.lt x hx
 have hcall:=spaceTSO_any (ofSl2 pr.code) (ofSl pr.words) pr.locks pr.regs W (ofSl2_at hAt.code) (ofSl_at hAt.words) (pr_fine hfin)
 refine Calls.mono hcall fun e W' ⟨v',he,hv',hg0⟩=> ?_
 have hg:=hg0.chg.to_below
 subst he
 subst hv'
 exact ⟨_,rfl,_,_,_, [],p, [],hW',trodAll_mk1 (shut_bool Tryz.underlying4 true),trodAll_mk1 (Below.trod laidOut (by kernel_rfl) (of_decide_eq_true (by kernel_rfl)) h0 hg hlt),rfl,hg.frame _,fun h=>by cases h⟩
theorem spaceTSO_said :Rows.SpaceTSOSaid:=
 OpenClaim.holds_of_wide 8 Tryz.f8 rfl rfl rfl rfl rfl rfl rfl ⟨rfl,rfl,rfl,rfl,rfl⟩ rfl rfl rfl rfl rfl (by kernel_rfl) Tryz.func8 (by kernel_rfl)
  (of_decide_eq_true (by kernel_rfl)) (by unfold Func.isWrapper;first|(rw [if_pos (by decide+kernel)];kernel_rfl)|(rw [if_neg (by decide+kernel)];exact ⟨rfl,rfl⟩))
  (fun os started H enc _=>spaceTSO_lifted os started H enc)
theorem spaceTSO_holds :Rows.SpaceTSOCardSaid:=
 Claim7.holds_tied_plain_at .later [] [.data, .data, .data] true (true, "7156a00dd565ccc5b243c7c66c0e1b87025c3a7a962659fa9eea236c69567f4f") false
  spaceTSO_said (fun _ h=>by cases h) (by kernel_rfl) (fun _ h=>by cases h) spaceTSO_row_tie rfl ⟨rfl,rfl⟩ (by kernel_rfl) rfl
  (fun f fn hf hfn=>by
   obtain rfl:f=8:=Option.some.inj ((show Tryz.prog.funcNamed Rows.spaceTSORow.func=some 8 by kernel_rfl).symm.trans hf)|>.symm
   obtain rfl:fn=Tryz.f8:=(Option.some.inj (Tryz.func8.symm.trans hfn)).symm
   exact ⟨by kernel_rfl,fun j t ht=>by
    rw [Tryz.params8] at ht
    have h3:t=25:=by
     rcases j with _|j
     ·simpa using ht.symm
     ·simp at ht
    subst h3
    exact (show Tryz.prog.wantsStandIn 25=false by kernel_rfl)⟩)
  (by kernel_rfl)
end Go.Proofs.YtmjkobhkkjgplaaGreatDoor
