/- What one comes to from a state. -/
import Derived.Test.YtmjkobhkkjgplaaGreatDoorX85
import Derived.Test.YtmjkobhkkjgplaaGreatDoorL5
import Derived.Test.YtmjkobhkkjgplaaGreatDoorL7
namespace Go.Proofs.YtmjkobhkkjgplaaGreatDoor
open Go.RowKit
set_option linter.unusedSimpArgs false
set_option linter.unusedVariables false
set_option maxRecDepth 100000
set_option maxHeartbeats 8000000
structure PX {F:MemF} (code:Ls (Ls Ins)) (words0:Ls Int) (Lk R:Nat) (x:PSD F):Prop where
 reach:Reach (pgN code words0 Lk R) F.m x.st
 rl:x.rows.length=code.l.length
 ql:x.qs.length=code.l.length
 pn:x.prints.l.length≤90000
section
variable {F:MemF} {code:Ls (Ls Ins)} {words0:Ls Int} {Lk R:Nat} {x:PSD F}
theorem psd_view {t:Nat} (h:t<x.rows.length):x.st.view t=⟨(nth x.rows t).pc,(nth x.rows t).regs.l,nth x.qs t,x.words.l,x.owner.l,x.prints.l,false⟩:=mstR_view h
theorem PX.key (hok:OkPg (pgN code words0 Lk R)) (hR:PgR (pgN code words0 Lk R)) (h:PX code words0 Lk R x):KeyOK x:=by
 obtain ⟨hl1,hcl,hwn,hlk,hR2⟩:=ok_lenP hok
 have hf:=psd_facts hok h.reach h.rl
 have hcln:=ok_clen hok
 have hr:=h.reach.r64 hR (by rw [pgN_len];omega)
 have hv:∀t,t<x.rows.length→TSR ⟨(nth x.rows t).pc,(nth x.rows t).regs.l,nth x.qs t,x.words.l,x.owner.l,x.prints.l,false⟩:=fun t ht=>by
  have:=hr t
  rwa [psd_view ht] at this
 have h0:0<x.rows.length:=by rw [h.rl];omega
 have hq:∀l∈x.qs,∃t,t<x.rows.length∧l=nth x.qs t:=fun l hl=>by
  obtain ⟨t,ht,e⟩:=List.mem_iff_getElem.1 hl
  exact ⟨t,by rw [h.rl,←h.ql];exact ht,by rw [nth_lt _ _ ht];exact e.symm⟩
 refine ⟨by rw [h.rl];exact hcl,fun t ht=> ?_,fun t ht=>(hv t ht).regs,fun t ht=> ?_,(hv 0 h0).prints,by have:=h.pn;omega,by have:=hf.hwl;omega,by have:=hf.hol;omega,by rw [h.ql];exact hcl,fun l hl=> ?_,(hv 0 h0).words,(hv 0 h0).owner,fun l hl=> ?_⟩
 ·have h1:=hf.hpc t (by rw [←h.rl];exact ht)
  have h2:=hcln t (by rw [←h.rl];exact ht)
  rw [toQ_at ht] at h1
  obtain ⟨h3,h4⟩:=h1
  change 0≤(nth x.rows t).pc at h3
  change (nth x.rows t).pc≤_ at h4
  unfold R64
  omega
 ·have:=hf.hreg t (by rw [←h.rl];exact ht)
  omega
 ·obtain ⟨t,ht,rfl⟩:=hq l hl
  exact hf.hw3 t (by rw [←h.rl];exact ht)
 ·obtain ⟨t,ht,rfl⟩:=hq l hl
  exact (hv t ht).wait
end
theorem Sh.ownNew {α:Type} [Enc α] [Flat α] {W w:World} {L:List Asn} {E:TypeId} {s:Ls α} (h:Sh (fun _=>False) W w L) (i:Nat) (hi:L[i]? =some (.own E s)):∀b,s.on b→W.heap.size≤b:=fun b hb=>by
 have hm:=List.mem_of_getElem? hi
 rcases own_on (h.ok _ hm) hb with h1|h1
 ·exact (h.mine _ hm b h1).resolve_left id
 ·exact Flat.noRd h1
def PSD.B {F:MemF} (x:PSD F) (fell:Bool):List Asn:=
  [.blk x.g 173 [.iface (F.mem x.i).T (.pointer (some (F.mem x.i).u)), .pointer (some ⟨x.gp,0,none⟩),x.vt,x.prints.v, .bool fell], .own 189 (⟨x.vt,x.rows.map ThR.toQ⟩:Ls ThQ), .big (regA 3 x.rows), .own 3 x.prints,
   .blk (F.mem x.i).g0 182 [x.words.v,x.owner.v], .own 3 x.words, .own 3 x.owner,(F.mem x.i).X x.q]
theorem movesF_len {m:Int} {code:Ls (Ls Ins)} {thr:List ThQ} {qs:List (List Wt)} {owner:List Int} (hw3:∀t,t<code.l.length→(nth qs t).length≤3) (n:Nat) (hn:n≤code.l.length):(movesF m code thr qs owner n).length≤4*n:=by
 induction n with
 |zero=>simp [movesF]
 |succ n ih=>
  rw [movesF_succ,List.length_append]
  have h1:=ih (by omega)
  have h2:=hw3 n (by omega)
  have h3:=movF_len (m:=m) (code:=code) (thr:=thr) (q:=qs) (owner:=owner) (t:=n)
  omega
section
variable {p:Pg} {m:Int} {s:MSt}
theorem look_ended (he:ended p s=true):lookE p m s= [⟨0,s.words,s.prints⟩]∧lookN p m s= []:=by
 unfold lookE lookN
 rw [if_pos he,if_pos he]
 exact ⟨rfl,rfl⟩
theorem look_stuck (he:ended p s=false) (hl:(movesV p m s).length=0):lookE p m s= [⟨2,s.words,s.prints⟩]∧lookN p m s= []:=by
 unfold lookE lookN
 have hn:¬ended p s=true:=by rw [he];decide
 rw [if_neg hn,if_pos hl,if_neg hn,List.eq_nil_of_length_eq_zero hl]
 exact ⟨rfl,rfl⟩
theorem look_go (he:ended p s=false) (hl:¬(movesV p m s).length=0):lookE p m s=(movesV p m s).flatMap (endsV p m s)∧lookN p m s=(movesV p m s).flatMap (nextV p m s):=by
 unfold lookE lookN
 have hn:¬ended p s=true:=by rw [he];decide
 rw [if_neg hn,if_neg hl,if_neg hn]
 exact ⟨rfl,rfl⟩
theorem look_t {l:List Mv} {k t j:Nat} (hk:k<l.length) (e:nth l k=⟨(t:Int),(j:Int)-1⟩) (hf:(stepT p m s t j).fell=true):(l.take (k+1)).flatMap (endsV p m s)=(l.take k).flatMap (endsV p m s)++ [⟨1, [],(stepT p m s t j).prints⟩]∧(l.take (k+1)).flatMap (nextV p m s)=(l.take k).flatMap (nextV p m s):=by
 rw [take_succ_nth _ _ hk,List.flatMap_append,List.flatMap_append,e]
 simp only [List.flatMap_cons,List.flatMap_nil,List.append_nil]
 unfold endsV nextV
 rw [mvT_of,if_pos hf,if_pos hf]
 exact ⟨rfl,List.append_nil _⟩
theorem look_f {l:List Mv} {k t j:Nat} (hk:k<l.length) (e:nth l k=⟨(t:Int),(j:Int)-1⟩) (hf:(stepT p m s t j).fell=false):(l.take (k+1)).flatMap (endsV p m s)=(l.take k).flatMap (endsV p m s)∧(l.take (k+1)).flatMap (nextV p m s)=(l.take k).flatMap (nextV p m s)++ [s.putT t (stepT p m s t j)]:=by
 rw [take_succ_nth _ _ hk,List.flatMap_append,List.flatMap_append,e]
 simp only [List.flatMap_cons,List.flatMap_nil,List.append_nil]
 unfold endsV nextV
 rw [mvT_of,if_neg (by rw [hf];decide),if_neg (by rw [hf];decide)]
 exact ⟨List.append_nil _,by rw [Int.toNat_natCast]⟩
end
theorem nilOnI {b:Nat} (h:(⟨.slice none 0 0, []⟩:Ls Int).on b):False:=by
 rcases h with ⟨h,_⟩|⟨_,h,_⟩<;>exact absurd h (by simp)
theorem xmoves_c {F:MemF} (hF:MemFI Tryz.prog 182 3 204 5 141 F) (x:PSD F) (code:Ls (Ls Ins)) (words0:Ls Int) (Lk R:Nat) (pw:Value) (W:World) (hX:x.Rd W) (hP:Blk W x.gp 25 #[code.v,pw, .int .i64 ((Lk:Nat):Int), .int .i64 ((R:Nat):Int)]) (hcode:code.At W) (hok:OkPg (pgN code words0 Lk R)) (h:PX code words0 Lk R x):
  Rets Tryz.prog 121 [.pointer (some ⟨x.g,0,none⟩)] W (fun v w' =>∃s:Ls Mv,v=s.v∧s.l=movesV (pgN code words0 Lk R) F.m x.st∧s.l.length≤16∧Sh0 W w' [.own 179 s]):=by
 have hf:=psd_facts hok h.reach h.rl
 have hM:=hF.ok x.i
 have hrl:=h.rl
 refine Rets.mono (pmoves_c (F.mem x.i) x.g x.gp code ⟨x.vt,x.rows.map ThR.toQ⟩ x.words x.owner x.q pw x.prints.v Lk R false W hM hX.blk hP hcode hX.thr hX.mem h.ql hf.hw3 (by show (x.rows.map ThR.toQ).length=_;rw [List.length_map];exact hrl) hf.hpc hf.hlk hf.hge (ok_lenP hok).2.1) ?_
 rintro v w' ⟨s,rfl,e,hs⟩
 refine ⟨s,rfl, ?_,(by rw [e];have h9:=movesF_len (m:=(F.mem x.i).m) (thr:=x.rows.map ThR.toQ) (owner:=x.owner.l) hf.hw3 _ (Nat.le_refl _);have h8:=(ok_lenP hok).2.1;have h7:(movesF (F.mem x.i).m code (x.rows.map ThR.toQ) x.qs x.owner.l code.l.length).length≤16:=(by omega);exact h7),hs⟩
 rw [e,hF.hm]
 exact movesF_eq (prints:=x.prints.l) (words:=x.words.l) hrl
theorem xended_c {F:MemF} (hF:MemFI Tryz.prog 182 3 204 5 141 F) (x:PSD F) (code:Ls (Ls Ins)) (words0:Ls Int) (Lk R:Nat) (pw:Value) (W:World) (hX:x.Rd W) (hP:Blk W x.gp 25 #[code.v,pw, .int .i64 ((Lk:Nat):Int), .int .i64 ((R:Nat):Int)]) (hcode:code.At W) (hok:OkPg (pgN code words0 Lk R)) (h:PX code words0 Lk R x):
  Rets Tryz.prog 122 [.pointer (some ⟨x.g,0,none⟩)] W (fun v w' =>v= .bool (ended (pgN code words0 Lk R) x.st)∧Sh0 W w' []):=by
 have hf:=psd_facts hok h.reach h.rl
 have hM:=hF.ok x.i
 have hrl:=h.rl
 refine Rets.mono (pended_c (F.mem x.i) x.g x.gp code ⟨x.vt,x.rows.map ThR.toQ⟩ x.words x.owner x.q pw x.prints.v Lk R false W hM hX.blk hP hcode hX.thr hX.mem h.ql hf.hw3 (by show (x.rows.map ThR.toQ).length=_;rw [List.length_map];exact hrl) hf.hpc (ok_lenP hok).2.1) ?_
 rintro v w' ⟨rfl,hs⟩
 refine ⟨?_,hs⟩
 congr 1
 exact endedF_eq hrl
theorem xwords_c {F:MemF} (hF:MemFI Tryz.prog 182 3 204 5 141 F) (x:PSD F) (code:Ls (Ls Ins)) (words0:Ls Int) (Lk R:Nat) (pw:Value) (W:World) (hX:x.Rd W) (hP:Blk W x.gp 25 #[code.v,pw, .int .i64 ((Lk:Nat):Int), .int .i64 ((R:Nat):Int)]) (hcode:code.At W) (hok:OkPg (pgN code words0 Lk R)) (h:PX code words0 Lk R x):
  Rets Tryz.prog 120 [.pointer (some ⟨x.g,0,none⟩)] W (fun v w' =>∃s:Ls Int,v=s.v∧s.l=x.words.l∧Sh0 W w' [.own 3 s]):=by
 have hf:=psd_facts hok h.reach h.rl
 have h1:=hf.hwl
 have h2:=(ok_lenP hok).2.2.1
 exact pwords_c (F.mem x.i) x.g x.gp code ⟨x.vt,x.rows.map ThR.toQ⟩ x.words x.owner x.q pw x.prints.v Lk R false W (hF.ok x.i) hX.blk hP hcode hX.thr hX.mem (by omega)
theorem xdo_c {F:MemF} (hF:MemFI Tryz.prog 182 3 204 5 141 F) (K:Nat→Prop) (y:PSD F) (code:Ls (Ls Ins)) (words0:Ls Int) (Lk R:Nat) (pw:Value) (t k:Nat) (gp:Nat) (W:World) (hg:y.gp=gp) (hS:Sh K W W (y.B false++ [.rblk gp 25 [code.v,pw, .int .i64 ((Lk:Nat):Int), .int .i64 ((R:Nat):Int)], .at_ code])) (hok:OkPg (pgN code words0 Lk R)) (h:PX code words0 Lk R y) (ht:t<code.l.length) (hmv:mvOK F.m (nth (pgN code words0 Lk R).code t) (y.st.view t) k=true):
  Rets Tryz.prog 123 [.pointer (some ⟨y.g,0,none⟩), .agg #[.int .i64 ((t:Nat):Int), .int .i64 (((k:Nat):Int)-1)]] W (fun v w' =>v= .tuple #[]∧∃(y' :PSD F) (fell:Bool),y'.g=y.g∧y'.gp=gp∧y'.rows.length=code.l.length∧y'.qs.length=code.l.length∧
   fell=(stepT (pgN code words0 Lk R) F.m y.st t k).fell∧y'.prints.l=(stepT (pgN code words0 Lk R) F.m y.st t k).prints∧y'.st=y.st.putT t (stepT (pgN code words0 Lk R) F.m y.st t k)∧Sh K W w' (y'.B fell++ [.rblk gp 25 [code.v,pw, .int .i64 ((Lk:Nat):Int), .int .i64 ((R:Nat):Int)], .at_ code])):=by
 subst hg
 obtain ⟨hl1,hcl,hwn,hlk0,hR2⟩:=ok_lenP hok
 have hf:=psd_facts hok h.reach h.rl
 have hcln:=ok_clen hok t ht
 have hM:=hF.ok y.i
 have htr:t<y.rows.length:=by rw [h.rl];exact ht
 have htq:t<y.qs.length:=by rw [h.ql];exact ht
 have hpc:=hf.hpc t ht
 rw [toQ_at htr] at hpc
 have hm:=hF.hm y.i
 rw [pgN_code ht,psd_view htr] at hmv
 have hio:k=0→InsR (nth y.rows t).regs.l.length y.words.l.length y.owner.l.length (nextIns (nth code.l t).l (nth y.rows t).pc):=fun hk0=>by
  rw [hf.hreg t ht,hf.hwl,hf.hol]
  exact insR_N hok ht hpc.1 (able_of hmv hk0).1
 have h1:Sh K W W (pstA (F.mem y.i) y.g y.gp [code.v,pw, .int .i64 ((Lk:Nat):Int), .int .i64 ((R:Nat):Int)] y.vt y.rows y.prints y.words y.owner y.q false code):=hS.sel [0,8,1,2,3,4,5,6,7,9] rfl
 refine Rets.mono (pdo_full K (F.mem y.i) y.g y.gp code y.vt y.rows y.prints y.words y.owner y.q pw Lk R false t k W hM h1 htr (by omega) htq (hf.hw3 t ht) (hf.hwh0 t ht) hf.hge ht hpc (by omega) (by rw [hm];exact hmv) (by have:=h.pn;omega) (hf.hwt t ht) hio) ?_
 rintro v w' ⟨rfl,rows',words',owner',prints',q',fell',x,z,hz,rfl,e1,e2,e3,e4,e5,e6,e7,hs⟩
 have hz' :z=stepT (pgN code words0 Lk R) F.m y.st t k:=by
  unfold stepT
  rw [hz,hm,pgN_code ht,psd_view htr]
  rfl
 refine ⟨rfl,⟨y.gp,y.i,q',y.g,y.vt,y.rows.set t x,prints',words',owner'⟩,fell',rfl,rfl,by show (y.rows.set t x).length=_;rw [List.length_set];exact h.rl, ?_,by rw [←hz'];exact e7,by rw [←hz'];exact e6, ?_,hs.sel [0,2,3,4,5,6,7,8,1,9] rfl⟩
 ·show ((F.mem y.i).qs q').length=_
  rw [e3,List.length_set];exact h.ql
 ·rw [←hz']
  show mstR (y.rows.set t x) ((F.mem y.i).qs q') words'.l owner'.l prints'.l=_
  rw [e3,e4,e5,e6]
  exact mstR_put htr htq e1 e2
theorem look_c (F:MemF) (x:PSD F) (code:Ls (Ls Ins)) (words0:Ls Int) (Lk R:Nat) (pw:Value) (W:World) (hF:MemFI Tryz.prog 182 3 204 5 141 F) (hX:x.Rd W) (hP:Blk W x.gp 25 #[code.v,pw, .int .i64 ((Lk:Nat):Int), .int .i64 ((R:Nat):Int)]) (hcode:code.At W) (hok:OkPg (pgN code words0 Lk R)) (hR:PgR (pgN code words0 Lk R)) (hx:PX code words0 Lk R x):
    Rets Tryz.prog 102 [.pointer (some ⟨x.g,0,none⟩)] W (fun v w' =>∃(os:Ls OutL) (ns:Ls (PSD F)),v= .agg #[ns.v,os.v]∧os.l.map OutL.out=lookE (pgN code words0 Lk R) F.m x.st∧ns.l.map PSD.st=lookN (pgN code words0 Lk R) F.m x.st∧(∀y∈ns.l,y.gp=x.gp∧y.rows.length=code.l.length∧y.qs.length=code.l.length∧∀b,Enc.on y b→W.heap.size≤b)∧(∀o∈os.l,∀b,Enc.on o b→W.heap.size≤b∨x.prints.on b)∧Sh0 W w' [.own 39 os, .own 85 ns]):=by
 have hk:=hx.key hok hR
 refine gen Tryz.func102 Tryz.ntmps102 (Sh0.ext (by intro A hA;simp only [List.mem_cons,List.not_mem_nil,or_false] at hA;rcases hA with rfl|rfl|rfl|rfl|rfl|rfl|rfl|rfl|rfl|rfl;exact hX.blk;exact hX.thr;exact hX.row;exact hX.prints;exact hX.mem.blk;exact hX.mem.wa;exact hX.mem.oa;exact (fun A hA=>by obtain rfl:=List.mem_singleton.1 hA;exact hX.mem.x);exact hP;exact hcode) (by intro A hA b hb;simp only [List.mem_cons,List.not_mem_nil,or_false] at hA;rcases hA with rfl|rfl|rfl|rfl|rfl|rfl|rfl|rfl|rfl|rfl<;>exact hb):Sh (fun _=>False) W W [.rblk x.g 173 [.iface (F.mem x.i).T (.pointer (some (F.mem x.i).u)), .pointer (some ⟨x.gp,0,none⟩),x.vt,x.prints.v, .bool false], .at_ (⟨x.vt,x.rows.map ThR.toQ⟩:Ls ThQ), .rgs x.rows, .at_ x.prints, .rblk (F.mem x.i).g0 182 [x.words.v,x.owner.v], .at_ x.words, .at_ x.owner, .ro [(F.mem x.i).X x.q], .rblk x.gp 25 [code.v,pw, .int .i64 ((Lk:Nat):Int), .int .i64 ((R:Nat):Int)], .at_ code]) rfl fun a10 h10=>gG h10<|sK fun _ k11=>gal ti_153 rfl fun b12=>nK k11<|sK fun _ k13=>gRn (oM 1 rfl<|.nl)<|fun a15 w15 h15=>wl_ex (x_call h15 bd_121 rfl rfl rfl rfl rfl (xmoves_c hF x code words0 Lk R pw _ ⟨h15.sh.rblk 1 rfl,h15.sh.at 2 rfl,(fun r hr=>(h15.sh.ok (.rgs x.rows) (List.mem_of_getElem? (i:=3) rfl)) r hr),h15.sh.at 4 rfl,⟨h15.sh.rblk 5 rfl,h15.sh.at 6 rfl,h15.sh.at 7 rfl,(h15.sh.ok _ (List.mem_of_getElem? (i:=8) rfl)) _ (List.mem_singleton.2 rfl)⟩⟩ (h15.sh.rblk 9 rfl) (h15.sh.at 10 rfl) hok hx)) (wanted_none rfl _) ?_;clear h10
 rintro a16 w16 ⟨_,⟨ml,rfl,hml,hmll,hs16⟩,hf16⟩
 have h16:=(⟨hf16,h15.sh.call hs16 (by intro A hA b hb;simp only [List.mem_cons,List.not_mem_nil,or_false] at hA;first|(subst hA;exact Flat.noRd hb)|(rcases hA with rfl|rfl|rfl|rfl|rfl|rfl|rfl|rfl<;>first|exact (hb:False).elim|exact Flat.noRd hb|exact regNoRd hb|exact ((hF.ok _).xrd _ _ hb).elim))⟩:St 68 (fun _=>False) W a16 w16 _ _)
 clear hf16 hs16
 clear h15
 refine gG h16<|gRn (oM 1 rfl<|.nl)<|nK k13<|gK fun _ k17=>gB<|sK fun _ k18=>gRn (oM 1 rfl<|.nl)<|fun a20 w20 h20=>wl_ex (x_call h20 bd_122 rfl rfl rfl rfl rfl (xended_c hF x code words0 Lk R pw _ ⟨h20.sh.rblk 2 rfl,h20.sh.at 3 rfl,(fun r hr=>(h20.sh.ok (.rgs x.rows) (List.mem_of_getElem? (i:=4) rfl)) r hr),h20.sh.at 5 rfl,⟨h20.sh.rblk 6 rfl,h20.sh.at 7 rfl,h20.sh.at 8 rfl,(h20.sh.ok _ (List.mem_of_getElem? (i:=9) rfl)) _ (List.mem_singleton.2 rfl)⟩⟩ (h20.sh.rblk 10 rfl) (h20.sh.at 11 rfl) hok hx)) (wanted_none rfl _) ?_;clear h16
 rintro a21 w21 ⟨_,⟨rfl,hs21⟩,hf21⟩
 have h21:St 68 (fun _=>False) W a21 w21 _ _:=⟨hf21,h20.sh.call0 hs21⟩
 clear hf21 hs21
 clear h20
 refine gG h21<|gRn (oM 1 rfl<|.nl)<|nK k18<|?_;clear h21
 refine gCb rfl (fun hb22=> ?_) fun hb22=> ?_
 ·skip
  refine gK fun _ k23=>gF [0,2,3,8,9,10,11,12] rfl<|fun a25 w25 h25=>x_any ((fun Φ Ψ S a w=>(S 1=false∧S 7=false∧S 9=false∧FrI 68 S Φ Ψ a∧Sh (fun _=>False) W w [.own 179 ml, .blk b12 153 [(.slice none 0 0),(.slice none 0 0)], .rblk x.g 173 [.iface (F.mem x.i).T (.pointer (some (F.mem x.i).u)), .pointer (some ⟨x.gp,0,none⟩),x.vt,x.prints.v, .bool false], .at_ (⟨x.vt,x.rows.map ThR.toQ⟩:Ls ThQ), .rgs x.rows, .at_ x.prints, .rblk (F.mem x.i).g0 182 [x.words.v,x.owner.v], .at_ x.words, .at_ x.owner, .ro [(F.mem x.i).X x.q], .rblk x.gp 25 [code.v,pw, .int .i64 ((Lk:Nat):Int), .int .i64 ((R:Nat):Int)], .at_ code])∨(S 1=true∧S 7=false∧S 9=false∧∃(wd7001:Ls Int),(wd7001.l=x.words.l)∧(∀b,wd7001.on b→W.heap.size≤b)∧FrI 68 S Φ (Ψ++ [(1,14,wd7001.v),(6,19, .agg #[.int .i64 0,wd7001.v,x.prints.v])]) a∧Sh (fun _=>False) W w [.own 3 wd7001, .own 179 ml, .blk b12 153 [(.slice none 0 0),(.slice none 0 0)], .rblk x.g 173 [.iface (F.mem x.i).T (.pointer (some (F.mem x.i).u)), .pointer (some ⟨x.gp,0,none⟩),x.vt,x.prints.v, .bool false], .at_ (⟨x.vt,x.rows.map ThR.toQ⟩:Ls ThQ), .rgs x.rows, .at_ x.prints, .rblk (F.mem x.i).g0 182 [x.words.v,x.owner.v], .at_ x.words, .at_ x.owner, .ro [(F.mem x.i).X x.q], .rblk x.gp 25 [code.v,pw, .int .i64 ((Lk:Nat):Int), .int .i64 ((R:Nat):Int)], .at_ code])∨(S 1=true∧S 7=true∧S 9=false∧∃(wd7001:Ls Int) (v7007:Value),(wd7001.l=x.words.l)∧(∀b,wd7001.on b→W.heap.size≤b)∧FrI 68 S Φ (Ψ++ [(1,14,wd7001.v),(6,19, .agg #[.int .i64 0,wd7001.v,x.prints.v]),(7,20,v7007),(8,21, .agg #[(.slice none 0 0),v7007])]) a∧Sh (fun _=>False) W w [.own 39 (⟨v7007, [(⟨0,wd7001,x.prints⟩:OutL)]⟩:Ls OutL), .at_ wd7001, .own 179 ml, .blk b12 153 [(.slice none 0 0),(.slice none 0 0)], .rblk x.g 173 [.iface (F.mem x.i).T (.pointer (some (F.mem x.i).u)), .pointer (some ⟨x.gp,0,none⟩),x.vt,x.prints.v, .bool false], .at_ (⟨x.vt,x.rows.map ThR.toQ⟩:Ls ThQ), .rgs x.rows, .at_ x.prints, .rblk (F.mem x.i).g0 182 [x.words.v,x.owner.v], .at_ x.words, .at_ x.owner, .ro [(F.mem x.i).X x.q], .rblk x.gp 25 [code.v,pw, .int .i64 ((Lk:Nat):Int), .int .i64 ((R:Nat):Int)], .at_ code])∨(S 1=true∧S 7=true∧S 9=true∧∃(wd7001:Ls Int) (v7007:Value),(wd7001.l=x.words.l)∧(∀b,wd7001.on b→W.heap.size≤b)∧FrI 68 S Φ (Ψ++ [(1,14,wd7001.v),(6,19, .agg #[.int .i64 0,wd7001.v,x.prints.v]),(7,20,v7007),(8,21, .agg #[(.slice none 0 0),v7007])]) a∧Sh (fun _=>False) W w [.own 39 (⟨v7007, [(⟨0,wd7001,x.prints⟩:OutL)]⟩:Ls OutL), .at_ wd7001, .own 179 ml, .blk b12 153 [(.slice none 0 0),v7007], .rblk x.g 173 [.iface (F.mem x.i).T (.pointer (some (F.mem x.i).u)), .pointer (some ⟨x.gp,0,none⟩),x.vt,x.prints.v, .bool false], .at_ (⟨x.vt,x.rows.map ThR.toQ⟩:Ls ThQ), .rgs x.rows, .at_ x.prints, .rblk (F.mem x.i).g0 182 [x.words.v,x.owner.v], .at_ x.words, .at_ x.owner, .ro [(F.mem x.i).X x.q], .rblk x.gp 25 [code.v,pw, .int .i64 ((Lk:Nat):Int), .int .i64 ((R:Nat):Int)], .at_ code])) [(0, .pointer (some ⟨x.g,0,none⟩)),(2, .pointer (some ⟨b12,0,none⟩)),(3,ml.v),(8, .pointer (some ⟨x.g,0,none⟩)),(9,ml.v),(10, .bool (ended (pgN code words0 Lk R) x.st)),(11, .pointer (some ⟨x.g,0,none⟩)),(12, .bool (ended (pgN code words0 Lk R) x.st))] [(0,13, .pointer (some ⟨x.g,0,none⟩)),(2,15, .pointer (some ⟨x.g,0,none⟩)),(3,16, .pointer (some ⟨x.g,0,none⟩)),(4,17, .pointer (some ⟨x.g,3,none⟩)),(5,18,x.prints.v)]) (by kernel_rfl) (by kernel_rfl) (Or.inl (⟨rfl,rfl,rfl,FrI.start h25.fr,h25.sh.drew⟩)) ?_ ?_
  ·intro S i o ho hSi hcl hdep a w hI
   clear h25
   rcases i with _|_|_|_|_|_|_|_|_|_|i
   ·obtain rfl:_=o:=Option.some.inj ho
    rcases hI with ⟨ν1,ν7,ν9,φ,ς⟩|⟨ν1,_⟩|⟨ν1,_⟩|⟨ν1,_⟩
    ·exact sq φ φ.fr0 ς (r_move rfl rfl) 0 rfl rfl rfl rfl rfl rfl fun a hg=>Or.inl (⟨un rfl ν1,un rfl ν7,un rfl ν9,hg,ς⟩)
    ·exact no_way (cA hcl 1 0 rfl ν1) hSi
    ·exact no_way (cA hcl 1 0 rfl ν1) hSi
    ·exact no_way (cA hcl 1 0 rfl ν1) hSi
   ·obtain rfl:_=o:=Option.some.inj ho
    have hd0:S 0=true:=depAt hdep 0 rfl rfl
    rcases hI with ⟨ν1,ν7,ν9,φ,ς⟩|⟨ν1,_⟩|⟨ν1,_⟩|⟨ν1,_⟩
    ·have hs:=St.mk (Fr.cons φ.fr0 (φ.at_ 0 0 13 _ rfl hd0)) ς
     refine step_ex (x_call hs bd_120 rfl rfl rfl rfl rfl (xwords_c hF x code words0 Lk R pw _ ⟨hs.sh.rblk 2 rfl,hs.sh.at 3 rfl,(fun r hr=>(hs.sh.ok (.rgs x.rows) (List.mem_of_getElem? (i:=4) rfl)) r hr),hs.sh.at 5 rfl,⟨hs.sh.rblk 6 rfl,hs.sh.at 7 rfl,hs.sh.at 8 rfl,(hs.sh.ok _ (List.mem_of_getElem? (i:=9) rfl)) _ (List.mem_singleton.2 rfl)⟩⟩ (hs.sh.rblk 10 rfl) (hs.sh.at 11 rfl) hok hx)) (wanted_none rfl _) ?_
     rintro a38 w38 ⟨_,⟨wd38,rfl,hwd38,hs38⟩,hf38⟩ ⟨v0,ht38⟩
     have hnw38:∀b,wd38.on b→W.heap.size≤b:=fun b hb=>Nat.le_trans hs.sh.chg.size (hs38.ownNew 0 rfl b hb)
     have h38:=(⟨hf38,hs.sh.call hs38 (by intro A hA b hb;simp only [List.mem_cons,List.not_mem_nil,or_false] at hA;first|(subst hA;exact Flat.noRd hb)|(rcases hA with rfl|rfl|rfl|rfl|rfl|rfl|rfl|rfl<;>first|exact (hb:False).elim|exact Flat.noRd hb|exact regNoRd hb|exact ((hF.ok _).xrd _ _ hb).elim))⟩:St 68 (fun _=>False) W a38 w38 _ _)
     clear hf38 hs38
     exact Or.inr (Or.inl (⟨upd_self _ _,un rfl ν7,un rfl ν9,wd38,hwd38,hnw38,φ.stepW hcl hSi [0,1,2,3,4] (by kernel_rfl) (by kernel_rfl) ht38 h38.fr.defers (h38.fr.at_ 14 _ rfl) 5 rfl rfl rfl rfl,(h38.sh.sel [0,1,2,3,4,5,6,7,8,9,10,11,12] rfl)⟩))
    ·exact no_way ν1 hSi
    ·exact no_way ν1 hSi
    ·exact no_way ν1 hSi
   ·obtain rfl:_=o:=Option.some.inj ho
    rcases hI with ⟨ν1,ν7,ν9,φ,ς⟩|⟨ν1,ν7,ν9,wd7001,hwd7001,hnw7001,φ,ς⟩|⟨_,ν7,_⟩|⟨_,ν7,_⟩
    ·exact sq φ φ.fr0 ς (r_move rfl rfl) 1 rfl rfl rfl rfl rfl rfl fun a hg=>Or.inl (⟨un rfl ν1,un rfl ν7,un rfl ν9,hg,ς⟩)
    ·exact sq φ φ.fr0 ς (r_move rfl rfl) 1 rfl rfl rfl rfl rfl rfl fun a hg=>Or.inr (Or.inl (⟨un rfl ν1,un rfl ν7,un rfl ν9,wd7001,hwd7001,hnw7001,hg,ς⟩))
    ·exact no_way (cA hcl 7 2 rfl ν7) hSi
    ·exact no_way (cA hcl 7 2 rfl ν7) hSi
   ·obtain rfl:_=o:=Option.some.inj ho
    have hd2:S 2=true:=depAt hdep 0 rfl rfl
    rcases hI with ⟨ν1,ν7,ν9,φ,ς⟩|⟨ν1,ν7,ν9,wd7001,hwd7001,hnw7001,φ,ς⟩|⟨_,ν7,_⟩|⟨_,ν7,_⟩
    ·exact sq φ (Fr.cons φ.fr0 (φ.at_ 1 2 15 _ rfl hd2)) ς (r_nil rfl rfl) 2 rfl rfl rfl rfl rfl rfl fun a hg=>Or.inl (⟨un rfl ν1,un rfl ν7,un rfl ν9,hg,ς⟩)
    ·exact sq φ (Fr.cons φ.fr0 (φ.at_ 1 2 15 _ rfl hd2)) ς (r_nil rfl rfl) 2 rfl rfl rfl rfl rfl rfl fun a hg=>Or.inr (Or.inl (⟨un rfl ν1,un rfl ν7,un rfl ν9,wd7001,hwd7001,hnw7001,hg,ς⟩))
    ·exact no_way (cA hcl 7 3 rfl ν7) hSi
    ·exact no_way (cA hcl 7 3 rfl ν7) hSi
   ·obtain rfl:_=o:=Option.some.inj ho
    have hd3:S 3=true:=depAt hdep 0 rfl rfl
    rcases hI with ⟨ν1,ν7,ν9,φ,ς⟩|⟨ν1,ν7,ν9,wd7001,hwd7001,hnw7001,φ,ς⟩|⟨_,ν7,_⟩|⟨_,ν7,_⟩
    ·exact sq φ (Fr.cons φ.fr0 (φ.at_ 2 3 16 _ rfl hd3)) ς (r_fieldB (r:=3) fl_173_3 rfl rfl rfl) 3 rfl rfl rfl rfl rfl rfl fun a hg=>Or.inl (⟨un rfl ν1,un rfl ν7,un rfl ν9,hg,ς⟩)
    ·exact sq φ (Fr.cons φ.fr0 (φ.at_ 2 3 16 _ rfl hd3)) ς (r_fieldB (r:=3) fl_173_3 rfl rfl rfl) 3 rfl rfl rfl rfl rfl rfl fun a hg=>Or.inr (Or.inl (⟨un rfl ν1,un rfl ν7,un rfl ν9,wd7001,hwd7001,hnw7001,hg,ς⟩))
    ·exact no_way (cA hcl 7 4 rfl ν7) hSi
    ·exact no_way (cA hcl 7 4 rfl ν7) hSi
   ·obtain rfl:_=o:=Option.some.inj ho
    have hd4:S 4=true:=depAt hdep 0 rfl rfl
    rcases hI with ⟨ν1,ν7,ν9,φ,ς⟩|⟨ν1,ν7,ν9,wd7001,hwd7001,hnw7001,φ,ς⟩|⟨_,ν7,_⟩|⟨_,ν7,_⟩
    ·exact sq φ (Fr.cons φ.fr0 (φ.at_ 3 4 17 _ rfl hd4)) ς (r_ldbR ti_23 rfl rfl (fun w h=>h.rblk 2 rfl) rfl) 4 rfl rfl rfl rfl rfl rfl fun a hg=>Or.inl (⟨un rfl ν1,un rfl ν7,un rfl ν9,hg,ς⟩)
    ·exact sq φ (Fr.cons φ.fr0 (φ.at_ 3 4 17 _ rfl hd4)) ς (r_ldbR ti_23 rfl rfl (fun w h=>h.rblk 3 rfl) rfl) 4 rfl rfl rfl rfl rfl rfl fun a hg=>Or.inr (Or.inl (⟨un rfl ν1,un rfl ν7,un rfl ν9,wd7001,hwd7001,hnw7001,hg,ς⟩))
    ·exact no_way (cA hcl 7 5 rfl ν7) hSi
    ·exact no_way (cA hcl 7 5 rfl ν7) hSi
   ·obtain rfl:_=o:=Option.some.inj ho
    have hd1:S 1=true:=depAt hdep 0 rfl rfl
    have hd5:S 5=true:=depAt hdep 1 rfl rfl
    rcases hI with ⟨ν1,_⟩|⟨ν1,ν7,ν9,wd7001,hwd7001,hnw7001,φ,ς⟩|⟨_,ν7,_⟩|⟨_,ν7,_⟩
    ·exact no_way hd1 ν1
    ·have hs:=St.mk (Fr.cons (Fr.cons φ.fr0 (φ.at_ 5 1 14 _ rfl hd1)) (φ.at_ 4 5 18 _ rfl hd5)) ς
     exact sq φ (Fr.cons (Fr.cons φ.fr0 (φ.at_ 5 1 14 _ rfl hd1)) (φ.at_ 4 5 18 _ rfl hd5)) ς (r_build (cs:= [.int .i64 0,wd7001.v,x.prints.v]) rfl rfl (by obtain ⟨A48,n48,c48,(e48:x.prints.v=_)⟩:=((hs.sh.at 6 rfl)).form;rw [e48];obtain ⟨A47,n47,c47,(e47:wd7001.v=_)⟩:=((hs.sh.own 0 rfl)).form;rw [e47];kernel_rfl)) 6 rfl rfl rfl rfl rfl rfl fun a hg=>Or.inr (Or.inl (⟨un rfl ν1,un rfl ν7,un rfl ν9,wd7001,hwd7001,hnw7001,hg,ς⟩))
    ·exact no_way (cA hcl 7 6 rfl ν7) hSi
    ·exact no_way (cA hcl 7 6 rfl ν7) hSi
   ·obtain rfl:_=o:=Option.some.inj ho
    have hd6:S 6=true:=depAt hdep 0 rfl rfl
    rcases hI with ⟨ν1,_⟩|⟨ν1,ν7,ν9,wd7001,hwd7001,hnw7001,φ,ς⟩|⟨_,ν7,_⟩|⟨_,ν7,_⟩
    ·exact no_way (cA hcl 6 1 rfl hd6) ν1
    ·have hs:=St.mk (Fr.cons φ.fr0 (φ.at_ 6 6 19 _ rfl hd6)) ς
     have h50:St _ _ _ _ _ _ _:=⟨hs.fr,hs.sh.share 0 rfl⟩
     refine step_ex (x_lit (n:=1) (cs:= [.int .i64 0,wd7001.v,x.prints.v]) ([(⟨0,wd7001,x.prints⟩:OutL)]:List OutL) h50 sl_35 ti_39 rfl rfl rfl (by decide) rfl (by kernel_rfl) rfl (fun q hq w h=>by obtain rfl:q=0:=(by simpa using hq);exact ⟨(h.at 0 rfl),(h.at 6 rfl)⟩) (fun q hq b hb=>by obtain rfl:q=0:=(by simpa using hq);rcases hb with hb|hb;exact ⟨_,List.mem_of_getElem? (i:=0) rfl,hb⟩;exact ⟨_,List.mem_of_getElem? (i:=6) rfl,hb⟩) rfl rfl) (wanted_none rfl _) ?_
     rintro a51 w51 ⟨v51,h51⟩ ⟨v0,ht51⟩
     exact Or.inr (Or.inr (Or.inl (⟨un rfl ν1,upd_self _ _,un rfl ν9,wd7001,v51,hwd7001,hnw7001,φ.stepW hcl hSi [0,1,2,3,4,5,6] (by kernel_rfl) (by kernel_rfl) ht51 h51.fr.defers (h51.fr.at_ 20 _ rfl) 7 rfl rfl rfl rfl,(h51.sh.sel [0,1,2,3,4,5,6,7,8,9,10,11,12,13] rfl)⟩)))
    ·exact no_way ν7 hSi
    ·exact no_way ν7 hSi
   ·obtain rfl:_=o:=Option.some.inj ho
    have hd7:S 7=true:=depAt hdep 0 rfl rfl
    rcases hI with ⟨ν1,_⟩|⟨_,ν7,_⟩|⟨ν1,ν7,ν9,wd7001,v7007,hwd7001,hnw7001,φ,ς⟩|⟨_,_,ν9,_⟩
    ·exact no_way (cA hcl 7 1 rfl hd7) ν1
    ·exact no_way hd7 ν7
    ·have hs:=St.mk (Fr.cons φ.fr0 (φ.at_ 7 7 20 _ rfl hd7)) ς
     exact sq φ (Fr.cons φ.fr0 (φ.at_ 7 7 20 _ rfl hd7)) ς (r_build (cs:= [(.slice none 0 0),v7007]) rfl rfl (by obtain ⟨A52,n52,c52,(e52:v7007=_)⟩:=((hs.sh.own 0 rfl)).form;rw [e52];kernel_rfl)) 8 rfl rfl rfl rfl rfl rfl fun a hg=>Or.inr (Or.inr (Or.inl (⟨un rfl ν1,un rfl ν7,un rfl ν9,wd7001,v7007,hwd7001,hnw7001,hg,ς⟩)))
    ·exact no_way (cA hcl 9 8 rfl ν9) hSi
   ·obtain rfl:_=o:=Option.some.inj ho
    have hd8:S 8=true:=depAt hdep 0 rfl rfl
    have hd1:S 1=true:=depAt hdep 1 rfl rfl
    have hd7:S 7=true:=depAt hdep 9 rfl rfl
    rcases hI with ⟨ν1,_⟩|⟨_,ν7,_⟩|⟨ν1,ν7,ν9,wd7001,v7007,hwd7001,hnw7001,φ,ς⟩|⟨_,_,ν9,_⟩
    ·exact no_way hd1 ν1
    ·exact no_way hd7 ν7
    ·have hs:=St.mk (Fr.cons φ.fr0 (φ.at_ 8 8 21 _ rfl hd8)) ς
     refine step_ex (x_stb (i:=3) (vs:= [(.slice none 0 0),v7007]) (cs' := [(.slice none 0 0),v7007]) hs ti_153 rfl rfl rfl rfl rfl rfl rfl (allOne_cons rfl (allOne_cons ((hs.sh.own 0 rfl)).one allOne_nil)) (Nat.le_of_ble_eq_true rfl) rfl) (wanted_none rfl _) ?_
     rintro a54 w54 h54 ⟨v0,ht54⟩
     exact Or.inr (Or.inr (Or.inr (⟨un rfl ν1,un rfl ν7,upd_self _ _,wd7001,v7007,hwd7001,hnw7001,φ.noneW hcl hSi [0,1,2,3,4,5,6,7,8] (by kernel_rfl) (by kernel_rfl) ht54 h54.fr.defers rfl,(h54.sh.sel [0,1,2,3,4,5,6,7,8,9,10,11,12,13] rfl)⟩)))
    ·exact no_way ν9 hSi
   · simp at ho
  intro S hall a w hI
  clear h25
  rcases hI with ⟨ν1,ν7,ν9,φ,ς⟩|⟨ν1,ν7,ν9,wd7001,hwd7001,hnw7001,φ,ς⟩|⟨ν1,ν7,ν9,wd7001,v7007,hwd7001,hnw7001,φ,ς⟩|⟨ν1,ν7,ν9,wd7001,v7007,hwd7001,hnw7001,φ,ς⟩
  · exact no_way (hall 1 (by decide)) ν1
  · exact no_way (hall 7 (by decide)) ν7
  · exact no_way (hall 9 (by decide)) ν9
  have h55:St 68 (fun _=>False) W a w _ _:=⟨φ.fr0,ς⟩
  clear hall φ ς ν1 ν7 ν9
  refine gG h55<|hK k23<|gR<|fun a56 w56 h56=> ?_;clear h55
  try simp only [Exit.then,Exit.inBlock]
  refine x_ret1c (fn:=Tryz.f102) (t:=2) (i:=3) ti_153 rfl h56 rfl rfl rfl ?_
  have h57:=h56.nil (α:=PSD F) 85
  clear h56
  obtain ⟨hl1_,hl2_⟩:lookE (pgN code words0 Lk R) F.m x.st=_∧lookN (pgN code words0 Lk R) F.m x.st= []:=look_ended hb22
  refine ⟨⟨v7007, [(⟨0,wd7001,x.prints⟩:OutL)]⟩,⟨.slice none 0 0, []⟩,rfl,by rw [hl1_];simp only [List.map_cons,List.map_nil,OutL.out,hwd7001];rfl,by rw [hl2_];rfl,fun y hy=>(by cases hy),fun o ho b hb=> ?_,(h57.sh.sel [1,0] rfl)⟩
  obtain rfl:=List.mem_singleton.1 ho
  exact hb.elim (fun h=> .inl (hnw7001 b h)) (fun h=> .inr h)
 refine sK fun _ k58=>gNl (aO 0 rfl) fun hl59=>gRn (oM 1 rfl<|oln sl_175 (aO 0 rfl) rfl<|oeqN _ 0 rfl<|oM 1 rfl<|.nl)<|nK k58<|gcd rfl (fun hb60 hp60=> ?_) fun hb60 hp60=> ?_
 ·skip
  refine gK fun _ k61=>gF [0,2,3,8,9,10,11,12,22,23,24,25] rfl<|fun a63 w63 h63=>x_any ((fun Φ Ψ S a w=>(S 1=false∧S 7=false∧S 9=false∧FrI 68 S Φ Ψ a∧Sh (fun _=>False) W w [.own 179 ml, .blk b12 153 [(.slice none 0 0),(.slice none 0 0)], .rblk x.g 173 [.iface (F.mem x.i).T (.pointer (some (F.mem x.i).u)), .pointer (some ⟨x.gp,0,none⟩),x.vt,x.prints.v, .bool false], .at_ (⟨x.vt,x.rows.map ThR.toQ⟩:Ls ThQ), .rgs x.rows, .at_ x.prints, .rblk (F.mem x.i).g0 182 [x.words.v,x.owner.v], .at_ x.words, .at_ x.owner, .ro [(F.mem x.i).X x.q], .rblk x.gp 25 [code.v,pw, .int .i64 ((Lk:Nat):Int), .int .i64 ((R:Nat):Int)], .at_ code])∨(S 1=true∧S 7=false∧S 9=false∧∃(wd7101:Ls Int),(wd7101.l=x.words.l)∧(∀b,wd7101.on b→W.heap.size≤b)∧FrI 68 S Φ (Ψ++ [(1,27,wd7101.v),(6,32, .agg #[.int .i64 2,wd7101.v,x.prints.v])]) a∧Sh (fun _=>False) W w [.own 3 wd7101, .own 179 ml, .blk b12 153 [(.slice none 0 0),(.slice none 0 0)], .rblk x.g 173 [.iface (F.mem x.i).T (.pointer (some (F.mem x.i).u)), .pointer (some ⟨x.gp,0,none⟩),x.vt,x.prints.v, .bool false], .at_ (⟨x.vt,x.rows.map ThR.toQ⟩:Ls ThQ), .rgs x.rows, .at_ x.prints, .rblk (F.mem x.i).g0 182 [x.words.v,x.owner.v], .at_ x.words, .at_ x.owner, .ro [(F.mem x.i).X x.q], .rblk x.gp 25 [code.v,pw, .int .i64 ((Lk:Nat):Int), .int .i64 ((R:Nat):Int)], .at_ code])∨(S 1=true∧S 7=true∧S 9=false∧∃(wd7101:Ls Int) (v7107:Value),(wd7101.l=x.words.l)∧(∀b,wd7101.on b→W.heap.size≤b)∧FrI 68 S Φ (Ψ++ [(1,27,wd7101.v),(6,32, .agg #[.int .i64 2,wd7101.v,x.prints.v]),(7,33,v7107),(8,34, .agg #[(.slice none 0 0),v7107])]) a∧Sh (fun _=>False) W w [.own 39 (⟨v7107, [(⟨2,wd7101,x.prints⟩:OutL)]⟩:Ls OutL), .at_ wd7101, .own 179 ml, .blk b12 153 [(.slice none 0 0),(.slice none 0 0)], .rblk x.g 173 [.iface (F.mem x.i).T (.pointer (some (F.mem x.i).u)), .pointer (some ⟨x.gp,0,none⟩),x.vt,x.prints.v, .bool false], .at_ (⟨x.vt,x.rows.map ThR.toQ⟩:Ls ThQ), .rgs x.rows, .at_ x.prints, .rblk (F.mem x.i).g0 182 [x.words.v,x.owner.v], .at_ x.words, .at_ x.owner, .ro [(F.mem x.i).X x.q], .rblk x.gp 25 [code.v,pw, .int .i64 ((Lk:Nat):Int), .int .i64 ((R:Nat):Int)], .at_ code])∨(S 1=true∧S 7=true∧S 9=true∧∃(wd7101:Ls Int) (v7107:Value),(wd7101.l=x.words.l)∧(∀b,wd7101.on b→W.heap.size≤b)∧FrI 68 S Φ (Ψ++ [(1,27,wd7101.v),(6,32, .agg #[.int .i64 2,wd7101.v,x.prints.v]),(7,33,v7107),(8,34, .agg #[(.slice none 0 0),v7107])]) a∧Sh (fun _=>False) W w [.own 39 (⟨v7107, [(⟨2,wd7101,x.prints⟩:OutL)]⟩:Ls OutL), .at_ wd7101, .own 179 ml, .blk b12 153 [(.slice none 0 0),v7107], .rblk x.g 173 [.iface (F.mem x.i).T (.pointer (some (F.mem x.i).u)), .pointer (some ⟨x.gp,0,none⟩),x.vt,x.prints.v, .bool false], .at_ (⟨x.vt,x.rows.map ThR.toQ⟩:Ls ThQ), .rgs x.rows, .at_ x.prints, .rblk (F.mem x.i).g0 182 [x.words.v,x.owner.v], .at_ x.words, .at_ x.owner, .ro [(F.mem x.i).X x.q], .rblk x.gp 25 [code.v,pw, .int .i64 ((Lk:Nat):Int), .int .i64 ((R:Nat):Int)], .at_ code])) [(0, .pointer (some ⟨x.g,0,none⟩)),(2, .pointer (some ⟨b12,0,none⟩)),(3,ml.v),(8, .pointer (some ⟨x.g,0,none⟩)),(9,ml.v),(10, .bool (ended (pgN code words0 Lk R) x.st)),(11, .pointer (some ⟨x.g,0,none⟩)),(12, .bool (ended (pgN code words0 Lk R) x.st)),(22, .bool (decide (ml.l.length=0))),(23,ml.v),(24, .int .i64 ((ml.l.length:Nat):Int)),(25, .bool (decide (ml.l.length=0)))] [(0,26, .pointer (some ⟨x.g,0,none⟩)),(2,28, .pointer (some ⟨x.g,0,none⟩)),(3,29, .pointer (some ⟨x.g,0,none⟩)),(4,30, .pointer (some ⟨x.g,3,none⟩)),(5,31,x.prints.v)]) (by kernel_rfl) (by kernel_rfl) (Or.inl (⟨rfl,rfl,rfl,FrI.start h63.fr,h63.sh.drew⟩)) ?_ ?_
  ·intro S i o ho hSi hcl hdep a w hI
   clear h63
   rcases i with _|_|_|_|_|_|_|_|_|_|i
   ·obtain rfl:_=o:=Option.some.inj ho
    rcases hI with ⟨ν1,ν7,ν9,φ,ς⟩|⟨ν1,_⟩|⟨ν1,_⟩|⟨ν1,_⟩
    ·exact sq φ φ.fr0 ς (r_move rfl rfl) 0 rfl rfl rfl rfl rfl rfl fun a hg=>Or.inl (⟨un rfl ν1,un rfl ν7,un rfl ν9,hg,ς⟩)
    ·exact no_way (cA hcl 1 0 rfl ν1) hSi
    ·exact no_way (cA hcl 1 0 rfl ν1) hSi
    ·exact no_way (cA hcl 1 0 rfl ν1) hSi
   ·obtain rfl:_=o:=Option.some.inj ho
    have hd0:S 0=true:=depAt hdep 0 rfl rfl
    rcases hI with ⟨ν1,ν7,ν9,φ,ς⟩|⟨ν1,_⟩|⟨ν1,_⟩|⟨ν1,_⟩
    ·have hs:=St.mk (Fr.cons φ.fr0 (φ.at_ 0 0 26 _ rfl hd0)) ς
     refine step_ex (x_call hs bd_120 rfl rfl rfl rfl rfl (xwords_c hF x code words0 Lk R pw _ ⟨hs.sh.rblk 2 rfl,hs.sh.at 3 rfl,(fun r hr=>(hs.sh.ok (.rgs x.rows) (List.mem_of_getElem? (i:=4) rfl)) r hr),hs.sh.at 5 rfl,⟨hs.sh.rblk 6 rfl,hs.sh.at 7 rfl,hs.sh.at 8 rfl,(hs.sh.ok _ (List.mem_of_getElem? (i:=9) rfl)) _ (List.mem_singleton.2 rfl)⟩⟩ (hs.sh.rblk 10 rfl) (hs.sh.at 11 rfl) hok hx)) (wanted_none rfl _) ?_
     rintro a76 w76 ⟨_,⟨wd76,rfl,hwd76,hs76⟩,hf76⟩ ⟨v0,ht76⟩
     have hnw76:∀b,wd76.on b→W.heap.size≤b:=fun b hb=>Nat.le_trans hs.sh.chg.size (hs76.ownNew 0 rfl b hb)
     have h76:=(⟨hf76,hs.sh.call hs76 (by intro A hA b hb;simp only [List.mem_cons,List.not_mem_nil,or_false] at hA;first|(subst hA;exact Flat.noRd hb)|(rcases hA with rfl|rfl|rfl|rfl|rfl|rfl|rfl|rfl<;>first|exact (hb:False).elim|exact Flat.noRd hb|exact regNoRd hb|exact ((hF.ok _).xrd _ _ hb).elim))⟩:St 68 (fun _=>False) W a76 w76 _ _)
     clear hf76 hs76
     exact Or.inr (Or.inl (⟨upd_self _ _,un rfl ν7,un rfl ν9,wd76,hwd76,hnw76,φ.stepW hcl hSi [0,1,2,3,4] (by kernel_rfl) (by kernel_rfl) ht76 h76.fr.defers (h76.fr.at_ 27 _ rfl) 5 rfl rfl rfl rfl,(h76.sh.sel [0,1,2,3,4,5,6,7,8,9,10,11,12] rfl)⟩))
    ·exact no_way ν1 hSi
    ·exact no_way ν1 hSi
    ·exact no_way ν1 hSi
   ·obtain rfl:_=o:=Option.some.inj ho
    rcases hI with ⟨ν1,ν7,ν9,φ,ς⟩|⟨ν1,ν7,ν9,wd7101,hwd7101,hnw7101,φ,ς⟩|⟨_,ν7,_⟩|⟨_,ν7,_⟩
    ·exact sq φ φ.fr0 ς (r_move rfl rfl) 1 rfl rfl rfl rfl rfl rfl fun a hg=>Or.inl (⟨un rfl ν1,un rfl ν7,un rfl ν9,hg,ς⟩)
    ·exact sq φ φ.fr0 ς (r_move rfl rfl) 1 rfl rfl rfl rfl rfl rfl fun a hg=>Or.inr (Or.inl (⟨un rfl ν1,un rfl ν7,un rfl ν9,wd7101,hwd7101,hnw7101,hg,ς⟩))
    ·exact no_way (cA hcl 7 2 rfl ν7) hSi
    ·exact no_way (cA hcl 7 2 rfl ν7) hSi
   ·obtain rfl:_=o:=Option.some.inj ho
    have hd2:S 2=true:=depAt hdep 0 rfl rfl
    rcases hI with ⟨ν1,ν7,ν9,φ,ς⟩|⟨ν1,ν7,ν9,wd7101,hwd7101,hnw7101,φ,ς⟩|⟨_,ν7,_⟩|⟨_,ν7,_⟩
    ·exact sq φ (Fr.cons φ.fr0 (φ.at_ 1 2 28 _ rfl hd2)) ς (r_nil rfl rfl) 2 rfl rfl rfl rfl rfl rfl fun a hg=>Or.inl (⟨un rfl ν1,un rfl ν7,un rfl ν9,hg,ς⟩)
    ·exact sq φ (Fr.cons φ.fr0 (φ.at_ 1 2 28 _ rfl hd2)) ς (r_nil rfl rfl) 2 rfl rfl rfl rfl rfl rfl fun a hg=>Or.inr (Or.inl (⟨un rfl ν1,un rfl ν7,un rfl ν9,wd7101,hwd7101,hnw7101,hg,ς⟩))
    ·exact no_way (cA hcl 7 3 rfl ν7) hSi
    ·exact no_way (cA hcl 7 3 rfl ν7) hSi
   ·obtain rfl:_=o:=Option.some.inj ho
    have hd3:S 3=true:=depAt hdep 0 rfl rfl
    rcases hI with ⟨ν1,ν7,ν9,φ,ς⟩|⟨ν1,ν7,ν9,wd7101,hwd7101,hnw7101,φ,ς⟩|⟨_,ν7,_⟩|⟨_,ν7,_⟩
    ·exact sq φ (Fr.cons φ.fr0 (φ.at_ 2 3 29 _ rfl hd3)) ς (r_fieldB (r:=3) fl_173_3 rfl rfl rfl) 3 rfl rfl rfl rfl rfl rfl fun a hg=>Or.inl (⟨un rfl ν1,un rfl ν7,un rfl ν9,hg,ς⟩)
    ·exact sq φ (Fr.cons φ.fr0 (φ.at_ 2 3 29 _ rfl hd3)) ς (r_fieldB (r:=3) fl_173_3 rfl rfl rfl) 3 rfl rfl rfl rfl rfl rfl fun a hg=>Or.inr (Or.inl (⟨un rfl ν1,un rfl ν7,un rfl ν9,wd7101,hwd7101,hnw7101,hg,ς⟩))
    ·exact no_way (cA hcl 7 4 rfl ν7) hSi
    ·exact no_way (cA hcl 7 4 rfl ν7) hSi
   ·obtain rfl:_=o:=Option.some.inj ho
    have hd4:S 4=true:=depAt hdep 0 rfl rfl
    rcases hI with ⟨ν1,ν7,ν9,φ,ς⟩|⟨ν1,ν7,ν9,wd7101,hwd7101,hnw7101,φ,ς⟩|⟨_,ν7,_⟩|⟨_,ν7,_⟩
    ·exact sq φ (Fr.cons φ.fr0 (φ.at_ 3 4 30 _ rfl hd4)) ς (r_ldbR ti_23 rfl rfl (fun w h=>h.rblk 2 rfl) rfl) 4 rfl rfl rfl rfl rfl rfl fun a hg=>Or.inl (⟨un rfl ν1,un rfl ν7,un rfl ν9,hg,ς⟩)
    ·exact sq φ (Fr.cons φ.fr0 (φ.at_ 3 4 30 _ rfl hd4)) ς (r_ldbR ti_23 rfl rfl (fun w h=>h.rblk 3 rfl) rfl) 4 rfl rfl rfl rfl rfl rfl fun a hg=>Or.inr (Or.inl (⟨un rfl ν1,un rfl ν7,un rfl ν9,wd7101,hwd7101,hnw7101,hg,ς⟩))
    ·exact no_way (cA hcl 7 5 rfl ν7) hSi
    ·exact no_way (cA hcl 7 5 rfl ν7) hSi
   ·obtain rfl:_=o:=Option.some.inj ho
    have hd1:S 1=true:=depAt hdep 0 rfl rfl
    have hd5:S 5=true:=depAt hdep 1 rfl rfl
    rcases hI with ⟨ν1,_⟩|⟨ν1,ν7,ν9,wd7101,hwd7101,hnw7101,φ,ς⟩|⟨_,ν7,_⟩|⟨_,ν7,_⟩
    ·exact no_way hd1 ν1
    ·have hs:=St.mk (Fr.cons (Fr.cons φ.fr0 (φ.at_ 5 1 27 _ rfl hd1)) (φ.at_ 4 5 31 _ rfl hd5)) ς
     exact sq φ (Fr.cons (Fr.cons φ.fr0 (φ.at_ 5 1 27 _ rfl hd1)) (φ.at_ 4 5 31 _ rfl hd5)) ς (r_build (cs:= [.int .i64 2,wd7101.v,x.prints.v]) rfl rfl (by obtain ⟨A86,n86,c86,(e86:x.prints.v=_)⟩:=((hs.sh.at 6 rfl)).form;rw [e86];obtain ⟨A85,n85,c85,(e85:wd7101.v=_)⟩:=((hs.sh.own 0 rfl)).form;rw [e85];kernel_rfl)) 6 rfl rfl rfl rfl rfl rfl fun a hg=>Or.inr (Or.inl (⟨un rfl ν1,un rfl ν7,un rfl ν9,wd7101,hwd7101,hnw7101,hg,ς⟩))
    ·exact no_way (cA hcl 7 6 rfl ν7) hSi
    ·exact no_way (cA hcl 7 6 rfl ν7) hSi
   ·obtain rfl:_=o:=Option.some.inj ho
    have hd6:S 6=true:=depAt hdep 0 rfl rfl
    rcases hI with ⟨ν1,_⟩|⟨ν1,ν7,ν9,wd7101,hwd7101,hnw7101,φ,ς⟩|⟨_,ν7,_⟩|⟨_,ν7,_⟩
    ·exact no_way (cA hcl 6 1 rfl hd6) ν1
    ·have hs:=St.mk (Fr.cons φ.fr0 (φ.at_ 6 6 32 _ rfl hd6)) ς
     have h88:St _ _ _ _ _ _ _:=⟨hs.fr,hs.sh.share 0 rfl⟩
     refine step_ex (x_lit (n:=1) (cs:= [.int .i64 2,wd7101.v,x.prints.v]) ([(⟨2,wd7101,x.prints⟩:OutL)]:List OutL) h88 sl_35 ti_39 rfl rfl rfl (by decide) rfl (by kernel_rfl) rfl (fun q hq w h=>by obtain rfl:q=0:=(by simpa using hq);exact ⟨(h.at 0 rfl),(h.at 6 rfl)⟩) (fun q hq b hb=>by obtain rfl:q=0:=(by simpa using hq);rcases hb with hb|hb;exact ⟨_,List.mem_of_getElem? (i:=0) rfl,hb⟩;exact ⟨_,List.mem_of_getElem? (i:=6) rfl,hb⟩) rfl rfl) (wanted_none rfl _) ?_
     rintro a89 w89 ⟨v89,h89⟩ ⟨v0,ht89⟩
     exact Or.inr (Or.inr (Or.inl (⟨un rfl ν1,upd_self _ _,un rfl ν9,wd7101,v89,hwd7101,hnw7101,φ.stepW hcl hSi [0,1,2,3,4,5,6] (by kernel_rfl) (by kernel_rfl) ht89 h89.fr.defers (h89.fr.at_ 33 _ rfl) 7 rfl rfl rfl rfl,(h89.sh.sel [0,1,2,3,4,5,6,7,8,9,10,11,12,13] rfl)⟩)))
    ·exact no_way ν7 hSi
    ·exact no_way ν7 hSi
   ·obtain rfl:_=o:=Option.some.inj ho
    have hd7:S 7=true:=depAt hdep 0 rfl rfl
    rcases hI with ⟨ν1,_⟩|⟨_,ν7,_⟩|⟨ν1,ν7,ν9,wd7101,v7107,hwd7101,hnw7101,φ,ς⟩|⟨_,_,ν9,_⟩
    ·exact no_way (cA hcl 7 1 rfl hd7) ν1
    ·exact no_way hd7 ν7
    ·have hs:=St.mk (Fr.cons φ.fr0 (φ.at_ 7 7 33 _ rfl hd7)) ς
     exact sq φ (Fr.cons φ.fr0 (φ.at_ 7 7 33 _ rfl hd7)) ς (r_build (cs:= [(.slice none 0 0),v7107]) rfl rfl (by obtain ⟨A90,n90,c90,(e90:v7107=_)⟩:=((hs.sh.own 0 rfl)).form;rw [e90];kernel_rfl)) 8 rfl rfl rfl rfl rfl rfl fun a hg=>Or.inr (Or.inr (Or.inl (⟨un rfl ν1,un rfl ν7,un rfl ν9,wd7101,v7107,hwd7101,hnw7101,hg,ς⟩)))
    ·exact no_way (cA hcl 9 8 rfl ν9) hSi
   ·obtain rfl:_=o:=Option.some.inj ho
    have hd8:S 8=true:=depAt hdep 0 rfl rfl
    have hd1:S 1=true:=depAt hdep 1 rfl rfl
    have hd7:S 7=true:=depAt hdep 9 rfl rfl
    rcases hI with ⟨ν1,_⟩|⟨_,ν7,_⟩|⟨ν1,ν7,ν9,wd7101,v7107,hwd7101,hnw7101,φ,ς⟩|⟨_,_,ν9,_⟩
    ·exact no_way hd1 ν1
    ·exact no_way hd7 ν7
    ·have hs:=St.mk (Fr.cons φ.fr0 (φ.at_ 8 8 34 _ rfl hd8)) ς
     refine step_ex (x_stb (i:=3) (vs:= [(.slice none 0 0),v7107]) (cs' := [(.slice none 0 0),v7107]) hs ti_153 rfl rfl rfl rfl rfl rfl rfl (allOne_cons rfl (allOne_cons ((hs.sh.own 0 rfl)).one allOne_nil)) (Nat.le_of_ble_eq_true rfl) rfl) (wanted_none rfl _) ?_
     rintro a92 w92 h92 ⟨v0,ht92⟩
     exact Or.inr (Or.inr (Or.inr (⟨un rfl ν1,un rfl ν7,upd_self _ _,wd7101,v7107,hwd7101,hnw7101,φ.noneW hcl hSi [0,1,2,3,4,5,6,7,8] (by kernel_rfl) (by kernel_rfl) ht92 h92.fr.defers rfl,(h92.sh.sel [0,1,2,3,4,5,6,7,8,9,10,11,12,13] rfl)⟩)))
    ·exact no_way ν9 hSi
   · simp at ho
  intro S hall a w hI
  clear h63
  rcases hI with ⟨ν1,ν7,ν9,φ,ς⟩|⟨ν1,ν7,ν9,wd7101,hwd7101,hnw7101,φ,ς⟩|⟨ν1,ν7,ν9,wd7101,v7107,hwd7101,hnw7101,φ,ς⟩|⟨ν1,ν7,ν9,wd7101,v7107,hwd7101,hnw7101,φ,ς⟩
  · exact no_way (hall 1 (by decide)) ν1
  · exact no_way (hall 7 (by decide)) ν7
  · exact no_way (hall 9 (by decide)) ν9
  have h93:St 68 (fun _=>False) W a w _ _:=⟨φ.fr0,ς⟩
  clear hall φ ς ν1 ν7 ν9
  refine gG h93<|hK k61<|gR<|fun a94 w94 h94=> ?_;clear h93
  try simp only [Exit.then,Exit.inBlock]
  refine x_ret1c (fn:=Tryz.f102) (t:=2) (i:=3) ti_153 rfl h94 rfl rfl rfl ?_
  have h95:=h94.nil (α:=PSD F) 85
  clear h94
  obtain ⟨hl1_,hl2_⟩:lookE (pgN code words0 Lk R) F.m x.st=_∧lookN (pgN code words0 Lk R) F.m x.st= []:=look_stuck hb22 (by rw [←hml];omega)
  refine ⟨⟨v7107, [(⟨2,wd7101,x.prints⟩:OutL)]⟩,⟨.slice none 0 0, []⟩,rfl,by rw [hl1_];simp only [List.map_cons,List.map_nil,OutL.out,hwd7101];rfl,by rw [hl2_];rfl,fun y hy=>(by cases hy),fun o ho b hb=> ?_,(h95.sh.sel [1,0] rfl)⟩
  obtain rfl:=List.mem_singleton.1 ho
  exact hb.elim (fun h=> .inl (hnw7101 b h)) (fun h=> .inr h)
 refine gS<|hK k17<|sK fun _ k96=>gal ti_153 rfl fun b97=>nK k96<|gK fun _ k98=>sG (oM 1 rfl<|oln sl_175 (aO 1 rfl) rfl<|oM 1 rfl<|.nl)<|gB<|fun a102 w102 h102=> ?_
 have h101:=h102.nil (α:=PSD F) 85
 clear h102
 have h103:=h101.nil (α:=OutL) 39
 clear h101
 refine x_loop (fun m a w=>∃(k:Nat) (ns:List (PSD F)) (os:List OutL) (vn vo:Value),(k≤ml.l.length)∧(ns.map PSD.st=(ml.l.take k).flatMap (nextV (pgN code words0 Lk R) F.m x.st))∧(os.map OutL.out=(ml.l.take k).flatMap (endsV (pgN code words0 Lk R) F.m x.st))∧(∀y∈ns,y.gp=x.gp∧y.rows.length=code.l.length∧y.qs.length=code.l.length∧∀b,Enc.on y b→W.heap.size≤b)∧(∀o∈os,∀b,Enc.on o b→W.heap.size≤b)∧(ns.length≤k∧os.length≤k)∧St 68 (fun _=>False) W a w [(0, .pointer (some ⟨x.g,0,none⟩)),(2, .pointer (some ⟨b12,0,none⟩)),(4, .pointer (some ⟨b97,0,none⟩)),(35,ml.v),(36, .int .i64 ((ml.l.length:Nat):Int)),(37, .int .i64 ((k:Nat):Int))] [.blk b97 153 [vn,vo], .own 179 ml, .blk b12 153 [(.slice none 0 0),(.slice none 0 0)], .rblk x.g 173 [.iface (F.mem x.i).T (.pointer (some (F.mem x.i).u)), .pointer (some ⟨x.gp,0,none⟩),x.vt,x.prints.v, .bool false], .at_ (⟨x.vt,x.rows.map ThR.toQ⟩:Ls ThQ), .rgs x.rows, .at_ x.prints, .rblk (F.mem x.i).g0 182 [x.words.v,x.owner.v], .at_ x.words, .at_ x.owner, .ro [(F.mem x.i).X x.q], .rblk x.gp 25 [code.v,pw, .int .i64 ((Lk:Nat):Int), .int .i64 ((R:Nat):Int)], .at_ code, .own 85 (⟨vn,ns⟩:Ls (PSD F)), .own 39 (⟨vo,os⟩:Ls OutL)]∧m=ml.l.length-k) ⟨_,0, [], [],(.slice none 0 0),(.slice none 0 0),(by omega),(rfl),(rfl),(fun y hy=>(by cases hy)),(fun y hy=>(by cases hy)),(⟨Nat.le_refl _,Nat.le_refl _⟩),h103.nrm ⟨rfl,rfl,rfl,rfl,rfl,rfl,trivial⟩ [2,3,4,5,6,7,8,9,10,11,12,13,14,1,0] rfl,rfl⟩ ?_
 clear h103
 rintro m100 a100 w100 ⟨k,ns,os,vn,vo,hk0,hns,hos,hnx,hox,hnl,h100,hm100⟩
 refine gG h100<|sG (oltN _ _ rfl<|.nl)<|gK fun _ k105=>gcd rfl (fun hb106 hp106=> ?_) fun hb106 hp106=> ?_;clear h100
 ·skip
  refine gS<|hK k105<|gK fun _ k107=>gB<|sK fun _ k108=>gRn (oxN sl_175 ti_179 (aO 1 rfl) _ om9 rfl<|olw2 [.int .i64 ((nth ml.l k).th), .int .i64 ((nth ml.l k).st)] ti_179 (aO 1 rfl) om9 rfl<|.nl)<|gal ti_179 rfl fun b109=>gsw 0 ti_179 rfl rfl rfl<|nK k108<|sK fun _ k111=>gRn (oM 1 rfl<|.nl)<|fun a113 w113 h113=>wl_ex (x_call h113 bd_143 rfl rfl rfl rfl rfl (sclone_c F x _ hF ⟨h113.sh.rblk 4 rfl,h113.sh.at 5 rfl,(fun r hr=>(h113.sh.ok (.rgs x.rows) (List.mem_of_getElem? (i:=6) rfl)) r hr),h113.sh.at 7 rfl,⟨h113.sh.rblk 8 rfl,h113.sh.at 9 rfl,h113.sh.at 10 rfl,(h113.sh.ok _ (List.mem_of_getElem? (i:=11) rfl)) _ (List.mem_singleton.2 rfl)⟩⟩ hk)) (wanted_none rfl _) ?_
  rintro a114 w114 ⟨_,⟨y114,rfl,hyg114,hyr114,hys114,hyq114,hs114⟩,hf114⟩
  change Sh0 _ _ [.blk y114.g 173 [.iface (F.mem y114.i).T (.pointer (some (F.mem y114.i).u)), .pointer (some ⟨y114.gp,0,none⟩),y114.vt,y114.prints.v, .bool false], .own 189 (⟨y114.vt,y114.rows.map ThR.toQ⟩:Ls ThQ), .big (regA 3 y114.rows), .own 3 y114.prints, .blk (F.mem y114.i).g0 182 [y114.words.v,y114.owner.v], .own 3 y114.words, .own 3 y114.owner,(F.mem y114.i).X y114.q] at hs114
  have h114:=(⟨hf114,h113.sh.call hs114 (by intro A hA b hb;simp only [List.mem_cons,List.not_mem_nil,or_false] at hA;first|(subst hA;exact Flat.noRd hb)|(rcases hA with rfl|rfl|rfl|rfl|rfl|rfl|rfl|rfl<;>first|exact (hb:False).elim|exact Flat.noRd hb|exact regNoRd hb|exact ((hF.ok _).xrd _ _ hb).elim))⟩:St 68 (fun _=>False) W a114 w114 _ _)
  clear hf114 hs114
  clear h113
  refine gG h114<|gRn (oM 1 rfl<|.nl)<|nK k111<|sK fun _ k115=>gRn (oM 1 rfl<|olw 8 ti_179 rfl rfl<|.nl)<|?_;clear h114
  have hmm:nth ml.l k∈movesV (pgN code words0 Lk R) F.m x.st:=by rw [←hml];exact nth_mem _ _ (by omega)
  obtain ⟨t,j,htt,hmv,hmk⟩:=mem_movesV.1 hmm
  have htt2:=htt
  rw [pgN_len] at htt
  intro a117 w117 h117
  have h116:=h117.same (d:=44) (v' := .agg #[.int .i64 ((t:Nat):Int), .int .i64 (((j:Nat):Int)-1)]) rfl (by rw [hmk])
  clear h117
  have hpy:PX code words0 Lk R y114:=⟨by rw [hys114];exact hx.reach,by rw [hyr114];exact hx.rl,by rw [hyq114];exact hx.ql,by have h9:y114.prints.l=x.prints.l:=congrArg MSt.prints hys114;rw [h9];exact hx.pn⟩
  have h118:=h116.sel (L' := [_,_,_,_,_,_,_,_,_,_,_,_,_,_,_,_,_,_,_,_,_,_,_,_]) [0,1,2,3,4,5,6,7,20,21,8,9,10,11,12,13,14,15,16,17,18,19,22,23] rfl
  have hp119:=h118.sh.passL (Lp:= [_,_,_,_,_,_,_,_,_,_])
  refine wl_ex (x_call h118 bd_123 rfl rfl rfl rfl rfl (xdo_c hF _ y114 code words0 Lk R pw t j x.gp _ hyg114 hp119 hok hpy htt (by rw [hys114];exact hmv))) (wanted_none rfl _) ?_
  rintro a120 w120 ⟨_,⟨rfl,z120,fl120,hzg120,hzp120,hzr120,hzq120,hzf120,hzo120,hzs120,hs120⟩,hf120⟩
  change Sh _ _ _ [.blk z120.g 173 [.iface (F.mem z120.i).T (.pointer (some (F.mem z120.i).u)), .pointer (some ⟨z120.gp,0,none⟩),z120.vt,z120.prints.v, .bool fl120], .own 189 (⟨z120.vt,z120.rows.map ThR.toQ⟩:Ls ThQ), .big (regA 3 z120.rows), .own 3 z120.prints, .blk (F.mem z120.i).g0 182 [z120.words.v,z120.owner.v], .own 3 z120.words, .own 3 z120.owner,(F.mem z120.i).X z120.q, .rblk x.gp 25 [code.v,pw, .int .i64 ((Lk:Nat):Int), .int .i64 ((R:Nat):Int)], .at_ code] at hs120
  have h120:St 68 (fun _=>False) W a120 w120 _ [_,_,_,_,_,_,_,_,_,_,_,_,_,_,_,_,_,_,_,_,_,_,_,_]:=⟨hf120,h118.sh.backL (Lp:= [_,_,_,_,_,_,_,_,_,_]) hs120 (by intro A hA b hb;simp only [List.mem_cons,List.not_mem_nil,or_false] at hA;rcases hA with rfl|rfl|rfl|rfl|rfl|rfl|rfl|rfl|rfl|rfl<;>first|exact (hb:False).elim|exact Flat.noRd hb|exact .inl ⟨_,List.mem_cons_self .., .inr hb⟩|exact ((hF.ok _).xrd _ _ hb).elim|exact regNoRd hb|exact .inl ⟨_,by simp, .inr hb⟩)⟩
  clear hf120 hs120
  clear h118
  refine gG h120<|nK k115<|sK fun _ k121=>fun a123 w123 h123=> ?_;clear h120
  have h122:=h123.same (d:=7) (v' := .pointer (some ⟨z120.g,0,none⟩)) rfl (by rw [hzg120])
  clear h123
  rw [hys114] at hzf120 hzo120 hzs120
  refine gG h122<|gRn (oM 1 rfl<|onfl 0 fl_173_4 ti_4 rfl rfl<|.nl)<|nK k121<|?_;clear h122
  refine gCb rfl (fun hb124=> ?_) fun hb124=> ?_
  ·skip
   obtain ⟨hlt1,hlt2⟩:=look_t (p:=(pgN code words0 Lk R)) (m:=F.m) (s:=x.st) (show k<ml.l.length by omega) hmk (hzf120.symm.trans hb124)
   intro a126 w126 h126
   have hnp:=h126.sh.ownNew 3 rfl
   have h125:St 68 (fun _=>False) W a126 w126 _ _:=⟨h126.fr,h126.sh.share 3 rfl⟩
   clear h126
   have hosN:(os++ [(⟨1,⟨.slice none 0 0, []⟩,z120.prints⟩:OutL)]).map OutL.out=(ml.l.take (k+1)).flatMap (endsV (pgN code words0 Lk R) F.m x.st):=by rw [hlt1,List.map_append,hos,←hzo120];rfl
   have hnsN:ns.map PSD.st=(ml.l.take (k+1)).flatMap (nextV (pgN code words0 Lk R) F.m x.st):=by rw [hlt2];exact hns
   have hnxN:=hnx
   have hoxN:∀o∈os++ [(⟨1,⟨.slice none 0 0, []⟩,z120.prints⟩:OutL)],∀b,Enc.on o b→W.heap.size≤b:=fun o ho b hb=>(List.mem_append.1 ho).elim (fun h=>hox o h b hb) (fun h=>by obtain rfl:=List.mem_singleton.1 h;exact hb.elim (fun h=>(nilOnI h).elim) (fun h=>hnp b h))
   have hnlN:ns.length≤k+1∧(os++ [(⟨1,⟨.slice none 0 0, []⟩,z120.prints⟩:OutL)]).length≤k+1:=⟨by omega,by rw [List.length_append];simp only [List.length_cons,List.length_nil];omega⟩
   refine gG h125<|gF [0,2,4,6,7,35,36,37,38,39,40,41,42,43,44,45,46,47,48,49] rfl<|fun a128 w128 h128=>x_any ((fun Φ Ψ S a w=>(S 7=false∧S 8=false∧S 10=false∧FrI 68 S Φ Ψ a∧Sh (fun _=>False) W w [.blk z120.g 173 [.iface (F.mem z120.i).T (.pointer (some (F.mem z120.i).u)), .pointer (some ⟨z120.gp,0,none⟩),z120.vt,z120.prints.v, .bool fl120], .own 189 (⟨z120.vt,z120.rows.map ThR.toQ⟩:Ls ThQ), .big (regA 3 z120.rows), .at_ z120.prints, .blk (F.mem z120.i).g0 182 [z120.words.v,z120.owner.v], .own 3 z120.words, .own 3 z120.owner,(F.mem z120.i).X z120.q, .rblk x.gp 25 [code.v,pw, .int .i64 ((Lk:Nat):Int), .int .i64 ((R:Nat):Int)], .at_ code, .blk b109 179 [.int .i64 ((nth ml.l k).th), .int .i64 ((nth ml.l k).st)], .blk b97 153 [vn,vo], .own 179 ml, .blk b12 153 [(.slice none 0 0),(.slice none 0 0)], .rblk x.g 173 [.iface (F.mem x.i).T (.pointer (some (F.mem x.i).u)), .pointer (some ⟨x.gp,0,none⟩),x.vt,x.prints.v, .bool false], .at_ (⟨x.vt,x.rows.map ThR.toQ⟩:Ls ThQ), .rgs x.rows, .at_ x.prints, .rblk (F.mem x.i).g0 182 [x.words.v,x.owner.v], .at_ x.words, .at_ x.owner, .ro [(F.mem x.i).X x.q], .own 85 (⟨vn,ns⟩:Ls (PSD F)), .own 39 (⟨vo,os⟩:Ls OutL)])∨(S 7=true∧S 8=false∧S 10=false∧∃(v7207:Value),FrI 68 S Φ (Ψ++ [(7,57,v7207)]) a∧Sh (fun _=>False) W w [.own 39 (⟨v7207, [(⟨1,(⟨.slice none 0 0, []⟩:Ls Int),z120.prints⟩:OutL)]⟩:Ls OutL), .blk z120.g 173 [.iface (F.mem z120.i).T (.pointer (some (F.mem z120.i).u)), .pointer (some ⟨z120.gp,0,none⟩),z120.vt,z120.prints.v, .bool fl120], .own 189 (⟨z120.vt,z120.rows.map ThR.toQ⟩:Ls ThQ), .big (regA 3 z120.rows), .at_ z120.prints, .blk (F.mem z120.i).g0 182 [z120.words.v,z120.owner.v], .own 3 z120.words, .own 3 z120.owner,(F.mem z120.i).X z120.q, .rblk x.gp 25 [code.v,pw, .int .i64 ((Lk:Nat):Int), .int .i64 ((R:Nat):Int)], .at_ code, .blk b109 179 [.int .i64 ((nth ml.l k).th), .int .i64 ((nth ml.l k).st)], .blk b97 153 [vn,vo], .own 179 ml, .blk b12 153 [(.slice none 0 0),(.slice none 0 0)], .rblk x.g 173 [.iface (F.mem x.i).T (.pointer (some (F.mem x.i).u)), .pointer (some ⟨x.gp,0,none⟩),x.vt,x.prints.v, .bool false], .at_ (⟨x.vt,x.rows.map ThR.toQ⟩:Ls ThQ), .rgs x.rows, .at_ x.prints, .rblk (F.mem x.i).g0 182 [x.words.v,x.owner.v], .at_ x.words, .at_ x.owner, .ro [(F.mem x.i).X x.q], .own 85 (⟨vn,ns⟩:Ls (PSD F)), .own 39 (⟨vo,os⟩:Ls OutL)])∨(S 7=true∧S 8=true∧S 10=false∧∃(v7207:Value) (v7208:Value),FrI 68 S Φ (Ψ++ [(7,57,v7207),(8,58,v7208),(9,59, .pointer (some ⟨b97,1,none⟩))]) a∧Sh (fun _=>False) W w [.own 39 (⟨v7207, [(⟨1,(⟨.slice none 0 0, []⟩:Ls Int),z120.prints⟩:OutL)]⟩:Ls OutL), .blk z120.g 173 [.iface (F.mem z120.i).T (.pointer (some (F.mem z120.i).u)), .pointer (some ⟨z120.gp,0,none⟩),z120.vt,z120.prints.v, .bool fl120], .own 189 (⟨z120.vt,z120.rows.map ThR.toQ⟩:Ls ThQ), .big (regA 3 z120.rows), .at_ z120.prints, .blk (F.mem z120.i).g0 182 [z120.words.v,z120.owner.v], .own 3 z120.words, .own 3 z120.owner,(F.mem z120.i).X z120.q, .rblk x.gp 25 [code.v,pw, .int .i64 ((Lk:Nat):Int), .int .i64 ((R:Nat):Int)], .at_ code, .blk b109 179 [.int .i64 ((nth ml.l k).th), .int .i64 ((nth ml.l k).st)], .blk b97 153 [vn,vo], .own 179 ml, .blk b12 153 [(.slice none 0 0),(.slice none 0 0)], .rblk x.g 173 [.iface (F.mem x.i).T (.pointer (some (F.mem x.i).u)), .pointer (some ⟨x.gp,0,none⟩),x.vt,x.prints.v, .bool false], .at_ (⟨x.vt,x.rows.map ThR.toQ⟩:Ls ThQ), .rgs x.rows, .at_ x.prints, .rblk (F.mem x.i).g0 182 [x.words.v,x.owner.v], .at_ x.words, .at_ x.owner, .ro [(F.mem x.i).X x.q], .own 85 (⟨vn,ns⟩:Ls (PSD F)), .own 39 (⟨v7208,os++([(⟨1,(⟨.slice none 0 0, []⟩:Ls Int),z120.prints⟩:OutL)])⟩:Ls OutL)])∨(S 7=true∧S 8=true∧S 10=true∧∃(v7207:Value) (v7208:Value),FrI 68 S Φ (Ψ++ [(7,57,v7207),(8,58,v7208),(9,59, .pointer (some ⟨b97,1,none⟩))]) a∧Sh (fun _=>False) W w [.own 39 (⟨v7207, [(⟨1,(⟨.slice none 0 0, []⟩:Ls Int),z120.prints⟩:OutL)]⟩:Ls OutL), .blk z120.g 173 [.iface (F.mem z120.i).T (.pointer (some (F.mem z120.i).u)), .pointer (some ⟨z120.gp,0,none⟩),z120.vt,z120.prints.v, .bool fl120], .own 189 (⟨z120.vt,z120.rows.map ThR.toQ⟩:Ls ThQ), .big (regA 3 z120.rows), .at_ z120.prints, .blk (F.mem z120.i).g0 182 [z120.words.v,z120.owner.v], .own 3 z120.words, .own 3 z120.owner,(F.mem z120.i).X z120.q, .rblk x.gp 25 [code.v,pw, .int .i64 ((Lk:Nat):Int), .int .i64 ((R:Nat):Int)], .at_ code, .blk b109 179 [.int .i64 ((nth ml.l k).th), .int .i64 ((nth ml.l k).st)], .blk b97 153 [vn,v7208], .own 179 ml, .blk b12 153 [(.slice none 0 0),(.slice none 0 0)], .rblk x.g 173 [.iface (F.mem x.i).T (.pointer (some (F.mem x.i).u)), .pointer (some ⟨x.gp,0,none⟩),x.vt,x.prints.v, .bool false], .at_ (⟨x.vt,x.rows.map ThR.toQ⟩:Ls ThQ), .rgs x.rows, .at_ x.prints, .rblk (F.mem x.i).g0 182 [x.words.v,x.owner.v], .at_ x.words, .at_ x.owner, .ro [(F.mem x.i).X x.q], .own 85 (⟨vn,ns⟩:Ls (PSD F)), .own 39 (⟨v7208,os++([(⟨1,(⟨.slice none 0 0, []⟩:Ls Int),z120.prints⟩:OutL)])⟩:Ls OutL)])) [(0, .pointer (some ⟨x.g,0,none⟩)),(2, .pointer (some ⟨b12,0,none⟩)),(4, .pointer (some ⟨b97,0,none⟩)),(6, .pointer (some ⟨b109,0,none⟩)),(7, .pointer (some ⟨z120.g,0,none⟩)),(35,ml.v),(36, .int .i64 ((ml.l.length:Nat):Int)),(37, .int .i64 ((k:Nat):Int)),(38, .bool (decide (k<ml.l.length))),(39, .pointer (some (padr ml.v 2 k 0))),(40, .agg #[.int .i64 ((nth ml.l k).th), .int .i64 ((nth ml.l k).st)]),(41, .pointer (some ⟨x.g,0,none⟩)),(42, .pointer (some ⟨y114.g,0,none⟩)),(43, .pointer (some ⟨y114.g,0,none⟩)),(44, .agg #[.int .i64 ((t:Nat):Int), .int .i64 (((j:Nat):Int)-1)]),(45, .tuple #[]),(46, .pointer (some ⟨z120.g,0,none⟩)),(47, .pointer (some ⟨z120.g,0,none⟩)),(48, .pointer (some ⟨z120.g,4,none⟩)),(49, .bool fl120)] [(0,50, .pointer (some ⟨b97,1,none⟩)),(1,51,vo),(2,52, .pointer (some ⟨z120.g,0,none⟩)),(3,53, .pointer (some ⟨z120.g,0,none⟩)),(4,54, .pointer (some ⟨z120.g,3,none⟩)),(5,55,z120.prints.v),(6,56, .agg #[.int .i64 1,(.slice none 0 0),z120.prints.v])]) (by kernel_rfl) (by kernel_rfl) (Or.inl (⟨rfl,rfl,rfl,FrI.start h128.fr,h128.sh.drew⟩)) ?_ ?_;clear h125
   ·intro S i o ho hSi hcl hdep a w hI
    clear h128
    rcases i with _|_|_|_|_|_|_|_|_|_|_|i
    ·obtain rfl:_=o:=Option.some.inj ho
     rcases hI with ⟨ν7,ν8,ν10,φ,ς⟩|⟨ν7,ν8,ν10,v7207,φ,ς⟩|⟨_,ν8,_⟩|⟨_,ν8,_⟩
     ·exact sq φ φ.fr0 ς (r_fieldB (r:=1) fl_153_1 rfl rfl rfl) 0 rfl rfl rfl rfl rfl rfl fun a hg=>Or.inl (⟨un rfl ν7,un rfl ν8,un rfl ν10,hg,ς⟩)
     ·exact sq φ φ.fr0 ς (r_fieldB (r:=1) fl_153_1 rfl rfl rfl) 0 rfl rfl rfl rfl rfl rfl fun a hg=>Or.inr (Or.inl (⟨un rfl ν7,un rfl ν8,un rfl ν10,v7207,hg,ς⟩))
     ·exact no_way (cA hcl 8 0 rfl ν8) hSi
     ·exact no_way (cA hcl 8 0 rfl ν8) hSi
    ·obtain rfl:_=o:=Option.some.inj ho
     have hd0:S 0=true:=depAt hdep 0 rfl rfl
     rcases hI with ⟨ν7,ν8,ν10,φ,ς⟩|⟨ν7,ν8,ν10,v7207,φ,ς⟩|⟨_,ν8,_⟩|⟨_,ν8,_⟩
     ·exact sq φ (Fr.cons φ.fr0 (φ.at_ 0 0 50 _ rfl hd0)) ς (r_ldb (i:=11) ti_35 rfl rfl rfl rfl) 1 rfl rfl rfl rfl rfl rfl fun a hg=>Or.inl (⟨un rfl ν7,un rfl ν8,un rfl ν10,hg,ς⟩)
     ·exact sq φ (Fr.cons φ.fr0 (φ.at_ 0 0 50 _ rfl hd0)) ς (r_ldb (i:=12) ti_35 rfl rfl rfl rfl) 1 rfl rfl rfl rfl rfl rfl fun a hg=>Or.inr (Or.inl (⟨un rfl ν7,un rfl ν8,un rfl ν10,v7207,hg,ς⟩))
     ·exact no_way (cA hcl 8 1 rfl ν8) hSi
     ·exact no_way (cA hcl 8 1 rfl ν8) hSi
    ·obtain rfl:_=o:=Option.some.inj ho
     rcases hI with ⟨ν7,ν8,ν10,φ,ς⟩|⟨ν7,_⟩|⟨ν7,_⟩|⟨ν7,_⟩
     ·exact sq φ φ.fr0 ς (r_move rfl rfl) 2 rfl rfl rfl rfl rfl rfl fun a hg=>Or.inl (⟨un rfl ν7,un rfl ν8,un rfl ν10,hg,ς⟩)
     ·exact no_way (cA hcl 7 2 rfl ν7) hSi
     ·exact no_way (cA hcl 7 2 rfl ν7) hSi
     ·exact no_way (cA hcl 7 2 rfl ν7) hSi
    ·obtain rfl:_=o:=Option.some.inj ho
     have hd2:S 2=true:=depAt hdep 0 rfl rfl
     rcases hI with ⟨ν7,ν8,ν10,φ,ς⟩|⟨ν7,_⟩|⟨ν7,_⟩|⟨ν7,_⟩
     ·exact sq φ (Fr.cons φ.fr0 (φ.at_ 2 2 52 _ rfl hd2)) ς (r_nil rfl rfl) 3 rfl rfl rfl rfl rfl rfl fun a hg=>Or.inl (⟨un rfl ν7,un rfl ν8,un rfl ν10,hg,ς⟩)
     ·exact no_way (cA hcl 7 3 rfl ν7) hSi
     ·exact no_way (cA hcl 7 3 rfl ν7) hSi
     ·exact no_way (cA hcl 7 3 rfl ν7) hSi
    ·obtain rfl:_=o:=Option.some.inj ho
     have hd3:S 3=true:=depAt hdep 0 rfl rfl
     rcases hI with ⟨ν7,ν8,ν10,φ,ς⟩|⟨ν7,_⟩|⟨ν7,_⟩|⟨ν7,_⟩
     ·exact sq φ (Fr.cons φ.fr0 (φ.at_ 3 3 53 _ rfl hd3)) ς (r_fieldB (r:=3) fl_173_3 rfl rfl rfl) 4 rfl rfl rfl rfl rfl rfl fun a hg=>Or.inl (⟨un rfl ν7,un rfl ν8,un rfl ν10,hg,ς⟩)
     ·exact no_way (cA hcl 7 4 rfl ν7) hSi
     ·exact no_way (cA hcl 7 4 rfl ν7) hSi
     ·exact no_way (cA hcl 7 4 rfl ν7) hSi
    ·obtain rfl:_=o:=Option.some.inj ho
     have hd4:S 4=true:=depAt hdep 0 rfl rfl
     rcases hI with ⟨ν7,ν8,ν10,φ,ς⟩|⟨ν7,_⟩|⟨ν7,_⟩|⟨ν7,_⟩
     ·exact sq φ (Fr.cons φ.fr0 (φ.at_ 4 4 54 _ rfl hd4)) ς (r_ldb (i:=0) ti_23 rfl rfl rfl rfl) 5 rfl rfl rfl rfl rfl rfl fun a hg=>Or.inl (⟨un rfl ν7,un rfl ν8,un rfl ν10,hg,ς⟩)
     ·exact no_way (cA hcl 7 5 rfl ν7) hSi
     ·exact no_way (cA hcl 7 5 rfl ν7) hSi
     ·exact no_way (cA hcl 7 5 rfl ν7) hSi
    ·obtain rfl:_=o:=Option.some.inj ho
     have hd5:S 5=true:=depAt hdep 0 rfl rfl
     rcases hI with ⟨ν7,ν8,ν10,φ,ς⟩|⟨ν7,_⟩|⟨ν7,_⟩|⟨ν7,_⟩
     ·have hs:=St.mk (Fr.cons φ.fr0 (φ.at_ 5 5 55 _ rfl hd5)) ς
      exact sq φ (Fr.cons φ.fr0 (φ.at_ 5 5 55 _ rfl hd5)) ς (r_build (cs:= [.int .i64 1,(.slice none 0 0),z120.prints.v]) rfl rfl (by obtain ⟨A142,n142,c142,(e142:z120.prints.v=_)⟩:=((hs.sh.at 3 rfl)).form;rw [e142];kernel_rfl)) 6 rfl rfl rfl rfl rfl rfl fun a hg=>Or.inl (⟨un rfl ν7,un rfl ν8,un rfl ν10,hg,ς⟩)
     ·exact no_way (cA hcl 7 6 rfl ν7) hSi
     ·exact no_way (cA hcl 7 6 rfl ν7) hSi
     ·exact no_way (cA hcl 7 6 rfl ν7) hSi
    ·obtain rfl:_=o:=Option.some.inj ho
     have hd6:S 6=true:=depAt hdep 0 rfl rfl
     rcases hI with ⟨ν7,ν8,ν10,φ,ς⟩|⟨ν7,_⟩|⟨ν7,_⟩|⟨ν7,_⟩
     ·have hs:=St.mk (Fr.cons φ.fr0 (φ.at_ 6 6 56 _ rfl hd6)) ς
      refine step_ex (x_lit (n:=1) (cs:= [.int .i64 1,(.slice none 0 0),z120.prints.v]) ([(⟨1,(⟨.slice none 0 0, []⟩:Ls Int),z120.prints⟩:OutL)]:List OutL) hs sl_35 ti_39 rfl rfl rfl (by decide) rfl (by kernel_rfl) rfl (fun q hq w h=>by obtain rfl:q=0:=(by simpa using hq);exact ⟨LsNil _,(h.at 3 rfl)⟩) (fun q hq b hb=>by obtain rfl:q=0:=(by simpa using hq);rcases hb with hb|hb;exact (by rcases hb with ⟨h0,_⟩|⟨_,h0,_⟩<;>first|exact (Nat.not_lt_zero _ h0).elim|exact absurd h0 (by simp));exact ⟨_,List.mem_of_getElem? (i:=3) rfl,hb⟩) rfl rfl) (wanted_none rfl _) ?_
      rintro a144 w144 ⟨v144,h144⟩ ⟨v0,ht144⟩
      exact Or.inr (Or.inl (⟨upd_self _ _,un rfl ν8,un rfl ν10,v144,φ.stepW hcl hSi [0,1,2,3,4,5,6] (by kernel_rfl) (by kernel_rfl) ht144 h144.fr.defers (h144.fr.at_ 57 _ rfl) 7 rfl rfl rfl rfl,(h144.sh.sel [0,1,2,3,4,5,6,7,8,9,10,11,12,13,14,15,16,17,18,19,20,21,22,23,24] rfl)⟩))
     ·exact no_way ν7 hSi
     ·exact no_way ν7 hSi
     ·exact no_way ν7 hSi
    ·obtain rfl:_=o:=Option.some.inj ho
     have hd1:S 1=true:=depAt hdep 0 rfl rfl
     have hd7:S 7=true:=depAt hdep 1 rfl rfl
     rcases hI with ⟨ν7,_⟩|⟨ν7,ν8,ν10,v7207,φ,ς⟩|⟨_,ν8,_⟩|⟨_,ν8,_⟩
     ·exact no_way hd7 ν7
     ·have hs:=St.mk (Fr.cons (Fr.cons φ.fr0 (φ.at_ 1 1 51 _ rfl hd1)) (φ.at_ 7 7 57 _ rfl hd7)) ς
      refine step_ex (x_app (r:=24) (rm:=0) (s:=(⟨vo,os⟩:Ls OutL)) (m:=(⟨v7207, [(⟨1,(⟨.slice none 0 0, []⟩:Ls Int),z120.prints⟩:OutL)]⟩:Ls OutL)) hs sl_35 ti_39 rfl rfl rfl rfl rfl rfl rfl (fun w h=>(h.own 0 rfl)) (fun b hb=>own_on (hs.sh.ok _ (List.mem_of_getElem? (i:=0) rfl)) hb) (fun q hq b hb=>⟨q,hq,hb⟩) rfl rfl rfl inferInstance (show (os.length+([(⟨1,(⟨.slice none 0 0, []⟩:Ls Int),z120.prints⟩:OutL)]).length)*56≤140737488355328∧os.length+([(⟨1,(⟨.slice none 0 0, []⟩:Ls Int),z120.prints⟩:OutL)]).length≤140737488355328 from (by first|omega|(simp only [lens9];omega))) rfl rfl) (wanted_none rfl _) ?_
      rintro a145 w145 ⟨v145,h145⟩ ⟨v0,ht145⟩
      exact Or.inr (Or.inr (Or.inl (⟨un rfl ν7,upd_self _ _,un rfl ν10,v7207,v145,φ.stepW hcl hSi [0,1,2,3,4,5,6,7] (by kernel_rfl) (by kernel_rfl) ht145 h145.fr.defers (h145.fr.at_ 58 _ rfl) 8 rfl rfl rfl rfl,(h145.sh.sel [0,1,2,3,4,5,6,7,8,9,10,11,12,13,14,15,16,17,18,19,20,21,22,23,24] rfl)⟩)))
     ·exact no_way ν8 hSi
     ·exact no_way ν8 hSi
    ·obtain rfl:_=o:=Option.some.inj ho
     have hd7:S 7=true:=depAt hdep 7 rfl rfl
     have hd8:S 8=true:=depAt hdep 8 rfl rfl
     rcases hI with ⟨ν7,_⟩|⟨_,ν8,_⟩|⟨ν7,ν8,ν10,v7207,v7208,φ,ς⟩|⟨_,_,ν10,_⟩
     ·exact no_way hd7 ν7
     ·exact no_way hd8 ν8
     ·exact sq φ φ.fr0 ς (r_fieldB (r:=1) fl_153_1 rfl rfl rfl) 9 rfl rfl rfl rfl rfl rfl fun a hg=>Or.inr (Or.inr (Or.inl (⟨un rfl ν7,un rfl ν8,un rfl ν10,v7207,v7208,hg,ς⟩)))
     ·exact no_way (cA hcl 10 9 rfl ν10) hSi
    ·obtain rfl:_=o:=Option.some.inj ho
     have hd9:S 9=true:=depAt hdep 0 rfl rfl
     have hd8:S 8=true:=depAt hdep 1 rfl rfl
     have hd7:S 7=true:=depAt hdep 10 rfl rfl
     rcases hI with ⟨ν7,_⟩|⟨_,ν8,_⟩|⟨ν7,ν8,ν10,v7207,v7208,φ,ς⟩|⟨_,_,ν10,_⟩
     ·exact no_way hd7 ν7
     ·exact no_way hd8 ν8
     ·have hs:=St.mk (Fr.cons (Fr.cons φ.fr0 (φ.at_ 8 8 58 _ rfl hd8)) (φ.at_ 9 9 59 _ rfl hd9)) ς
      refine step_ex (x_stb (i:=12) (vs:= [v7208]) (cs' := [vn,v7208]) hs ti_35 rfl rfl rfl rfl rfl (cells_oneL ((hs.sh.own 24 rfl)).one) rfl (allOne_cons ((hs.sh.own 24 rfl)).one allOne_nil) (Nat.le_of_ble_eq_true rfl) rfl) (wanted_none rfl _) ?_
      rintro a147 w147 h147 ⟨v0,ht147⟩
      exact Or.inr (Or.inr (Or.inr (⟨un rfl ν7,un rfl ν8,upd_self _ _,v7207,v7208,φ.noneW hcl hSi [0,1,2,3,4,5,6,7,8,9] (by kernel_rfl) (by kernel_rfl) ht147 h147.fr.defers rfl,(h147.sh.sel [0,1,2,3,4,5,6,7,8,9,10,11,12,13,14,15,16,17,18,19,20,21,22,23,24] rfl)⟩)))
     ·exact no_way ν10 hSi
    · simp at ho
   intro S hall a w hI
   clear h128
   rcases hI with ⟨ν7,ν8,ν10,φ,ς⟩|⟨ν7,ν8,ν10,v7207,φ,ς⟩|⟨ν7,ν8,ν10,v7207,v7208,φ,ς⟩|⟨ν7,ν8,ν10,v7207,v7208,φ,ς⟩
   · exact no_way (hall 7 (by decide)) ν7
   · exact no_way (hall 8 (by decide)) ν8
   · exact no_way (hall 10 (by decide)) ν10
   have h148:St 68 (fun _=>False) W a w _ _:=⟨φ.fr0,ς⟩
   clear hall φ ς ν7 ν8 ν10
   refine gG h148<|hK k107<|gL<|gRn (oadN _ 1 om9 rfl<|oM 1 rfl<|.nl)<|nN<|fun a149 w149 h149=>x_again ⟨_, ?_,(k+1),ns,os++([(⟨1,(⟨.slice none 0 0, []⟩:Ls Int),z120.prints⟩:OutL)]),vn,v7208, ?_, ?_, ?_, ?_, ?_, ?_,h149.nrm ⟨rfl,rfl,rfl,rfl,rfl,rfl,trivial⟩ [12,13,14,15,16,17,18,19,20,21,22,9,10,23,24] rfl,rfl⟩;clear h148
   · rw [hm100];first|omega|(simp only [lens9];omega)
   · omega
   · exact hnsN
   · exact hosN
   · exact hnxN
   · exact hoxN
   · exact hnlN
  intro a150 w150 h150
  rw [hb124] at h150
  obtain ⟨hlt1,hlt2⟩:=look_f (p:=(pgN code words0 Lk R)) (m:=F.m) (s:=x.st) (show k<ml.l.length by omega) hmk (hzf120.symm.trans hb124)
  have hfz:=PSD.frz (L:= [.rblk x.gp 25 [code.v,pw, .int .i64 ((Lk:Nat):Int), .int .i64 ((R:Nat):Int)], .at_ code, .blk b109 179 [.int .i64 ((nth ml.l k).th), .int .i64 ((nth ml.l k).st)], .blk b97 153 [vn,vo], .own 179 ml, .blk b12 153 [(.slice none 0 0),(.slice none 0 0)], .rblk x.g 173 [.iface (F.mem x.i).T (.pointer (some (F.mem x.i).u)), .pointer (some ⟨x.gp,0,none⟩),x.vt,x.prints.v, .bool false], .at_ (⟨x.vt,x.rows.map ThR.toQ⟩:Ls ThQ), .rgs x.rows, .at_ x.prints, .rblk (F.mem x.i).g0 182 [x.words.v,x.owner.v], .at_ x.words, .at_ x.owner, .ro [(F.mem x.i).X x.q], .own 85 (⟨vn,ns⟩:Ls (PSD F)), .own 39 (⟨vo,os⟩:Ls OutL)]) (fun i q b=>(hF.ok i).xrd q b) z120 h150.sh
  have h151:St 68 (fun _=>False) W a150 w150 _ _:=⟨h150.fr,hfz.1⟩
  clear h150
  have hnsN:(ns++ [z120]).map PSD.st=(ml.l.take (k+1)).flatMap (nextV (pgN code words0 Lk R) F.m x.st):=by rw [hlt2,List.map_append,hns,←hzs120];rfl
  have hosN:os.map OutL.out=(ml.l.take (k+1)).flatMap (endsV (pgN code words0 Lk R) F.m x.st):=by rw [hlt1];exact hos
  have hoxN:=hox
  have hnxN:∀y∈ns++ [z120],y.gp=x.gp∧y.rows.length=code.l.length∧y.qs.length=code.l.length∧∀b,Enc.on y b→W.heap.size≤b:=fun y hy=>(List.mem_append.1 hy).elim (hnx y) (fun h=>by obtain rfl:=List.mem_singleton.1 h;exact ⟨hzp120,hzr120,hzq120,fun b hb=>(hfz.2 b hb).resolve_left id⟩)
  have hnlN:(ns++ [z120]).length≤k+1∧os.length≤k+1:=⟨by rw [List.length_append];simp only [List.length_cons,List.length_nil];omega,by omega⟩
  refine gG h151<|gL<|gRn (ofB fl_153_0 rfl<|olB 4 ti_151 rfl rfl<|oM 1 rfl<|.nl)<|gE1 (fun _ _ h_=>x_lit (n:=1) (cs:= [.pointer (some ⟨z120.g,0,none⟩)]) ([z120]:List (PSD F)) h_ sl_151 ti_85 rfl rfl rfl (by decide) rfl (by kernel_rfl) rfl (fun q hq w h=>by obtain rfl:q=0:=(by simpa using hq);exact h.ok _ (List.mem_of_getElem? (i:=0) rfl)) (fun q hq b hb=>by obtain rfl:q=0:=(by simpa using hq);exact ⟨_,List.mem_of_getElem? (i:=0) rfl,hb⟩) rfl rfl) rfl fun v152=>gE1 (fun _ _ h_=>x_app (r:=16) (rm:=0) (s:=(⟨vn,ns⟩:Ls (PSD F))) (m:=(⟨v152, [z120]⟩:Ls (PSD F))) h_ sl_151 ti_85 rfl rfl rfl rfl rfl rfl rfl (fun w h=>(h.own 0 rfl)) (fun b hb=>own_on (h_.sh.ok _ (List.mem_of_getElem? (i:=0) rfl)) hb) (fun q hq b hb=>⟨q,hq,hb⟩) rfl rfl rfl inferInstance (show (ns.length+([z120]).length)*8≤140737488355328∧ns.length+([z120]).length≤140737488355328 from om9) rfl rfl) rfl fun v153=>gRn (ofB fl_153_0 rfl<|.nl)<|gsr 5 ti_151 rfl (aO 16 rfl) rfl<|nK k107<|gL<|gRn (oadN _ 1 om9 rfl<|oM 1 rfl<|.nl)<|nN<|fun a155 w155 h155=>x_again ⟨_, ?_,(k+1),ns++([z120]),os,v153,vo, ?_, ?_, ?_, ?_, ?_, ?_,h155.nrm ⟨rfl,rfl,rfl,rfl,rfl,rfl,trivial⟩ [5,6,7,8,9,10,11,12,13,14,15,2,3,16,17] rfl,rfl⟩;clear h151
  · rw [hm100];first|omega|(simp only [lens9];omega)
  · omega
  · exact hnsN
  · exact hosN
  · exact hnxN
  · exact hoxN
  · exact hnlN
 refine gX<|hK k98<|sK fun _ k156=>gRn (olw 0 ti_153 rfl rfl<|.nl)<|gE (fun _ _ h_=>x_stb (i:=2) (vs:= [vn,vo]) (cs' := [vn,vo]) h_ ti_153 rfl rfl rfl rfl rfl rfl rfl (allOne_cons ((h_.sh.own 13 rfl)).one (allOne_cons ((h_.sh.own 14 rfl)).one allOne_nil)) (Nat.le_of_ble_eq_true rfl) rfl) rfl<|nK k156<|gR<|fun a158 w158 h158=> ?_
 try simp only [Exit.then,Exit.inBlock]
 refine x_ret1c (fn:=Tryz.f102) (t:=2) (i:=2) ti_153 rfl h158 rfl rfl rfl ?_
 obtain ⟨hl1_,hl2_⟩:=look_go (p:=(pgN code words0 Lk R)) (m:=F.m) (s:=x.st) hb22 (by rw [←hml];assumption)
 exact ⟨⟨vo,os⟩,⟨vn,ns⟩,rfl,by rw [hl1_,←hml];show os.map OutL.out=_;rw [hos,List.take_of_length_le (by omega)],by rw [hl2_,←hml];show ns.map PSD.st=_;rw [hns,List.take_of_length_le (by omega)],hnx,fun o ho b hb=> .inl (hox o ho b hb),(h158.sh.sel [14,13] rfl)⟩
end Go.Proofs.YtmjkobhkkjgplaaGreatDoor
