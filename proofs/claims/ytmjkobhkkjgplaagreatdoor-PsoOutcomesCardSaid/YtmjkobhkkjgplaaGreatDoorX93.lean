/- What one can come to where stores pass each other; the law PsoOutcomes. -/
import Derived.Test.YtmjkobhkkjgplaaGreatDoorX86
import Derived.Test.YtmjkobhkkjgplaaGreatDoorX88
import Derived.Test.YtmjkobhkkjgplaaGreatDoorS32
import Derived.Test.YtmjkobhkkjgplaaGreatDoorBase
import Derived.ProofKit
import Derived.OpenShut
import Derived.Deep.Slices
import Derived.Carry
import Derived.Test.YtmjkobhkkjgplaaGreatDoorRows
import Derived.Test.YtmjkobhkkjgplaaGreatDoorC1
import Derived.SizedLaws
import Derived.Test.YtmjkobhkkjgplaaGreatDoorX6
import Derived.Test.YtmjkobhkkjgplaaGreatDoorX23
section
namespace Go.Proofs.YtmjkobhkkjgplaaGreatDoor
open Go.RowKit
set_option linter.unusedSimpArgs false
set_option linter.unusedVariables false
set_option maxRecDepth 100000
set_option maxHeartbeats 20000000
theorem mstr_150 :MapTStr Tryz.prog 150 9 4:=⟨Tryz.underlying150,Tryz.underlying9,Tryz.zeroValue4⟩
section
variable {F:MemF} {code:Ls (Ls Ins)} {words0:Ls Int} {Lk R:Nat}
theorem begin_eq {rows:List ThR} {qs:List (List Wt)} {words owner:List Int} (hr:rows.map ThR.th=List.replicate code.l.length ⟨0,List.replicate R 0, []⟩) (hq:qs=List.replicate code.l.length []) (hw:words=words0.l) (ho:owner=List.replicate Lk (-1)):rows.length=code.l.length∧mstR rows qs words owner []=begin_ (pgN code words0 Lk R):=by
 have hl:rows.length=code.l.length:=by simpa using congrArg List.length hr
 refine ⟨hl, ?_⟩
 unfold mstR begin_
 have h1:((List.range rows.length).map fun t=>(⟨(nth rows t).pc,(nth rows t).regs.l,nth qs t⟩:Th))=(pgN code words0 Lk R).code.map fun _=>⟨0,List.replicate (pgN code words0 Lk R).regs.toNat 0, []⟩:=by
  refine ext_nth _ _ (by simp [hl,pgN,pgOf]) fun i hi=> ?_
  have hi' :i<rows.length:=by simpa using hi
  have h2:=congrArg (fun l=>nth l i) hr
  simp only [nth_map' ThR.th _ _ hi',nth_replicate _ _ _ (show i<code.l.length by omega)] at h2
  rw [nth_map' _ _ _ (by simpa using hi'),nth_range hi',nth_map' _ _ _ (by rw [pgN_len];omega),hq,nth_replicate _ _ _ (by omega)]
  have h3:=congrArg Th.pc h2
  have h4:=congrArg Th.regs h2
  simp only [ThR.th] at h3 h4
  rw [h3,h4]
  simp [pgN,pgOf]
 rw [h1,hw,ho]
 simp [pgN,pgOf]
structure PL (K:Nat→Prop) (W:World) (code:Ls (Ls Ins)) (gp:Nat) (l:List (PSD F)):Prop where
 gp:∀y∈l,y.gp=gp
 rl:∀y∈l,y.rows.length=code.l.length
 ql:∀y∈l,y.qs.length=code.l.length
 nw:∀y∈l,∀b,Enc.on y b→K b∨W.heap.size≤b
theorem PL.nil {K:Nat→Prop} {W:World} {gp:Nat} :PL (F:=F) K W code gp []:=⟨fun y h=>(by cases h),fun y h=>(by cases h),fun y h=>(by cases h),fun y h=>(by cases h)⟩
theorem PL.snoc {K:Nat→Prop} {W:World} {gp:Nat} {l:List (PSD F)} {x:PSD F} (h:PL K W code gp l) (h1:x.gp=gp) (h2:x.rows.length=code.l.length) (h3:x.qs.length=code.l.length) (h4:∀b,Enc.on x b→K b∨W.heap.size≤b):PL K W code gp (l++ [x]):=by
 have key:∀y∈l++ [x],y∈l∨y=x:=fun y hy=>by simpa using hy
 exact ⟨fun y hy=>(key y hy).elim (h.gp y) (fun e=>e▸h1),fun y hy=>(key y hy).elim (h.rl y) (fun e=>e▸h2),fun y hy=>(key y hy).elim (h.ql y) (fun e=>e▸h3),fun y hy=>(key y hy).elim (h.nw y) (fun e=>e▸h4)⟩
theorem PL.px {K:Nat→Prop} {W:World} {gp:Nat} {l:List (PSD F)} {S:List MSt} {Fp:MSt→Prop} {E:List Outc} (h:PL K W code gp l) (hb:BI (pgN code words0 Lk R) F.m S Fp E) (hs:∀y∈l,y.st∈S) (hn:S.length≤40000) {y:PSD F} (hy:y∈l):PX code words0 Lk R y:=
 ⟨hb.reach _ (hs y hy),h.rl y hy,h.ql y hy,by have h9:y.prints.l.length≤2*S.length:=hb.pr _ (hs y hy);omega⟩
theorem psd_prints {x:PSD F} {w:World} (h:Enc.inner x w) {b:Nat} (hb:x.prints.on b):Enc.on x b:=by
 have h9:∀A∈x.A,A.ok w:=h
 exact ⟨.own 3 x.prints,List.mem_of_getElem? (i:=3) rfl,own_on (h9 _ (List.mem_of_getElem? (i:=3) rfl)) hb⟩
theorem key_mem (hok:OkPg (pgN code words0 Lk R)) (ht:TqOK F.tq F.Q) (hQ:∀i q,F.Q ((F.mem i).qs q)) {S:List MSt} {y:PSD F} (hy:Reach (pgN code words0 Lk R) F.m y.st) (hS:∀s∈S,Reach (pgN code words0 Lk R) F.m s) (hw:y.st.ths.map Th.wait=y.qs) (hSw:∀s∈S,F.Q (s.ths.map Th.wait)):keyS F.tq y.st∈S.map (keyS F.tq)↔y.st∈S:=by
 constructor
 ·intro h
  obtain ⟨s,hs,e⟩:=List.mem_map.1 h
  have:=keyS_inj ht ((hS s hs).wf hok) (hy.wf hok) (hSw s hs) (by rw [hw];exact hQ _ _) e
  exact this▸hs
 ·intro h;exact List.mem_map.2 ⟨_,h,rfl⟩
theorem keepL_map {l:List OutL} :∀n,n≤l.length→(keepL eqO l n).map OutL.out=keepL (fun a b=>decide (a=b)) (l.map OutL.out) n
 |0,_=>rfl
 |n+1,h=>by
  have ih:=keepL_map (l:=l) n (by omega)
  have e:keepI eqO l n=keepI (fun a b=>decide (a=b)) (l.map OutL.out) n:=by
   unfold keepI eqO
   rw [nth_map' _ _ _ (by omega),nth_map' _ _ _ (by omega)]
  cases hk:keepI eqO l n with
  |true=>rw [keepL_yes hk,keepL_yes (e▸hk),List.map_append,ih,nth_map' _ _ _ (by omega)];rfl
  |false=>rw [keepL_no hk,keepL_no (e▸hk),ih]
theorem keepL_mem {l:List OutL} {n:Nat} (hn:n≤l.length):∀o∈keepL eqO l n,o∈l:=fun o ho=>by
 unfold keepL at ho
 obtain ⟨i,hi,rfl⟩:=List.mem_map.1 ho
 have:=(List.mem_filter.1 hi).1
 exact nth_mem _ _ (by have:=List.mem_range.1 this;omega)
theorem drop_map {l:List (PSD F)} {i:Nat} (h:i<l.length):(l.map PSD.st).drop i=(nth l i).st::(l.map PSD.st).drop (i+1):=by
 rw [←nth_map' PSD.st l i h,nth_lt _ _ (by simpa using h)]
 exact List.drop_eq_getElem_cons (by simpa using h)
theorem movesV_len16 (hok:OkPg (pgN code words0 Lk R)) {x:PSD F} (h:PX code words0 Lk R x):(movesV (pgN code words0 Lk R) F.m x.st).length≤16:=by
 have hf:=psd_facts hok h.reach h.rl
 have h8:=(ok_lenP hok).2.1
 have h9:=movesF_len (m:=F.m) (thr:=x.rows.map ThR.toQ) (owner:=x.owner.l) hf.hw3 _ (Nat.le_refl _)
 have e:movesF F.m code (x.rows.map ThR.toQ) x.qs x.owner.l code.l.length=movesV (pgN code words0 Lk R) F.m x.st:=movesF_eq (prints:=x.prints.l) (words:=x.words.l) h.rl
 rw [←e];omega
theorem lookE_len {p:Pg} {m:Int} {s:MSt} (h:(movesV p m s).length≤16):(lookE p m s).length≤17∧(lookN p m s).length≤16:=by
 have h1:=flatMap_le (f:=endsV p m s) (c:=1) (l:=movesV p m s) fun v _=>endsV_len v
 have h2:=flatMap_le (f:=nextV p m s) (c:=1) (l:=movesV p m s) fun v _=>nextV_len v
 unfold lookE lookN
 by_cases he:ended p s=true
 ·rw [if_pos he,if_pos he];simp
 ·rw [if_neg he,if_neg he]
  split
  ·exact ⟨by simp,by omega⟩
  ·exact ⟨by omega,by omega⟩
end
theorem from_c (K:Nat→Prop) (F:MemF) (ζ:Type) (env:ζ→Asn) (stepE:ζ→MSt→ζ) (z0:ζ) (fe:FuncId) (us ws:List Value) (i0:F.ι) (q0:(F.mem i0).σ) (code:Ls (Ls Ins)) (words0 words owner:Ls Int) (pw:Value) (Lk R:Nat) (W:World) (hF:MemFI Tryz.prog 182 3 204 5 141 F) (hS:Sh K W W [.blk (F.mem i0).g0 182 [words.v,owner.v], .own 3 words, .own 3 owner,(F.mem i0).X q0, .at_ code,env z0]) (hok:OkPg (pgN code words0 Lk R)) (hR:PgR (pgN code words0 Lk R)) (hq0:(F.mem i0).qs q0=List.replicate code.l.length []) (hw0:words.l=words0.l) (ho0:owner.l=List.replicate Lk (-1)) (hbe:bodyI Tryz.prog fe=true) (hEr:∀z b,¬(env z).rd b) (hE:∀(K' :Nat→Prop) (W' :World) (gp:Nat) (x:PSD F) (z:ζ),PX code words0 Lk R x→x.gp=gp→Sh K' W' W' [env z, .rd1 x, .rblk gp 25 [code.v,pw, .int .i64 ((Lk:Nat):Int), .int .i64 ((R:Nat):Int)], .at_ code]→Rets Tryz.prog fe (us++ [.pointer (some ⟨x.g,0,none⟩)]++ws) W' (fun v w' =>v= .tuple #[]∧Sh K' W' w' [env (stepE z x.st), .rd1 x, .rblk gp 25 [code.v,pw, .int .i64 ((Lk:Nat):Int), .int .i64 ((R:Nat):Int)], .at_ code])):
    Rets Tryz.prog 61 [.agg #[code.v,pw, .int .i64 ((Lk:Nat):Int), .int .i64 ((R:Nat):Int)], .iface (F.mem i0).T (.pointer (some (F.mem i0).u)), .func (.func fe) us.toArray ws.toArray] W (fun v w' =>∃(z:ζ),(v= .tuple #[.slice none 0 0, .bool false]∧Big (pgN code words0 Lk R) F.m∧Sh K W w' [env z])∨(∃(u:Ls OutL) (S:List MSt),v= .tuple #[u.v, .bool true]∧Sorted_ (u.l.map OutL.out)∧(∀o,o∈u.l.map OutL.out↔Outs (pgN code words0 Lk R) F.m o)∧¬Big (pgN code words0 Lk R) F.m∧z=S.foldl stepE z0∧S.Nodup∧(∀s,s∈S↔Reach (pgN code words0 Lk R) F.m s)∧(∀o∈u.l,∀b,Enc.on o b→K b∨W.heap.size≤b)∧u.l.length≤100000∧Sh K W w' [.own 39 u,env z])):=by
 obtain ⟨hl1,hcl,hwn,hlk0,hR2⟩:=ok_lenP hok
 refine gen Tryz.func61 Tryz.ntmps61 hS rfl fun a10 h10=>gG h10<|sK fun _ k11=>gbx rfl rfl fun b12=>gRn (oM 2 rfl<|.nl)<|nK k11<|fun a14 w14 h14=> ?_;clear h10
 have h13:=h14.toR 0 rfl
 clear h14
 refine gG h13<|sK fun _ k15=>gRn (oM 1 rfl<|.nl)<|fun a17 w17 h17=>wl_ex (x_call h17 bd_100 rfl rfl rfl rfl rfl (pbegin_c (F.mem i0) b12 code _ Lk R _ (h17.sh.rblk 0 rfl) (h17.sh.at 5 rfl) hcl hR2)) (wanted_none rfl _) ?_;clear h13
 rintro a18 w18 ⟨_,⟨g18,rows18,vt18,rfl,hrw18,hs18⟩,hf18⟩
 have h18:=(⟨hf18,h17.sh.call hs18 (by intro A hA b hb;simp only [List.mem_cons,List.not_mem_nil,or_false] at hA;first|(rcases hA with rfl|rfl|rfl|rfl<;>first|exact (hb:False).elim|exact Flat.noRd hb|exact regNoRd hb)|(rcases hA with rfl|rfl;(obtain ⟨i9,hi9,hb9⟩:=hb;exact (hosr _ (nth_mem _ _ hi9) b hb9).imp id (fun h=>⟨_,List.mem_cons_self ..,h⟩));(obtain ⟨i9,hi9,hb9⟩:=hb;exact .inl ((hnsx _ (nth_mem _ _ hi9)).2.2.2 b hb9))))⟩:St 83 K W a18 w18 _ _)
 clear hf18 hs18
 clear h17
 refine gG h18<|gRn (oM 1 rfl<|.nl)<|nK k15<|gO [0,1,2,3,5,6,7,8,4,9,10] rfl<|?_;clear h18
 obtain ⟨x0,hx0⟩:∃x,x=(⟨b12,i0,q0,g18,vt18,rows18,⟨.slice none 0 0, []⟩,words,owner⟩:PSD F):=⟨_,rfl⟩
 intro a21 w21 h21
 have hfz:=PSD.frz (L:= [.rblk b12 25 [code.v,pw, .int .i64 ((Lk:Nat):Int), .int .i64 ((R:Nat):Int)], .at_ code,env z0]) (fun i q b=>(hF.ok i).xrd q b) (⟨b12,i0,q0,g18,vt18,rows18,⟨.slice none 0 0, []⟩,words,owner⟩:PSD F) h21.sh
 rw [←hx0] at hfz
 have h20:St 83 K W a21 w21 _ _:=⟨h21.fr,hfz.1⟩
 clear h21
 have h100020:=h20.same (d:=8) (v' := .pointer (some ⟨x0.g,0,none⟩)) rfl (by rw [hx0])
 clear h20
 obtain ⟨hrl0,hst0⟩:=begin_eq (words0:=words0) (Lk:=Lk) hrw18 hq0 hw0 ho0
 have hst0:x0.st=begin_ (pgN code words0 Lk R):=by rw [hx0];exact hst0
 have hrl0:x0.rows.length=code.l.length:=by rw [hx0];exact hrl0
 have hql0:x0.qs.length=code.l.length:=by rw [hx0];show ((F.mem i0).qs q0).length=_;rw [hq0,List.length_replicate]
 have hgp0:x0.gp=b12:=by rw [hx0]
 have hb0:BI (pgN code words0 Lk R) F.m [x0.st] (fun y=>y=x0.st) []:=BI.first _ hst0
 have hpl0:PL K W code b12 [x0]:=PL.nil.snoc hgp0 hrl0 hql0 hfz.2
 have hpx0:PX code words0 Lk R x0:=hpl0.px hb0 (fun y hy=>by obtain rfl:=List.mem_singleton.1 hy;simp) (by simp) (by simp)
 refine gG h100020<|sK fun _ k22=>gE1 (fun _ _ h_=>x_makeStr (T:=150) h_ rfl rfl rfl) rfl fun g23=>gRn (oM 1 rfl<|.nl)<|gP (fun _ _ h_=>xCl h_ bd_101 rfl (key_c F x0 _ hF (PSD.rd (h_.sh.ok (.rd1 x0) (List.mem_of_getElem? (i:=1) rfl))) (hpx0.key hok hR) (by rw [hql0,hrl0]))) rfl<|gE (fun _ _ h_=>x_updStrI (i:=0) (k:=(keyS F.tq (x0).st)) h_ mstr_150 rfl rfl rfl rfl rfl rfl (by first|exact hnm|simp)) rfl<|gRn (oM 2 rfl<|.nl)<|nK k22<|sG (oM 1 rfl<|.nl)<|gK fun _ k27=>sK fun _ k28=>gRn (oM 1 rfl<|.nl)<|gE1 (fun _ _ h_=>x_lit (n:=1) (cs:= [.pointer (some ⟨x0.g,0,none⟩)]) ([x0]:List (PSD F)) h_ sl_151 ti_85 rfl rfl rfl (by decide) rfl (by kernel_rfl) rfl (fun q hq w h=>by obtain rfl:q=0:=(by simpa using hq);exact h.ok _ (List.mem_of_getElem? (i:=1) rfl)) (fun q hq b hb=>by obtain rfl:q=0:=(by simpa using hq);exact ⟨_,List.mem_of_getElem? (i:=1) rfl,hb⟩) rfl rfl) rfl fun v29=>gRn (oM 1 rfl<|.nl)<|nK k28<|gB<|fun a32 w32 h32=> ?_;clear h100020
 have h31:=h32.nil (α:=OutL) 39
 clear h32
 refine x_loop (fun m a w=>∃(S0:List MSt) (layer:List (PSD F)) (es:List OutL) (z:ζ) (ks:List ByteArray) (vl ve:Value),(BI (pgN code words0 Lk R) F.m (S0++layer.map PSD.st) (fun y=>y∈layer.map PSD.st) (es.map OutL.out))∧(ks=(S0++layer.map PSD.st).map (keyS F.tq))∧(PL K W code b12 layer)∧(∀s∈S0++layer.map PSD.st,F.Q (s.ths.map Th.wait))∧(S0.length+layer.length≤4000)∧(∀o∈es,∀b,Enc.on o b→K b∨W.heap.size≤b)∧(es.length≤17*S0.length)∧(z=S0.foldl stepE z0)∧St 83 K W a w [(2, .func (.func fe) us.toArray ws.toArray),(9, .map (some g23)),(10,ve),(11,vl)] [.own 85 (⟨vl,layer⟩:Ls (PSD F)), .strO g23 ks, .rd1 x0, .rblk b12 25 [code.v,pw, .int .i64 ((Lk:Nat):Int), .int .i64 ((R:Nat):Int)], .at_ code,env z, .own 39 (⟨ve,es⟩:Ls OutL)]∧m=4001-S0.length) ⟨_, [], [x0], [],z0,([])++ [(keyS F.tq (x0).st)],v29,(.slice none 0 0),(hb0.mono (fun s hs h=> .inl (by rw [h];simp))),(rfl),(hpl0),((fun s hs=>by obtain rfl:s=x0.st:=(by simpa using hs);rw [psd_wait (by rw [hql0,hrl0])];exact hF.qQ _ _)),(by simp),(fun o ho=>(by cases ho)),(by simp),(rfl),h31.nrm ⟨rfl,rfl,rfl,rfl,trivial⟩ [1,2,3,4,5,6,0] rfl,rfl⟩ ?_
 clear h31
 rintro m30 a30 w30 ⟨S0,layer,es,z,ks,vl,ve,hbi,hks,hlx,hqw,hsn,hen,hel,hz,h30,hm30⟩
 refine gG h30<|gK fun _ k33=>sK fun _ k34=>gNl (aO 0 rfl) fun (hl35:layer.length≤140737488355328)=>gRn (oM 1 rfl<|oln (n:=layer.length) sl_151 (aO 0 rfl) rfl<|ogtN _ 0 rfl<|.nl)<|nK k34<|?_;clear h30
 refine gcd rfl (fun hb36 hp36=> ?_) fun hb36 hp36=> ?_
 ·skip
  refine gS<|hK k33<|gB<|gK fun _ k37=>sG (oM 1 rfl<|oln (n:=layer.length) sl_151 (aO 0 rfl) rfl<|oM 1 rfl<|.nl)<|gB<|fun a40 w40 h40=>x_loop (fun m a w=>∃(q:Nat) (z1:ζ),(q≤layer.length)∧(z1=((layer.map PSD.st).take q).foldl stepE z)∧St 83 K W a w [(2, .func (.func fe) us.toArray ws.toArray),(9, .map (some g23)),(10,ve),(11,vl),(32,vl),(33, .int .i64 ((layer.length:Nat):Int)),(34, .int .i64 ((q:Nat):Int))] [.own 85 (⟨vl,layer⟩:Ls (PSD F)), .strO g23 ks, .rd1 x0, .rblk b12 25 [code.v,pw, .int .i64 ((Lk:Nat):Int), .int .i64 ((R:Nat):Int)], .at_ code,env z1, .own 39 (⟨ve,es⟩:Ls OutL)]∧m=layer.length-q) ⟨_,0,z,(by omega),(rfl),h40.nf ⟨rfl,rfl,rfl,rfl,rfl,rfl,rfl,trivial⟩,rfl⟩ ?_
  clear h40
  rintro m39 a39 w39 ⟨q,z1,hq,hz1,h39,hm39⟩
  refine gG h39<|sG (oltN _ _ rfl<|.nl)<|gK fun _ k42=>gcd rfl (fun hb43 hp43=> ?_) fun hb43 hp43=> ?_;clear h39
  ·skip
   refine gS<|hK k42<|gK fun _ k44=>gB<|sG (oxN sl_151 ti_85 (aO 0 rfl) _ om9 rfl<|olE (.pointer (some ⟨(nth layer q).g,0,none⟩)) ti_85 (aO 0 rfl) om9 rfl<|oM 1 rfl<|.nl)<|?_
   have hil:q<layer.length:=by omega
   have hmi:=nth_mem layer q hil
   have hpxi:PX code words0 Lk R (nth layer q):=hlx.px hbi (fun y hy=>List.mem_append.2 (.inr (List.mem_map.2 ⟨y,hy,rfl⟩))) (by rw [List.length_append,List.length_map];omega) hmi
   have hgpi:(nth layer q).gp=b12:=hlx.gp _ hmi
   intro a47 w47 h47
   have h46:=h47.addRd (A:= .rd1 (nth layer q)) ((h47.sh.own 0 rfl).inner q (by omega)) (fun b hb=>hb) (fun b hb=>⟨.own 85 (⟨vl,layer⟩:Ls (PSD F)),List.mem_of_getElem? (i:=0) rfl,q,(by show q<layer.length;omega),hb⟩)
   clear h47
   refine gG h46<|gL<|gRn (oM 2 rfl<|.nl)<|gO [6,0,4,5,1,2,3,7] rfl<|fun a53 w53 h53=> ?_;clear h46
   have hp52:=h53.sh.passL (Lp:= [_,_,_,_])
   refine wl_ex (x_call h53 hbe rfl rfl rfl rfl rfl (hE _ _ b12 (nth layer q) z1 hpxi hgpi hp52)) (wanted_none rfl _) ?_
   rintro a54 w54 ⟨_,⟨rfl,hs54⟩,hf54⟩
   have h54:St 83 K W a54 w54 _ [_,_,_,_,_,_,_,_]:=⟨hf54,h53.sh.backL (Lp:= [_,_,_,_]) hs54 (by intro A hA b hb;simp only [List.mem_cons,List.not_mem_nil,or_false] at hA;rcases hA with rfl|rfl|rfl|rfl<;>first|exact (hb:False).elim|exact Flat.noRd hb|exact .inl ⟨_,List.mem_cons_self .., .inr hb⟩|exact (hEr _ _ hb).elim|exact .inl ⟨_,List.mem_of_getElem? (i:=1) rfl, .inr hb⟩|exact .inl ⟨_,List.mem_of_getElem? (i:=2) rfl, .inr hb⟩|exact .inl ⟨_,List.mem_of_getElem? (i:=3) rfl, .inr hb⟩|exact .inl ⟨_,by simp, .inr hb⟩)⟩
   clear hf54 hs54
   clear h53
   refine gG h54<|nK k44<|gL<|gRn (oadN _ 1 om9 rfl<|oM 1 rfl<|.nl)<|nN<|fun a55 w55 h55=>x_again ⟨_, ?_,(q+1),(stepE z1 (nth layer q).st), ?_, ?_,h55.nrm ⟨rfl,rfl,rfl,rfl,rfl,rfl,rfl,trivial⟩ [4,5,6,2,3,0,7] rfl,rfl⟩;clear h54
   · rw [hm39];first|omega|(simp only [lens9];omega)
   · omega
   · rw [take_succ_nth _ _ (by simpa using hil),List.foldl_append,←hz1,nth_map' _ _ _ hil];rfl
  refine gX<|hK k37<|sG (oM 1 rfl<|.nl)<|gK fun _ k57=>sG (oM 1 rfl<|oln (n:=layer.length) sl_151 (aO 0 rfl) rfl<|oM 1 rfl<|.nl)<|gB<|fun a61 w61 h61=> ?_
  have h60:=h61.nil (α:=PSD F) 85
  clear h61
  refine x_loop (fun m a w=>∃(i:Nat) (nx:List (PSD F)) (es2:List OutL) (ks2:List ByteArray) (vn ve2:Value),(i≤layer.length)∧(BI (pgN code words0 Lk R) F.m (S0++layer.map PSD.st++nx.map PSD.st) (fun y=>y∈(layer.map PSD.st).drop i∨y∈nx.map PSD.st) (es2.map OutL.out))∧(ks2=(S0++layer.map PSD.st++nx.map PSD.st).map (keyS F.tq))∧(PL K W code b12 nx)∧(∀s∈S0++layer.map PSD.st++nx.map PSD.st,F.Q (s.ths.map Th.wait))∧(∀o∈es2,∀b,Enc.on o b→K b∨W.heap.size≤b)∧(es2.length≤17*(S0.length+i))∧(nx.length≤16*i)∧St 83 K W a w [(2, .func (.func fe) us.toArray ws.toArray),(9, .map (some g23)),(10,ve2),(14,vn),(42,vl),(43, .int .i64 ((layer.length:Nat):Int)),(44, .int .i64 ((i:Nat):Int))] [.own 85 (⟨vl,layer⟩:Ls (PSD F)), .strO g23 ks2, .rd1 x0, .rblk b12 25 [code.v,pw, .int .i64 ((Lk:Nat):Int), .int .i64 ((R:Nat):Int)], .at_ code,env z1, .own 39 (⟨ve2,es2⟩:Ls OutL), .own 85 (⟨vn,nx⟩:Ls (PSD F))]∧m=layer.length-i) ⟨_,0, [],es,ks,(.slice none 0 0),ve,(by omega),((by have h9:=hbi.mono (F' :=fun y=>y∈(layer.map PSD.st).drop 0∨y∈([]:List (PSD F)).map PSD.st) (fun s hs h=> .inl (.inl h));simpa using h9)),(by simpa using hks),(PL.nil),(by simpa using hqw),(hen),(hel),(by simp),h60.nrm ⟨rfl,rfl,rfl,rfl,rfl,rfl,rfl,trivial⟩ [1,2,3,4,5,6,7,0] rfl,rfl⟩ ?_
  clear h60
  rintro m59 a59 w59 ⟨i,nx,es2,ks2,vn,ve2,hi,hb2,hks2,hnx,hqw2,hen2,hel2,hnl2,h59,hm59⟩
  refine gG h59<|sG (oltN _ _ rfl<|.nl)<|gK fun _ k63=>gcd rfl (fun hb64 hp64=> ?_) fun hb64 hp64=> ?_;clear h59
  ·skip
   refine gS<|hK k63<|gK fun _ k65=>gB<|sG (oxN sl_151 ti_85 (aO 0 rfl) _ om9 rfl<|olE (.pointer (some ⟨(nth layer i).g,0,none⟩)) ti_85 (aO 0 rfl) om9 rfl<|oM 1 rfl<|.nl)<|?_
   have hil:i<layer.length:=by omega
   have hmi:=nth_mem layer i hil
   have hpxi:PX code words0 Lk R (nth layer i):=hlx.px hbi (fun y hy=>List.mem_append.2 (.inr (List.mem_map.2 ⟨y,hy,rfl⟩))) (by rw [List.length_append,List.length_map];omega) hmi
   have hgpi:(nth layer i).gp=b12:=hlx.gp _ hmi
   intro a68 w68 h68
   have h67:=h68.addRd (A:= .rd1 (nth layer i)) ((h68.sh.own 0 rfl).inner i (by omega)) (fun b hb=>hb) (fun b hb=>⟨.own 85 (⟨vl,layer⟩:Ls (PSD F)),List.mem_of_getElem? (i:=0) rfl,i,(by show i<layer.length;omega),hb⟩)
   clear h68
   refine gG h67<|sK fun _ k69=>gRn (oM 1 rfl<|.nl)<|fun a71 w71 h71=>wl_ex (x_call h71 bd_102 rfl rfl rfl rfl rfl (look_c F (nth layer i) code words0 Lk R pw _ hF (PSD.rd (h71.sh.ok (.rd1 (nth layer i)) (List.mem_of_getElem? (i:=0) rfl))) (by rw [hgpi];exact h71.sh.rblk 4 rfl) (h71.sh.at 5 rfl) hok hR hpxi)) (wanted_none rfl _) ?_;clear h67
   rintro a72 w72 ⟨_,⟨os,ns,rfl,hosl,hnsl,hnsx,hosx,hs72⟩,hf72⟩
   have hsz:=h71.sh.chg.size
   have hosn:∀o∈os.l,∀b,Enc.on o b→K b∨W.heap.size≤b:=fun o ho b hb=>(hosx o ho b hb).elim (fun h=> .inr (Nat.le_trans hsz h)) (fun h=>hlx.nw _ hmi b (psd_prints (h71.sh.ok (.rd1 (nth layer i)) (List.mem_of_getElem? (i:=0) rfl)) h))
   have hosr:∀o∈os.l,∀b,Enc.on o b→_∨Enc.on (nth layer i) b:=fun o ho b hb=>(hosx o ho b hb).imp id (fun h=>psd_prints (h71.sh.ok (.rd1 (nth layer i)) (List.mem_of_getElem? (i:=0) rfl)) h)
   have h72:=(⟨hf72,h71.sh.call hs72 (by intro A hA b hb;simp only [List.mem_cons,List.not_mem_nil,or_false] at hA;first|(rcases hA with rfl|rfl|rfl|rfl<;>first|exact (hb:False).elim|exact Flat.noRd hb|exact regNoRd hb)|(rcases hA with rfl|rfl;(obtain ⟨i9,hi9,hb9⟩:=hb;exact (hosr _ (nth_mem _ _ hi9) b hb9).imp id (fun h=>⟨_,List.mem_cons_self ..,h⟩));(obtain ⟨i9,hi9,hb9⟩:=hb;exact .inl ((hnsx _ (nth_mem _ _ hi9)).2.2.2 b hb9))))⟩:St 83 K W a72 w72 _ _)
   clear hf72 hs72
   clear h71
   refine gG h72<|gal ti_153 rfl fun b73=>gE (fun _ _ h_=>x_stb (i:=0) (vs:= [ns.v,os.v]) (cs' := [ns.v,os.v]) h_ ti_153 rfl rfl rfl rfl rfl rfl rfl (allOne_cons ((h_.sh.own 2 rfl)).one (allOne_cons ((h_.sh.own 1 rfl)).one allOne_nil)) (Nat.le_of_ble_eq_true rfl) rfl) rfl<|nK k69<|?_;clear h72
   have hmv16:(movesV (pgN code words0 Lk R) F.m (nth layer i).st).length≤16:=movesV_len16 hok hpxi
   obtain ⟨hol17,hnl16⟩:=lookE_len hmv16
   have hosn17:os.l.length≤17:=by rw [←hosl,List.length_map] at hol17;exact hol17
   have hnsn16:ns.l.length≤16:=by rw [←hnsl,List.length_map] at hnl16;exact hnl16
   have hrx:=hbi.reach _ (List.mem_append.2 (.inr (List.mem_map.2 ⟨_,hmi,rfl⟩)))
   have hprx:=hbi.pr _ (List.mem_append.2 (.inr (List.mem_map.2 ⟨_,hmi,rfl⟩)))
   rw [List.length_append,List.length_map] at hprx
   have hnsr:∀y∈ns.l,Reach (pgN code words0 Lk R) F.m y.st∧y.st.prints.length≤(nth layer i).st.prints.length+2:=fun y hy=>look_reach hrx (by rw [←hnsl];exact List.mem_map.2 ⟨y,hy,rfl⟩)
   refine sK fun _ k75=>gRn (oM 1 rfl<|ofB fl_153_1 rfl<|olB 0 ti_35 rfl rfl<|.nl)<|gE1 (fun _ _ h_=>x_app (r:=10) (rm:=1) (s:=(⟨ve2,es2⟩:Ls OutL)) (m:=os) h_ sl_35 ti_39 rfl rfl rfl rfl rfl rfl rfl (fun w h=>(h.own 1 rfl)) (fun b hb=>own_on (h_.sh.ok _ (List.mem_of_getElem? (i:=1) rfl)) hb) (fun q hq b hb=>⟨q,hq,hb⟩) rfl rfl rfl inferInstance (show (es2.length+os.l.length)*56≤140737488355328∧es2.length+os.l.length≤140737488355328 from om9) rfl rfl) rfl fun v76=>gRn (oM 1 rfl<|.nl)<|nK k75<|sK fun _ k77=>gNl (aO 2 rfl) fun hl78=>gRn (ofB fl_153_0 rfl<|olB 0 ti_151 rfl rfl<|oln sl_151 (aO 2 rfl) rfl<|oM 1 rfl<|.nl)<|nK k77<|gB<|fun a80 w80 h80=>x_loop (fun m a w=>∃(j:Nat) (nx3:List (PSD F)) (ks3:List ByteArray) (vn3:Value),(j≤ns.l.length)∧(BI (pgN code words0 Lk R) F.m (S0++layer.map PSD.st++nx3.map PSD.st) (fun y=>y∈(layer.map PSD.st).drop i∨y∈nx3.map PSD.st) ((es2++os.l).map OutL.out))∧(ks3=(S0++layer.map PSD.st++nx3.map PSD.st).map (keyS F.tq))∧(PL K W code b12 nx3)∧(∀s∈S0++layer.map PSD.st++nx3.map PSD.st,F.Q (s.ths.map Th.wait))∧(∀k,k<j→(nth ns.l k).st∈S0++layer.map PSD.st++nx3.map PSD.st)∧(nx3.length≤16*i+j)∧St 83 K W a w [(2, .func (.func fe) us.toArray ws.toArray),(9, .map (some g23)),(10,v76),(14,vn3),(42,vl),(43, .int .i64 ((layer.length:Nat):Int)),(44, .int .i64 ((i:Nat):Int)),(55,ns.v),(56, .int .i64 ((ns.l.length:Nat):Int)),(57, .int .i64 ((j:Nat):Int))] [.own 39 os, .own 85 ns, .rd1 (nth layer i), .own 85 (⟨vl,layer⟩:Ls (PSD F)), .strO g23 ks3, .rd1 x0, .rblk b12 25 [code.v,pw, .int .i64 ((Lk:Nat):Int), .int .i64 ((R:Nat):Int)], .at_ code,env z1, .own 39 (⟨v76,es2++os.l⟩:Ls OutL), .own 85 (⟨vn3,nx3⟩:Ls (PSD F))]∧m=ns.l.length-j) ⟨_,0,nx,ks2,vn,(by omega),((hb2.outs (E' :=(es2++os.l).map OutL.out) (fun o ho=>by rw [List.map_append] at ho;exact (List.mem_append.1 ho).elim (hb2.sound o) (fun h=>look_outs hrx (by rw [←hosl];exact h))) (fun o ho=>by rw [List.map_append];exact List.mem_append.2 (.inl ho)))),(hks2),(hnx),(hqw2),(fun k hk=>absurd hk (by omega)),(by omega),h80.nrm ⟨rfl,rfl,rfl,rfl,rfl,rfl,rfl,rfl,rfl,rfl,trivial⟩ [1,2,3,4,5,6,7,8,9,10,11] rfl,rfl⟩ ?_
   clear h80
   rintro m79 a79 w79 ⟨j,nx3,ks3,vn3,hj,hb3,hks3,hnx3,hqw3,hdn,hnl3,h79,hm79⟩
   refine gG h79<|sG (oltN _ _ rfl<|.nl)<|gK fun _ k82=>gcd rfl (fun hb83 hp83=> ?_) fun hb83 hp83=> ?_;clear h79
   ·skip
    refine gS<|hK k82<|gK fun _ k84=>gB<|sG (oxN sl_151 ti_85 (aO 1 rfl) _ om9 rfl<|olE (.pointer (some ⟨(nth ns.l j).g,0,none⟩)) ti_85 (aO 1 rfl) om9 rfl<|oM 1 rfl<|.nl)<|?_
    have hmj:=nth_mem ns.l j (by omega)
    obtain ⟨hyg,hyr,hyq,hyn⟩:=hnsx _ hmj
    obtain ⟨hyre,hypr⟩:=hnsr _ hmj
    have hpxj:PX code words0 Lk R (nth ns.l j):=⟨hyre,hyr,hyq,by have h9:(nth ns.l j).prints.l.length≤_:=hypr;have h8:=hprx;omega⟩
    have hkm:=key_mem hok hF.tq hF.qQ (y:=nth ns.l j) hyre (fun s hs=>hb3.reach s hs) (psd_wait (by rw [hyq,hyr])) hqw3
    rw [←hks3] at hkm
    intro a87 w87 h87
    have h86:=h87.addRd (A:= .rd1 (nth ns.l j)) ((h87.sh.own 1 rfl).inner j (by omega)) (fun b hb=>hb) (fun b hb=>⟨.own 85 ns,List.mem_of_getElem? (i:=1) rfl,j,(by show j<ns.l.length;omega),hb⟩)
    clear h87
    refine gG h86<|sK fun _ k88=>gRn (oM 1 rfl<|.nl)<|gP (fun _ _ h_=>xCl h_ bd_101 rfl (key_c F (nth ns.l j) _ hF (PSD.rd (h_.sh.ok (.rd1 (nth ns.l j)) (List.mem_of_getElem? (i:=0) rfl))) (hpxj.key hok hR) (by rw [hyq,hyr]))) rfl<|gRn (oM 1 rfl<|.nl)<|nK k88<|sG (oM 2 rfl<|oV (r_lookStr (i:=5) (k:=(keyS F.tq (nth ns.l j).st)) (l:=ks3) mstr_150 rfl rfl rfl rfl) rfl<|ont rfl<|.nl)<|?_;clear h86
    refine gCb rfl (fun hb91=> ?_) fun hb91=> ?_
    ·have hp91:¬((keyS F.tq (nth ns.l j).st)∈ks3):=by simpa using hb91
     have hnm:¬keyS F.tq (nth ns.l j).st∈ks3:=by simpa using hb91
     have hnS:=fun h=>hnm (hkm.2 h)
     have hSl:(S0++layer.map PSD.st++nx3.map PSD.st).length=S0.length+layer.length+nx3.length:=by simp [Nat.add_assoc]
     have hypr9:(nth ns.l j).st.prints.length≤2*((S0++layer.map PSD.st++nx3.map PSD.st).length+1):=by rw [hSl];omega
     have hb3a:=(hb3.add hyre hnS hypr9).mono (F' :=fun z=>z∈(layer.map PSD.st).drop i∨z∈(nx3++ [(nth ns.l j)]).map PSD.st) (fun s hs h=> .inl (by rw [List.map_append];rcases h with (h|h)|h;exact .inl h;exact .inr (List.mem_append.2 (.inl h));exact .inr (List.mem_append.2 (.inr (by rw [h];exact List.mem_singleton.2 rfl)))))
     have heS:S0++layer.map PSD.st++(nx3++ [(nth ns.l j)]).map PSD.st=(S0++layer.map PSD.st++nx3.map PSD.st)++ [(nth ns.l j).st]:=by rw [List.map_append,←List.append_assoc];rfl
     have hb3N:BI (pgN code words0 Lk R) F.m (S0++layer.map PSD.st++(nx3++ [(nth ns.l j)]).map PSD.st) (fun z=>z∈(layer.map PSD.st).drop i∨z∈(nx3++ [(nth ns.l j)]).map PSD.st) ((es2++os.l).map OutL.out):=by rw [heS];exact hb3a
     have hks3N:ks3++ [keyS F.tq (nth ns.l j).st]=(S0++layer.map PSD.st++(nx3++ [(nth ns.l j)]).map PSD.st).map (keyS F.tq):=by rw [heS,List.map_append,←hks3];rfl
     have hnx3N:=hnx3.snoc (hyg.trans hgpi) hyr hyq (fun b hb=> .inr (Nat.le_trans hsz (hyn b hb)))
     have hqw3N:∀s∈S0++layer.map PSD.st++(nx3++ [(nth ns.l j)]).map PSD.st,F.Q (s.ths.map Th.wait):=by rw [heS];exact fun s hs=>(List.mem_append.1 hs).elim (hqw3 s) (fun h=>by obtain rfl:=List.mem_singleton.1 h;rw [psd_wait (by rw [hyq,hyr])];exact hF.qQ _ _)
     have hdnN:∀k,k<j+1→(nth ns.l k).st∈S0++layer.map PSD.st++(nx3++ [(nth ns.l j)]).map PSD.st:=by rw [heS];exact fun k hk=>List.mem_append.2 ((Nat.lt_or_ge k j).imp (hdn k) (fun h=>by obtain rfl:k=j:=(by omega);exact List.mem_singleton.2 rfl))
     have hnl3N:(nx3++ [(nth ns.l j)]).length≤16*i+(j+1):=by rw [List.length_append];simp only [List.length_cons,List.length_nil];omega
     refine sK fun _ k92=>gRn (oM 2 rfl<|.nl)<|gE (fun _ _ h_=>x_updStr (i:=5) (k:=(keyS F.tq (nth ns.l j).st)) h_ mstr_150 rfl rfl rfl rfl rfl rfl (by first|exact hnm|simp)) rfl<|nK k92<|gL<|gRn (oM 2 rfl<|.nl)<|gE1 (fun _ _ h_=>x_lit (n:=1) (cs:= [.pointer (some ⟨(nth ns.l j).g,0,none⟩)]) ([nth ns.l j]:List (PSD F)) h_ sl_151 ti_85 rfl rfl rfl (by decide) rfl (by kernel_rfl) rfl (fun q hq w h=>by obtain rfl:q=0:=(by simpa using hq);exact h.ok _ (List.mem_of_getElem? (i:=0) rfl)) (fun q hq b hb=>by obtain rfl:q=0:=(by simpa using hq);exact ⟨_,List.mem_of_getElem? (i:=0) rfl,hb⟩) rfl rfl) rfl fun v94=>gE1 (fun _ _ h_=>x_app (r:=12) (rm:=0) (s:=(⟨vn3,nx3⟩:Ls (PSD F))) (m:=(⟨v94, [nth ns.l j]⟩:Ls (PSD F))) h_ sl_151 ti_85 rfl rfl rfl rfl rfl rfl rfl (fun w h=>(h.own 0 rfl)) (fun b hb=>own_on (h_.sh.ok _ (List.mem_of_getElem? (i:=0) rfl)) hb) (fun q hq b hb=>⟨q,hq,hb⟩) rfl rfl rfl inferInstance (show (nx3.length+([nth ns.l j]).length)*8≤140737488355328∧nx3.length+([nth ns.l j]).length≤140737488355328 from om9) rfl rfl) rfl fun v95=>gRn (oM 1 rfl<|.nl)<|nK k84<|gL<|gRn (oadN _ 1 om9 rfl<|oM 1 rfl<|.nl)<|nN<|fun a96 w96 h96=>x_again ⟨_, ?_,(j+1),nx3++([nth ns.l j]),ks3++ [(keyS F.tq (nth ns.l j).st)],v95, ?_, ?_, ?_, ?_, ?_, ?_, ?_,h96.nrm ⟨rfl,rfl,rfl,rfl,rfl,rfl,rfl,rfl,rfl,rfl,trivial⟩ [2,3,4,5,6,7,8,9,10,11,12] rfl,rfl⟩
     · rw [hm79];first|omega|(simp only [lens9];omega)
     · omega
     · exact hb3N
     · exact hks3N
     · exact hnx3N
     · exact hqw3N
     · exact hdnN
     · exact hnl3N
    have hp91:(keyS F.tq (nth ns.l j).st)∈ks3:=by simpa using hb91
    have hyS:=hkm.1 (by simpa using hb91)
    have hb3N:=hb3;have hks3N:=hks3;have hnx3N:=hnx3;have hqw3N:=hqw3
    have hdnN:∀k,k<j+1→(nth ns.l k).st∈S0++layer.map PSD.st++nx3.map PSD.st:=fun k hk=>by rcases Nat.lt_or_ge k j with h|h;exact hdn k h;obtain rfl:k=j:=(by omega);exact hyS
    have hnl3N:nx3.length≤16*i+(j+1):=by omega
    refine gS<|hK k84<|gL<|gRn (oadN _ 1 om9 rfl<|oM 1 rfl<|.nl)<|nN<|fun a97 w97 h97=>x_again ⟨_, ?_,(j+1),nx3,ks3,vn3, ?_, ?_, ?_, ?_, ?_, ?_, ?_,h97.nrm ⟨rfl,rfl,rfl,rfl,rfl,rfl,rfl,rfl,rfl,rfl,trivial⟩ [1,2,3,4,5,6,7,8,9,10,11] rfl,rfl⟩
    · rw [hm79];first|omega|(simp only [lens9];omega)
    · omega
    · exact hb3N
    · exact hks3N
    · exact hnx3N
    · exact hqw3N
    · exact hdnN
    · exact hnl3N
   refine gX<|hK k65<|gL<|gRn (oadN _ 1 om9 rfl<|oM 1 rfl<|.nl)<|nN<|?_
   have hlN:∀z∈lookN (pgN code words0 Lk R) F.m (nth layer i).st,z∈S0++layer.map PSD.st++nx3.map PSD.st:=fun z hz=>by rw [←hnsl] at hz;obtain ⟨y,hy,rfl⟩:=List.mem_map.1 hz;obtain ⟨k,hk,rfl⟩:=List.mem_iff_getElem.1 hy;have h9:=hdn k (by omega);rwa [nth_lt _ _ hk] at h9
   have hexp:=look_exp (p:=(pgN code words0 Lk R)) (m:=F.m) (s:=(nth layer i).st) (E:=(es2++os.l).map OutL.out) (fun o ho=>by rw [List.map_append];exact List.mem_append.2 (.inr (by rw [hosl];exact ho))) hlN
   have hb4:=hb3.mono (F' :=fun y=>y∈(layer.map PSD.st).drop (i+1)∨y∈nx3.map PSD.st) (fun s hs h=>by rcases h with h|h;rw [drop_map hil] at h;rcases List.mem_cons.1 h with rfl|h;exact .inr hexp;exact .inl (.inl h);exact .inl (.inr h))
   have hen3:∀o∈es2++os.l,∀b,Enc.on o b→K b∨W.heap.size≤b:=fun o ho=>(List.mem_append.1 ho).elim (hen2 o) (hosn o)
   have hel3:(es2++os.l).length≤17*(S0.length+(i+1)):=by rw [List.length_append];omega
   intro a98 w98 h98
   refine x_again ⟨_, ?_,(i+1),nx3,es2++os.l,ks3,vn3,v76, ?_, ?_, ?_, ?_, ?_, ?_, ?_, ?_,h98.nrm ⟨rfl,rfl,rfl,rfl,rfl,rfl,rfl,trivial⟩ [3,4,5,6,7,8,9,10] rfl,rfl⟩
   · rw [hm59];first|omega|(simp only [lens9];omega)
   · omega
   · exact hb4
   · exact hks3
   · exact hnx3
   · exact hqw3
   · exact hen3
   · exact hel3
   · omega
  refine gX<|hK k57<|gK fun _ k99=>sG (oM 1 rfl<|oV (r_lenStrO (i:=1) (l:=ks2) mstr_150 rfl rfl rfl) rfl<|ogtN _ 4000 rfl<|.nl)<|gcd rfl (fun hb101 hp101=> ?_) fun hb101 hp101=> ?_
  ·skip
   have hksl:ks2.length=S0.length+layer.length+nx.length:=by rw [hks2,List.length_map,List.length_append,List.length_append,List.length_map,List.length_map]
   have hbig:=hb2.big (by rw [List.length_append,List.length_append,List.length_map,List.length_map];omega)
   refine sG (oM 2 rfl<|.nl)<|gR<|fun a103 w103 h103=> ?_
   try simp only [Exit.then,Exit.inBlock]
   refine x_ret2 (fn:=Tryz.f61) (t:=6) (u:=7) rfl h103 rfl rfl ?_
   exact ⟨z1, .inl ⟨rfl,hbig,(h103.sh.sel [5] rfl)⟩⟩
  refine gS<|hK k99<|gL<|gRn (oM 2 rfl<|.nl)<|nN<|fun a104 w104 h104=> ?_
  change∃_m,_m<_∧_
  have hbiN:=hb2.mono (F' :=fun y=>y∈nx.map PSD.st) (fun s hs h=> .inl (h.elim (fun h=>by rw [List.drop_of_length_le (by simp;omega)] at h;cases h) id))
  have hksl:ks2.length=S0.length+layer.length+nx.length:=by rw [hks2,List.length_map,List.length_append,List.length_append,List.length_map,List.length_map]
  refine ⟨_, ?_,(S0++layer.map PSD.st),nx,es2,z1,ks2,vn,ve2, ?_, ?_, ?_, ?_, ?_, ?_, ?_, ?_,h104.nrm ⟨rfl,rfl,rfl,rfl,trivial⟩ [7,1,2,3,4,5,6] rfl,rfl⟩
  · rw [hm30];(rw [List.length_append,List.length_map];omega)
  · exact hbiN
  · exact hks2
  · exact hnx
  · exact hqw2
  · (rw [List.length_append,List.length_map];omega)
  · exact hen2
  · (rw [List.length_append,List.length_map];omega)
  · rw [hz1,hz,List.foldl_append,List.take_of_length_le (by simp;omega)]
 refine gX<|hK k27<|sK fun _ k105=>gRn (oM 1 rfl<|.nl)<|gO [6,0,1,2,3,4,5] rfl<|fun a111 w111 h111=> ?_
 have hp110:=h111.sh.passL (Lp:= [_])
 refine wl_ex (x_call h111 bd_103 rfl rfl rfl rfl rfl (sortOut_c _ (⟨ve,es⟩:Ls OutL) _ hp110)) (wanted_none rfl _) ?_
 rintro a112 w112 ⟨_,⟨rfl,l9,hperm,hsort,hs112⟩,hf112⟩
 have h112:St 83 K W a112 w112 _ [_,_,_,_,_,_,_]:=⟨hf112,h111.sh.backL (Lp:= [_]) hs112 (by intro A hA b hb;simp only [List.mem_cons,List.not_mem_nil,or_false] at hA;rcases hA with rfl<;>first|exact (hb:False).elim|exact Flat.noRd hb|exact .inl ⟨_,List.mem_cons_self .., .inr hb⟩|(obtain ⟨i9,hi9,hb9⟩:=hb;have hm9:=hperm.subset (nth_mem _ _ hi9);obtain ⟨k9,hk9,e9⟩:=List.mem_iff_getElem.1 hm9;exact .inl ⟨_,List.mem_cons_self .., .inr ⟨k9,hk9,by rw [nth_lt _ _ hk9,e9];exact hb9⟩⟩)|exact .inl ⟨_,by simp, .inr hb⟩)⟩
 clear hf112 hs112
 clear h111
 refine gG h112<|nK k105<|sK fun _ k113=>gRn (oM 1 rfl<|.nl)<|fun a117 w117 h117=> ?_;clear h112
 have hp116:=h117.sh.passL (Lp:= [_])
 refine wl_ex (x_call h117 bd_104 rfl rfl rfl rfl rfl (compact_c _ (⟨ve,l9⟩:Ls OutL) _ hp116 (by show l9.length≤_;rw [hperm.length_eq];show es.length≤_;omega))) (wanted_none rfl _) ?_
 rintro a118 w118 ⟨_,⟨u9,rfl,hu9,hs118⟩,hf118⟩
 have h118:St 83 K W a118 w118 _ [_,_,_,_,_,_,_]:=⟨hf118,h117.sh.backL (Lp:= [_]) hs118 (by intro A hA b hb;simp only [List.mem_cons,List.not_mem_nil,or_false] at hA;rcases hA with rfl<;>first|exact (hb:False).elim|exact Flat.noRd hb|exact .inl ⟨_,List.mem_cons_self .., .inr hb⟩|(obtain ⟨i9,hi9,hb9⟩:=hb;have hm8:nth u9.l i9∈keepL eqO l9 l9.length:=(by rw [←show u9.l=keepL eqO l9 l9.length from hu9];exact nth_mem _ _ hi9);have hm9:=keepL_mem (Nat.le_refl _) _ hm8;obtain ⟨k9,hk9,e9⟩:=List.mem_iff_getElem.1 hm9;exact .inl ⟨.own 39 (⟨ve,l9⟩:Ls OutL),List.mem_cons_self .., .inr ⟨k9,hk9,by rw [nth_lt _ _ hk9,e9];exact hb9⟩⟩)|exact .inl ⟨_,by simp, .inr hb⟩)⟩
 clear hf118 hs118
 clear h117
 refine gG h118<|gRn (oM 2 rfl<|.nl)<|nK k113<|gR<|fun a119 w119 h119=> ?_;clear h118
 try simp only [Exit.then,Exit.inBlock]
 refine x_ret2 (fn:=Tryz.f61) (t:=6) (u:=7) rfl h119 rfl rfl ?_
 have hle0:layer= []:=List.eq_nil_of_length_eq_zero (by omega)
 have hFf:∀s∈S0++layer.map PSD.st,¬s∈layer.map PSD.st:=by rw [hle0];intro s _ h;cases h
 have hks:=keep_sorted (l:=l9.map OutL.out) (eq:=fun a b=>decide (a=b)) (fun a b=>decide_eq_true_iff) hsort
 have hue:u9.l.map OutL.out=keepL (fun a b=>decide (a=b)) (l9.map OutL.out) (l9.map OutL.out).length:=by rw [hu9,List.length_map];exact keepL_map _ (Nat.le_refl _)
 refine ⟨z, .inr ⟨u9,S0++layer.map PSD.st,rfl,by rw [hue];exact hks.1,fun o=> ?_,hbi.small hFf (by rw [List.length_append,List.length_map];omega),by rw [hle0];show z=(S0++ []).foldl stepE z0;rw [List.append_nil];exact hz,hbi.nd,hbi.states hFf,fun o ho b hb=>hen o (hperm.subset (keepL_mem (Nat.le_refl _) _ (hu9▸ho))) b hb, ?_,(h119.sh.sel [0,6] rfl)⟩⟩
 · rw [hue,hks.2 o,(hperm.map OutL.out).mem_iff];exact hbi.all hFf o
 · rw [hu9];have h9:=keepL_le eqO l9 l9.length;have h8:=hperm.length_eq;have h7:l9.length≤17*S0.length:=(by rw [h8];exact hel);show (keepL eqO l9 l9.length).length≤_;omega
end Go.Proofs.YtmjkobhkkjgplaaGreatDoor
end
section
namespace Go.Proofs.YtmjkobhkkjgplaaGreatDoor
open Go.ChangeShapes Go.WideShapes Go.ChangeAt Go.RowKit
open Go.Deep (open_slice)
set_option linter.unusedSimpArgs false
set_option linter.unusedVariables false
class Rd (α:Type) extends Enc α where
 ty:Program→TypeId→Prop
 fine:α→Prop
 read:∀ {H:Type} {enc:TypeId×Value→H} {P:Program} {w:World} {base:Nat} {spare:Nat→Bool} {held:Bool} {fuel:Nat} {T:TypeId} {cs:List Value} {x:DataW H×List MemPlace},
  ty P T→DataW.trod enc P w base spare held fuel T cs=some x→(∀n∈DataW.weights P T x.1,n≤reachBytes)→∃a:α,cs=cellsOf a∧Enc.inner a w∧fine a
instance : Rd Int where
 ty P T:=P.underlying T=some (.int .i64)
 fine n:=(Lit.int .i64 n).wf=true
 read hT h _:=by
  obtain ⟨n,rfl,_,hw⟩:=DataW.trod_int hT h
  exact ⟨n,rfl,trivial,hw⟩
instance : Rd Bool where
 ty P T:=P.underlying T=some .bool
 fine _:=True
 read hT h _:=by
  obtain ⟨b,rfl,_⟩:=DataW.trod_bool hT h
  exact ⟨b,rfl,trivial,trivial⟩
def intFields (P:Program) (fs:Array Field) (n:Nat):Prop:=fs.size=n∧∀(j:Nat) (f:Field),fs[j]? =some f→f.offset=j∧P.underlying f.type=some (.int .i64)∧P.cellsOf f.type=1
theorem read_ints {H:Type} {enc:TypeId×Value→H} {P:Program} {w:World} {base:Nat} {spare:Nat→Bool} {held:Bool} {fuel:Nat} {T:TypeId} {cs:List Value} {x:DataW H×List MemPlace} {fs:Array Field} {n:Nat}
  (hT:P.underlying T=some (.struct fs)) (hfs:intFields P fs n) (hC:P.cellsOf T=n) (h:DataW.trod enc P w base spare held fuel T cs=some x):
  cs.length=n∧∀j,j<n→∃k:Int,cs[j]? =some (.int .i64 k)∧(Lit.int .i64 k).wf=true:=by
 obtain ⟨xs,m,_,_,hlen,hxl,hf⟩:=DataW.trod_struct hT h
 refine ⟨hlen.trans hC,fun j hj=> ?_⟩
 obtain ⟨hs,hall⟩:=hfs
 have hjs:j<fs.size:=by omega
 obtain ⟨ho,ht,hc⟩:=hall j fs[j] (by simp [hjs])
 have h1:=hf j fs[j] (by simp [hjs])
 rw [ho,hc,List.getElem?_eq_getElem (by omega)] at h1
 obtain ⟨k,hk,_,hw⟩:=DataW.trod_int ht h1
 refine ⟨k, ?_,hw⟩
 rw [List.drop_eq_getElem_cons (by omega)] at hk
 simp only [List.take_succ_cons,List.take_zero,List.cons.injEq,and_true] at hk
 rw [List.getElem?_eq_getElem (by omega),hk]
instance : Rd Ins where
 ty P T:=∃fs,P.underlying T=some (.struct fs)∧intFields P fs 4∧P.cellsOf T=4
 fine x:=(Lit.int .i64 x.op).wf=true∧(Lit.int .i64 x.a).wf=true∧(Lit.int .i64 x.b).wf=true∧(Lit.int .i64 x.c).wf=true
 read:=by
  rintro H enc P w base spare held fuel T cs x ⟨fs,hT,hfs,hC⟩ h _
  obtain ⟨hl,hj⟩:=read_ints hT hfs hC h
  obtain ⟨k0,e0,w0⟩:=hj 0 (by omega)
  obtain ⟨k1,e1,w1⟩:=hj 1 (by omega)
  obtain ⟨k2,e2,w2⟩:=hj 2 (by omega)
  obtain ⟨k3,e3,w3⟩:=hj 3 (by omega)
  match cs,hl with
  | [c0,c1,c2,c3],_=>
   simp only [List.getElem?_cons_zero,List.getElem?_cons_succ,Option.some.injEq] at e0 e1 e2 e3
   subst e0 e1 e2 e3
   exact ⟨⟨k0,k1,k2,k3⟩,rfl,trivial,w0,w1,w2,w3⟩
theorem weights_slice {H:Type} {P:Program} {T e:TypeId} {elems spare:List (DataW H)} (hT:P.underlying T=some (.slice e)) (h:∀n∈DataW.weights P T (.slice elems spare),n≤reachBytes):
  (elems.length+spare.length)*P.bytesOf e≤reachBytes∧∀d∈elems,∀n∈DataW.weights P e d,n≤reachBytes:=by
 unfold DataW.weights at h
 rw [hT] at h
 refine ⟨h _ (by simp),fun d hd n hn=>h n ?_⟩
 have:∀l:List (DataW H),d∈l→n∈DataW.weightsAll P e l:=by
  intro l hl
  induction l with
  |nil=>cases hl
  |cons y l ih=>
   unfold DataW.weightsAll
   rcases List.mem_cons.1 hl with rfl|hl
   ·exact List.mem_append.2 (.inl hn)
   ·exact List.mem_append.2 (.inr (ih hl))
 simp only [List.mem_cons,List.mem_append]
 exact .inr (.inl (this _ hd))
instance {α:Type} [Rd α]:Rd (Sl α) where
 ty P T:=∃e,P.underlying T=some (.slice e)∧P.cellsOf e=Enc.sz α∧1≤P.bytesOf e∧0<Enc.sz α∧Rd.ty α P e
 fine s:=∀i,i<s.l.length→Rd.fine (nth s.l i)
 read:=by
  rintro H enc P w base spare held fuel T cs x ⟨e,hT,hC,hB,hpos,hty⟩ h hw
  rcases open_slice hT h with ⟨rfl,rfl⟩|⟨a,len,cap,m,n,D,Pl,rfl,_,hl,hm,hmm,rfl,hi⟩
  ·refine ⟨⟨none,0, []⟩,rfl,⟨Nat.le_refl _,by simp,by simp,fun hh=>absurd hh (by simp),fun hh=>absurd hh (by simp),fun i j hi=>absurd hi (by simp),fun i hi=>absurd hi (by simp)⟩,fun i hi=>absurd hi (by simp)⟩
  ·obtain ⟨hb,hd⟩:=weights_slice hT hw
   have hlm:len≤m:=by rw [hmm];split<;>omega
   have hlen:len≤140737488355328:=by
    simp only [List.length_map,List.length_range,reachBytes] at hb
    have:(len+(m-len))*1≤(len+(m-len))*P.bytesOf e:=Nat.mul_le_mul_left _ hB
    omega
   have key:∀i,i<len→∃y:α,(∀j,j<Enc.sz α→w.cell? ((a.add (i*Enc.sz α)).add j)=some (Enc.cell y j))∧Enc.inner y w∧Rd.fine y:=by
    intro i hil
    obtain ⟨cs',hc',ht'⟩:=hi i (by omega)
    obtain ⟨y,hy,hin,hf⟩:=Rd.read hty ht' (hd _ (List.mem_map.2 ⟨i,by simpa using hil,rfl⟩))
    obtain ⟨_,hcl,hat⟩:=World.cells?_some hc'
    rw [hC] at hc' hat hcl
    refine ⟨y,fun j hj=> ?_,hin,hf⟩
    rw [hat j (by first|exact hj|omega)]
    subst hy
    simp [cellsOf,hj]
   obtain ⟨F,hF⟩:=Go.Deep.choose_lt key
   let l:=(List.range len).map F
   have hll:l.length=len:=by simp [l]
   have hn:∀i,i<len→nth l i=F i:=by intro i hil;simp [nth,l,hil]
   have hcell0:0<len→∃v,w.cell? a=some v:=fun h0=>⟨_,by
    have h1:=(hF 0 h0).1 0 hpos
    rw [Nat.zero_mul,Addr.add_zero',Addr.add_zero'] at h1
    exact h1⟩
   have hspot:0<len→a.spot=none:=by
    intro h0
    obtain ⟨v,hv⟩:=hcell0 h0
    unfold World.cell? at hv
    split at hv
    ·split at hv
     ·cases hv
     ·rename_i hs
      simpa using hs
    ·cases hv
   refine ⟨⟨some a,cap,l⟩,by simp [cellsOf,Enc.cell,Enc.sz,hll],⟨by rw [hll];exact hl,hm,by rw [hll];exact hlen, ?_, ?_, ?_, ?_⟩, ?_⟩
   ·intro h0
    exact ⟨a,rfl,hspot (by rw [←hll];exact h0)⟩
   ·intro h0
    obtain ⟨v,hv⟩:=hcell0 (by rw [←hll];exact h0)
    exact World.block_lt_of_cell? w a hv
   ·intro i j hi' hj
    rw [hll] at hi'
    show w.cell? ⟨a.block,a.off+i*Enc.sz α+j,none⟩=some (Enc.cell (nth l i) j)
    rw [hn i hi',←(hF i hi').1 j hj]
    have hs:=hspot (by omega)
    rcases a with ⟨b,o,sp⟩
    simp only at hs
    subst hs
    rw [Addr.add_lit,Addr.add_lit]
   ·intro i hi'
    rw [hll] at hi'
    rw [hn i hi']
    exact (hF i hi').2.1
   ·intro i hi'
    rw [hll] at hi'
    rw [hn i hi']
    exact (hF i hi').2.2
def prFields (P:Program) (fs:Array Field):Prop:=
 ∃f0 f1 f2 f3:Field,fs= #[f0,f1,f2,f3]∧(f0.offset=0∧P.cellsOf f0.type=1∧Rd.ty (Sl (Sl Ins)) P f0.type)∧(f1.offset=1∧P.cellsOf f1.type=1∧Rd.ty (Sl Int) P f1.type)∧
  (f2.offset=2∧P.cellsOf f2.type=1∧Rd.ty Int P f2.type)∧(f3.offset=3∧P.cellsOf f3.type=1∧Rd.ty Int P f3.type)
def PR.fine (p:PR):Prop:=Rd.fine p.code∧Rd.fine p.words∧(Lit.int .i64 p.locks).wf=true∧(Lit.int .i64 p.regs).wf=true
theorem weights_agg {H:Type} {P:Program} {T:TypeId} {f0 f1 f2 f3:Field} {d0 d1 d2 d3:DataW H} (hT:P.underlying T=some (.struct #[f0,f1,f2,f3])) (h:∀n∈DataW.weights P T (.agg [d0,d1,d2,d3]),n≤reachBytes):
  (∀n∈DataW.weights P f0.type d0,n≤reachBytes)∧(∀n∈DataW.weights P f1.type d1,n≤reachBytes)∧(∀n∈DataW.weights P f2.type d2,n≤reachBytes)∧(∀n∈DataW.weights P f3.type d3,n≤reachBytes):=by
 unfold DataW.weights at h
 rw [hT] at h
 simp only [List.map_cons,List.map_nil,DataW.weightsEach,List.append_nil,List.mem_append] at h
 exact ⟨fun n hn=>h n (.inl hn),fun n hn=>h n (.inr (.inl hn)),fun n hn=>h n (.inr (.inr (.inl hn))),fun n hn=>h n (.inr (.inr (.inr hn)))⟩
theorem open_PR {H:Type} {enc:TypeId×Value→H} {P:Program} {w:World} {base:Nat} {spare:Nat→Bool} {held:Bool} {r:Go.Reach} {b0:Nat} {T:TypeId} {fs:Array Field} {v:Value} {d:DataW H} {p:List MemPlace}
  (hT:P.underlying T=some (.struct fs)) (hfs:prFields P fs) (hC:P.cellsOf T=4) (hv:Value.okWide P w r b0 T v) (h:DataW.Trod enc P w base spare held T v d p) (hw:∀n∈DataW.weights P T d,n≤reachBytes):
  ∃q:PR,v=q.val∧q.At w∧q.fine:=by
 obtain ⟨f0,f1,f2,f3,rfl,⟨o0,c0,t0⟩,⟨o1,c1,t1⟩,⟨o2,c2,t2⟩,⟨o3,c3,t3⟩⟩:=hfs
 obtain ⟨cs,rfl,hsz⟩:=okWide_struct hT hv
 obtain ⟨l⟩:=cs
 match l,hsz.trans hC with
 | [v0,v1,v2,v3],_=>
  obtain ⟨fuel,hf⟩:=h
  obtain ⟨xs,n,_,hx,_,hlen,hg⟩:=DataW.trod_struct hT hf
  match xs,hlen with
  | [y0,y1,y2,y3],_=>
   simp only [Prod.mk.injEq,List.map_cons,List.map_nil] at hx
   rw [hx.1] at hw
   obtain ⟨w0,w1,w2,w3⟩:=weights_agg hT hw
   have g0:=hg 0 f0 rfl
   have g1:=hg 1 f1 rfl
   have g2:=hg 2 f2 rfl
   have g3:=hg 3 f3 rfl
   rw [o0,c0] at g0
   rw [o1,c1] at g1
   rw [o2,c2] at g2
   rw [o3,c3] at g3
   simp [Value.cells] at g0 g1 g2 g3
   obtain ⟨s0,e0,i0,k0⟩:=Rd.read t0 g0 w0
   obtain ⟨s1,e1,i1,k1⟩:=Rd.read t1 g1 w1
   obtain ⟨s2,e2,i2,k2⟩:=Rd.read t2 g2 w2
   obtain ⟨s3,e3,i3,k3⟩:=Rd.read t3 g3 w3
   simp [cellsOf,Enc.cell,Enc.sz] at e0 e1 e2 e3
   subst e0 e1 e2 e3
   exact ⟨⟨s0,s1,s2,s3⟩,rfl,⟨i0,i1⟩,k0,k1,k2,k3⟩
end Go.Proofs.YtmjkobhkkjgplaaGreatDoor
end
section
namespace Go.Proofs.YtmjkobhkkjgplaaGreatDoor
open Go.ChangeShapes Go.WideShapes Go.ChangeAt Go.RowKit
set_option linter.unusedSimpArgs false
set_option linter.unusedVariables false
theorem own :ownKnob Tryz.prog.godebug=none:=by kernel_rfl
theorem laidOut :laidOutB Tryz.prog=true:=by kernel_rfl
theorem ty_int :Rd.ty Int Tryz.prog 3:=Tryz.underlying3
theorem ty_ins :Rd.ty Ins Tryz.prog 32:=by
 refine ⟨_,Tryz.underlying32,⟨rfl,fun j f hf=> ?_⟩,by kernel_rfl⟩
 rcases j with _|_|_|_|j<;>simp at hf<;>subst hf<;>exact ⟨rfl,Tryz.underlying3,by kernel_rfl⟩
theorem ty_ints :Rd.ty (Sl Int) Tryz.prog 23:=⟨_,Tryz.underlying23,by kernel_rfl,of_decide_eq_true (by kernel_rfl),by decide,ty_int⟩
theorem ty_code :Rd.ty (Sl Ins) Tryz.prog 33:=⟨_,Tryz.underlying33,by kernel_rfl,of_decide_eq_true (by kernel_rfl),by decide,ty_ins⟩
theorem ty_codes :Rd.ty (Sl (Sl Ins)) Tryz.prog 22:=⟨_,Tryz.underlying22,by kernel_rfl,of_decide_eq_true (by kernel_rfl),by decide,ty_code⟩
theorem ty_pr :∃fs,Tryz.prog.underlying 25=some (.struct fs)∧prFields Tryz.prog fs:=
 ⟨_,Tryz.underlying25,_,_,_,_,rfl,⟨rfl,by kernel_rfl,ty_codes⟩,⟨rfl,by kernel_rfl,ty_ints⟩,⟨rfl,by kernel_rfl,ty_int⟩,⟨rfl,by kernel_rfl,ty_int⟩⟩
end Go.Proofs.YtmjkobhkkjgplaaGreatDoor
end
section
namespace Go.Proofs.YtmjkobhkkjgplaaGreatDoor
open Go.ChangeShapes Go.WideShapes Go.ChangeAt Go.RowKit
set_option linter.unusedSimpArgs false
set_option linter.unusedVariables false
section
variable {α:Type} [Enc α]
def ofSl (s:Sl α):Ls α:=⟨.slice s.A s.l.length s.cap,s.l⟩
theorem ofSl_at {s:Sl α} {w:World} (h:s.At w):(ofSl s).At w:=⟨s.A,s.cap,rfl,h⟩
def ofSl2 (s:Sl (Sl α)):Ls (Ls α):=⟨.slice s.A s.l.length s.cap,s.l.map ofSl⟩
theorem ofSl2_at {s:Sl (Sl α)} {w:World} (h:s.At w):(ofSl2 s).At w:=by
 refine ⟨s.A,s.cap,by simp [ofSl2],⟨by simpa [ofSl2] using h.le,h.max,by simpa [ofSl2] using h.len,by simpa [ofSl2] using h.some,by simpa [ofSl2] using h.lt',fun i j hi hj=> ?_,fun i hi=> ?_⟩⟩
 ·have hi' :i<s.l.length:=by simpa [ofSl2] using hi
  show w.cell? _=some (Enc.cell (nth (s.l.map ofSl) i) j)
  rw [nth_map' ofSl _ _ hi']
  exact h.cell i j hi' hj
 ·have hi' :i<s.l.length:=by simpa [ofSl2] using hi
  show Enc.inner (nth (s.l.map ofSl) i) w
  rw [nth_map' ofSl _ _ hi']
  exact ofSl_at (h.inner i hi')
end
end Go.Proofs.YtmjkobhkkjgplaaGreatDoor
end
namespace Go.Proofs.YtmjkobhkkjgplaaGreatDoor
open Go.RowKit
set_option linter.unusedSimpArgs false
set_option linter.unusedVariables false
set_option maxRecDepth 100000
set_option maxHeartbeats 8000000
theorem Sh.mineL {K:Nat→Prop} {W w:World} {Lp Lr:List Asn} (h:Sh K W w (Lp++Lr)) {b:Nat} (hb:(∃A∈Lp,A.fp b)∨w.heap.size≤b):K b∨W.heap.size≤b:=
 hb.elim (fun ⟨A,hA,hf⟩=>h.mine A (List.mem_append.2 (.inl hA)) b hf) (fun h9=> .inr (Nat.le_trans h.chg.size h9))
structure FRes (p:Pg) (m:Int) {ζ:Type} (stepE:ζ→MSt→ζ) (z0:ζ) (K:Nat→Prop) (W:World) (ok:Bool) (u:Ls OutL) (z:ζ):Prop where
 big:ok=false→Big p m∧u.l= []
 good:ok=true→¬Big p m∧Sorted_ (u.l.map OutL.out)∧(∀o,o∈u.l.map OutL.out↔Outs p m o)∧∃S:List MSt,z=S.foldl stepE z0∧S.Nodup∧∀s,s∈S↔Reach p m s
 nw:∀o∈u.l,∀b,Enc.on o b→K b∨W.heap.size≤b
 len:u.l.length≤100000
theorem FRes.up {p:Pg} {m:Int} {ζ:Type} {stepE:ζ→MSt→ζ} {z0:ζ} {K K' :Nat→Prop} {W W' :World} {ok:Bool} {u:Ls OutL} {z:ζ} (h:FRes p m stepE z0 K W ok u z) (hb:∀b,K b∨W.heap.size≤b→K' b∨W'.heap.size≤b):FRes p m stepE z0 K' W' ok u z:=⟨h.big,h.good,fun o ho b h9=>hb b (h.nw o ho b h9),h.len⟩
theorem FRes.nilU {p:Pg} {m:Int} {ζ:Type} {stepE:ζ→MSt→ζ} {z0:ζ} {K:Nat→Prop} {W:World} {u:Ls OutL} {z:ζ} (h:FRes p m stepE z0 K W false u z):FRes p m stepE z0 K W false (⟨.slice none 0 0, []⟩:Ls OutL) z:=⟨fun h9=>⟨(h.big h9).1,rfl⟩,fun h9=>(by cases h9),fun o ho=>(by cases ho),Nat.zero_le _⟩
theorem from_c2 (K:Nat→Prop) (F:MemF) (ζ:Type) (env:ζ→Asn) (stepE:ζ→MSt→ζ) (z0:ζ) (fe:FuncId) (us ws:List Value) (i0:F.ι) (q0:(F.mem i0).σ) (code:Ls (Ls Ins)) (words0 words owner:Ls Int) (pw:Value) (Lk R:Nat) (W:World) (hF:MemFI Tryz.prog 182 3 204 5 141 F)
  (hS:Sh K W W [.blk (F.mem i0).g0 182 [words.v,owner.v], .own 3 words, .own 3 owner,(F.mem i0).X q0, .at_ code,env z0]) (hok:OkPg (pgN code words0 Lk R)) (hR:PgR (pgN code words0 Lk R)) (hq0:(F.mem i0).qs q0=List.replicate code.l.length []) (hw0:words.l=words0.l) (ho0:owner.l=List.replicate Lk (-1)) (hbe:bodyI Tryz.prog fe=true) (hEr:∀z b,¬(env z).rd b)
  (hE:∀(K' :Nat→Prop) (W' :World) (gp:Nat) (x:PSD F) (z:ζ),PX code words0 Lk R x→x.gp=gp→Sh K' W' W' [env z, .rd1 x, .rblk gp 25 [code.v,pw, .int .i64 ((Lk:Nat):Int), .int .i64 ((R:Nat):Int)], .at_ code]→Rets Tryz.prog fe (us++ [.pointer (some ⟨x.g,0,none⟩)]++ws) W' (fun v w' =>v= .tuple #[]∧Sh K' W' w' [env (stepE z x.st), .rd1 x, .rblk gp 25 [code.v,pw, .int .i64 ((Lk:Nat):Int), .int .i64 ((R:Nat):Int)], .at_ code])):
  Rets Tryz.prog 61 [.agg #[code.v,pw, .int .i64 ((Lk:Nat):Int), .int .i64 ((R:Nat):Int)], .iface (F.mem i0).T (.pointer (some (F.mem i0).u)), .func (.func fe) us.toArray ws.toArray] W (fun v w' =>∃(u:Ls OutL) (ok:Bool) (z:ζ),v= .tuple #[u.v, .bool ok]∧FRes (pgN code words0 Lk R) F.m stepE z0 K W ok u z∧Sh K W w' [.own 39 u,env z]):=by
 refine Rets.mono (from_c K F ζ env stepE z0 fe us ws i0 q0 code words0 words owner pw Lk R W hF hS hok hR hq0 hw0 ho0 hbe hEr hE) ?_
 rintro v w' ⟨z,⟨rfl,hb,hs⟩|⟨u,S,rfl,h1,h2,h3,h4,h5,h6,h7,h8,hs⟩⟩
 ·exact ⟨⟨.slice none 0 0, []⟩,false,z,rfl,⟨fun _=>⟨hb,rfl⟩,fun h=>(by cases h),fun o ho=>(by cases ho),Nat.zero_le _⟩,hs.nil 39⟩
 ·exact ⟨u,true,z,rfl,⟨fun h=>(by cases h),fun _=>⟨h3,h1,h2,S,h4,h5,h6⟩,h7,h8⟩,hs⟩
theorem po1_c (g:Nat) (W:World):
    Rets Tryz.prog 63 [.pointer (some ⟨g,0,none⟩)] W (fun v w' =>v= .tuple #[]∧Sh0 W w' []):=by
 refine gen Tryz.func63 Tryz.ntmps63 (Sh0.start _:Sh (fun _=>False) W W []) rfl fun a10 h10=>gG h10<|gS<|fun a11 w11 h11=> ?_;clear h10
 try simp only [Exit.then,Exit.inBlock,if_true]
 refine x_end0 (fn:=Tryz.f63) rfl h11 ?_
 exact ⟨rfl,(h11.sh.sel [] rfl)⟩
theorem pso_k (code:Ls (Ls Ins)) (words0:Ls Int) (Lk R:Nat) (W:World) (hcode:code.At W) (hwords:words0.At W) (hok:OkPg (pgN code words0 Lk R)) (hR:PgR (pgN code words0 Lk R)):
    Rets Tryz.prog 24 [.agg #[code.v,words0.v, .int .i64 ((Lk:Nat):Int), .int .i64 ((R:Nat):Int)]] W (fun v w' =>∃(u:Ls OutL) (ok:Bool),v= .tuple #[u.v, .agg #[.int .i64 (if ok=true then 0 else 10), .int .i64 0, .int .i64 0]]∧FRes (pgN code words0 Lk R) 2 (fun (_:Unit) _=>()) () (fun _=>False) W ok u ()∧Sh0 W w' [.own 39 u]):=by
 obtain ⟨hl1,hcl,hwn,hlk,hR2⟩:=ok_lenP hok
 have hz:checkG (pgOf code words0 ((Lk:Nat):Int) ((R:Nat):Int))=⟨0,0,0⟩:=checkG_ok hok
 refine gen Tryz.func24 Tryz.ntmps24 (Sh0.ext2 hcode hwords:Sh (fun _=>False) W W [.at_ code, .at_ words0]) rfl fun a10 h10=>gG h10<|sK fun _ k11=>gbx rfl rfl fun b12=>gRn (oM 1 rfl<|.nl)<|gal ti_28 rfl fun b13=>nK k11<|gK fun _ k14=>sK fun _ k15=>gRn (olw 1 ti_25 rfl rfl<|.nl)<|fun a17 w17 h17=>wl_ex (x_call h17 bd_43 rfl rfl rfl rfl rfl (asmCheck_c (code:=code) (words:=words0) (locks:=((Lk:Nat):Int)) (regs:=((R:Nat):Int)) (h17.sh.at 2 rfl) (h17.sh.at 3 rfl))) (wanted_none rfl _) ?_;clear h10
 rintro a18 w18 ⟨_,⟨rfl,hs18⟩,hf18⟩
 have h18:St 25 (fun _=>False) W a18 w18 _ _:=⟨hf18,h17.sh.call0 hs18⟩
 clear hf18 hs18
 clear h17
 refine gG h18<|gal ti_28 rfl fun b19=>gsw 0 ti_28 rfl rfl rfl<|nK k15<|sG (ofB fl_28_0 rfl<|olB 0 ti_26 rfl rfl<|oneI _ _ rfl<|.nl)<|gcF rfl (by rw [hz];rfl)<|gS<|hK k14<|fun a23 w23 h23=> ?_;clear h18
 have h22:St _ _ _ _ _ _ _:=⟨h23.fr,h23.sh.emp⟩
 clear h23
 refine gG h22<|gK fun _ k24=>gF [0,1,2,3,4,7,8,9,10,11] rfl<|fun a26 w26 h26=>x_any ((fun Φ Ψ S a w=>(S 2=false∧S 3=false∧FrI 25 S Φ Ψ a∧Sh (fun _=>False) W w [Asn.emp, .blk b19 28 [.int .i64 ((checkG (pgOf code words0 ((Lk:Nat):Int) ((R:Nat):Int))).code), .int .i64 ((checkG (pgOf code words0 ((Lk:Nat):Int) ((R:Nat):Int))).thread), .int .i64 ((checkG (pgOf code words0 ((Lk:Nat):Int) ((R:Nat):Int))).at_)], .blk b13 28 [.int .i64 0, .int .i64 0, .int .i64 0], .blk b12 25 [code.v,words0.v, .int .i64 ((Lk:Nat):Int), .int .i64 ((R:Nat):Int)], .at_ code, .at_ words0])∨(S 2=true∧S 3=false∧∃(gl7002:Nat) (gt7002:Nat) (g7002:Nat) (mw7002:Ls Int) (mo7002:Ls Int) (q7002:Ls (Ls Wt)),(mw7002.l=words0.l)∧(mo7002.l=List.replicate Lk (-1))∧((memL gl7002 gt7002 g7002).qs q7002=List.replicate code.l.length [])∧FrI 25 S Φ (Ψ++ [(2,16, .iface (memL gl7002 gt7002 g7002).T (.pointer (some (memL gl7002 gt7002 g7002).u)))]) a∧Sh (fun _=>False) W w [.blk g7002 182 [mw7002.v,mo7002.v], .own 3 mw7002, .own 3 mo7002,(memL gl7002 gt7002 g7002).X q7002,Asn.emp, .blk b19 28 [.int .i64 ((checkG (pgOf code words0 ((Lk:Nat):Int) ((R:Nat):Int))).code), .int .i64 ((checkG (pgOf code words0 ((Lk:Nat):Int) ((R:Nat):Int))).thread), .int .i64 ((checkG (pgOf code words0 ((Lk:Nat):Int) ((R:Nat):Int))).at_)], .blk b13 28 [.int .i64 0, .int .i64 0, .int .i64 0], .blk b12 25 [code.v,words0.v, .int .i64 ((Lk:Nat):Int), .int .i64 ((R:Nat):Int)], .at_ code, .at_ words0])∨(S 2=true∧S 3=true∧∃(gl7002:Nat) (gt7002:Nat) (g7002:Nat) (mw7002:Ls Int) (mo7002:Ls Int) (q7002:Ls (Ls Wt)) (u7003:Ls OutL) (ok7003:Bool) (z7003:Unit),(mw7002.l=words0.l)∧(mo7002.l=List.replicate Lk (-1))∧((memL gl7002 gt7002 g7002).qs q7002=List.replicate code.l.length [])∧(FRes (pgN code words0 Lk R) 2 (fun (_:Unit) _=>()) () (fun _=>False) W ok7003 u7003 z7003)∧FrI 25 S Φ (Ψ++ [(2,16, .iface (memL gl7002 gt7002 g7002).T (.pointer (some (memL gl7002 gt7002 g7002).u))),(3,17, .tuple #[u7003.v, .bool ok7003]),(4,13, .tuple #[u7003.v, .bool ok7003]),(5,18,u7003.v),(6,19, .bool ok7003),(7,5,u7003.v),(8,6, .bool ok7003)]) a∧Sh (fun _=>False) W w [.own 39 u7003,Asn.emp, .blk b19 28 [.int .i64 ((checkG (pgOf code words0 ((Lk:Nat):Int) ((R:Nat):Int))).code), .int .i64 ((checkG (pgOf code words0 ((Lk:Nat):Int) ((R:Nat):Int))).thread), .int .i64 ((checkG (pgOf code words0 ((Lk:Nat):Int) ((R:Nat):Int))).at_)], .blk b13 28 [.int .i64 0, .int .i64 0, .int .i64 0], .blk b12 25 [code.v,words0.v, .int .i64 ((Lk:Nat):Int), .int .i64 ((R:Nat):Int)], .at_ words0])) [(0, .agg #[code.v,words0.v, .int .i64 ((Lk:Nat):Int), .int .i64 ((R:Nat):Int)]),(1, .pointer (some ⟨b12,0,none⟩)),(2,(.slice none 0 0)),(3, .pointer (some ⟨b13,0,none⟩)),(4, .pointer (some ⟨b19,0,none⟩)),(7, .agg #[code.v,words0.v, .int .i64 ((Lk:Nat):Int), .int .i64 ((R:Nat):Int)]),(8, .agg #[.int .i64 ((checkG (pgOf code words0 ((Lk:Nat):Int) ((R:Nat):Int))).code), .int .i64 ((checkG (pgOf code words0 ((Lk:Nat):Int) ((R:Nat):Int))).thread), .int .i64 ((checkG (pgOf code words0 ((Lk:Nat):Int) ((R:Nat):Int))).at_)]),(9, .pointer (some ⟨b19,0,none⟩)),(10, .int .i64 ((checkG (pgOf code words0 ((Lk:Nat):Int) ((R:Nat):Int))).code)),(11, .bool (decide ((checkG (pgOf code words0 ((Lk:Nat):Int) ((R:Nat):Int))).code≠0)))] [(0,14, .agg #[code.v,words0.v, .int .i64 ((Lk:Nat):Int), .int .i64 ((R:Nat):Int)]),(1,15, .agg #[code.v,words0.v, .int .i64 ((Lk:Nat):Int), .int .i64 ((R:Nat):Int)])]) (by kernel_rfl) (by kernel_rfl) (Or.inl (⟨rfl,rfl,FrI.start h26.fr,h26.sh.drew⟩)) ?_ ?_;clear h22
 ·intro S i o ho hSi hcl hdep a w hI
  clear h26
  rcases i with _|_|_|_|_|_|_|_|_|i
  ·obtain rfl:_=o:=Option.some.inj ho
   rcases hI with ⟨ν2,ν3,φ,ς⟩|⟨ν2,ν3,gl7002,gt7002,g7002,mw7002,mo7002,q7002,hmw7002,hmo7002,hq7002,φ,ς⟩|⟨_,ν3,_⟩
   ·exact sq φ φ.fr0 ς (r_ldbw (i:=3) (vs:= [code.v,words0.v, .int .i64 ((Lk:Nat):Int), .int .i64 ((R:Nat):Int)]) ti_25 rfl rfl rfl rfl rfl) 0 rfl rfl rfl rfl rfl rfl fun a hg=>Or.inl (⟨un rfl ν2,un rfl ν3,hg,ς⟩)
   ·exact sq φ φ.fr0 ς (r_ldbw (i:=7) (vs:= [code.v,words0.v, .int .i64 ((Lk:Nat):Int), .int .i64 ((R:Nat):Int)]) ti_25 rfl rfl rfl rfl rfl) 0 rfl rfl rfl rfl rfl rfl fun a hg=>Or.inr (Or.inl (⟨un rfl ν2,un rfl ν3,gl7002,gt7002,g7002,mw7002,mo7002,q7002,hmw7002,hmo7002,hq7002,hg,ς⟩))
   ·exact no_way (cA hcl 3 0 rfl ν3) hSi
  ·obtain rfl:_=o:=Option.some.inj ho
   rcases hI with ⟨ν2,ν3,φ,ς⟩|⟨ν2,_⟩|⟨ν2,_⟩
   ·exact sq φ φ.fr0 ς (r_ldbw (i:=3) (vs:= [code.v,words0.v, .int .i64 ((Lk:Nat):Int), .int .i64 ((R:Nat):Int)]) ti_25 rfl rfl rfl rfl rfl) 1 rfl rfl rfl rfl rfl rfl fun a hg=>Or.inl (⟨un rfl ν2,un rfl ν3,hg,ς⟩)
   ·exact no_way (cA hcl 2 1 rfl ν2) hSi
   ·exact no_way (cA hcl 2 1 rfl ν2) hSi
  ·obtain rfl:_=o:=Option.some.inj ho
   have hd1:S 1=true:=depAt hdep 0 rfl rfl
   rcases hI with ⟨ν2,ν3,φ,ς⟩|⟨ν2,_⟩|⟨ν2,_⟩
   ·have hs:=St.mk (Fr.cons φ.fr0 (φ.at_ 1 1 15 _ rfl hd1)) ς
    refine step_ex (x_call hs bd_62 rfl rfl rfl rfl rfl (lbegin_c code words0 Lk ((R:Nat):Int) _ (hs.sh.at 4 rfl) (hs.sh.at 5 rfl) (by omega) hwn hlk)) (wanted_none rfl _) ?_
    rintro a33 w33 ⟨_,⟨gl33,gt33,g33,mw33,mo33,q33,rfl,hmw33,hmo33,hq33,hs33⟩,hf33⟩ ⟨v0,ht33⟩
    have h33:=(⟨hf33,hs.sh.call hs33 (by intro A hA b hb;simp only [memA,List.mem_cons,List.not_mem_nil,or_false] at hA;first|(subst hA;exact Flat.noRd hb)|(rcases hA with rfl|rfl|rfl|rfl<;>first|exact (hb:False).elim|exact Flat.noRd hb|exact (memT_rd hb).elim|exact (memL_rd hb).elim))⟩:St 25 (fun _=>False) W a33 w33 _ _)
    clear hf33 hs33
    exact Or.inr (Or.inl (⟨upd_self _ _,un rfl ν3,gl33,gt33,g33,mw33,mo33,q33,hmw33,hmo33,hq33,φ.stepW hcl hSi [0,1] (by kernel_rfl) (by kernel_rfl) ht33 h33.fr.defers (h33.fr.at_ 16 _ rfl) 2 rfl rfl rfl rfl,(h33.sh.sel [0,1,2,3,4,5,6,7,8,9] rfl)⟩))
   ·exact no_way ν2 hSi
   ·exact no_way ν2 hSi
  ·obtain rfl:_=o:=Option.some.inj ho
   have hd0:S 0=true:=depAt hdep 0 rfl rfl
   have hd2:S 2=true:=depAt hdep 1 rfl rfl
   rcases hI with ⟨ν2,_⟩|⟨ν2,ν3,gl7002,gt7002,g7002,mw7002,mo7002,q7002,hmw7002,hmo7002,hq7002,φ,ς⟩|⟨_,ν3,_⟩
   ·exact no_way hd2 ν2
   ·have hs:=St.mk (Fr.cons (Fr.cons φ.fr0 (φ.at_ 0 0 14 _ rfl hd0)) (φ.at_ 2 2 16 _ rfl hd2)) ς
    have h34:=hs.sel (L' := [_,_,_,_,_,_,_,_,_,_]) [0,1,2,3,8,4,5,6,7,9] rfl
    have hp35:=h34.sh.passL (Lp:= [_,_,_,_,_,_])
    refine step_ex (x_call h34 bd_61 rfl rfl rfl rfl rfl (from_c2 _ FL Unit (fun _=>Asn.emp) (fun _ _=>()) () 63 [] [] (gl7002,gt7002,g7002) q7002 code words0 mw7002 mo7002 _ Lk R _ FL_ok hp35 hok hR hq7002 hmw7002 hmo7002 bd_63 (fun _ _ h=>h) (fun K' W' gp x z _ _ h9=>Rets.mono (po1_c x.g W') fun v w' h8=>⟨h8.1,h9.call0 h8.2⟩))) (wanted_none rfl _) ?_
    rintro a36 w36 ⟨_,⟨u36,ok36,z36,rfl,hfq36,hs36⟩,hf36⟩ ⟨v0,ht36⟩
    have hfr36:=hfq36.up (K' :=fun _=>False) (W' :=W) (fun b hb=>h34.sh.mineL (Lp:= [.blk g7002 182 [mw7002.v,mo7002.v], .own 3 mw7002, .own 3 mo7002,(memL gl7002 gt7002 g7002).X q7002, .at_ code,Asn.emp]) hb)
    have h36:St 25 (fun _=>False) W a36 w36 _ [_,_,_,_,_,_]:=⟨hf36,h34.sh.backL (Lp:= [_,_,_,_,_,_]) hs36 (by intro A hA b hb;simp only [List.mem_cons,List.not_mem_nil,or_false] at hA;rcases hA with rfl|rfl<;>first|exact (hb:False).elim|exact Flat.noRd hb|exact .inl ⟨_,List.mem_cons_self .., .inr hb⟩|(obtain ⟨i9,hi9,hb9⟩:=hb;exact (hfq36.nw _ (nth_mem _ _ hi9) _ hb9).elim (fun ⟨A9,hA9,hf9⟩=> .inl ⟨A9,hA9, .inl hf9⟩) (fun h9=> .inr (.inr h9)))|exact .inl ⟨_,by simp, .inr hb⟩)⟩
    clear hf36 hs36
    exact Or.inr (Or.inr (⟨un rfl ν2,upd_self _ _,gl7002,gt7002,g7002,mw7002,mo7002,q7002,u36,ok36,z36,hmw7002,hmo7002,hq7002,hfr36,φ.stepW hcl hSi [0,1,2] (by kernel_rfl) (by kernel_rfl) ht36 h36.fr.defers (h36.fr.at_ 17 _ rfl) 3 rfl rfl rfl rfl,(h36.sh.sel [0,1,2,3,4,5] rfl)⟩))
   ·exact no_way ν3 hSi
  ·obtain rfl:_=o:=Option.some.inj ho
   have hd3:S 3=true:=depAt hdep 0 rfl rfl
   rcases hI with ⟨ν2,_⟩|⟨_,ν3,_⟩|⟨ν2,ν3,gl7002,gt7002,g7002,mw7002,mo7002,q7002,u7003,ok7003,z7003,hmw7002,hmo7002,hq7002,hfr7003,φ,ς⟩
   ·exact no_way (cA hcl 3 2 rfl hd3) ν2
   ·exact no_way hd3 ν3
   ·exact sq φ (Fr.cons φ.fr0 (φ.at_ 3 3 17 _ rfl hd3)) ς (r_move rfl rfl) 4 rfl rfl rfl rfl rfl rfl fun a hg=>Or.inr (Or.inr (⟨un rfl ν2,un rfl ν3,gl7002,gt7002,g7002,mw7002,mo7002,q7002,u7003,ok7003,z7003,hmw7002,hmo7002,hq7002,hfr7003,hg,ς⟩))
  ·obtain rfl:_=o:=Option.some.inj ho
   have hd4:S 4=true:=depAt hdep 0 rfl rfl
   rcases hI with ⟨ν2,_⟩|⟨_,ν3,_⟩|⟨ν2,ν3,gl7002,gt7002,g7002,mw7002,mo7002,q7002,u7003,ok7003,z7003,hmw7002,hmo7002,hq7002,hfr7003,φ,ς⟩
   ·exact no_way (cA hcl 4 2 rfl hd4) ν2
   ·exact no_way (cA hcl 4 3 rfl hd4) ν3
   ·exact sq φ (Fr.cons φ.fr0 (φ.at_ 4 4 13 _ rfl hd4)) ς (r_extract rfl rfl rfl) 5 rfl rfl rfl rfl rfl rfl fun a hg=>Or.inr (Or.inr (⟨un rfl ν2,un rfl ν3,gl7002,gt7002,g7002,mw7002,mo7002,q7002,u7003,ok7003,z7003,hmw7002,hmo7002,hq7002,hfr7003,hg,ς⟩))
  ·obtain rfl:_=o:=Option.some.inj ho
   have hd4:S 4=true:=depAt hdep 0 rfl rfl
   rcases hI with ⟨ν2,_⟩|⟨_,ν3,_⟩|⟨ν2,ν3,gl7002,gt7002,g7002,mw7002,mo7002,q7002,u7003,ok7003,z7003,hmw7002,hmo7002,hq7002,hfr7003,φ,ς⟩
   ·exact no_way (cA hcl 4 2 rfl hd4) ν2
   ·exact no_way (cA hcl 4 3 rfl hd4) ν3
   ·exact sq φ (Fr.cons φ.fr0 (φ.at_ 4 4 13 _ rfl hd4)) ς (r_extract rfl rfl rfl) 6 rfl rfl rfl rfl rfl rfl fun a hg=>Or.inr (Or.inr (⟨un rfl ν2,un rfl ν3,gl7002,gt7002,g7002,mw7002,mo7002,q7002,u7003,ok7003,z7003,hmw7002,hmo7002,hq7002,hfr7003,hg,ς⟩))
  ·obtain rfl:_=o:=Option.some.inj ho
   have hd5:S 5=true:=depAt hdep 0 rfl rfl
   have hd3:S 3=true:=depAt hdep 1 rfl rfl
   have hd2:S 2=true:=depAt hdep 4 rfl rfl
   rcases hI with ⟨ν2,_⟩|⟨_,ν3,_⟩|⟨ν2,ν3,gl7002,gt7002,g7002,mw7002,mo7002,q7002,u7003,ok7003,z7003,hmw7002,hmo7002,hq7002,hfr7003,φ,ς⟩
   ·exact no_way hd2 ν2
   ·exact no_way hd3 ν3
   ·exact sq φ (Fr.cons φ.fr0 (φ.at_ 5 5 18 _ rfl hd5)) ς (r_assign rfl rfl) 7 rfl rfl rfl rfl rfl rfl fun a hg=>Or.inr (Or.inr (⟨un rfl ν2,un rfl ν3,gl7002,gt7002,g7002,mw7002,mo7002,q7002,u7003,ok7003,z7003,hmw7002,hmo7002,hq7002,hfr7003,hg,ς⟩))
  ·obtain rfl:_=o:=Option.some.inj ho
   have hd6:S 6=true:=depAt hdep 0 rfl rfl
   have hd2:S 2=true:=depAt hdep 4 rfl rfl
   have hd3:S 3=true:=depAt hdep 5 rfl rfl
   rcases hI with ⟨ν2,_⟩|⟨_,ν3,_⟩|⟨ν2,ν3,gl7002,gt7002,g7002,mw7002,mo7002,q7002,u7003,ok7003,z7003,hmw7002,hmo7002,hq7002,hfr7003,φ,ς⟩
   ·exact no_way hd2 ν2
   ·exact no_way hd3 ν3
   ·exact sq φ (Fr.cons φ.fr0 (φ.at_ 6 6 19 _ rfl hd6)) ς (r_assign rfl rfl) 8 rfl rfl rfl rfl rfl rfl fun a hg=>Or.inr (Or.inr (⟨un rfl ν2,un rfl ν3,gl7002,gt7002,g7002,mw7002,mo7002,q7002,u7003,ok7003,z7003,hmw7002,hmo7002,hq7002,hfr7003,hg,ς⟩))
  · simp at ho
 intro S hall a w hI
 clear h26
 rcases hI with ⟨ν2,ν3,φ,ς⟩|⟨ν2,ν3,gl7002,gt7002,g7002,mw7002,mo7002,q7002,hmw7002,hmo7002,hq7002,φ,ς⟩|⟨ν2,ν3,gl7002,gt7002,g7002,mw7002,mo7002,q7002,u7003,ok7003,z7003,hmw7002,hmo7002,hq7002,hfr7003,φ,ς⟩
 · exact no_way (hall 2 (by decide)) ν2
 · exact no_way (hall 3 (by decide)) ν3
 have h42:St 25 (fun _=>False) W a w _ _:=⟨(Fr.cons (Fr.cons φ.fr0 (φ.at_ 7 7 5 _ rfl (hall 7 (by decide)))) (φ.at_ 8 8 6 _ rfl (hall 8 (by decide)))),ς⟩
 clear hall φ ς ν2 ν3
 refine gG h42<|hK k24<|gK fun _ k43=>sG (oM 1 rfl<|ont rfl<|.nl)<|?_;clear h42
 refine gCb rfl (fun hb45=> ?_) fun hb45=> ?_
 ·have hn45:ok7003=false:=(Bool.not_eq_true' _).mp hb45
  refine sK fun _ k46=>gRn (oV (r_build (cs:= [.int .i64 10, .int .i64 0, .int .i64 0]) rfl rfl (by kernel_rfl)) rfl<|oM 1 rfl<|.nl)<|gsw 3 ti_28 rfl rfl rfl<|nK k46<|gR<|fun a48 w48 h48=> ?_
  try simp only [Exit.then,Exit.inBlock]
  refine x_rettc (fn:=Tryz.f24) (t:=3) (u:=2) (i:=3) ti_28 rfl h48 rfl rfl rfl rfl ?_
  have h49:=h48.nil (α:=OutL) 39
  clear h48
  have hof:ok7003=false:=by simpa using hn45
  exact ⟨⟨.slice none 0 0, []⟩,false,rfl,FRes.nilU (u:=u7003) (hof▸hfr7003),(h49.sh.sel [0] rfl)⟩
 have hn45:ok7003=true:=(Bool.not_eq_false' _).mp hb45
 refine gS<|hK k43<|sK fun _ k50=>gRn (oM 1 rfl<|oV (r_build (cs:= [.int .i64 0, .int .i64 0, .int .i64 0]) rfl rfl (by kernel_rfl)) rfl<|oM 1 rfl<|.nl)<|gsw 3 ti_28 rfl rfl rfl<|nK k50<|gR<|fun a52 w52 h52=> ?_
 try simp only [Exit.then,Exit.inBlock]
 refine x_rettc (fn:=Tryz.f24) (t:=3) (u:=2) (i:=3) ti_28 rfl h52 rfl rfl rfl rfl ?_
 have hof:ok7003=true:=by simpa using hn45
 exact ⟨u7003,true,rfl,hof▸hfr7003,(h52.sh.sel [0] rfl)⟩
theorem pso_b (code:Ls (Ls Ins)) (words:Ls Int) (locks regs:Int) (W:World) (hcode:code.At W) (hwords:words.At W) (hz:(checkG (pgOf code words locks regs)).code≠0):
    Rets Tryz.prog 24 [.agg #[code.v,words.v, .int .i64 locks, .int .i64 regs]] W (fun v w' =>v= .tuple #[.slice none 0 0,(checkG (pgOf code words locks regs)).val]∧Sh0 W w' []):=by
 refine gen Tryz.func24 Tryz.ntmps24 (Sh0.ext2 hcode hwords:Sh (fun _=>False) W W [.at_ code, .at_ words]) rfl fun a10 h10=>gG h10<|sK fun _ k11=>gbx rfl rfl fun b12=>gRn (oM 1 rfl<|.nl)<|gal ti_28 rfl fun b13=>nK k11<|gK fun _ k14=>sK fun _ k15=>gRn (olw 1 ti_25 rfl rfl<|.nl)<|gC (fun _ _ h_=>xCl h_ bd_43 rfl (asmCheck_c (code:=code) (words:=words) (locks:=locks) (regs:=regs) (h_.sh.at 2 rfl) (h_.sh.at 3 rfl))) rfl<|?_;clear h10
 rintro _ _ w16 ⟨rfl,hs16⟩
 refine gWk hs16 rfl<|gU<|gal ti_28 rfl fun b17=>gsw 0 ti_28 rfl rfl rfl<|nK k15<|sG (ofB fl_28_0 rfl<|olB 0 ti_26 rfl rfl<|oneI _ _ rfl<|.nl)<|gcT rfl (decide_eq_true hz)<|gK fun _ k20=>rT 2 [] (by kernel_rfl) (by kernel_rfl) (olw 0 ti_28 rfl rfl<|oM 1 rfl<|.nl)<|gsw 1 ti_28 rfl rfl rfl<|nK k20<|gR<|fun a22 w22 h22=> ?_;clear hs16
 try simp only [Exit.then,Exit.inBlock]
 refine x_rettc (fn:=Tryz.f24) (t:=3) (u:=2) (i:=1) ti_28 rfl h22 rfl rfl rfl rfl ?_
 exact ⟨rfl,(h22.sh.sel [] rfl)⟩
theorem lfull_c (W:World):
    Rets Tryz.prog 27 [] W (fun v w' =>v= .agg #[.int .i64 10, .int .i64 0, .int .i64 0]∧Sh0 W w' []):=by
 refine gen Tryz.func27 Tryz.ntmps27 (Sh0.start _:Sh (fun _=>False) W W []) rfl fun a10 h10=>gG h10<|sK fun _ k11=>gal ti_28 rfl fun b12=>nK k11<|sK fun _ k13=>gRn (oV (r_build (cs:= [.int .i64 10, .int .i64 0, .int .i64 0]) rfl rfl (by kernel_rfl)) rfl<|.nl)<|gsw 0 ti_28 rfl rfl rfl<|nK k13<|gR<|fun a15 w15 h15=> ?_;clear h10
 try simp only [Exit.then,Exit.inBlock]
 refine x_ret1c (fn:=Tryz.f27) (t:=0) (i:=0) ti_28 rfl h15 rfl rfl rfl ?_
 exact ⟨rfl,(h15.sh.sel [] rfl)⟩
theorem psoOutcomes_v (code:Ls (Ls Ins)) (words:Ls Int) (locks regs:Int) (W:World) (hcode:code.At W) (hwords:words.At W) (hv:vastG (code.l.map (·.l)) words.l=true):
    Rets Tryz.prog 6 [.agg #[code.v,words.v, .int .i64 locks, .int .i64 regs]] W (fun v w' =>v= .bool true∧Sh0 W w' []):=by
 refine gen Tryz.func6 Tryz.ntmps6 (Sh0.ext2 hcode hwords:Sh (fun _=>False) W W [.at_ code, .at_ words]) rfl fun a10 h10=>gG h10<|sK fun _ k11=>gbx rfl rfl fun b12=>gRn (oM 1 rfl<|.nl)<|nK k11<|gK fun _ k13=>sK fun _ k14=>gRn (olw 0 ti_25 rfl rfl<|.nl)<|gC (fun _ _ h_=>xCl h_ bd_23 rfl (vast_c (code:=code) (words:=words) (locks:=locks) (regs:=regs) (h_.sh.at 1 rfl) (h_.sh.at 2 rfl))) rfl<|?_;clear h10
 rintro _ _ w15 ⟨rfl,hs15⟩
 refine gWk hs15 rfl<|gU<|nK k14<|gcT rfl hv<|sG (oM 1 rfl<|.nl)<|gR<|fun a17 w17 h17=> ?_;clear hs15
 try simp only [Exit.then,Exit.inBlock]
 refine x_ret1 (fn:=Tryz.f6) (t:=2) rfl h17 rfl ?_
 exact ⟨rfl,(h17.sh.sel [] rfl)⟩
theorem psoOutcomes_b (code:Ls (Ls Ins)) (words:Ls Int) (locks regs:Int) (W:World) (hcode:code.At W) (hwords:words.At W) (hv:vastG (code.l.map (·.l)) words.l=false) (hz:(checkG (pgOf code words locks regs)).code≠0):
    Rets Tryz.prog 6 [.agg #[code.v,words.v, .int .i64 locks, .int .i64 regs]] W (fun v w' =>v= .bool true∧Sh0 W w' []):=by
 refine gen Tryz.func6 Tryz.ntmps6 (Sh0.ext2 hcode hwords:Sh (fun _=>False) W W [.at_ code, .at_ words]) rfl fun a10 h10=>gG h10<|sK fun _ k11=>gbx rfl rfl fun b12=>gRn (oM 1 rfl<|.nl)<|nK k11<|gK fun _ k13=>sK fun _ k14=>gRn (olw 0 ti_25 rfl rfl<|.nl)<|gC (fun _ _ h_=>xCl h_ bd_23 rfl (vast_c (code:=code) (words:=words) (locks:=locks) (regs:=regs) (h_.sh.at 1 rfl) (h_.sh.at 2 rfl))) rfl<|?_;clear h10
 rintro _ _ w15 ⟨rfl,hs15⟩
 refine gWk hs15 rfl<|gU<|nK k14<|gcF rfl hv<|gS<|hK k13<|sK fun _ k16=>gRn (olw 0 ti_25 rfl rfl<|.nl)<|gC (fun _ _ h_=>xCl h_ bd_24 rfl (pso_b code words locks regs _ (h_.sh.at 1 rfl) (h_.sh.at 2 rfl) hz)) rfl<|?_;clear hs15
 rintro _ _ w17 ⟨rfl,hs17⟩
 refine gWk hs17 rfl<|gU<|gRn (oM 1 rfl<|oxt rfl<|oxt rfl<|.nl)<|gal ti_28 rfl fun b18=>gRn (oM 1 rfl<|.nl)<|gsw 0 ti_28 rfl rfl rfl<|nK k16<|sK fun _ k20=>gRn (olw 1 ti_25 rfl rfl<|.nl)<|gC (fun _ _ h_=>xCl h_ bd_25 rfl (refCheck_c (code:=code) (words:=words) (locks:=locks) (regs:=regs) (h_.sh.at 2 rfl) (h_.sh.at 3 rfl))) rfl<|?_;clear hs17
 rintro _ _ w21 ⟨rfl,hs21⟩
 refine gWk hs21 rfl<|gU<|gal ti_28 rfl fun b22=>gsw 0 ti_28 rfl rfl rfl<|nK k20<|gK fun _ k24=>sG (ofB fl_28_0 rfl<|olB 0 ti_26 rfl rfl<|oneI _ _ rfl<|.nl)<|gcT rfl (decide_eq_true hz)<|sK fun _ k26=>gNl (fun w h=>(Sh.nilAt (α:=OutL) h)) fun (hl27:([]).length≤140737488355328)=>gRn (olw 1 ti_28 rfl rfl<|olw 0 ti_28 rfl rfl<|oV (r_eqS rfl rfl rfl (fun w=>eq_fltG _ _ ⟨(checkG (pgOf code words locks regs)).code,(checkG (pgOf code words locks regs)).thread,(checkG (pgOf code words locks regs)).at_⟩ ⟨(checkG (pgOf code words locks regs)).code,(checkG (pgOf code words locks regs)).thread,(checkG (pgOf code words locks regs)).at_⟩ w) (fun w=>eq_flt ⟨(checkG (pgOf code words locks regs)).code,(checkG (pgOf code words locks regs)).thread,(checkG (pgOf code words locks regs)).at_⟩ ⟨(checkG (pgOf code words locks regs)).code,(checkG (pgOf code words locks regs)).thread,(checkG (pgOf code words locks regs)).at_⟩ w)) rfl<|oM 1 rfl<|oG (decide_eq_true rfl) (r_move rfl rfl) rfl<|oG (decide_eq_true rfl) (r_len (s:=(⟨.slice none 0 0, []⟩:Ls OutL)) (n:=([]).length) sl_35 rfl rfl (fun w h=>(Sh.nilAt (α:=OutL) h)) rfl) rfl<|oG (decide_eq_true rfl) (r_eqlN (p:=([]).length) (q:=0) rfl rfl rfl) rfl<|opT (decide_eq_true rfl) rfl<|oM 1 rfl<|.nl)<|nK k26<|gF [2] rfl<|gR<|fun a28 w28 h28=> ?_;clear hs21
 try simp only [Exit.then,Exit.inBlock]
 refine x_ret1 (fn:=Tryz.f6) (t:=2) rfl h28 rfl<|⟨?_,(h28.sh.sel [] rfl)⟩
 first|rfl|exact congrArg _ (decide_eq_true rfl)|exact congrArg _ (decide_eq_true hu0)|exact congrArg _ (decide_eq_true hsame)
theorem psoOutcomes_k (code:Ls (Ls Ins)) (words:Ls Int) (Lk R:Nat) (W:World) (hcode:code.At W) (hwords:words.At W) (hv:vastG (code.l.map (·.l)) words.l=false) (hok:OkPg (pgN code words Lk R)) (hR:PgR (pgN code words Lk R)):
    Rets Tryz.prog 6 [.agg #[code.v,words.v, .int .i64 ((Lk:Nat):Int), .int .i64 ((R:Nat):Int)]] W (fun v w' =>v= .bool true∧Sh0 W w' []):=by
 have hz:checkG (pgOf code words ((Lk:Nat):Int) ((R:Nat):Int))=⟨0,0,0⟩:=checkG_ok hok
 refine gen Tryz.func6 Tryz.ntmps6 (Sh0.ext2 hcode hwords:Sh (fun _=>False) W W [.at_ code, .at_ words]) rfl fun a10 h10=>gG h10<|sK fun _ k11=>gbx rfl rfl fun b12=>gRn (oM 1 rfl<|.nl)<|nK k11<|gK fun _ k13=>sK fun _ k14=>gRn (olw 0 ti_25 rfl rfl<|.nl)<|gC (fun _ _ h_=>xCl h_ bd_23 rfl (vast_c (code:=code) (words:=words) (locks:=((Lk:Nat):Int)) (regs:=((R:Nat):Int)) (h_.sh.at 1 rfl) (h_.sh.at 2 rfl))) rfl<|?_;clear h10
 rintro _ _ w15 ⟨rfl,hs15⟩
 refine gWk hs15 rfl<|gU<|nK k14<|gcF rfl hv<|gS<|hK k13<|sK fun _ k16=>gRn (olw 0 ti_25 rfl rfl<|.nl)<|fun a18 w18 h18=> ?_;clear hs15
 refine wl_ex (x_call h18 bd_24 rfl rfl rfl rfl rfl (pso_k code words Lk R _ (h18.sh.at 1 rfl) (h18.sh.at 2 rfl) hok hR)) (wanted_none rfl _) ?_
 rintro a19 w19 ⟨_,⟨u19,ok19,rfl,hfu19,hs19⟩,hf19⟩
 have h19:=(⟨hf19,h18.sh.call hs19 (by intro A hA b hb;obtain rfl:=List.mem_singleton.1 hA;obtain ⟨i9,hi9,hb9⟩:=hb;exact .inl ((hfu19.nw _ (nth_mem _ _ hi9) b hb9).resolve_left id))⟩:St 54 (fun _=>False) W a19 w19 _ _)
 have hfr19:=hfu19.up (K' :=fun _=>False) (W' :=W) (fun b hb=>hb.imp id (fun h9=>Nat.le_trans h18.sh.chg.size h9))
 clear hf19 hs19
 clear h18
 refine gG h19<|gRn (oM 1 rfl<|oxt rfl<|oxt rfl<|.nl)<|gal ti_28 rfl fun b20=>gRn (oM 1 rfl<|.nl)<|gsw 0 ti_28 rfl rfl rfl<|nK k16<|sK fun _ k22=>gRn (olw 2 ti_25 rfl rfl<|.nl)<|gC (fun _ _ h_=>xCl h_ bd_25 rfl (refCheck_c (code:=code) (words:=words) (locks:=((Lk:Nat):Int)) (regs:=((R:Nat):Int)) (h_.sh.at 3 rfl) (h_.sh.at 4 rfl))) rfl<|?_;clear h19
 rintro _ _ w23 ⟨rfl,hs23⟩
 refine gWk hs23 rfl<|gU<|gal ti_28 rfl fun b24=>gsw 0 ti_28 rfl rfl rfl<|nK k22<|gK fun _ k26=>sG (ofB fl_28_0 rfl<|olB 0 ti_26 rfl rfl<|oneI _ _ rfl<|.nl)<|gcF rfl (by rw [hz];rfl)<|gS<|hK k26<|sK fun _ k28=>gRn (olw 3 ti_25 rfl rfl<|.nl)<|fun a30 w30 h30=> ?_;clear hs23
 refine wl_ex (x_call h30 bd_26 rfl rfl rfl rfl rfl (by_c code words Lk R 2 _ (h30.sh.at 4 rfl) (h30.sh.at 5 rfl) hok)) (wanted_none rfl _) ?_
 rintro a31 w31 ⟨_,⟨g31,fu31,sv31,kv31,hv31,bv31,en31,rfl,hbg31,hby31,hel31,hnw31,hs31⟩,hf31⟩
 have hsz31:=h30.sh.chg.size
 have h31:=(⟨hf31,h30.sh.call hs31 (by intro A hA b hb;simp only [List.mem_cons,List.not_mem_nil,or_false] at hA;rcases hA with rfl|rfl;exact (hb:False).elim;exact .inl (by obtain ⟨i9,hi9,hb9⟩:=hb;exact hnw31 _ (nth_mem _ _ hi9) b hb9))⟩:St 54 (fun _=>False) W a31 w31 _ _)
 clear hf31 hs31
 clear h30
 refine gG h31<|gRn (oM 1 rfl<|.nl)<|nK k28<|gK fun _ k32=>sG (oM 1 rfl<|onfl 0 fl_52_5 ti_4 rfl rfl<|.nl)<|?_;clear h31
 refine gCb rfl (fun hb34=> ?_) fun hb34=> ?_
 ·skip
  have hof:ok19=false:=by cases h9:ok19 with|false=>rfl|true=>exact absurd ((hbg31).1 hb34) (hfr19.good h9).1
  have hu0:u19.l.length=0:=by rw [(hfr19.big hof).2];rfl
  have e10:((if ok19=true then (0:Int) else 10):Int)=10:=by rw [hof];rfl
  intro a35 w35 h35
  rw [e10] at h35
  refine gG h35<|gK fun _ k36=>fun a37 w37 h37=>x_quiet (by kernel_rfl) (by kernel_rfl) h37 fun _ z38=>qQ h37.fr<|qRn (olw 3 ti_28 rfl rfl<|.nl)<|qP bd_27 rfl (fun w h=>(lfull_c _))<|qRn (oV (r_eqS rfl rfl rfl (fun w=>eq_fltG _ _ ⟨10,0,0⟩ ⟨10,0,0⟩ w) (fun w=>eq_flt ⟨10,0,0⟩ ⟨10,0,0⟩ w)) rfl<|oM 1 rfl<|oG (decide_eq_true rfl) (r_move rfl rfl) rfl<|.nl)<|?_;clear h35
  have hl41:u19.l.length≤140737488355328:=(h37.sh.own 4 rfl).len
  refine qRn (oG (decide_eq_true rfl) (r_len (s:=u19) (n:=u19.l.length) sl_35 rfl rfl (fun w h=>(h.own 4 rfl)) rfl) rfl<|oG (decide_eq_true rfl) (r_eqlN (p:=u19.l.length) (q:=0) rfl rfl rfl) rfl<|opT (decide_eq_true rfl) rfl<|oM 1 rfl<|.nl)<|qN z38<|hK k36<|gF [2] rfl<|gR<|fun a43 w43 h43=> ?_;clear h37
  try simp only [Exit.then,Exit.inBlock]
  refine x_ret1 (fn:=Tryz.f6) (t:=2) rfl h43 rfl<|⟨?_,(h43.sh.sel [] rfl)⟩
  first|rfl|exact congrArg _ (decide_eq_true rfl)|exact congrArg _ (decide_eq_true hu0)|exact congrArg _ (decide_eq_true hsame)
 have hof:ok19=true:=by cases h9:ok19 with|true=>rfl|false=>exact absurd ((hbg31).2 (hfr19.big h9).1) (by rw [hb34];decide)
 obtain ⟨_,hso,hou,_⟩:=hfr19.good hof
 obtain ⟨hso2,hou2⟩:=hby31 hb34
 have hsame:u19.l.map OutL.out=en31.l.map OutL.out:=same_ends hso hou hso2 hou2 (fun o=>Iff.rfl)
 have e10:((if ok19=true then (0:Int) else 10):Int)=0:=by rw [hof];rfl
 intro a44 w44 h44
 rw [e10] at h44
 refine gG h44<|gS<|hK k32<|sK fun _ k45=>gRn (oM 2 rfl<|onfl 0 fl_52_4 ti_35 rfl rfl<|.nl)<|gP (fun _ _ h_=>xCl h_ bd_28 rfl (sameO_c u19 en31 _ (h_.sh.own 4 rfl) (h_.sh.own 1 rfl))) rfl<|gRn (oM 1 rfl<|.nl)<|nK k45<|gF [4,7] rfl<|sG (ofB fl_28_0 rfl<|olB 3 ti_26 rfl rfl<|oeqN 0 0 rfl<|oM 1 rfl<|oG (by decide) (r_move rfl rfl) rfl<|opT (by decide) rfl<|oM 1 rfl<|.nl)<|gR<|fun a48 w48 h48=> ?_;clear h44
 try simp only [Exit.then,Exit.inBlock]
 refine x_ret1 (fn:=Tryz.f6) (t:=2) rfl h48 rfl<|⟨?_,(h48.sh.sel [] rfl)⟩
 first|rfl|exact congrArg _ (decide_eq_true rfl)|exact congrArg _ (decide_eq_true hu0)|exact congrArg _ (decide_eq_true hsame)
theorem psoOutcomes_any (code:Ls (Ls Ins)) (words:Ls Int) (locks regs:Int) (W:World) (hcode:code.At W) (hwords:words.At W) (hR:PgR (pgOf code words locks regs)):Rets Tryz.prog 6 [.agg #[code.v,words.v, .int .i64 locks, .int .i64 regs]] W (fun v w' =>v= .bool true∧Sh0 W w' []):=by
 cases hv:vastG (code.l.map (·.l)) words.l with
 |true=>exact psoOutcomes_v code words locks regs W hcode hwords hv
 |false=>
  by_cases hok:OkPg (pgOf code words locks regs)
  ·obtain ⟨Lk,rfl⟩:=Int.eq_ofNat_of_zero_le hok.locks.1
   obtain ⟨R,rfl⟩:=Int.eq_ofNat_of_zero_le (show 0≤regs by have:=hok.regs.1;have e:(pgOf code words (Lk:Int) regs).regs=regs:=rfl;omega)
   exact psoOutcomes_k code words Lk R W hcode hwords hv hok hR
  ·exact psoOutcomes_b code words locks regs W hcode hwords hv (fun h=>hok (checkG_code_pos.1 h))
end Go.Proofs.YtmjkobhkkjgplaaGreatDoor
