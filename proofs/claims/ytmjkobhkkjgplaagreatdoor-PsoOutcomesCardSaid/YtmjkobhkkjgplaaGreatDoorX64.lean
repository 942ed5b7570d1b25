/- Runs of the program, over any memory: the first state, a move of a whole state, a run by a script. -/
import Derived.Test.YtmjkobhkkjgplaaGreatDoorX63
import Derived.Test.YtmjkobhkkjgplaaGreatDoorM3
namespace Go.Proofs.YtmjkobhkkjgplaaGreatDoor
open Go.RowKit
set_option linter.unusedSimpArgs false
set_option linter.unusedVariables false
set_option maxRecDepth 100000
set_option maxHeartbeats 20000000
theorem ok_lenP {code:Ls (Ls Ins)} {words:Ls Int} {Lk R:Nat} (h:OkPg (pgN code words Lk R)):1≤code.l.length∧code.l.length≤4∧words.l.length≤64∧Lk≤4∧R≤200:=by
 have h1:=h.code
 have h2:=h.words
 have h3:=h.locks
 have h4:=h.regs
 simp only [pgN,pgOf,List.length_map] at h1 h2 h3 h4
 omega
theorem ok_clen {code:Ls (Ls Ins)} {words:Ls Int} {Lk R:Nat} (h:OkPg (pgN code words Lk R)):∀t,t<code.l.length→(nth code.l t).l.length≤400:=fun t ht=>by
 have h9:=h.len t (by rw [pgN_len];exact ht)
 rwa [pgN_code ht] at h9
theorem St.toR {N:Nat} {K:Nat→Prop} {W w:World} {a:Act} {F:List (Nat×Value)} {L:List Asn} (i:Nat) {g:Nat} {E:TypeId} {cs:List Value} (h:St N K W a w F L) (hi:L[i]? =some (.blk g E cs)):St N K W a w F (L.set i (.rblk g E cs)):=
 ⟨h.fr,h.sh.put hi (Chg.refl _ _) (h.sh.blk i hi) (fun b hb=>hb.elim) (fun b hb=> .inl hb) (fun b hb=>hb.elim)⟩
def pstA (M:MemS) (g gp:Nat) (pc:List Value) (vt:Value) (rows:List ThR) (prints words owner:Ls Int) (q:M.σ) (fell:Bool) (code:Ls (Ls Ins)):List Asn:=
 [.blk g 173 [.iface M.T (.pointer (some M.u)), .pointer (some ⟨gp,0,none⟩),vt,prints.v, .bool fell], .rblk gp 25 pc, .own 189 (⟨vt,rows.map ThR.toQ⟩:Ls ThQ), .big (regA 3 rows), .own 3 prints, .blk M.g0 182 [words.v,owner.v], .own 3 words, .own 3 owner,M.X q, .at_ code]
theorem pdo_full (K:Nat→Prop) (M:MemS) (g gp:Nat) (code:Ls (Ls Ins)) (vt:Value) (rows:List ThR) (prints words owner:Ls Int) (q:M.σ) (pw:Value) (locks nregs:Int) (fell:Bool) (t k:Nat) (W:World) (hM:MemI Tryz.prog 182 3 M)
  (hS:Sh K W W (pstA M g gp [code.v,pw, .int .i64 locks, .int .i64 nregs] vt rows prints words owner q fell code)) (hn:t<rows.length) (h1000:t≤1000) (hqn:t<(M.qs q).length) (hwl:(nth (M.qs q) t).length≤3) (hwh0:∀x∈nth (M.qs q) t,x.lock=true→x.what=0) (hge:∀v∈owner.l,-1≤v) (htc:t<code.l.length)
  (hpcr:0≤(nth rows t).pc∧(nth rows t).pc≤(nth code.l t).l.length) (hpcl:(nth code.l t).l.length≤1000000) (hmk:mvOK M.m (nth code.l t).l ⟨(nth rows t).pc,(nth rows t).regs.l,nth (M.qs q) t,words.l,owner.l,prints.l,fell⟩ k=true) (hpl:prints.l.length≤100000000)
  (hwt:∀j,j<(nth (M.qs q) t).length→WtOk (nth (nth (M.qs q) t) j) words owner) (hio:k=0→InsR (nth rows t).regs.l.length words.l.length owner.l.length (nextIns (nth code.l t).l (nth rows t).pc)):
  Rets Tryz.prog 123 [.pointer (some ⟨g,0,none⟩), .agg #[.int .i64 ((t:Nat):Int), .int .i64 (((k:Nat):Int)-1)]] W (fun v w' =>v= .tuple #[]∧∃(rows' :List ThR) (words' owner' prints' :Ls Int) (q' :M.σ) (fell' :Bool) (x:ThR) (y:TS),
   y=doT M.m t (nth code.l t).l k ⟨(nth rows t).pc,(nth rows t).regs.l,nth (M.qs q) t,words.l,owner.l,prints.l,fell⟩∧rows' =rows.set t x∧x.pc=y.pc∧x.regs.l=y.regs∧M.qs q' =(M.qs q).set t y.wait∧words'.l=y.words∧owner'.l=y.owner∧prints'.l=y.prints∧fell' =y.fell∧
   Sh K W w' (pstA M g gp [code.v,pw, .int .i64 locks, .int .i64 nregs] vt rows' prints' words' owner' q' fell' code)):=by
 have h1:Sh K W W (.big (regA 3 rows):: [.blk g 173 [.iface M.T (.pointer (some M.u)), .pointer (some ⟨gp,0,none⟩),vt,prints.v, .bool fell], .rblk gp 25 [code.v,pw, .int .i64 locks, .int .i64 nregs], .own 189 (⟨vt,rows.map ThR.toQ⟩:Ls ThQ), .own 3 prints, .blk M.g0 182 [words.v,owner.v], .own 3 words, .own 3 owner,M.X q, .at_ code]):=
  hS.sel [3,0,1,2,4,5,6,7,8,9] rfl
 have h2:=h1.openR t hn
 have h3:Sh K W W ([.blk g 173 [.iface M.T (.pointer (some M.u)), .pointer (some ⟨gp,0,none⟩),vt,prints.v, .bool fell], .rblk gp 25 [code.v,pw, .int .i64 locks, .int .i64 nregs], .own 189 (⟨vt,rows.map ThR.toQ⟩:Ls ThQ), .own 3 (nth rows t).regs, .own 3 prints, .blk M.g0 182 [words.v,owner.v], .own 3 words, .own 3 owner,M.X q, .at_ code]++ [.big (regA 3 (rows.eraseIdx t))]):=
  h2.sel (L' := [.blk g 173 [.iface M.T (.pointer (some M.u)), .pointer (some ⟨gp,0,none⟩),vt,prints.v, .bool fell], .rblk gp 25 [code.v,pw, .int .i64 locks, .int .i64 nregs], .own 189 (⟨vt,rows.map ThR.toQ⟩:Ls ThQ), .own 3 (nth rows t).regs, .own 3 prints, .blk M.g0 182 [words.v,owner.v], .own 3 words, .own 3 owner,M.X q, .at_ code, .big (regA 3 (rows.eraseIdx t))]) [2,3,4,0,5,6,7,8,9,10,1] rfl
 have hnt:nth (rows.map ThR.toQ) t=(nth rows t).toQ:=toQ_at hn
 refine Rets.mono (pdo_c _ M g gp code (⟨vt,rows.map ThR.toQ⟩:Ls ThQ) (nth rows t).regs prints words owner q pw locks nregs fell t k W hM h3.passL (by simpa using hn) h1000 (by rw [hnt];rfl) hqn hwl hwh0 hge htc (by rw [hnt];exact hpcr) hpcl (by rw [hnt];exact hmk) hpl hwt (by rw [hnt];exact hio)) ?_
 rintro v w' ⟨rfl,regs',words',owner',prints',q',wt,pc',fell',hq,hy,hs⟩
 have h4:=h3.backL hs (by intro A hA b hb;simp only [List.mem_cons,List.not_mem_nil,or_false] at hA;rcases hA with rfl|rfl|rfl|rfl|rfl|rfl|rfl|rfl|rfl|rfl<;>first|exact (hb:False).elim|exact Flat.noRd hb|exact rdX hM hb|exact .inl ⟨_,List.mem_of_getElem? (i:=1) rfl, .inr hb⟩|exact .inl ⟨_,List.mem_of_getElem? (i:=9) rfl, .inr hb⟩)
 have h5:=h4.sel (L' := .own 3 regs' :: .big (regA 3 (rows.eraseIdx t)):: [.blk g 173 [.iface M.T (.pointer (some M.u)), .pointer (some ⟨gp,0,none⟩),vt,prints'.v, .bool fell'], .rblk gp 25 [code.v,pw, .int .i64 locks, .int .i64 nregs], .own 189 (⟨vt,(rows.map ThR.toQ).set t ⟨pc',regs'.v⟩⟩:Ls ThQ), .own 3 prints', .blk M.g0 182 [words'.v,owner'.v], .own 3 words', .own 3 owner',M.X q', .at_ code]) [3,10,0,1,2,4,5,6,7,8,9] rfl
 have h6:=Sh.closeR (x:=⟨pc',regs'⟩) t hn h5
 rw [show (rows.map ThR.toQ).set t ⟨pc',regs'.v⟩=(rows.set t ⟨pc',regs'⟩).map ThR.toQ by rw [List.map_set];rfl] at h6
 have h7:=h6.sel (L' :=pstA M g gp [code.v,pw, .int .i64 locks, .int .i64 nregs] vt (rows.set t ⟨pc',regs'⟩) prints' words' owner' q' fell' code) [1,2,3,0,4,5,6,7,8,9] rfl
 rw [hnt] at hy
 exact ⟨rfl,rows.set t ⟨pc',regs'⟩,words',owner',prints',q',fell',⟨pc',regs'⟩,(⟨pc',regs'.l,wt,words'.l,owner'.l,prints'.l,fell'⟩:TS),hy,rfl,rfl,rfl,hq,rfl,rfl,rfl,rfl,h7⟩
theorem pbegin_c (M:MemS) (gp:Nat) (code:Ls (Ls Ins)) (pw:Value) (Lk R:Nat) (W:World) (hP:Blk W gp 25 #[code.v,pw, .int .i64 ((Lk:Nat):Int), .int .i64 ((R:Nat):Int)]) (hcode:code.At W) (hcl:code.l.length≤4) (hR:R≤200):
    Rets Tryz.prog 100 [.pointer (some ⟨gp,0,none⟩), .iface M.T (.pointer (some M.u))] W (fun v w' =>∃(g:Nat) (rows:List ThR) (vt:Value),v= .pointer (some ⟨g,0,none⟩)∧rows.map ThR.th=List.replicate code.l.length ⟨0,List.replicate R 0, []⟩∧Sh0 W w' [.blk g 173 [.iface M.T (.pointer (some M.u)), .pointer (some ⟨gp,0,none⟩),vt, .slice none 0 0, .bool false], .own 189 (⟨vt,rows.map ThR.toQ⟩:Ls ThQ), .big (regA 3 rows), .own 3 (⟨.slice none 0 0, []⟩:Ls Int)]):=by
 refine gen Tryz.func100 Tryz.ntmps100 (Sh0.ext (by intro A hA;simp only [List.mem_cons,List.not_mem_nil,or_false] at hA;rcases hA with rfl|rfl;exact hP;exact hcode) (by intro A hA b hb;simp only [List.mem_cons,List.not_mem_nil,or_false] at hA;rcases hA with rfl|rfl<;>exact hb):Sh (fun _=>False) W W [.rblk gp 25 [code.v,pw, .int .i64 ((Lk:Nat):Int), .int .i64 ((R:Nat):Int)], .at_ code]) rfl fun a10 h10=>gG h10<|sG (oM 1 rfl<|.nl)<|sK fun _ k12=>gRn (oM 2 rfl<|oV (r_build (cs:= [.iface M.T (.pointer (some M.u)), .pointer (some ⟨gp,0,none⟩),(.slice none 0 0),(.slice none 0 0), .bool false]) rfl rfl (by kernel_rfl)) rfl<|.nl)<|gbx rfl rfl fun b13=>gRn (oM 1 rfl<|.nl)<|nK k12<|gK fun _ k14=>sK fun _ k15=>gNl (aA 2 rfl) fun hl16=>gRn (oM 1 rfl<|onf fl_25_0 rfl<|olR 1 ti_22 rfl rfl<|oln sl_22 (aA 2 rfl) rfl<|oM 1 rfl<|.nl)<|nK k15<|gB<|fun a19 w19 h19=> ?_;clear h10
 have h18:=h19.nil (α:=ThQ) 189
 clear h19
 have h20:=h18.bigR0 3
 clear h18
 refine x_loop (fun m a w=>∃(i:Nat) (rows:List ThR) (vt:Value),(i≤code.l.length)∧(rows.length=i)∧(rows.map ThR.th=List.replicate i ⟨0,List.replicate R 0, []⟩)∧St 34 (fun _=>False) W a w [(0, .pointer (some ⟨gp,0,none⟩)),(5, .pointer (some ⟨b13,0,none⟩)),(14, .int .i64 ((code.l.length:Nat):Int)),(15, .int .i64 ((i:Nat):Int))] [.blk b13 173 [.iface M.T (.pointer (some M.u)), .pointer (some ⟨gp,0,none⟩),vt,(.slice none 0 0), .bool false], .rblk gp 25 [code.v,pw, .int .i64 ((Lk:Nat):Int), .int .i64 ((R:Nat):Int)], .at_ code, .own 189 (⟨vt,rows.map ThR.toQ⟩:Ls ThQ), .big (regA 3 rows)]∧m=code.l.length-i) ⟨_,0, [],_,(by omega),(rfl),(rfl),h20.nrm ⟨rfl,rfl,rfl,rfl,trivial⟩ [2,3,4,1,0] rfl,rfl⟩ ?_
 clear h20
 rintro m17 a17 w17 ⟨i,rows,vt,hi,hrl,hrw,h17,hm17⟩
 refine gG h17<|sG (oltN _ _ rfl<|.nl)<|gK fun _ k22=>gcd rfl (fun hb23 hp23=> ?_) fun hb23 hp23=> ?_;clear h17
 ·skip
  refine gS<|hK k22<|gK fun _ k24=>gB<|gF [0,5,14,15,16] rfl<|fun a27 w27 h27=>x_any ((fun Φ Ψ S a w=>(S 9=false∧S 11=false∧S 12=false∧S 15=false∧FrI 34 S Φ Ψ a∧Sh (fun _=>False) W w [.blk b13 173 [.iface M.T (.pointer (some M.u)), .pointer (some ⟨gp,0,none⟩),vt,(.slice none 0 0), .bool false], .rblk gp 25 [code.v,pw, .int .i64 ((Lk:Nat):Int), .int .i64 ((R:Nat):Int)], .at_ code, .own 189 (⟨vt,rows.map ThR.toQ⟩:Ls ThQ), .big (regA 3 rows)])∨(S 9=true∧S 11=false∧S 12=false∧S 15=false∧∃(v7009:Value),FrI 34 S Φ (Ψ++ [(9,26,v7009),(10,27, .agg #[.int .i64 0,v7009])]) a∧Sh (fun _=>False) W w [.own 3 (⟨v7009,List.replicate R 0⟩:Ls Int), .blk b13 173 [.iface M.T (.pointer (some M.u)), .pointer (some ⟨gp,0,none⟩),vt,(.slice none 0 0), .bool false], .rblk gp 25 [code.v,pw, .int .i64 ((Lk:Nat):Int), .int .i64 ((R:Nat):Int)], .at_ code, .own 189 (⟨vt,rows.map ThR.toQ⟩:Ls ThQ), .big (regA 3 rows)])∨(S 9=true∧S 11=true∧S 12=false∧S 15=false∧∃(v7009:Value) (v7011:Value),FrI 34 S Φ (Ψ++ [(9,26,v7009),(10,27, .agg #[.int .i64 0,v7009]),(11,28,v7011)]) a∧Sh (fun _=>False) W w [.own 189 (⟨v7011, [(⟨0,v7009⟩:ThQ)]⟩:Ls ThQ), .own 3 (⟨v7009,List.replicate R 0⟩:Ls Int), .blk b13 173 [.iface M.T (.pointer (some M.u)), .pointer (some ⟨gp,0,none⟩),vt,(.slice none 0 0), .bool false], .rblk gp 25 [code.v,pw, .int .i64 ((Lk:Nat):Int), .int .i64 ((R:Nat):Int)], .at_ code, .own 189 (⟨vt,rows.map ThR.toQ⟩:Ls ThQ), .big (regA 3 rows)])∨(S 9=true∧S 11=true∧S 12=true∧S 15=false∧∃(v7009:Value) (v7011:Value) (v7012:Value),FrI 34 S Φ (Ψ++ [(9,26,v7009),(10,27, .agg #[.int .i64 0,v7009]),(11,28,v7011),(12,29,v7012),(13,30, .pointer (some ⟨b13,0,none⟩)),(14,31, .pointer (some ⟨b13,2,none⟩))]) a∧Sh (fun _=>False) W w [.own 189 (⟨v7011, [(⟨0,v7009⟩:ThQ)]⟩:Ls ThQ), .own 3 (⟨v7009,List.replicate R 0⟩:Ls Int), .blk b13 173 [.iface M.T (.pointer (some M.u)), .pointer (some ⟨gp,0,none⟩),vt,(.slice none 0 0), .bool false], .rblk gp 25 [code.v,pw, .int .i64 ((Lk:Nat):Int), .int .i64 ((R:Nat):Int)], .at_ code, .own 189 (⟨v7012,(rows.map ThR.toQ)++([(⟨0,v7009⟩:ThQ)])⟩:Ls ThQ), .big (regA 3 rows)])∨(S 9=true∧S 11=true∧S 12=true∧S 15=true∧∃(v7009:Value) (v7011:Value) (v7012:Value),FrI 34 S Φ (Ψ++ [(9,26,v7009),(10,27, .agg #[.int .i64 0,v7009]),(11,28,v7011),(12,29,v7012),(13,30, .pointer (some ⟨b13,0,none⟩)),(14,31, .pointer (some ⟨b13,2,none⟩))]) a∧Sh (fun _=>False) W w [.own 189 (⟨v7011, [(⟨0,v7009⟩:ThQ)]⟩:Ls ThQ), .own 3 (⟨v7009,List.replicate R 0⟩:Ls Int), .blk b13 173 [.iface M.T (.pointer (some M.u)), .pointer (some ⟨gp,0,none⟩),v7012,(.slice none 0 0), .bool false], .rblk gp 25 [code.v,pw, .int .i64 ((Lk:Nat):Int), .int .i64 ((R:Nat):Int)], .at_ code, .own 189 (⟨v7012,(rows.map ThR.toQ)++([(⟨0,v7009⟩:ThQ)])⟩:Ls ThQ), .big (regA 3 rows)])) [(0, .pointer (some ⟨gp,0,none⟩)),(5, .pointer (some ⟨b13,0,none⟩)),(14, .int .i64 ((code.l.length:Nat):Int)),(15, .int .i64 ((i:Nat):Int)),(16, .bool (decide (i<code.l.length)))] [(0,17, .pointer (some ⟨b13,0,none⟩)),(1,18, .pointer (some ⟨b13,0,none⟩)),(2,19, .pointer (some ⟨b13,0,none⟩)),(3,20, .pointer (some ⟨b13,2,none⟩)),(4,21,vt),(5,22, .pointer (some ⟨gp,0,none⟩)),(6,23, .pointer (some ⟨gp,0,none⟩)),(7,24, .pointer (some ⟨gp,3,none⟩)),(8,25, .int .i64 ((R:Nat):Int))]) (by kernel_rfl) (by kernel_rfl) (Or.inl (⟨rfl,rfl,rfl,rfl,FrI.start h27.fr,h27.sh.drew⟩)) ?_ ?_
  ·intro S i o ho hSi hcl hdep a w hI
   clear h27
   rcases i with _|_|_|_|_|_|_|_|_|_|_|_|_|_|_|_|i
   ·obtain rfl:_=o:=Option.some.inj ho
    rcases hI with ⟨ν9,ν11,ν12,ν15,φ,ς⟩|⟨ν9,ν11,ν12,ν15,v7009,φ,ς⟩|⟨ν9,ν11,ν12,ν15,v7009,v7011,φ,ς⟩|⟨ν9,ν11,ν12,ν15,v7009,v7011,v7012,φ,ς⟩|⟨_,_,_,ν15,_⟩
    ·exact sq φ φ.fr0 ς (r_move rfl rfl) 0 rfl rfl rfl rfl rfl rfl fun a hg=>Or.inl (⟨un rfl ν9,un rfl ν11,un rfl ν12,un rfl ν15,hg,ς⟩)
    ·exact sq φ φ.fr0 ς (r_move rfl rfl) 0 rfl rfl rfl rfl rfl rfl fun a hg=>Or.inr (Or.inl (⟨un rfl ν9,un rfl ν11,un rfl ν12,un rfl ν15,v7009,hg,ς⟩))
    ·exact sq φ φ.fr0 ς (r_move rfl rfl) 0 rfl rfl rfl rfl rfl rfl fun a hg=>Or.inr (Or.inr (Or.inl (⟨un rfl ν9,un rfl ν11,un rfl ν12,un rfl ν15,v7009,v7011,hg,ς⟩)))
    ·exact sq φ φ.fr0 ς (r_move rfl rfl) 0 rfl rfl rfl rfl rfl rfl fun a hg=>Or.inr (Or.inr (Or.inr (Or.inl (⟨un rfl ν9,un rfl ν11,un rfl ν12,un rfl ν15,v7009,v7011,v7012,hg,ς⟩))))
    ·exact no_way (cA hcl 15 0 rfl ν15) hSi
   ·obtain rfl:_=o:=Option.some.inj ho
    rcases hI with ⟨ν9,ν11,ν12,ν15,φ,ς⟩|⟨ν9,ν11,ν12,ν15,v7009,φ,ς⟩|⟨ν9,ν11,ν12,ν15,v7009,v7011,φ,ς⟩|⟨_,_,ν12,_⟩|⟨_,_,ν12,_⟩
    ·exact sq φ φ.fr0 ς (r_move rfl rfl) 1 rfl rfl rfl rfl rfl rfl fun a hg=>Or.inl (⟨un rfl ν9,un rfl ν11,un rfl ν12,un rfl ν15,hg,ς⟩)
    ·exact sq φ φ.fr0 ς (r_move rfl rfl) 1 rfl rfl rfl rfl rfl rfl fun a hg=>Or.inr (Or.inl (⟨un rfl ν9,un rfl ν11,un rfl ν12,un rfl ν15,v7009,hg,ς⟩))
    ·exact sq φ φ.fr0 ς (r_move rfl rfl) 1 rfl rfl rfl rfl rfl rfl fun a hg=>Or.inr (Or.inr (Or.inl (⟨un rfl ν9,un rfl ν11,un rfl ν12,un rfl ν15,v7009,v7011,hg,ς⟩)))
    ·exact no_way (cA hcl 12 1 rfl ν12) hSi
    ·exact no_way (cA hcl 12 1 rfl ν12) hSi
   ·obtain rfl:_=o:=Option.some.inj ho
    have hd1:S 1=true:=depAt hdep 0 rfl rfl
    rcases hI with ⟨ν9,ν11,ν12,ν15,φ,ς⟩|⟨ν9,ν11,ν12,ν15,v7009,φ,ς⟩|⟨ν9,ν11,ν12,ν15,v7009,v7011,φ,ς⟩|⟨_,_,ν12,_⟩|⟨_,_,ν12,_⟩
    ·exact sq φ (Fr.cons φ.fr0 (φ.at_ 1 1 18 _ rfl hd1)) ς (r_nil rfl rfl) 2 rfl rfl rfl rfl rfl rfl fun a hg=>Or.inl (⟨un rfl ν9,un rfl ν11,un rfl ν12,un rfl ν15,hg,ς⟩)
    ·exact sq φ (Fr.cons φ.fr0 (φ.at_ 1 1 18 _ rfl hd1)) ς (r_nil rfl rfl) 2 rfl rfl rfl rfl rfl rfl fun a hg=>Or.inr (Or.inl (⟨un rfl ν9,un rfl ν11,un rfl ν12,un rfl ν15,v7009,hg,ς⟩))
    ·exact sq φ (Fr.cons φ.fr0 (φ.at_ 1 1 18 _ rfl hd1)) ς (r_nil rfl rfl) 2 rfl rfl rfl rfl rfl rfl fun a hg=>Or.inr (Or.inr (Or.inl (⟨un rfl ν9,un rfl ν11,un rfl ν12,un rfl ν15,v7009,v7011,hg,ς⟩)))
    ·exact no_way (cA hcl 12 2 rfl ν12) hSi
    ·exact no_way (cA hcl 12 2 rfl ν12) hSi
   ·obtain rfl:_=o:=Option.some.inj ho
    have hd2:S 2=true:=depAt hdep 0 rfl rfl
    rcases hI with ⟨ν9,ν11,ν12,ν15,φ,ς⟩|⟨ν9,ν11,ν12,ν15,v7009,φ,ς⟩|⟨ν9,ν11,ν12,ν15,v7009,v7011,φ,ς⟩|⟨_,_,ν12,_⟩|⟨_,_,ν12,_⟩
    ·exact sq φ (Fr.cons φ.fr0 (φ.at_ 2 2 19 _ rfl hd2)) ς (r_fieldB (r:=2) fl_173_2 rfl rfl rfl) 3 rfl rfl rfl rfl rfl rfl fun a hg=>Or.inl (⟨un rfl ν9,un rfl ν11,un rfl ν12,un rfl ν15,hg,ς⟩)
    ·exact sq φ (Fr.cons φ.fr0 (φ.at_ 2 2 19 _ rfl hd2)) ς (r_fieldB (r:=2) fl_173_2 rfl rfl rfl) 3 rfl rfl rfl rfl rfl rfl fun a hg=>Or.inr (Or.inl (⟨un rfl ν9,un rfl ν11,un rfl ν12,un rfl ν15,v7009,hg,ς⟩))
    ·exact sq φ (Fr.cons φ.fr0 (φ.at_ 2 2 19 _ rfl hd2)) ς (r_fieldB (r:=2) fl_173_2 rfl rfl rfl) 3 rfl rfl rfl rfl rfl rfl fun a hg=>Or.inr (Or.inr (Or.inl (⟨un rfl ν9,un rfl ν11,un rfl ν12,un rfl ν15,v7009,v7011,hg,ς⟩)))
    ·exact no_way (cA hcl 12 3 rfl ν12) hSi
    ·exact no_way (cA hcl 12 3 rfl ν12) hSi
   ·obtain rfl:_=o:=Option.some.inj ho
    have hd3:S 3=true:=depAt hdep 0 rfl rfl
    rcases hI with ⟨ν9,ν11,ν12,ν15,φ,ς⟩|⟨ν9,ν11,ν12,ν15,v7009,φ,ς⟩|⟨ν9,ν11,ν12,ν15,v7009,v7011,φ,ς⟩|⟨_,_,ν12,_⟩|⟨_,_,ν12,_⟩
    ·exact sq φ (Fr.cons φ.fr0 (φ.at_ 3 3 20 _ rfl hd3)) ς (r_ldb (i:=0) ti_171 rfl rfl rfl rfl) 4 rfl rfl rfl rfl rfl rfl fun a hg=>Or.inl (⟨un rfl ν9,un rfl ν11,un rfl ν12,un rfl ν15,hg,ς⟩)
    ·exact sq φ (Fr.cons φ.fr0 (φ.at_ 3 3 20 _ rfl hd3)) ς (r_ldb (i:=1) ti_171 rfl rfl rfl rfl) 4 rfl rfl rfl rfl rfl rfl fun a hg=>Or.inr (Or.inl (⟨un rfl ν9,un rfl ν11,un rfl ν12,un rfl ν15,v7009,hg,ς⟩))
    ·exact sq φ (Fr.cons φ.fr0 (φ.at_ 3 3 20 _ rfl hd3)) ς (r_ldb (i:=2) ti_171 rfl rfl rfl rfl) 4 rfl rfl rfl rfl rfl rfl fun a hg=>Or.inr (Or.inr (Or.inl (⟨un rfl ν9,un rfl ν11,un rfl ν12,un rfl ν15,v7009,v7011,hg,ς⟩)))
    ·exact no_way (cA hcl 12 4 rfl ν12) hSi
    ·exact no_way (cA hcl 12 4 rfl ν12) hSi
   ·obtain rfl:_=o:=Option.some.inj ho
    rcases hI with ⟨ν9,ν11,ν12,ν15,φ,ς⟩|⟨ν9,_⟩|⟨ν9,_⟩|⟨ν9,_⟩|⟨ν9,_⟩
    ·exact sq φ φ.fr0 ς (r_move rfl rfl) 5 rfl rfl rfl rfl rfl rfl fun a hg=>Or.inl (⟨un rfl ν9,un rfl ν11,un rfl ν12,un rfl ν15,hg,ς⟩)
    ·exact no_way (cA hcl 9 5 rfl ν9) hSi
    ·exact no_way (cA hcl 9 5 rfl ν9) hSi
    ·exact no_way (cA hcl 9 5 rfl ν9) hSi
    ·exact no_way (cA hcl 9 5 rfl ν9) hSi
   ·obtain rfl:_=o:=Option.some.inj ho
    have hd5:S 5=true:=depAt hdep 0 rfl rfl
    rcases hI with ⟨ν9,ν11,ν12,ν15,φ,ς⟩|⟨ν9,_⟩|⟨ν9,_⟩|⟨ν9,_⟩|⟨ν9,_⟩
    ·exact sq φ (Fr.cons φ.fr0 (φ.at_ 5 5 22 _ rfl hd5)) ς (r_nil rfl rfl) 6 rfl rfl rfl rfl rfl rfl fun a hg=>Or.inl (⟨un rfl ν9,un rfl ν11,un rfl ν12,un rfl ν15,hg,ς⟩)
    ·exact no_way (cA hcl 9 6 rfl ν9) hSi
    ·exact no_way (cA hcl 9 6 rfl ν9) hSi
    ·exact no_way (cA hcl 9 6 rfl ν9) hSi
    ·exact no_way (cA hcl 9 6 rfl ν9) hSi
   ·obtain rfl:_=o:=Option.some.inj ho
    have hd6:S 6=true:=depAt hdep 0 rfl rfl
    rcases hI with ⟨ν9,ν11,ν12,ν15,φ,ς⟩|⟨ν9,_⟩|⟨ν9,_⟩|⟨ν9,_⟩|⟨ν9,_⟩
    ·exact sq φ (Fr.cons φ.fr0 (φ.at_ 6 6 23 _ rfl hd6)) ς (r_fieldB (r:=3) fl_25_3 rfl rfl rfl) 7 rfl rfl rfl rfl rfl rfl fun a hg=>Or.inl (⟨un rfl ν9,un rfl ν11,un rfl ν12,un rfl ν15,hg,ς⟩)
    ·exact no_way (cA hcl 9 7 rfl ν9) hSi
    ·exact no_way (cA hcl 9 7 rfl ν9) hSi
    ·exact no_way (cA hcl 9 7 rfl ν9) hSi
    ·exact no_way (cA hcl 9 7 rfl ν9) hSi
   ·obtain rfl:_=o:=Option.some.inj ho
    have hd7:S 7=true:=depAt hdep 0 rfl rfl
    rcases hI with ⟨ν9,ν11,ν12,ν15,φ,ς⟩|⟨ν9,_⟩|⟨ν9,_⟩|⟨ν9,_⟩|⟨ν9,_⟩
    ·exact sq φ (Fr.cons φ.fr0 (φ.at_ 7 7 24 _ rfl hd7)) ς (r_ldbR ti_3 rfl rfl (fun w h=>h.rblk 1 rfl) rfl) 8 rfl rfl rfl rfl rfl rfl fun a hg=>Or.inl (⟨un rfl ν9,un rfl ν11,un rfl ν12,un rfl ν15,hg,ς⟩)
    ·exact no_way (cA hcl 9 8 rfl ν9) hSi
    ·exact no_way (cA hcl 9 8 rfl ν9) hSi
    ·exact no_way (cA hcl 9 8 rfl ν9) hSi
    ·exact no_way (cA hcl 9 8 rfl ν9) hSi
   ·obtain rfl:_=o:=Option.some.inj ho
    have hd8:S 8=true:=depAt hdep 0 rfl rfl
    rcases hI with ⟨ν9,ν11,ν12,ν15,φ,ς⟩|⟨ν9,_⟩|⟨ν9,_⟩|⟨ν9,_⟩|⟨ν9,_⟩
    ·have hs:=St.mk (Fr.cons φ.fr0 (φ.at_ 8 8 25 _ rfl hd8)) ς
     refine step_ex (x_make (n:=R) (0:Int) hs sl_23 ti_3 rfl rfl rfl rfl rfl (show 8*R≤140737488355328∧R≤140737488355328 from (by omega)) (fun w=>Flat.inner _ _) (fun b=>Flat.on _ _) rfl rfl) (wanted_none rfl _) ?_
     rintro a53 w53 ⟨v53,h53⟩ ⟨v0,ht53⟩
     exact Or.inr (Or.inl (⟨upd_self _ _,un rfl ν11,un rfl ν12,un rfl ν15,v53,φ.stepW hcl hSi [0,1,2,3,4,5,6,7,8] (by kernel_rfl) (by kernel_rfl) ht53 h53.fr.defers (h53.fr.at_ 26 _ rfl) 9 rfl rfl rfl rfl,(h53.sh.sel [0,1,2,3,4,5] rfl)⟩))
    ·exact no_way ν9 hSi
    ·exact no_way ν9 hSi
    ·exact no_way ν9 hSi
    ·exact no_way ν9 hSi
   ·obtain rfl:_=o:=Option.some.inj ho
    have hd9:S 9=true:=depAt hdep 0 rfl rfl
    rcases hI with ⟨ν9,_⟩|⟨ν9,ν11,ν12,ν15,v7009,φ,ς⟩|⟨_,ν11,_⟩|⟨_,ν11,_⟩|⟨_,ν11,_⟩
    ·exact no_way hd9 ν9
    ·have hs:=St.mk (Fr.cons φ.fr0 (φ.at_ 9 9 26 _ rfl hd9)) ς
     exact sq φ (Fr.cons φ.fr0 (φ.at_ 9 9 26 _ rfl hd9)) ς (r_build (cs:= [.int .i64 0,v7009]) rfl rfl (by obtain ⟨A54,n54,c54,(e54:v7009=_)⟩:=((hs.sh.own 0 rfl)).form;rw [e54];kernel_rfl)) 10 rfl rfl rfl rfl rfl rfl fun a hg=>Or.inr (Or.inl (⟨un rfl ν9,un rfl ν11,un rfl ν12,un rfl ν15,v7009,hg,ς⟩))
    ·exact no_way (cA hcl 11 10 rfl ν11) hSi
    ·exact no_way (cA hcl 11 10 rfl ν11) hSi
    ·exact no_way (cA hcl 11 10 rfl ν11) hSi
   ·obtain rfl:_=o:=Option.some.inj ho
    have hd10:S 10=true:=depAt hdep 0 rfl rfl
    rcases hI with ⟨ν9,_⟩|⟨ν9,ν11,ν12,ν15,v7009,φ,ς⟩|⟨_,ν11,_⟩|⟨_,ν11,_⟩|⟨_,ν11,_⟩
    ·exact no_way (cA hcl 10 9 rfl hd10) ν9
    ·have hs:=St.mk (Fr.cons φ.fr0 (φ.at_ 10 10 27 _ rfl hd10)) ς
     refine step_ex (x_lit (n:=1) (cs:= [.int .i64 0,v7009]) ([(⟨0,v7009⟩:ThQ)]:List ThQ) hs sl_171 ti_189 rfl rfl rfl (by decide) rfl (by kernel_rfl) rfl (fun q hq w h=>Flat.inner _ _) (fun q hq b hb=>(Flat.on _ _ hb).elim) rfl rfl) (wanted_none rfl _) ?_
     rintro a56 w56 ⟨v56,h56⟩ ⟨v0,ht56⟩
     exact Or.inr (Or.inr (Or.inl (⟨un rfl ν9,upd_self _ _,un rfl ν12,un rfl ν15,v7009,v56,φ.stepW hcl hSi [0,1,2,3,4,5,6,7,8,9,10] (by kernel_rfl) (by kernel_rfl) ht56 h56.fr.defers (h56.fr.at_ 28 _ rfl) 11 rfl rfl rfl rfl,(h56.sh.sel [0,1,2,3,4,5,6] rfl)⟩)))
    ·exact no_way ν11 hSi
    ·exact no_way ν11 hSi
    ·exact no_way ν11 hSi
   ·obtain rfl:_=o:=Option.some.inj ho
    have hd4:S 4=true:=depAt hdep 0 rfl rfl
    have hd11:S 11=true:=depAt hdep 1 rfl rfl
    rcases hI with ⟨ν9,_⟩|⟨_,ν11,_⟩|⟨ν9,ν11,ν12,ν15,v7009,v7011,φ,ς⟩|⟨_,_,ν12,_⟩|⟨_,_,ν12,_⟩
    ·exact no_way (cA hcl 11 9 rfl hd11) ν9
    ·exact no_way hd11 ν11
    ·have hs:=St.mk (Fr.cons (Fr.cons φ.fr0 (φ.at_ 4 4 21 _ rfl hd4)) (φ.at_ 11 11 28 _ rfl hd11)) ς
     refine step_ex (x_app1 (r:=5) (rm:=0) (s:=(⟨vt,rows.map ThR.toQ⟩:Ls ThQ)) (m:=(⟨v7011, [(⟨0,v7009⟩:ThQ)]⟩:Ls ThQ)) hs sl_171 ti_189 rfl rfl rfl rfl rfl rfl rfl (fun w h=>(h.own 0 rfl)) (fun b hb=>own_on (hs.sh.ok _ (List.mem_of_getElem? (i:=0) rfl)) hb) (fun q hq b hb=>⟨q,hq,hb⟩) rfl rfl rfl (fun w h q hq j hj=>by obtain rfl:q=0:=(by simpa using hq);rcases j with _|_|j;exact rfl;exact ((h.own 1 rfl)).one;exact absurd hj (by show¬(j+2<2);omega)) (show ((rows.map ThR.toQ).length+([(⟨0,v7009⟩:ThQ)]).length)*32≤140737488355328∧(rows.map ThR.toQ).length+([(⟨0,v7009⟩:ThQ)]).length≤140737488355328 from (by first|omega|(simp only [lens9];omega))) rfl rfl) (wanted_none rfl _) ?_
     rintro a57 w57 ⟨v57,h57⟩ ⟨v0,ht57⟩
     exact Or.inr (Or.inr (Or.inr (Or.inl (⟨un rfl ν9,un rfl ν11,upd_self _ _,un rfl ν15,v7009,v7011,v57,φ.stepW hcl hSi [0,1,2,3,4,5,6,7,8,9,10,11] (by kernel_rfl) (by kernel_rfl) ht57 h57.fr.defers (h57.fr.at_ 29 _ rfl) 12 rfl rfl rfl rfl,(h57.sh.sel [0,1,2,3,4,5,6] rfl)⟩))))
    ·exact no_way ν12 hSi
    ·exact no_way ν12 hSi
   ·obtain rfl:_=o:=Option.some.inj ho
    have hd0:S 0=true:=depAt hdep 0 rfl rfl
    have hd9:S 9=true:=depAt hdep 10 rfl rfl
    have hd11:S 11=true:=depAt hdep 12 rfl rfl
    have hd12:S 12=true:=depAt hdep 13 rfl rfl
    rcases hI with ⟨ν9,_⟩|⟨_,ν11,_⟩|⟨_,_,ν12,_⟩|⟨ν9,ν11,ν12,ν15,v7009,v7011,v7012,φ,ς⟩|⟨_,_,_,ν15,_⟩
    ·exact no_way hd9 ν9
    ·exact no_way hd11 ν11
    ·exact no_way hd12 ν12
    ·exact sq φ (Fr.cons φ.fr0 (φ.at_ 0 0 17 _ rfl hd0)) ς (r_nil rfl rfl) 13 rfl rfl rfl rfl rfl rfl fun a hg=>Or.inr (Or.inr (Or.inr (Or.inl (⟨un rfl ν9,un rfl ν11,un rfl ν12,un rfl ν15,v7009,v7011,v7012,hg,ς⟩))))
    ·exact no_way (cA hcl 15 13 rfl ν15) hSi
   ·obtain rfl:_=o:=Option.some.inj ho
    have hd13:S 13=true:=depAt hdep 0 rfl rfl
    have hd9:S 9=true:=depAt hdep 10 rfl rfl
    have hd11:S 11=true:=depAt hdep 12 rfl rfl
    have hd12:S 12=true:=depAt hdep 13 rfl rfl
    rcases hI with ⟨ν9,_⟩|⟨_,ν11,_⟩|⟨_,_,ν12,_⟩|⟨ν9,ν11,ν12,ν15,v7009,v7011,v7012,φ,ς⟩|⟨_,_,_,ν15,_⟩
    ·exact no_way hd9 ν9
    ·exact no_way hd11 ν11
    ·exact no_way hd12 ν12
    ·exact sq φ (Fr.cons φ.fr0 (φ.at_ 13 13 30 _ rfl hd13)) ς (r_fieldB (r:=2) fl_173_2 rfl rfl rfl) 14 rfl rfl rfl rfl rfl rfl fun a hg=>Or.inr (Or.inr (Or.inr (Or.inl (⟨un rfl ν9,un rfl ν11,un rfl ν12,un rfl ν15,v7009,v7011,v7012,hg,ς⟩))))
    ·exact no_way (cA hcl 15 14 rfl ν15) hSi
   ·obtain rfl:_=o:=Option.some.inj ho
    have hd14:S 14=true:=depAt hdep 0 rfl rfl
    have hd12:S 12=true:=depAt hdep 1 rfl rfl
    have hd9:S 9=true:=depAt hdep 12 rfl rfl
    have hd11:S 11=true:=depAt hdep 14 rfl rfl
    rcases hI with ⟨ν9,_⟩|⟨_,ν11,_⟩|⟨_,_,ν12,_⟩|⟨ν9,ν11,ν12,ν15,v7009,v7011,v7012,φ,ς⟩|⟨_,_,_,ν15,_⟩
    ·exact no_way hd9 ν9
    ·exact no_way hd11 ν11
    ·exact no_way hd12 ν12
    ·have hs:=St.mk (Fr.cons (Fr.cons φ.fr0 (φ.at_ 12 12 29 _ rfl hd12)) (φ.at_ 14 14 31 _ rfl hd14)) ς
     refine step_ex (x_stb (i:=2) (vs:= [v7012]) (cs' := [.iface M.T (.pointer (some M.u)), .pointer (some ⟨gp,0,none⟩),v7012,(.slice none 0 0), .bool false]) hs ti_171 rfl rfl rfl rfl rfl (cells_oneL ((hs.sh.own 5 rfl)).one) rfl (allOne_cons ((hs.sh.own 5 rfl)).one allOne_nil) (Nat.le_of_ble_eq_true rfl) rfl) (wanted_none rfl _) ?_
     rintro a60 w60 h60 ⟨v0,ht60⟩
     exact Or.inr (Or.inr (Or.inr (Or.inr (⟨un rfl ν9,un rfl ν11,un rfl ν12,upd_self _ _,v7009,v7011,v7012,φ.noneW hcl hSi [0,1,2,3,4,5,6,7,8,9,10,11,12,13,14] (by kernel_rfl) (by kernel_rfl) ht60 h60.fr.defers rfl,(h60.sh.sel [0,1,2,3,4,5,6] rfl)⟩))))
    ·exact no_way ν15 hSi
   · simp at ho
  intro S hall a w hI
  clear h27
  rcases hI with ⟨ν9,ν11,ν12,ν15,φ,ς⟩|⟨ν9,ν11,ν12,ν15,v7009,φ,ς⟩|⟨ν9,ν11,ν12,ν15,v7009,v7011,φ,ς⟩|⟨ν9,ν11,ν12,ν15,v7009,v7011,v7012,φ,ς⟩|⟨ν9,ν11,ν12,ν15,v7009,v7011,v7012,φ,ς⟩
  · exact no_way (hall 9 (by decide)) ν9
  · exact no_way (hall 11 (by decide)) ν11
  · exact no_way (hall 12 (by decide)) ν12
  · exact no_way (hall 15 (by decide)) ν15
  have h61:St 34 (fun _=>False) W a w _ _:=⟨φ.fr0,ς⟩
  clear hall φ ς ν9 ν11 ν12 ν15
  refine gG h61<|hK k24<|gL<|gRn (oadN _ 1 om9 rfl<|oM 1 rfl<|.nl)<|nN<|gO [1,6,0,2,3,4,5] rfl<|fun a64 w64 h64=> ?_;clear h61
  have h63:=h64.foldR (x:=(⟨0,(⟨v7009,List.replicate R 0⟩:Ls Int)⟩:ThR))
  clear h64
  have h65:=h63.relist (i:=5) (l' :=(rows++ [(⟨0,(⟨v7009,List.replicate R 0⟩:Ls Int)⟩:ThR)]).map ThR.toQ) rfl (by simp [ThR.toQ])
  clear h63
  refine x_again ⟨_, ?_,(i+1),(rows++ [(⟨0,(⟨v7009,List.replicate R 0⟩:Ls Int)⟩:ThR)]),v7012, ?_, ?_, ?_,h65.nrm ⟨rfl,rfl,rfl,rfl,trivial⟩ [2,3,4,5,0] rfl,rfl⟩
  · rw [hm17];first|omega|(simp only [lens9];omega)
  · omega
  · simp [hrl]
  · rw [List.map_append,hrw,List.replicate_succ'];rfl
 refine gX<|hK k14<|sG (oM 2 rfl<|.nl)<|gR<|fun a67 w67 h67=> ?_
 try simp only [Exit.then,Exit.inBlock]
 refine x_ret1 (fn:=Tryz.f100) (t:=4) rfl h67 rfl ?_
 have h68:=h67.nil (α:=Int) 3
 clear h67
 refine ⟨b13,rows,vt,rfl, ?_,(h68.sh.sel [1,4,5,0] rfl)⟩
 rw [hrw,show i=code.l.length by omega]
end Go.Proofs.YtmjkobhkkjgplaaGreatDoor
