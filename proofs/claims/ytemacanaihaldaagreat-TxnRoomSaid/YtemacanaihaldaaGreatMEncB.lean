/-
 Records as bytes: Encode of a record that may be.
-/
import Derived.Test.YtemacanaihaldaaGreatMRdH
set_option maxRecDepth 100000
set_option maxHeartbeats 8000000
set_option linter.all false
namespace Go.Proofs.YtemacanaihaldaaGreat
variable {r:RecP}{w:World}{τ:Tags}
open Go.RowKit
def encTx (x:TxnP):List Int:=leB x.txn 4++leB x.last 8++leB x.undo 8++leB x.state 1
def encPx (x:Nat×Nat):List Int:=leB x.1 4++leB x.2 8
def encT (ts:List TxnP) (ps:List (Nat×Nat)):List Int:=leB ts.length 1++ts.flatMap encTx++leB ps.length 1++ps.flatMap encPx
def encBody (r:RecP):List Int:=if chgB r.kind=true then encC r.change else if r.kind=8 then encT r.txns r.pages else []
def encRaw (r:RecP):List Int:=List.replicate 6 0++leB r.kind 1++leB r.txn 4++leB r.prev 8++leB r.next 8++encBody r
def encLen (r:RecP):List Int:=layN (encRaw r) 0 (leB (encRaw r).length 2)
def encR (r:RecP):List Int:=layN (encLen r) 2 (leB (crcTo ((encLen r).drop 6) ((encLen r).drop 6).length) 4)
theorem Qco (r:RecP):(encRaw r).length=27+(encBody r).length:=by simp only[encRaw,Z6,Qaa,Z7]
theorem Qfr (r:RecP):(encLen r).length=(encRaw r).length:=by unfold encLen;rw[Qae _ _ _ (by rw[Qaa,Qco];omega)]
theorem Qbh (r:RecP):(encR r).length=27+(encBody r).length:=by unfold encR;rw[Qae _ _ _ (by rw[Qaa,Qfr,Qco];omega),Qfr,Qco]
theorem Qx2 {c:ChangeP}(h1:IsB c.before) (h2:IsB c.after):IsB (encC c):=((((((Qan _ _).append (Qan _ _)).append (Qan _ _)).append (Qan _ _)).append h1).append (Qan _ _)).append h2
theorem Qsk {α:Type}(f:α->List Int) (h:∀x,IsB (f x)) (l:List α):IsB (l.flatMap f):=fun x b=>by
 obtain⟨a,_,d⟩:=List.mem_flatMap.1 b
 exact h a x d
theorem Qx0 (ts:List TxnP) (ps:List (Nat×Nat)):IsB (encT ts ps) :=
 (((Qan _ _).append (Qsk _ (fun x=>(((Qan _ _).append (Qan _ _)).append (Qan _ _)).append (Qan _ _)) ts)).append (Qan _ _)).append (Qsk _ (fun x=>(Qan _ _).append (Qan _ _)) ps)
theorem Qzp:IsB []:=fun x b=>by cases b
theorem Qlo(h1:IsB r.change.before) (h2:IsB r.change.after):IsB (encBody r):=by
 unfold encBody
 split
 ·exact Qx2 h1 h2
 ·split
  ·exact Qx0 _ _
  ·exact Qzp
theorem Qm2(h:IsB (encBody r)):IsB (encRaw r):=(((((Qex 6).append (Qan _ _)).append (Qan _ _)).append (Qan _ _)).append (Qan _ _)).append h
structure RecI (w:World) (τ:Tags) (v:Value) (r:RecP):Prop where
 is:∃pb cb pa ca pt ct pp cp gt gp n0,v = .agg #[.int .u8 (r.kind:Int),.int .u32 (r.txn:Int),.int .u64 (r.prev:Int),.int .u64 (r.next:Int),.int .u32 (r.change.page:Int),.int .u16 (r.change.slot:Int),.bool r.change.had,.bool r.change.has,.slice pb r.change.before.length cb,.slice pa r.change.after.length ca,.slice pt r.txns.length ct,.slice pp r.pages.length cp] /\
  Bytes w τ tData (.slice pb r.change.before.length cb) r.change.before/\Bytes w τ tData (.slice pa r.change.after.length ca) r.change.after/\NS 75 4 Qct n0 w τ gt (.slice pt r.txns.length ct) r.txns/\NS 195 2 Qgn n0 w τ gp (.slice pp r.pages.length cp) r.pages/\¬WrT gt/\¬WrT gp
 kind:r.kind<256
 txn:r.txn<4294967296
 prev:r.prev<18446744073709551616
 next:r.next<18446744073709551616
 page:r.change.page<4294967296
 slot:r.change.slot<65536
theorem RecI.step {d:World} {b:Tags} {v:Value}(h:RecI w τ v r) (m:Step w τ d b nil):RecI d b v r:=by
 obtain⟨pb,cb,pa,ca,i,ct,j,cp,gt,k,n0,e,h1,h2,l,o,p,q⟩:=h.is
 exact⟨⟨pb,cb,pa,ca,i,ct,j,cp,gt,k,n0,e,h1.step m (fun h=>h),h2.step m (fun h=>h),l.step m (fun h=>h),o.step m (fun h=>h),p,q⟩,h.kind,h.txn,h.prev,h.next,h.page,h.slot⟩
theorem Qsm(h1:IsB r.change.before) (h2:IsB r.change.after):IsB (encR r):=Qaw (Qaw (Qm2 (Qlo h1 h2)) (Qan _ _) _) (Qan _ _) _
def TabC (r:RecP):Prop:=∀(w0 w:World) (τ0 τ:Tags) (bw:Nat) (l:List Int) (v:Value),Step w0 τ0 w τ nil->WrAt w0.heap.size w τ bw l->l.length<=1000->RecI w τ v r->Calls Tryz.prog 153 #[.pointer (some ⟨bw,0,none⟩),v] w fun e w'=>e = .returned (.tuple #[])/\∃τ',WrAt w0.heap.size w' τ' bw (l++encT r.txns r.pages)/\Step w0 τ0 w' τ' nil/\Step w τ w' τ' WrT
theorem Qiq {v:Value}(hv:RecI w τ v r) (I:mayB r=true) (jd:(encR r).length<=60000) (bp:r.kind=8->TabC r):Calls Tryz.prog 86 #[v] w fun e w'=>∃u ei,e = .returned (.tuple #[u,.int .u16 0])/\NB w.heap.size w' ei tWb u (encR r)/\Step w τ w' ei nil:=by
 have ej:=hv
 obtain⟨pb,cb,pa,ca,pt,ct,pp,cp,gt,gp,n0,rfl,hb,ha,ht,hp,ek,em⟩:=hv.is
 have dl:=hb.isB
 have dm:=ha.isB
 have b1:=hv.kind
 have b2:=hv.txn
 have b3:=hv.prev
 have b4:=hv.next
 have b5:=hv.page
 have b6:=hv.slot
 have a1:=I
 unfold mayB mayRB mayCB at a1
 have bq:r.change.before.length<=64/\r.change.after.length<=64:=by
  simp only[Bool.and_eq_true,Bool.not_eq_true',Bool.or_eq_false_iff,decide_eq_false_iff_not] at a1
  omega
 have a6:encBody r=if chgB r.kind=true then encC r.change else if r.kind=8 then encT r.txns r.pages else []:=rfl
 have en:=Qco r
 have eo:=Qfr r
 have ep:=Qbh r
 have er:=Qm2 (Qlo (r:=r) dl dm)
 have br:encRaw r=List.replicate 6 0++leB r.kind 1++leB r.txn 4++leB r.prev 8++leB r.next 8++encBody r:=rfl
 have bs:encLen r=layN (encRaw r) 0 (leB (encRaw r).length 2):=rfl
 have hR:encR r=layN (encLen r) 2 (leB (crcTo ((encLen r).drop 6) ((encLen r).drop 6).length) 4):=rfl
 have p:=fun (W:World) (T:Tags) (hs:NS 75 4 Qct n0 W T gt (.slice pt r.txns.length ct) r.txns)=>Qn4 (w:=W) (τ:=T) r.kind r.txn r.prev r.next r.change.page r.change.slot r.change.had r.change.has pb pa pt pp r.change.before.length cb r.change.after.length ca r.txns.length ct r.pages.length cp rfl hs
 rw[show mayRB r.kind r.txns.length r.pages.length (mayCB (chgB r.kind) r.change.page r.change.slot r.change.had r.change.has r.change.before.length r.change.after.length) (Qdu r.txns)=true from I] at p
 have dn:=fun (W:World) (T:Tags)=>Qhk W T r.kind r.txn r.prev r.next r.change.page r.change.slot r.change.had r.change.has pb pa pt pp r.change.before.length cb r.change.after.length ca r.txns.length ct r.pages.length cp
 have et:=fun (W0 W:World) (T0 T:Tags) (Z:Nat) (l:List Int) (h1:Step W0 T0 W T nil) (h2:WrAt W0.heap.size W T Z l) (h3:l.length<=1000) (h4:Bytes W T tData (.slice pb r.change.before.length cb) r.change.before) (h5:Bytes W T tData (.slice pa r.change.after.length ca) r.change.after)=>Qp4 h1 h2 (by omega) r.change h4 h5 b5 b6 (by omega) (by omega)
 have rn:∀W:World,(Instr.makeSlice 37 (.int .i64 6) (.int .i64 6)).run Tryz.prog W = .ok (.slice (some ⟨W.heap.size,0,none⟩) 6 6) (W.alloc (.cells (madeCells #[.int .u8 0] 6) 5)):=fun W=>Qko 6 (by omega) W
 have jg:((r.kind:Int)=8)↔r.kind=8:=by omega
 have e1:=Qam r.kind (by omega)
 have e2:=Qam r.txn (by omega)
 obtain⟨rc,ji⟩:∃rc:Array Value,rc=#[.int .u8 (r.kind:Int),.int .u32 (r.txn:Int),.int .u64 (r.prev:Int),.int .u64 (r.next:Int),.int .u32 (r.change.page:Int),.int .u16 (r.change.slot:Int),.bool r.change.had,.bool r.change.has,.slice pb r.change.before.length cb,.slice pa r.change.after.length ca,.slice pt r.txns.length ct,.slice pp r.pages.length cp]:=⟨_,rfl⟩
 have ev:=fun (W:World) (T:Tags) (m:Step w τ W T nil)=>ej.step m
 have J:=Own.born w τ tData 127 #[.int .u8 (r.kind:Int),.int .u32 (r.txn:Int),.int .u64 (r.prev:Int),.int .u64 (r.next:Int),.int .u32 (r.change.page:Int),.int .u16 (r.change.slot:Int),.bool r.change.had,.bool r.change.has,.slice pb r.change.before.length cb,.slice pa r.change.after.length ca,.slice pt r.txns.length ct,.slice pp r.pages.length cp]
 have a7:=(Step.refl w τ nil).alloc (.cells #[.int .u8 (r.kind:Int),.int .u32 (r.txn:Int),.int .u64 (r.prev:Int),.int .u64 (r.next:Int),.int .u32 (r.change.page:Int),.int .u16 (r.change.slot:Int),.bool r.change.had,.bool r.change.has,.slice pb r.change.before.length cb,.slice pa r.change.after.length ca,.slice pt r.txns.length ct,.slice pp r.pages.length cp] 127) tData
 have a8:=p _ _ (ht.step a7 (fun h=>h))
 have ew:=hb.step a7 (fun h=>h)
 have ey:=ha.step a7 (fun h=>h)
 generalize τ.put w.heap.size tData=τ1 at *
 clear ji rc hv ej a1
 generalize encR r=BR at *
 generalize encLen r=BL at *
 generalize encRaw r=BW at *
 generalize encBody r=BB at *
 obtain⟨kd,tx,pv,nx,⟨pg,sl,hd,hs,be,af⟩,ts,ps⟩:=r
 dsimp only at *
 obtain⟨cg,ez⟩:∃cg,chgB kd=cg:=⟨_,rfl⟩
 simp only[ez] at dn a6
 generalize fa:be.length=nb at *
 generalize fb:af.length=na at *
 generalize fc:ts.length=nt at *
 generalize fe:ps.length=np at *
 have c0:=J.at 0 (v:=.int .u8 (kd:Int)) rfl
 have c1:=J.at 1 (v:=.int .u32 (tx:Int)) rfl
 have c2:=J.at 2 (v:=.int .u64 (pv:Int)) rfl
 have c3:=J.at 3 (v:=.int .u64 (nx:Int)) rfl
 have c4:=J.at 4 (v:=.int .u32 (pg:Int)) rfl
 have c5:=J.at 5 (v:=.int .u16 (sl:Int)) rfl
 have c6:=J.at 6 (v:=.bool hd) rfl
 have c7:=J.at 7 (v:=.bool hs) rfl
 have c8:=J.at 8 (v:=.slice pb nb cb) rfl
 have c9:=J.at 9 (v:=.slice pa na ca) rfl
 have jk:=J.at 10 (v:=.slice pt nt ct) rfl
 have jl:=J.at 11 (v:=.slice pp np cp) rfl
 obtain⟨aa,dp,ff,fg,Ho,fh,fi,fj,fk,bv,L,M⟩:=hid12 a8 p dn et J a7 ew ey ev bp a6 br
 obtain⟨bz,HR,fl,bg,fm,fo,jm,jn,jo,jp,jq,jr⟩:=hid12 bs hR er en eo ep fa fb fc fe dl dm
 obtain⟨js,jt,fp,Hb,Ha,Ht,Hp,fq⟩:=hid8 ek em I hb ha ht hp bq
 clear a8 p dn et J a7 ew ey ev bp a6 br bs hR er en eo ep fa fb fc fe dl dm ek em I hb ha ht hp bq
 go_enter Tryz.func86,Tryz.ntmps86
 go_wp2_with fail
 generalize w.alloc (.cells #[.int .u8 (kd:Int),.int .u32 (tx:Int),.int .u64 (pv:Int),.int .u64 (nx:Int),.int .u32 (pg:Int),.int .u16 (sl:Int),.bool hd,.bool hs,.slice pb nb cb,.slice pa na ca,.slice pt nt ct,.slice pp np cp] 127)=W0 at *
 refine aa.out.mono ?_
 rintro e y ⟨rfl,ab⟩
 have fr:=Ho.out.step ab (fun h=>h)
 have ac:=fh.out.trans ab
 have fs:=fi.out.step ab (fun h=>h)
 have ft:=fj.out.step ab (fun h=>h)
 have U:=Own.born y τ1 tWb 5 (madeCells #[.int .u8 0] 6)
 rw[Qhm 6] at U
 have dq:=ac.alloc (.cells (madeCells #[.int .u8 0] 6) 5) tWb
 have fv:=(Step.refl y τ1 nil).alloc (.cells (madeCells #[.int .u8 0] 6) 5) tWb
 have fw:=fr.step_new (.cells (madeCells #[.int .u8 0] 6) 5) tWb
 have ad:NB w.heap.size (y.alloc (.cells (madeCells #[.int .u8 0] 6) 5)) (τ1.put y.heap.size tWb) tWb (.slice (some ⟨y.heap.size,0,none⟩) 6 6) (List.replicate 6 0):=by
  have:=NB.mk' (n0:=w.heap.size) (l:=List.replicate 6 0) (cap:=6) (ys:=[]) (by rw[List.append_nil];exact U) (Qex 6) (by simp) (by simp) (by unfold maxLen;omega) ac.size
  rw[Z7] at this
  exact this
 generalize fx:τ1.put y.heap.size tWb=dr at *
 have ds:=Own.born (y.alloc (.cells (madeCells #[.int .u8 0] 6) 5)) dr tWr 262 #[.slice (some ⟨y.heap.size,0,none⟩) 6 6]
 have ae:=dq.alloc (.cells #[.slice (some ⟨y.heap.size,0,none⟩) 6 6] 262) tWr
 have N:=fv.alloc (.cells #[.slice (some ⟨y.heap.size,0,none⟩) 6 6] 262) tWr
 have O:=fw.step_new (.cells #[.slice (some ⟨y.heap.size,0,none⟩) 6 6] 262) tWr
 have ag:=ad.step ((Step.refl _ dr nil).alloc (.cells #[.slice (some ⟨y.heap.size,0,none⟩) 6 6] 262) tWr) (fun h=>h)
 have dt:=dq.size
 rw[World.size_alloc] at ds dt ae O ag N
 generalize fy:dr.put (y.heap.size+1) tWr=jv at *
 have hW:WrAt w.heap.size ((y.alloc (.cells (madeCells #[.int .u8 0] 6) 5)).alloc (.cells #[.slice (some ⟨y.heap.size,0,none⟩) 6 6] 262)) jv (y.heap.size+1) (List.replicate 6 0):=⟨⟨_,ds,ag⟩,dt⟩
 have ga:=fs.step N (fun h=>h)
 have gb:=ft.step N (fun h=>h)
 have q0:=O.at 0 (v:=.int .u8 (kd:Int)) rfl
 have dv:=Qa4 ae hW (by simp) kd 1 (by omega) (by omega) (by omega)
 obtain⟨Z,dw⟩:∃Z,y.heap.size+1=Z:=⟨_,rfl⟩
 rw[dw] at dv
 obtain⟨gd,cc,gf,gg,gh⟩:=hid5 dv O ga gb dw
 clear dv O ga gb dw ds ae ag dt hW ad fw dq U fr ac ab aa Ho fh fy fx fv N fs ft fi fj c0 c1 c2 c3 c4 c5 c6 c7 c8 c9 jk jl
 go_wp2_with fail
 rw[gh.out]
 refine gd.out.mono ?_
 rintro e w4 ⟨rfl,τ4,gi,cd,bh⟩
 have dx:=cc.out.step bh (by decide)
 have gj:=gf.out.step bh (by decide)
 have gk:=gg.out.step bh (by decide)
 have q1:=dx.at 1 (v:=.int .u32 (tx:Int)) rfl
 have gl:=Qa4 cd gi (by simp[Qaa]) tx 4 (by omega) (by omega) (by omega)
 obtain⟨gm,gn,gq,gr⟩:=hid4 gl dx gj gk
 clear gl dx gj gk gi cd bh gd cc q0 gf gg
 go_wp2_with fail
 refine gm.out.mono ?_
 rintro e w5 ⟨rfl,τ5,gv,ce,bi⟩
 have dy:=gn.out.step bi (by decide)
 have gw:=gq.out.step bi (by decide)
 have gx:=gr.out.step bi (by decide)
 have q2:=dy.at 2 (v:=.int .u64 (pv:Int)) rfl
 have gy:=Qa4 ce gv (by simp[Qaa]) pv 8 (by omega) (by omega) (by omega)
 obtain⟨gz,h0,h6,h7⟩:=hid4 gy dy gw gx
 clear gy dy gw gx gv ce bi gm gn q1 gq gr
 go_wp2_with fail
 refine gz.out.mono ?_
 rintro e w6 ⟨rfl,τ6,h9,cf,bj⟩
 have dz:=h0.out.step bj (by decide)
 have hc:=h6.out.step bj (by decide)
 have he:=h7.out.step bj (by decide)
 have q3:=dz.at 3 (v:=.int .u64 (nx:Int)) rfl
 have hf:=Qa4 cf h9 (by simp[Qaa]) nx 8 (by omega) (by omega) (by omega)
 obtain⟨hg,hh,hi,hj⟩:=hid4 hf dz hc he
 clear hf dz hc he h9 cf bj gz h0 q2 h6 h7
 go_wp2_with fail
 refine hg.out.mono ?_
 rintro e w7 ⟨rfl,ah,hl,ch,bk⟩
 have i:=hh.out.step bk (by decide)
 have hm:=hi.out.step bk (by decide)
 have hq:=hj.out.step bk (by decide)
 have k0:=i.at 0 (v:=.int .u8 (kd:Int)) rfl
 have k1:=i.at 1 (v:=.int .u32 (tx:Int)) rfl
 have k2:=i.at 2 (v:=.int .u64 (pv:Int)) rfl
 have k3:=i.at 3 (v:=.int .u64 (nx:Int)) rfl
 have k4:=i.at 4 (v:=.int .u32 (pg:Int)) rfl
 have k5:=i.at 5 (v:=.int .u16 (sl:Int)) rfl
 have k6:=i.at 6 (v:=.bool hd) rfl
 have k7:=i.at 7 (v:=.bool hs) rfl
 have k8:=i.at 8 (v:=.slice pb nb cb) rfl
 have k9:=i.at 9 (v:=.slice pa na ca) rfl
 have e4:=i.at 10 (v:=.slice pt nt ct) rfl
 have e5:=i.at 11 (v:=.slice pp np cp) rfl
 obtain⟨hr,ci,hw,hx,hy⟩:=hid5 hl ch i hm hq
 clear hl ch i hm hq bk hg hh q3 hi hj
 go_wp2_with fail
 refine(ff.out _ ah).mono ?_
 rintro e w8 ⟨rfl,X⟩
 have j:=hw.out.step X (fun h=>h)
 have Y:=hr.out.step X (fun h=>h) (fun h=>h)
 have k:=ci.out.trans X
 have bl:=hx.out.step X (fun h=>h)
 have bm:=hy.out.step X (fun h=>h)
 clear k0 k1 k2 k3 k4 k5 k6 k7 k8 k9 e4 e5 X
 have k0:=j.at 0 (v:=.int .u8 (kd:Int)) rfl
 have k1:=j.at 1 (v:=.int .u32 (tx:Int)) rfl
 have k2:=j.at 2 (v:=.int .u64 (pv:Int)) rfl
 have k3:=j.at 3 (v:=.int .u64 (nx:Int)) rfl
 have k4:=j.at 4 (v:=.int .u32 (pg:Int)) rfl
 have k5:=j.at 5 (v:=.int .u16 (sl:Int)) rfl
 have k6:=j.at 6 (v:=.bool hd) rfl
 have k7:=j.at 7 (v:=.bool hs) rfl
 have k8:=j.at 8 (v:=.slice pb nb cb) rfl
 have k9:=j.at 9 (v:=.slice pa na ca) rfl
 have e4:=j.at 10 (v:=.slice pt nt ct) rfl
 have e5:=j.at 11 (v:=.slice pp np cp) rfl
 cases cg
 case' true =>
  have z:=fg.out _ _ _ _ _ _ k Y (by simp[Qaa]) bl bm
  have ai:=Z2 z
  clear z bl bm k Y
  go_wp2_with fail
  refine ai.out.mono ?_
  rintro e w9 ⟨rfl,aj,ak,R,e6⟩
  have al:WrAt w.heap.size w9 aj Z BW:=by rw[M.out,L.out,if_pos trivial];exact ak
  clear ak e6
  go_wp2_with fail
 case' false =>
  by_cases h8:kd=8
  case' pos =>
   have q1:((kd:Int)=8)↔True:=⟨fun _=>trivial,fun _=>by omega⟩
   have q2:(kd=8)↔True:=⟨fun _=>trivial,fun _=>h8⟩
   have q3:((kd:Int)==8)=true:=by rw[h8];rfl
   have z:=(bv.out h8) w w8 τ ah Z _ _ k Y (by simp[Qaa]) (fk.out w8 ah k)
   obtain⟨ai,H8⟩:=hid2 z h8
   clear z h8 bl bm k Y
   go_wp2_with fail
   refine ai.out.mono ?_
   rintro e w9 ⟨rfl,aj,ak,R,e6⟩
   have al:WrAt w.heap.size w9 aj Z BW:=by rw[M.out,L.out,if_neg (by simp),if_pos H8.out];exact ak
   clear ak e6
   go_wp2_with fail
  case' neg =>
   have h8i:¬(kd:Int)=8:=by omega
   have al:WrAt w.heap.size w8 ah Z BW:=by rw[M.out,L.out,if_neg (by simp),if_neg h8,List.append_nil];exact Y
   have R:=k
   clear Y k bl bm
   obtain⟨w9,rfl⟩:∃x,x=w8:=⟨_,rfl⟩
   obtain⟨aj,rfl⟩:∃x,x=ah:=⟨_,rfl⟩
   go_wp2_with fail
 all_goals (
  clear k0 k1 k2 k3 k4 k5 k6 k7 k8 k9 e4 e5 j)
 all_goals (
  clear fg fk bv L M ff hr ci hw hx hy dp fp jm jn jo jp Hb Ha Ht Hp js jt jq jr ez gh fq e1 e2 jg
  obtain⟨v9,hz,ia⟩:=al.is
  have hlow9:=al.low
  clear al
  have hn27:27<=BW.length:=by rw[bg.out];omega
  obtain⟨b,cap,ys,rfl,U,ib,ic,ie,hbl⟩:=ia.row (by omega)
  have am:=fm.out
  have F:=fo.out
  have q:=bz.out
  have ig:=HR.out
  have hnle:BW.length<=60000:=by rw[bg.out,<-F];exact jd
  have ii:BR.length=BW.length:=by rw[F,bg.out]
  have an:=fl.out
  clear bg fm fo bz HR fl ia F
  generalize hn:BW.length=n at *
  have B:=Qeu w9.drew aj tData n 2 (by omega) (by omega) (by omega)
  have cj:=U.drew
  have ao:=hz.drew
  have ck:=R.drew
  have c0:=ao.at 0 (v:=.slice (some ⟨b,0,none⟩) n cap) rfl
  have e3:=Qam n (by omega)
  have cm:2=Nat.min (leB n 2).length n:=by rw[Qaa];exact(Nat.min_eq_left (by omega)).symm
  have ij:0+2<=(u8s BW++ys).length:=by rw[Z6,Qac,hn];omega
  have ap:over (u8s BW++ys) 0 (u8s ((leB n 2).take 2))=u8s BL++ys:=by
   rw[Qgv _ _ _ _ (by rw[Qac,Qac,hn,List.length_take,Qaa];omega),Qby _ _ _ _ (Qaa n 2).symm,q]
  have ik:IsB BL:=by rw[q];exact Qaw an (Qan _ _) _
  obtain⟨C,cn,co,cq,cr,il,aq,Hn,HlenE,ke,d,e7⟩:=hid12 B cj ao ck cm ij ap hn q ig am ii
  obtain⟨im,HBWB⟩:=hid2 ik an
  clear B cj ao ck cm ij ap hn q ig am ii ik an U hz R
  have e8:w9.drew.cell? ⟨Z,0,none⟩=some (.slice (some ⟨b,0,none⟩) n cap):=c0
  clear c0
  refine Qaf (S:=fun w':World=>w'.cell? ⟨Z,0,none⟩=some (.slice (some ⟨b,0,none⟩) n cap)) (by kernel_rfl) ?_
  refine tk0 [0,1,2,3,4,5,6,7,8,9] ?_
  iterate 10
   refine tks (v:=?_) rfl (Or.inl ⟨by rfl,?_⟩) (by assumption) ?_
   rotate_left
   ·intro w e9;(try dsimp only at e9);go_simp
    all_goals with_reducible rfl
   try simp only[Act.put,lz1,lz2,lz3]
  refine tk9 ?_
  clear e8
  refine tk1 10 rfl fun K o=>?_
  go_simp
  go_at_call 154
  refine C.out.mono ?_
  rintro e wA ⟨uA,io,rfl,ea,iq,ir⟩
  have bn:=Step.of nil ir iq
  have ar:=co.out.step bn (fun h=>h)
  have cs:=cn.out.step bn (fun h=>h)
  have cv:=cq.out.trans bn
  have d0:=ar.at 0 (v:=.slice (some ⟨b,0,none⟩) n cap) rfl
  obtain⟨pA,cA,rfl,-,-⟩:=ea.any
  obtain⟨it,cw,cx,cy⟩:=hid4 ea ar cs cv
  clear ea ar cs cv iq ir bn co cn cq C
  refine o.out _ _ (fun _=>d0) ?_
  clear o K
  refine tk1 11 rfl fun K o=>?_
  refine Qbb cy.out cx.out (.inr hbl) it.out 2 cr.out il.out rfl _ _ rfl rfl rfl ?_
  intro wB av cz iw
  rw[aq.out] at av
  have aw:=cw.out.step iw (by decide)
  have e0:=aw.at 0 (v:=.slice (some ⟨b,0,none⟩) n cap) rfl
  obtain⟨ax,da,ix⟩:=hid3 av cz aw
  clear av cz aw iw
  refine o.out _ _ (fun _=>e0) ?_
  clear o K
  refine Qad (by kernel_rfl) ?_ _
  have ay:=NB.mk' (n0:=w.heap.size) ax.out im.out (by rw[d.out];exact ib) (by rw[d.out];exact ic) ie hbl
  rw[d.out] at ay
  have az:=(ay.bytes).sub 6 n (cap-6) (by omega) (by omega) (by omega) (by omega)
  rw[Nat.zero_add,List.take_of_length_le (by rw[List.length_drop,d.out];omega)] at az
  have D:(BL.drop 6).length=n-6:=by rw[List.length_drop,d.out]
  have b0:=ix.out.drew
  have f1:=b0.at 0 (v:=.slice (some ⟨b,0,none⟩) n cap) rfl
  have G:(wB.drew.alloc (.cells #[.slice (some ⟨b,6,none⟩) (n-6) (cap-6)] 37)).cell? ⟨wB.drew.heap.size,0,none⟩=some (.slice (some ⟨b,6,none⟩) (n-6) (cap-6)):=(Own.new wB.drew io tData 37 [.slice (some ⟨b,6,none⟩) (n-6) (cap-6)]).at 0 rfl
  rw[<-D] at G
  have E:=Qqe G (by have:=az.drew.alloc (.cells #[.slice (some ⟨b,6,none⟩) (n-6) (cap-6)] 37);rw[<-D] at this;exact this) (by rw[D];omega)
  rw[D] at E
  have kf:=Qh8 (BL.drop 6) (n-6)
  rw[<-D] at kf
  have eb:=ke.out
  rw[<-D] at E
  generalize crcTo (BL.drop 6) (BL.drop 6).length=s at *
  rw[D] at E
  have hsw:=Qam s (by omega)
  have b7:=b0.alloc (.cells #[.slice (some ⟨b,6,none⟩) (n-6) (cap-6)] 37)
  have g1:=b7.at 0 (v:=.slice (some ⟨b,0,none⟩) n cap) rfl
  have db:=ax.out.drew.alloc (.cells #[.slice (some ⟨b,6,none⟩) (n-6) (cap-6)] 37)
  have dc:=da.out.drew.alloc' (.cells #[.slice (some ⟨b,6,none⟩) (n-6) (cap-6)] 37)
  have B:=Qeu (wB.drew.alloc (.cells #[.slice (some ⟨b,6,none⟩) (n-6) (cap-6)] 37)) io tData s 4 (by omega) (by omega) (by omega)
  have dd:4=Nat.min (leB s 4).length (n-2):=by rw[Qaa];exact(Nat.min_eq_left (by omega)).symm
  have iy:2+4<=(u8s BL++ys).length:=by rw[Z6,Qac,d.out];omega
  have b8:over (u8s BL++ys) 2 (u8s ((leB s 4).take 4))=u8s BR++ys:=by
   rw[Qgv _ _ _ _ (by rw[Qac,Qac,d.out,List.length_take,Qaa];omega),Qby _ _ _ _ (Qaa s 4).symm,eb]
  have iz:IsB BR:=by rw[eb];exact Qaw im.out (Qan _ _) _
  have n1:¬2=cap:=by omega
  have n2:¬cap=2:=by omega
  have n3:¬6=cap:=by omega
  have n4:¬cap=6:=by omega
  have n5:2<=cap:=by omega
  have n6:6<=cap:=by omega
  have n7:(2:Int)<=(n:Int):=by omega
  have n8:(6:Int)<=(n:Int):=by omega
  have n9:(n:Int)<=(cap:Int):=by omega
  obtain⟨j0,de,df,dh,C,j1,kg,ec,kh⟩:=hid9 E b7 db dc B dd iy b8 iz
  clear E b7 db dc B dd iy b8 iz ay az D b0 G cr il aq cw cx cy it eb e0 d0 ax da
  have e8:wB.drew.cell? ⟨Z,0,none⟩=some (.slice (some ⟨b,0,none⟩) n cap):=f1
  clear f1
  go_wp2_with fail
  refine Qaf (S:=fun w':World=>w'.cell? ⟨Z,0,none⟩=some (.slice (some ⟨b,0,none⟩) n cap)) (by kernel_rfl) ?_
  refine tk0 [0,1,2,3,4,5,6,7,8,9] ?_
  iterate 10
   refine tks (v:=?_) rfl (Or.inl ⟨by rfl,?_⟩) (by assumption) ?_
   rotate_left
   ·intro w e9;(try dsimp only at e9);go_simp
    all_goals with_reducible rfl
   try simp only[Act.put,lz1,lz2,lz3]
  refine tk9 ?_
  clear e8
  refine tk1 10 rfl fun K o=>?_
  go_simp
  refine o.out _ _ (fun _=>g1) ?_
  clear o K
  refine tk1 11 rfl fun K o=>?_
  go_simp
  go_at_call 155
  refine j0.out.mono ?_
  rintro e wE ⟨rfl,rfl⟩
  refine o.out _ _ (fun _=>g1) ?_
  clear o K
  refine tk1 12 rfl fun K o=>?_
  go_simp
  refine o.out _ _ (fun _=>g1) ?_
  clear o K
  refine tk1 13 rfl fun K o=>?_
  go_simp
  go_at_call 154
  refine C.out.mono ?_
  rintro e wF ⟨uF,ki,rfl,ed,j2,j3⟩
  have bo:=Step.of nil j3 j2
  have b9:=de.out.step bo (fun h=>h)
  have di:=df.out.step bo (fun h=>h)
  have dj:=dh.out.trans bo
  have m0:=b9.at 0 (v:=.slice (some ⟨b,0,none⟩) n cap) rfl
  obtain⟨pF,cF,rfl,-,-⟩:=ed.any
  obtain⟨kj,j4,j5,j6⟩:=hid4 ed b9 di dj
  clear ed b9 di dj j2 j3 bo de df dh C
  refine o.out _ _ (fun _=>m0) ?_
  clear o K
  refine tk1 14 rfl fun K o=>?_
  refine Qbb j6.out j5.out (.inr hbl) kj.out 4 j1.out kg.out rfl _ _ rfl rfl rfl ?_
  intro wG ba dk j7
  rw[ec.out] at ba
  have bb:=j4.out.step j7 (by decide)
  have o0:=bb.at 0 (v:=.slice (some ⟨b,0,none⟩) n cap) rfl
  obtain⟨j8,j9,HwoG⟩:=hid3 ba dk bb
  clear ba dk bb j7
  refine o.out _ _ (fun _=>o0) ?_
  clear o K
  refine Qad (by kernel_rfl) ?_ _
  go_wp2_with fail
  go_ret2
  have ad:=NB.mk' (n0:=w.heap.size) j8.out kh.out (by rw[e7.out];exact ib) (by rw[e7.out];exact ic) ie hbl
  rw[e7.out] at ad
  exact⟨_,ki,rfl,ad,j9.out⟩)
theorem Qjx (x k:Nat) (l:List Int) (b:x<2 ^ (8*k)):pNum k (leB x k++l)=some (x,l):=by
 have hl:=Qaa x k
 unfold pNum
 rw[if_neg (by rw[Z6,hl];omega),List.take_left' hl,List.drop_left' hl,Qdl x k k (Z0 _),Nat.mod_eq_of_lt b]
theorem Qnx (x:Nat) (l:List Int) (h:x<256):pNum 1 (leB x 1++l)=some (x,l):=Qjx x 1 l h
theorem Qxf (x:Nat) (l:List Int) (h:x<65536):pNum 2 (leB x 2++l)=some (x,l):=Qjx x 2 l h
theorem Qnw (x:Nat) (l:List Int) (h:x<4294967296):pNum 4 (leB x 4++l)=some (x,l):=Qjx x 4 l (by rw[show (2:Nat) ^ (8*4)=4294967296 from by decide];exact h)
theorem Qsb (x:Nat) (l:List Int) (h:x<18446744073709551616):pNum 8 (leB x 8++l)=some (x,l):=Qjx x 8 l (by rw[show (2:Nat) ^ (8*8)=18446744073709551616 from by decide];exact h)
theorem Qmv (a l:List Int):pTake a.length (a++l)=some (a,l):=by
 unfold pTake
 rw[if_neg (by rw[Z6];omega),List.take_left' rfl,List.drop_left' rfl]
theorem Qmw (b l:List Int) (h:b.length<=255):Qi8 (leB b.length 1++(b++l))=some (b,l):=by
 unfold Qi8
 rw[Qnx _ _ (by omega)]
 exact Qmv b l
theorem Qqy (c:ChangeP) (l:List Int) (d:c.page<4294967296) (e:c.slot<65536) (h1:c.before.length<=255) (h2:c.after.length<=255):Qd3 (encC c++l)=some (c,l):=by
 obtain⟨pg,sl,hd,b,be,af⟩:=c
 dsimp only at d e h1 h2
 unfold Qd3 encC
 simp only[X0]
 rw[Qnw _ _ d]
 simp only[Z8]
 rw[Qxf _ _ e]
 simp only[Z8]
 rw[Qnx _ _ (by have:=Qoc hd b;omega)]
 simp only[Z8]
 rw[if_neg (by have:=Qoc hd b;omega),Qmw _ _ h1]
 simp only[Z8]
 rw[Qmw _ _ h2]
 cases hd <;> cases b <;> simp[flagN]
theorem Qh3(h:mayB r=true) (i:r.kind≠8):r.txns=[]/\r.pages=[]/\(chgB r.kind=false->r.change=noChange)/\r.change.before.length<=64/\r.change.after.length<=64:=by
 obtain⟨k,tx,pv,nx,⟨pg,sl,hd,hs,be,j⟩,ts,ps⟩:=r
 unfold mayB mayRB mayCB at h
 simp only[Bool.and_eq_true,Bool.not_eq_true',Bool.or_eq_false_iff,decide_eq_false_iff_not,Bool.and_eq_false_iff,Bool.not_eq_false',Bool.or_eq_true,decide_eq_true_eq] at h
 dsimp only at h i ⊢
 obtain⟨⟨_,h2⟩,⟨⟨⟨⟨h3,h4⟩,l⟩,m⟩,e⟩,_⟩:=h
 have hl:ts.length+ps.length=0:=by rcases h2 with h2|h2 <;> omega
 refine⟨List.eq_nil_of_length_eq_zero (by omega),List.eq_nil_of_length_eq_zero (by omega),fun o=>?_,by omega,by omega⟩
 rcases e with e|⟨⟨⟨a,b⟩,c⟩,d⟩
 ·rw[o] at e;cases e
 ·subst a b c d
  simp only[Bool.false_eq_true,false_or] at l m
  rw[List.eq_nil_of_length_eq_zero (by omega:be.length=0),List.eq_nil_of_length_eq_zero (by omega:j.length=0)]
  rfl
def Qbv (r:RecP):List Int:=leB r.kind 1++leB r.txn 4++leB r.prev 8++leB r.next 8++encBody r
theorem Qz2 (r:RecP):encR r=leB (27+(encBody r).length) 2++(leB (crcTo (Qbv r) (Qbv r).length) 4++Qbv r):=by
 have h0:encRaw r=List.replicate 6 0++Qbv r:=by simp only[encRaw,Qbv,X0]
 have h1:encLen r=leB (27+(encBody r).length) 2++(List.replicate 4 0++Qbv r):=by
  unfold encLen
  rw[Qco,h0]
  unfold layN
  rw[Qaa]
  rfl
 have h2:(encLen r).drop 6=Qbv r:=by
  rw[h1,<-X0,List.drop_left' (by rw[Z6,Qaa];rfl)]
 unfold encR
 rw[h2,h1]
 unfold layN
 have hl:=Qaa (27+(encBody r).length) 2
 rw[Qaa,List.take_left' hl,X0]
 congr 2
structure RecP.ok (r:RecP):Prop where
 may:mayB r=true
 k8:r.kind≠8
 txn:r.txn<4294967296
 prev:r.prev<18446744073709551616
 next:r.next<18446744073709551616
 page:r.change.page<4294967296
 slot:r.change.slot<65536
theorem RecP.ok.kind(h:r.ok):r.kind<256:=by
 have:=h.may
 unfold mayB mayRB at this
 simp only[Bool.and_eq_true,Bool.not_eq_true',Bool.or_eq_false_iff,decide_eq_false_iff_not] at this
 omega
theorem RecP.ok.body(h:r.ok):(encBody r).length<=137:=by
 obtain⟨_,_,_,h1,h2⟩:=Qh3 h.may h.k8
 unfold encBody
 split
 ·rw[Qhi];omega
 ·rw[if_neg h.k8];simp
theorem Qyf(h:r.ok):pBody r.kind (encBody r)=some ((r.change,[],[]),[]):=by
 obtain⟨ht,hp,d,hb,ha⟩:=Qh3 h.may h.k8
 unfold pBody encBody
 by_cases b:chgB r.kind=true
 ·rw[if_pos b,if_pos b]
  have:=Qqy r.change [] h.page h.slot (by omega) (by omega)
  rw[List.append_nil] at this
  rw[this,Z8]
 ·rw[if_neg b,if_neg b,if_neg h.k8,if_neg h.k8,d (by simpa using b)]
theorem bindS {α β:Type} {o:Option α} {x:α}(h:o=some x) (f:α->Option β):o.bind f=f x:=by rw[h];rfl
theorem Qy7 {l e T i j m:List Int} {a:List Int} {c k t p n:Nat} {ch:ChangeP}(h2:pTake 2 l=some (a,e)) (q:pNum 4 e=some (c,T)) (d:c=crcTo T T.length) (s:pNum 1 T=some (k,i)) (x:pNum 4 i=some (t,j)) (y:pNum 8 j=some (p,m)) {o:List Int}(z:pNum 8 m=some (n,o)) (B:pBody k o=some ((ch,[],[]),[])) (C:mayB ⟨k,t,p,n,ch,[],[]⟩=true):pRead l=some ⟨k,t,p,n,ch,[],[]⟩:=by
 unfold pRead
 refine(bindS h2 _).trans ((bindS q _).trans ?_)
 refine(if_neg (fun h=>h d)).trans ?_
 refine(bindS s _).trans ((bindS x _).trans ((bindS y _).trans ((bindS z _).trans ((bindS B _).trans ?_))))
 refine if_neg ?_
 rintro(b|b)
 ·exact absurd b (Nat.lt_irrefl 0)
 ·rw[C] at b;cases b
theorem Qw1(h:r.ok) (c:Nat) (d:c=crcTo (Qbv r) (Qbv r).length) (l:c<4294967296) (n:Nat):pRead (leB n 2++(leB c 4++Qbv r))=some r:=by
 obtain⟨e,i,-⟩:=Qh3 h.may h.k8
 have b:=Qyf h
 have j:(⟨r.kind,r.txn,r.prev,r.next,r.change,[],[]⟩:RecP)=r:=by
  obtain⟨a1,a2,a3,a4,a5,a6,a7⟩:=r
  simp only at e i
  subst e i
  rfl
 have h2:=Qmv (leB n 2) (leB c 4++Qbv r)
 rw[Qaa] at h2
 have m:=Qnw c (Qbv r) l
 have o:pNum 1 (Qbv r)=some (r.kind,leB r.txn 4++(leB r.prev 8++(leB r.next 8++encBody r))):=by
  have:=Qnx r.kind (leB r.txn 4++(leB r.prev 8++(leB r.next 8++encBody r))) h.kind
  unfold Qbv
  simp only[X0]
  exact this
 have k:=h.may
 rw[<-j] at k
 exact(Qy7 h2 m d o (Qnw r.txn _ h.txn) (Qsb r.prev _ h.prev) (Qsb r.next _ h.next) b k).trans (by rw[j])
theorem Qtz(h:r.ok) (l:List Int):Qd1 (encR r++l)=some (r,(encR r).length):=by
 have d:=Qbh r
 have hbl:=h.body
 have e:=Qz2 r
 have i:=Qh8 (Qbv r) (Qbv r).length
 have b:=Qw1 h (crcTo (Qbv r) (Qbv r).length) rfl i (27+(encBody r).length)
 rw[<-e] at b
 have hn:leN ((encR r++l).take 2) 2=(encR r).length:=by
  rw[d,e,X0,List.take_left' (Qaa _ _),Qdl _ 2 2 (Z0 _),Nat.mod_eq_of_lt (by omega)]
 have h1:¬(encR r++l).length<27:=by rw[Z6];omega
 have h2:(encR r).length<=(encR r++l).length:=by rw[Z6];omega
 have j:(encR r++l).take (encR r).length=encR r:=List.take_left' rfl
 have h4:(encR r).length≠0:=by omega
 clear e
 unfold Qd1
 generalize encR r++l=Z at *
 generalize encR r=E at *
 generalize (leN (Z.take 2) 2)=m at *
 subst hn
 rw[if_neg h1,if_neg (by omega),j,b,Option.map_some]
theorem Qg1 {bl bd:Nat} {L:LogM}(hl:LogAt w τ bl bd L) (hns:L.starts.length<=100000) {v:Value}{r:RecP}(hv:RecI w τ v r) (y:mayB r=true) (ab:(encR r).length<=60000) (z:r.kind=8->TabC r) (k:Nat) (hsp:k<18446744073709551616) (hcap:¬L.stream.length+(encR r).length+k<=L.strips*127) :
 Calls Tryz.prog 80 #[.pointer (some ⟨bl,0,none⟩),v,.int .u64 (k:Int)] w fun e w'=>e = .returned (.tuple #[.int .u64 0,.int .u16 80])/\∃ad,Step w τ w' ad nil:=by
 have hbase:=hl.ok.base
 have hstr:=hl.ok.strips
 have M:=hl.ok
 have hB:=hl.isB
 have N:=(by obtain⟨_,_,_,_,_,_,_,_,_,_,_,_,h1,h2,_⟩:=hv.is;exact Qsm h1.isB h2.isB:IsB (encR r))
 have hr27:0<(encR r).length:=by rw[Qbh r];omega
 obtain⟨qb,kb,qa,ka,qt,kt,qp,kp,gt,gp,n0,O,-⟩:=hv.is
 have j:=fun (W:World) (T:Tags) (m:Step w τ W T nil)=>Qiq (hv.step m) y ab z
 rw[O] at j ⊢
 clear O hv y z
 generalize U:(encR r).length=rl at *
 generalize encR r=rb at *
 obtain⟨kd,tx,pv,nx,⟨pg,sl,hd,hs,be,af⟩,ts,ps⟩:=r
 dsimp only at *
 generalize be.length=lb at *
 generalize af.length=la at *
 generalize ts.length=lt at *
 generalize ps.length=lp at *
 have d:=(Step.refl w τ nil).alloc' (.cells #[.int .u8 (kd:Int),.int .u32 (tx:Int),.int .u64 (pv:Int),.int .u64 (nx:Int),.int .u32 (pg:Int),.int .u16 (sl:Int),.bool hd,.bool hs,.slice qb lb kb,.slice qa la ka,.slice qt lt kt,.slice qp lp kp] 127)
 have X:=hl.step d (fun _ _ h=>h)
 have j:=j _ _ d
 obtain⟨Y,G,ae,HB,Z,HrB,ag⟩:=hid7 j d X hB U N M
 clear j d X hB U N M hl
 go_enter Tryz.func80,Tryz.ntmps80
 go_wp2_with fail
 generalize hW0:w.alloc (.cells #[.int .u8 (kd:Int),.int .u32 (tx:Int),.int .u64 (pv:Int),.int .u64 (nx:Int),.int .u32 (pg:Int),.int .u16 (sl:Int),.bool hd,.bool hs,.slice qb lb kb,.slice qa la ka,.slice qt lt kt,.slice qp lp kp] 127)=W0 at *
 refine Y.out.mono ?_
 rintro e w1 ⟨u1,τ1,rfl,o,I⟩
 have p:=ae.out.step I (fun _ _ h=>h)
 have B:=G.out.trans I
 obtain⟨b1,cap1,ys1,rfl,-,-,-,-,-⟩:=o.row (by rw[Z.out];omega)
 rw[Z.out] at o ⊢
 have C:=o.bytes
 have q:=Qnj (p.step (Step.refl w1 τ1 nil).drew (fun _ _ h=>h))
 obtain⟨vs,vt,J,s,x⟩:=p.is
 obtain⟨ps,cs,rfl⟩:=s.len
 obtain⟨pt,ct,rfl⟩:=x.len
 have c7:=J.drew.at 7 (v:=.slice ps L.stream.length cs) rfl
 have D:=Ql3 (p.step (Step.refl w1 τ1 nil).drew (fun _ _ h=>h))
 have a1:L.base+L.stream.length=L.base+L.stream.length:=rfl
 generalize hen:L.base+L.stream.length=en at *
 generalize hR:L.strips*127=R at *
 have hR3:R<=300000:=by omega
 have hRw:=Qam R (by omega)
 have hRn:¬(R:Int)<0:=by omega
 have hokl:=ag.out.stream
 obtain⟨E,Hby1,l,Ho1,Hs1s,Hs1t,Hend,HR,Hl1⟩:=hid9 B C q J s x D hR p
 clear B C q J s x D hR p a1 I o
 generalize hsl:L.stream.length=sn at *
 go_wp2_with fail
 refine Qaf (S:=fun w':World=>w'.cell? ⟨bl,7,none⟩=some (.slice ps sn cs)) (by kernel_rfl) ?_
 have hSS:w1.drew.cell? ⟨bl,7,none⟩=some (.slice ps sn cs):=c7
 have hdR':IntKind.i64.wrap (R:Int)=(R:Int):=Qbr R (by omega)
 by_cases hsR:R<k
 ·have ai:decide ((R:Int)<(k:Int))=true:=by simp;omega
  have a6:decide (R<k)=true:=by simp;omega
  refine tk0 [0,1] ?_
  iterate 2
   refine tks (v:=?_) rfl (Or.inl ⟨by rfl,?_⟩) (by assumption) ?_
   rotate_left
   ·intro w b;(try dsimp only at b);go_simp
    all_goals with_reducible rfl
   try simp only[Act.put,lz1,lz2,lz3]
  refine tk9 ?_
  try simp only[lz4,lz5,lz6,lz1,lz2,lz3]
  refine tk1 2 rfl fun K F=>?_
  go_simp
  go_at_call 89
  refine l.out.mono ?_
  rintro e w2 ⟨rfl,rfl⟩
  refine F.out _ _ (fun _=>c7) ?_
  clear F K
  refine tk0 [3,4,5] ?_
  iterate 3
   refine tks (v:=?_) rfl (Or.inl ⟨by rfl,?_⟩) (by assumption) ?_
   rotate_left
   ·intro w b;(try dsimp only at b);go_simp
    all_goals with_reducible rfl
   try simp only[Act.put,lz1,lz2,lz3]
  refine tk9 ?_
  try simp only[lz4,lz5,lz6,lz1,lz2,lz3]
  refine tk0 [6,7,8,9] ?_
  iterate 4
   refine tks (v:=undef) rfl (Or.inr ⟨by rfl,rfl⟩) (by assumption) ?_
   try simp only[Act.put,lz1,lz2,lz3]
  refine tk9 ?_
  try simp only[lz4,lz5,lz6,lz1,lz2,lz3]
  refine tk0 [10,11,12,13] ?_
  iterate 4
   refine tks (v:=undef) rfl (Or.inr ⟨by rfl,rfl⟩) (by assumption) ?_
   try simp only[Act.put,lz1,lz2,lz3]
  refine tk9 ?_
  try simp only[lz4,lz5,lz6,lz1,lz2,lz3]
  refine tk0 [14,15,16,17] ?_
  iterate 4
   refine tks (v:=undef) rfl (Or.inr ⟨by rfl,rfl⟩) (by assumption) ?_
   try simp only[Act.put,lz1,lz2,lz3]
  refine tk9 ?_
  try simp only[lz4,lz5,lz6,lz1,lz2,lz3]
  refine tk0 [18,19] ?_
  iterate 2
   refine tks (v:=undef) rfl (Or.inr ⟨by rfl,rfl⟩) (by assumption) ?_
   try simp only[Act.put,lz1,lz2,lz3]
  refine tk9 ?_
  try simp only[lz4,lz5,lz6,lz1,lz2,lz3]
  refine tk (i:=20) (v:=?_) rfl (Or.inl ⟨by rfl,?_⟩) (by assumption) ?_
  rotate_left
  ·intro w b;(try dsimp only at b);go_simp
   all_goals with_reducible rfl
  try simp only[Act.put,lz1,lz2,lz3]
  refine Qad (by kernel_rfl) ?_ _
  go_wp2_with fail
  go_ret2
  exact⟨rfl,τ1,E.out.drew⟩
 ·have ai:decide ((R:Int)<(k:Int))=false:=by simp;omega
  have a6:decide (R<k)=false:=by simp;omega
  have hd0:IntKind.i64.wrap (k:Int)=(k:Int):=Qbr k (by omega)
  have hdR:IntKind.i64.wrap ((R:Int)-(k:Int))=(R:Int)-(k:Int):=Qd6 (by omega) (by omega)
  have hd2:decide ((R:Int)-(k:Int)<(sn:Int)+(rl:Int))=true:=by simp;omega
  have hd2n:(R:Int)-(k:Int)<(sn:Int)+(rl:Int):=by omega
  have hd3:IntKind.i64.wrap ((sn:Int)+(rl:Int))=(sn:Int)+(rl:Int):=Qd6 (by omega) (by omega)
  refine tk0 [0,1] ?_
  iterate 2
   refine tks (v:=?_) rfl (Or.inl ⟨by rfl,?_⟩) (by assumption) ?_
   rotate_left
   ·intro w b;(try dsimp only at b);go_simp
    all_goals with_reducible rfl
   try simp only[Act.put,lz1,lz2,lz3]
  refine tk9 ?_
  try simp only[lz4,lz5,lz6,lz1,lz2,lz3]
  refine tk1 2 rfl fun K F=>?_
  go_simp
  go_at_call 89
  refine l.out.mono ?_
  rintro e w2 ⟨rfl,rfl⟩
  refine F.out _ _ (fun _=>c7) ?_
  clear F K
  refine tk0 [3,4,5] ?_
  iterate 3
   refine tks (v:=?_) rfl (Or.inl ⟨by rfl,?_⟩) (by assumption) ?_
   rotate_left
   ·intro w b;(try dsimp only at b);go_simp
    all_goals with_reducible rfl
   try simp only[Act.put,lz1,lz2,lz3]
  refine tk9 ?_
  try simp only[lz4,lz5,lz6,lz1,lz2,lz3]
  refine tk0 [6,7,8,9] ?_
  iterate 4
   refine tks (v:=?_) rfl (Or.inl ⟨by rfl,?_⟩) (by assumption) ?_
   rotate_left
   ·intro w b;(try dsimp only at b);go_simp
    all_goals with_reducible rfl
   try simp only[Act.put,lz1,lz2,lz3]
  refine tk9 ?_
  try simp only[lz4,lz5,lz6,lz1,lz2,lz3]
  refine tk0 [10,11,12,13] ?_
  iterate 4
   refine tks (v:=?_) rfl (Or.inl ⟨by rfl,?_⟩) (by assumption) ?_
   rotate_left
   ·intro w b;(try dsimp only at b);go_simp
    all_goals with_reducible rfl
   try simp only[Act.put,lz1,lz2,lz3]
  refine tk9 ?_
  try simp only[lz4,lz5,lz6,lz1,lz2,lz3]
  refine tk0 [14,16,17] ?_
  iterate 3
   refine tks (v:=?_) rfl (Or.inl ⟨by rfl,?_⟩) (by assumption) ?_
   rotate_left
   ·intro w b;(try dsimp only at b);go_simp
    all_goals with_reducible rfl
   try simp only[Act.put,lz1,lz2,lz3]
  refine tk9 ?_
  try simp only[lz4,lz5,lz6,lz1,lz2,lz3]
  refine tk1 15 rfl fun K F=>?_
  go_simp
  go_at_call 89
  refine l.out.mono ?_
  rintro e w2 ⟨rfl,rfl⟩
  refine F.out _ _ (fun _=>c7) ?_
  clear F K
  refine tk0 [18,19,20] ?_
  iterate 3
   refine tks (v:=?_) rfl (Or.inl ⟨by rfl,?_⟩) (by assumption) ?_
   rotate_left
   ·intro w b;(try dsimp only at b);go_simp
    all_goals with_reducible rfl
   try simp only[Act.put,lz1,lz2,lz3]
  refine tk9 ?_
  refine Qad (by kernel_rfl) ?_ _
  go_wp2_with fail
  go_ret2
  exact⟨rfl,τ1,E.out.drew⟩
theorem Jh7 {α:Type} {enc:α->List Value} {k:Nat}(l:List α) (hk:∀x∈l,(enc x).length=k) (i:Nat) (x:α) (b:l[i]?=some x) (j:Nat) (hj:j<k):(l.flatMap enc)[i*k+j]?=(enc x)[j]?:=by
 induction l generalizing i with
 | nil=>simp at b
 | cons y l ih =>
   rw[List.flatMap_cons]
   have hl:(enc y).length=k:=hk y List.mem_cons_self
   cases i with
   | zero =>
     have:y=x:=by simpa using b
     subst this
     rw[Y5 (by rw[hl];omega),Nat.zero_mul,Nat.zero_add]
   | succ i =>
     have e:(i+1)*k=i*k+k:=Nat.succ_mul i k
     rw[Y6 (by rw[hl,e];omega),hl,show (i+1)*k+j-k=i*k+j by rw[e];omega]
     exact ih (fun z d=>hk z (Y2 _ d)) i (by simpa using b)
theorem NS.at {α:Type} {e:TypeId} {k:Nat} {enc:α->List Value} {n0:Nat} {g:Tag} {v:Value} {l:List α}(h:NS e k enc n0 w τ g v l) (hk:∀x∈l,(enc x).length=k) (h0:0<k) :
 ∃p c,v = .slice p l.length c/\l.length<=c/\c<=maxLen/\∀(i:Nat) (x:α),l[i]?=some x->∃b,p=some ⟨b,0,none⟩/\τ b=g/\∀j,j<k->∀u,(enc x)[j]?=some u->w.cell? ⟨b,i*k+j,none⟩=some u:=by
 obtain⟨h1,⟨rfl,h2⟩|⟨b,cap,ys,rfl,o,h3,q,s⟩⟩:=h.buf
 ·refine⟨none,0,by rw[h2],by rw[h2];exact Z9 _,Z9 _,fun i x d=>?_⟩
  have:=(Z4 d).1
  omega
 ·refine⟨_,cap,rfl,q,s,fun i x d=>⟨b,rfl,o.tag,fun j y u hu=>o.at _ ?_⟩⟩
  have hi:=(Z4 d).1
  have m:i*k+j<(l.flatMap enc).length:=by
   rw[h1]
   have:(i+1)*k<=l.length*k:=Y7 k hi
   rw[Nat.succ_mul] at this
   omega
  rw[Y5 m,Jh7 l hk i x d j y]
  exact hu
theorem Jhf {α β:Type}(f:α->List β) (l:List α) (i:Nat) (x:α) (b:l[i]?=some x):(l.take (i+1)).flatMap f=(l.take i).flatMap f++f x:=by
 rw[List.take_add_one,b]
 simp[List.flatMap_append]
theorem Jg5 {α β:Type}(f:α->List β) (k:Nat) (hk:∀x,(f x).length=k) (l:List α):(l.flatMap f).length=l.length*k:=by
 induction l with
 | nil=>simp
 | cons x l ih=>rw[List.flatMap_cons,Z6,hk,ih,Y4,Nat.succ_mul];omega
theorem Jhn (x:TxnP):(encTx x).length=21:=by simp only[encTx,Z6,Qaa]
theorem Jho (x:Nat×Nat):(encPx x).length=12:=by simp only[encPx,Z6,Qaa]
structure TabOk (r:RecP):Prop where
 nt:r.txns.length<=64
 np:r.pages.length<=64
 tx:∀x∈r.txns,x.txn<4294967296/\x.last<18446744073709551616/\x.undo<18446744073709551616/\x.state<256
 px:∀x∈r.pages,x.1<4294967296/\x.2<18446744073709551616
theorem Jhd(hr:TabOk r):TabC r:=by
 intro w0 w cs τ bw l v p h hsz cv
 obtain⟨pb,cb,pa,ca,pt,ct,pp,cp,gt,gp,n0,rfl,-,-,ht,hp,cw,cx⟩:=cv.is
 obtain⟨ts,cy⟩:∃x,r.txns=x:=⟨_,rfl⟩
 obtain⟨ps,cz⟩:∃x,r.pages=x:=⟨_,rfl⟩
 have da:=hr.nt
 have db:=hr.np
 have c4:=hr.tx
 have c5:=hr.px
 rw[cy] at ht da c4 ⊢
 rw[cz] at hp db c5 ⊢
 obtain⟨pt',ct',ef,eg,-,dc⟩:=ht.at (fun x _=>rfl) (by decide)
 cases ef
 obtain⟨pp',cp',eh,ei,-,dd⟩:=hp.at (fun x _=>rfl) (by decide)
 cases eh
 have ho:=Own.born w τ tRec 127 #[.int .u8 (r.kind:Int),.int .u32 (r.txn:Int),.int .u64 (r.prev:Int),.int .u64 (r.next:Int),.int .u32 (r.change.page:Int),.int .u16 (r.change.slot:Int),.bool r.change.had,.bool r.change.has,.slice pb r.change.before.length cb,.slice pa r.change.after.length ca,.slice pt ts.length ct,.slice pp ps.length cp]
 have m:=(Step.refl w τ nil).alloc (.cells #[.int .u8 (r.kind:Int),.int .u32 (r.txn:Int),.int .u64 (r.prev:Int),.int .u64 (r.next:Int),.int .u32 (r.change.page:Int),.int .u16 (r.change.slot:Int),.bool r.change.had,.bool r.change.has,.slice pb r.change.before.length cb,.slice pa r.change.after.length ca,.slice pt ts.length ct,.slice pp ps.length cp] 127) tRec
 generalize τ.put w.heap.size tRec=τ1 at *
 obtain⟨bx,c7⟩:∃bx,w.heap.size=bx:=⟨_,rfl⟩
 obtain⟨w1,ae⟩:∃W,w.alloc (.cells #[.int .u8 (r.kind:Int),.int .u32 (r.txn:Int),.int .u64 (r.prev:Int),.int .u64 (r.next:Int),.int .u32 (r.change.page:Int),.int .u16 (r.change.slot:Int),.bool r.change.had,.bool r.change.has,.slice pb r.change.before.length cb,.slice pa r.change.after.length ca,.slice pt ts.length ct,.slice pp ps.length cp] 127)=W:=⟨_,rfl⟩
 rw[c7,ae] at ho
 rw[ae] at m
 have af:=p.trans m
 have h1:=h.step m (fun h=>h) (fun h=>h)
 have d:=m.mono (T:=WrT) (fun _ h=>h.elim)
 have de:∀i,((ts.take i).flatMap encTx).length<=64*21:=fun i=>by
  rw[Jg5 encTx 21 Jhn,List.length_take];exact Y7 _ (by omega)
 have df:∀i,((ps.take i).flatMap encPx).length<=64*12:=fun i=>by
  rw[Jg5 encPx 12 Jho,List.length_take];exact Y7 _ (by omega)
 have c8:ts.take ts.length=ts:=List.take_length
 have c9:ps.take ps.length=ps:=List.take_length
 obtain⟨nt,aa⟩:∃n,ts.length=n:=⟨_,rfl⟩
 obtain⟨np,ab⟩:∃n,ps.length=n:=⟨_,rfl⟩
 rw[aa] at ho da c8 eg ae ⊢
 rw[ab] at ho db c9 ei ae ⊢
 have u1:=Qam nt (by omega)
 have u2:=Qam np (by omega)
 have G:=Qa4 af h1 (by omega) nt 1 (by omega) (by omega) (by omega)
 obtain⟨ej,ek⟩:=hid2 ae c7
 have hE:encT ts ps=leB nt 1++ts.flatMap encTx++leB np 1++ps.flatMap encPx:=by unfold encT;rw[aa,ab]
 have em:=ho.at 10 (v:=.slice pt nt ct) rfl
 have en:=ho.at 11 (v:=.slice pp np cp) rfl
 obtain⟨RC,ap⟩:∃RC:List Value,[.int .u8 (r.kind:Int),.int .u32 (r.txn:Int),.int .u64 (r.prev:Int),.int .u64 (r.next:Int),.int .u32 (r.change.page:Int),.int .u16 (r.change.slot:Int),.bool r.change.had,.bool r.change.has,.slice pb r.change.before.length cb,.slice pa r.change.after.length ca,.slice pt nt ct,.slice pp np cp]=RC:=⟨_,rfl⟩
 have dh:RC[10]?=some (.slice pt nt ct):=by rw[<-ap];rfl
 have di:RC[11]?=some (.slice pp np cp):=by rw[<-ap];rfl
 have dj:Own w1 τ1 bx tRec 127 RC:=by rw[<-ap];exact ho
 obtain⟨dk,dl,a6,I,eo,ep,er,et,ev,ew,dm,ey⟩:=hid12 dj af d G dc dd c4 c5 cw cx de df
 obtain⟨dn,ez,HE,dp,dq,cc,ag⟩:=hid7 c8 c9 hE aa ab dh di
 clear dj af d G dc dd c4 c5 cw cx de df c8 c9 hE aa ab dh di ae c7 p h cv ht hp m h1 cy cz hr ho ap
 go_enter Tryz.func153,Tryz.ntmps153
 go_wp2_with fail
 rw[ej.out]
 refine I.out.mono ?_
 rintro e w2 ⟨rfl,fa,ax,ay,cd⟩
 have az:=a6.out.trans (cd.mono (T:=WrT) (fun _ h=>h))
 have ce:=dk.out.step cd (by simp[tRec,tWr,tWb])
 have d10:=ce.at 10 cc.out
 have b4:=ek.out
 rw[b4]
 obtain⟨b5,b6,b7,dr⟩:=hid4 ax ay az ce
 clear ax ay az ce em en b4 dk cd I dl a6 u1
 go_wp2_with fail
 go_loopw [17] (fun v wr=>∃(i:Nat) (k:Tags),i<=nt/\v = .int .i64 (i:Int)/\WrAt w0.heap.size wr k bw (l++leB nt 1++(ts.take i).flatMap encTx)/\Own wr k bx tRec 127 RC/\Step w0 cs wr k nil/\Step w τ wr k WrT) (fun v _=>nt-(intOf v).toNat)
 case atStart=>exact⟨0,fa,Z9 _,rfl,by rw[List.take_zero];simpa using b5.out,dr.out,b6.out,b7.out⟩
 case round =>
  clear b5 dr b6 b7 d10
  obtain⟨i,k,hi,rfl,q,ah,p,d⟩:=hrel
  have ac:=dm.out i
  by_cases cf:i<nt
  ·obtain⟨x,hx⟩:∃x,ts[i]?=some x:=⟨_,Z3 (by rw[dp.out];exact cf)⟩
   obtain⟨b,rfl,J,hc⟩:=eo.out i x hx
   have C:¬WrT (τ b):=by rw[J];exact ev.out
   have b0:=cell_kept d (by simpa using hc 0 (by omega) _ rfl) C
   have b1:=cell_kept d (hc 1 (by omega) _ rfl) C
   have b2:=cell_kept d (hc 2 (by omega) _ rfl) C
   have b3:=cell_kept d (hc 3 (by omega) _ rfl) C
   obtain⟨q1,q2,q3,q4⟩:=er.out x (List.mem_of_getElem? hx)
   have e1:=Qam x.txn (by omega)
   have e4:=Qam x.state (by omega)
   have ds:(i:Int)<(nt:Int):=by omega
   have hctI:(nt:Int)<=(ct:Int):=by omega
   have m:=(Step.refl wr k nil).alloc (.cells #[.int .u32 (x.txn:Int),.int .u64 (x.last:Int),.int .u64 (x.undo:Int),.int .u8 (x.state:Int)] 75) tOne
   have D:=Own.born wr k tOne 75 #[.int .u32 (x.txn:Int),.int .u64 (x.last:Int),.int .u64 (x.undo:Int),.int .u8 (x.state:Int)]
   have s:=p.trans m
   have y:=d.trans (m.mono (T:=WrT) (fun _ h=>h.elim))
   have o:=q.step m (fun h=>h) (fun h=>h)
   have ai:=ah.step m (fun h=>h)
   generalize k.put wr.heap.size tOne=fe at *
   obtain⟨bX,a7⟩:∃B,wr.heap.size=B:=⟨_,rfl⟩
   obtain⟨w3,E⟩:∃W,wr.alloc (.cells #[.int .u32 (x.txn:Int),.int .u64 (x.last:Int),.int .u64 (x.undo:Int),.int .u8 (x.state:Int)] 75)=W:=⟨_,rfl⟩
   rw[a7,E] at D
   rw[E] at s y o ai
   obtain⟨LL,F⟩:∃L,l++leB nt 1++(ts.take i).flatMap encTx=L:=⟨_,rfl⟩
   have dt:LL.length<=3000:=by rw[<-F];simp only[Z6,Qaa];omega
   rw[F] at o
   have x0:=D.at 0 (v:=.int .u32 (x.txn:Int)) rfl
   have G:=Qa4 s o (by omega) x.txn 4 (by omega) (by omega) (by omega)
   obtain⟨ch,ci,I,aj,b8,M,Hx,cj⟩:=hid8 E a7 G D ai y hx F
   clear G D ai y hx F m p d q ah E a7 s o hc J C ac
   go_wp2_with fail
   rw[ch.out,ci.out]
   refine I.out.mono ?_
   rintro e w4 ⟨rfl,fg,N,O,R⟩
   have z:=aj.out.step R (by simp[tOne,tWr,tWb])
   have b9:=b8.out.step R (by simp[tRec,tWr,tWb])
   have U:=M.out.trans (R.mono (T:=WrT) (fun _ h=>h))
   have x1:=z.at 1 (v:=.int .u64 (x.last:Int)) rfl
   have ak:=Qa4 O N (by rw[Z6,Qaa];omega) x.last 8 (by omega) (by omega) (by omega)
   obtain⟨al,ba,bb,X⟩:=hid4 ak z b9 U
   clear ak z b9 U x0 b0 b1 b2 b3 I aj b8 M R O N
   go_wp2_with fail
   refine al.out.mono ?_
   rintro e w5 ⟨rfl,dv,Y,Z,a8⟩
   have am:=ba.out.step a8 (by simp[tOne,tWr,tWb])
   have bc:=bb.out.step a8 (by simp[tRec,tWr,tWb])
   have a1:=X.out.trans (a8.mono (T:=WrT) (fun _ h=>h))
   have x2:=am.at 2 (v:=.int .u64 (x.undo:Int)) rfl
   have dw:=Qa4 Z Y (by simp only[Z6,Qaa];omega) x.undo 8 (by omega) (by omega) (by omega)
   obtain⟨dx,bd,be,ad⟩:=hid4 dw am bc a1
   clear dw am bc a1 x1 al ba bb X a8 Z Y
   go_wp2_with fail
   refine dx.out.mono ?_
   rintro e w6 ⟨rfl,τ6,bf,bg,av⟩
   have bh:=bd.out.step av (by simp[tOne,tWr,tWb])
   have bi:=be.out.step av (by simp[tRec,tWr,tWb])
   have bj:=ad.out.trans (av.mono (T:=WrT) (fun _ h=>h))
   have x3:=bh.at 3 (v:=.int .u8 (x.state:Int)) rfl
   have dy:=Qa4 bg bf (by simp only[Z6,Qaa];omega) x.state 1 (by omega) (by omega) (by omega)
   obtain⟨dz,bk,bl⟩:=hid3 dy bi bj
   clear dy bi bj x2 dx bd be ad av bg bf bh
   go_wp2_with fail
   refine dz.out.mono ?_
   rintro e w7 ⟨rfl,fi,bm,bn,ck⟩
   have bo:=bk.out.step ck (by simp[tRec,tWr,tWb])
   have bp:=bl.out.trans (ck.mono (T:=WrT) (fun _ h=>h))
   have an:l++leB nt 1++(ts.take (i+1)).flatMap encTx=LL++leB x.txn 4++leB x.last 8++leB x.undo 8++leB x.state 1:=by
    rw[Jhf encTx ts i x Hx.out,<-cj.out]
    simp only[encTx,X0]
   obtain⟨e0,e2,e3,e5,cm⟩:=hid5 bm bn bo bp an
   clear bm bn bo bp an x3 dz bk bl ck
   go_wp2_with fail
   go_round
   case rel=>exact⟨i+1,fi,by omega,by simp,by rw[cm.out];exact e0.out,e3.out,e2.out,e5.out⟩
   case measure=>simp[intOf];omega
  ·have fj:i=nt:=by omega
   subst fj
   rw[dn.out] at q
   obtain⟨LL,F⟩:∃L,l++leB i 1++ts.flatMap encTx=L:=⟨_,rfl⟩
   have dt:LL.length<=3000:=by
    rw[<-F]
    have:=dm.out i
    rw[dn.out] at this
    simp only[Z6,Qaa];omega
   rw[F] at q
   have d11:=ah.at 11 ag.out
   have e6:=Qa4 p q (by omega) np 1 (by omega) (by omega) (by omega)
   obtain⟨e7,e8,a6,cj⟩:=hid4 e6 ah d F
   clear e6 ah d F p q ac
   go_wp2_with fail
   refine e7.out.mono ?_
   rintro e w8 ⟨rfl,fk,bq,br,cn⟩
   have bs:=a6.out.trans (cn.mono (T:=WrT) (fun _ h=>h))
   have ao:=e8.out.step cn (by simp[tRec,tWr,tWb])
   have fl:=ao.at 11 ag.out
   obtain⟨bv,bz,c3,e9⟩:=hid4 bq br bs ao
   clear bq br bs ao d11 e7 e8 a6 cn
   go_wp2_with fail
   go_loopw [49] (fun v wr=>∃(j:Nat) (k:Tags),j<=np/\v = .int .i64 (j:Int)/\WrAt w0.heap.size wr k bw (LL++leB np 1++(ps.take j).flatMap encPx)/\Step w0 cs wr k nil/\Step w τ wr k WrT) (fun v _=>np-(intOf v).toNat)
   case atStart=>exact⟨0,fk,Z9 _,rfl,by rw[List.take_zero];simpa using bv.out,bz.out,c3.out⟩
   case round =>
    clear bv bz c3 e9 fl
    obtain⟨j,k,hj,rfl,q,p,d⟩:=hrel
    have ac:=ey.out j
    by_cases cf:j<np
    ·obtain⟨x,hx⟩:∃x,ps[j]?=some x:=⟨_,Z3 (by rw[dq.out];exact cf)⟩
     obtain⟨b,rfl,J,hc⟩:=ep.out j x hx
     have C:¬WrT (τ b):=by rw[J];exact ew.out
     have b0:=cell_kept d (by simpa using hc 0 (by omega) _ rfl) C
     have b1:=cell_kept d (hc 1 (by omega) _ rfl) C
     obtain⟨q1,q2⟩:=et.out x (List.mem_of_getElem? hx)
     have e1:=Qam x.1 (by omega)
     have ds:(j:Int)<(np:Int):=by omega
     have hcpI:(np:Int)<=(cp:Int):=by omega
     have m:=(Step.refl wr k nil).alloc (.cells #[.int .u32 (x.1:Int),.int .u64 (x.2:Int)] 195) tOne
     have D:=Own.born wr k tOne 195 #[.int .u32 (x.1:Int),.int .u64 (x.2:Int)]
     have s:=p.trans m
     have y:=d.trans (m.mono (T:=WrT) (fun _ h=>h.elim))
     have o:=q.step m (fun h=>h) (fun h=>h)
     generalize k.put wr.heap.size tOne=fe at *
     obtain⟨bX,a7⟩:∃B,wr.heap.size=B:=⟨_,rfl⟩
     obtain⟨w3,E⟩:∃W,wr.alloc (.cells #[.int .u32 (x.1:Int),.int .u64 (x.2:Int)] 195)=W:=⟨_,rfl⟩
     rw[a7,E] at D
     rw[E] at s y o
     obtain⟨PL,aw⟩:∃L,LL++leB np 1++(ps.take j).flatMap encPx=L:=⟨_,rfl⟩
     have hPLl:PL.length<=6000:=by rw[<-aw];simp only[Z6,Qaa];omega
     rw[aw] at o
     have x0:=D.at 0 (v:=.int .u32 (x.1:Int)) rfl
     have G:=Qa4 s o (by omega) x.1 4 (by omega) (by omega) (by omega)
     obtain⟨ch,ci,I,aj,M,Hx,fm⟩:=hid7 E a7 G D y hx aw
     clear G D y hx aw m p d q E a7 s o hc J C ac
     go_wp2_with fail
     rw[ch.out,ci.out]
     refine I.out.mono ?_
     rintro e w4 ⟨rfl,fg,N,O,R⟩
     have z:=aj.out.step R (by simp[tOne,tWr,tWb])
     have U:=M.out.trans (R.mono (T:=WrT) (fun _ h=>h))
     have x1:=z.at 1 (v:=.int .u64 (x.2:Int)) rfl
     have ak:=Qa4 O N (by rw[Z6,Qaa];omega) x.2 8 (by omega) (by omega) (by omega)
     obtain⟨al,X⟩:=hid2 ak U
     clear ak U x0 b0 b1 I aj M R O N z
     go_wp2_with fail
     refine al.out.mono ?_
     rintro e w5 ⟨rfl,dv,Y,Z,a8⟩
     have a1:=X.out.trans (a8.mono (T:=WrT) (fun _ h=>h))
     have an:LL++leB np 1++(ps.take (j+1)).flatMap encPx=PL++leB x.1 4++leB x.2 8:=by
      rw[Jhf encPx ps j x Hx.out,<-fm.out]
      simp only[encPx,X0]
     obtain⟨ea,eb,ad,cm⟩:=hid4 Y Z a1 an
     clear Y Z a1 an x1 al X a8
     go_wp2_with fail
     go_round
     case rel=>exact⟨j+1,dv,by omega,by simp,by rw[cm.out];exact ea.out,eb.out,ad.out⟩
     case measure=>simp[intOf];omega
    ·have fo:j=np:=by omega
     subst fo
     rw[ez.out] at q
     obtain⟨fp,fq,a6⟩:=hid3 q p d
     clear q p d
     go_wp2_with fail
     go_returns
     refine⟨rfl,k,?_,fq.out,a6.out⟩
     have:=fp.out
     rw[<-cj.out] at this
     rw[HE.out]
     simpa only[X0] using this
