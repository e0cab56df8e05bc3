/-
 Records as bytes: Encode of a record that may be.
-/
import Derived.Test.YtjgacceifcnedaaGreatMRdH
import Derived.Test.YtjgacceifcnedaaGreatMWalG
set_option maxRecDepth 100000
set_option maxHeartbeats 8000000
set_option linter.all false
namespace Go.Proofs.YtjgacceifcnedaaGreat
variable {r:RecP}
open Go.RowKit
def encTx (x:TxnP):List Int:=leB x.txn 4++leB x.last 8++leB x.undo 8++leB x.state 1
def encPx (x:Nat×Nat):List Int:=leB x.1 4++leB x.2 8
def encT (ts:List TxnP) (ps:List (Nat×Nat)):List Int:=leB ts.length 1++ts.flatMap encTx++leB ps.length 1++ps.flatMap encPx
def encBody (r:RecP):List Int:=if chgB r.kind=true then encC r.change else if r.kind=8 then encT r.txns r.pages else []
def encRaw (r:RecP):List Int:=List.replicate 6 0++leB r.kind 1++leB r.txn 4++leB r.prev 8++leB r.next 8++encBody r
def encLen (r:RecP):List Int:=layN (encRaw r) 0 (leB (encRaw r).length 2)
def encR (r:RecP):List Int:=layN (encLen r) 2 (leB (crcTo ((encLen r).drop 6) ((encLen r).drop 6).length) 4)
theorem Qco (r:RecP):(encRaw r).length=27+(encBody r).length:=by simp only[encRaw,List.length_append,Qaa,List.length_replicate]
theorem Qfr (r:RecP):(encLen r).length=(encRaw r).length:=by unfold encLen;rw[Qae _ _ _ (by rw[Qaa,Qco];omega)]
theorem Qbh (r:RecP):(encR r).length=27+(encBody r).length:=by unfold encR;rw[Qae _ _ _ (by rw[Qaa,Qfr,Qco];omega),Qfr,Qco]
theorem Qx2 {c:ChangeP}(h1:IsB c.before) (h2:IsB c.after):IsB (encC c):=((((((Qan _ _).append (Qan _ _)).append (Qan _ _)).append (Qan _ _)).append h1).append (Qan _ _)).append h2
theorem Qsk {α:Type}(f:α→List Int) (h:∀x,IsB (f x)) (l:List α):IsB (l.flatMap f):=fun x hx=>by
 obtain⟨a,_,ha⟩:=List.mem_flatMap.1 hx
 exact h a x ha
theorem Qx0 (ts:List TxnP) (ps:List (Nat×Nat)):IsB (encT ts ps) :=
 (((Qan _ _).append (Qsk _ (fun x=>(((Qan _ _).append (Qan _ _)).append (Qan _ _)).append (Qan _ _)) ts)).append (Qan _ _)).append (Qsk _ (fun x=>(Qan _ _).append (Qan _ _)) ps)
theorem Qzp:IsB []:=fun x hx=>by cases hx
theorem Qlo(h1:IsB r.change.before) (h2:IsB r.change.after):IsB (encBody r):=by
 unfold encBody
 split
 ·exact Qx2 h1 h2
 ·split
  ·exact Qx0 _ _
  ·exact Qzp
theorem Qm2(h:IsB (encBody r)):IsB (encRaw r):=(((((Qex 6).append (Qan _ _)).append (Qan _ _)).append (Qan _ _)).append (Qan _ _)).append h
structure RecI (w:World) (τ:Tags) (v:Value) (r:RecP):Prop where
 is:∃pb cb pa ca pt ct pp cp gt gp n0,v = .agg #[.int .u8 (r.kind:Int),.int .u32 (r.txn:Int),.int .u64 (r.prev:Int),.int .u64 (r.next:Int),.int .u32 (r.change.page:Int),.int .u16 (r.change.slot:Int),.bool r.change.had,.bool r.change.has,.slice pb r.change.before.length cb,.slice pa r.change.after.length ca,.slice pt r.txns.length ct,.slice pp r.pages.length cp] ∧
  Bytes w τ tData (.slice pb r.change.before.length cb) r.change.before∧Bytes w τ tData (.slice pa r.change.after.length ca) r.change.after∧NS 68 4 Qct n0 w τ gt (.slice pt r.txns.length ct) r.txns∧NS 181 2 Qgn n0 w τ gp (.slice pp r.pages.length cp) r.pages∧¬WrT gt∧¬WrT gp
 kind:r.kind<256
 txn:r.txn<4294967296
 prev:r.prev<18446744073709551616
 next:r.next<18446744073709551616
 page:r.change.page<4294967296
 slot:r.change.slot<65536
theorem RecI.step {w w':World} {τ τ':Tags} {v:Value}(h:RecI w τ v r) (m:Step w τ w' τ' nil):RecI w' τ' v r:=by
 obtain⟨pb,cb,pa,ca,pt,ct,pp,cp,gt,gp,n0,e,h1,h2,h3,h4,h5,h6⟩:=h.is
 exact⟨⟨pb,cb,pa,ca,pt,ct,pp,cp,gt,gp,n0,e,h1.step m (fun h=>h),h2.step m (fun h=>h),h3.step m (fun h=>h),h4.step m (fun h=>h),h5,h6⟩,h.kind,h.txn,h.prev,h.next,h.page,h.slot⟩
theorem Qsm(h1:IsB r.change.before) (h2:IsB r.change.after):IsB (encR r):=Qaw (Qaw (Qm2 (Qlo h1 h2)) (Qan _ _) _) (Qan _ _) _
def TabC (r:RecP):Prop:=∀(w0 w:World) (τ0 τ:Tags) (bw:Nat) (l:List Int) (v:Value),Step w0 τ0 w τ nil→WrAt w0.heap.size w τ bw l→l.length≤1000→RecI w τ v r→Calls Tryz.prog 102 #[.pointer (some ⟨bw,0,none⟩),v] w fun e w'=>e = .returned (.tuple #[])∧∃τ',WrAt w0.heap.size w' τ' bw (l++encT r.txns r.pages)∧Step w0 τ0 w' τ' nil∧Step w τ w' τ' WrT
theorem Qiq {w:World} {τ:Tags} {v:Value}(hv:RecI w τ v r) (hmay:mayB r=true) (hsz:(encR r).length≤60000) (htab:r.kind=8→TabC r):Calls Tryz.prog 52 #[v] w fun e w'=>∃u τ',e = .returned (.tuple #[u,.int .u16 0])∧NB w.heap.size w' τ' tWb u (encR r)∧Step w τ w' τ' nil:=by
 have hv0:=hv
 obtain⟨pb,cb,pa,ca,pt,ct,pp,cp,gt,gp,n0,rfl,hb,ha,ht,hp,hgt,hgp⟩:=hv.is
 have hbB:=hb.isB
 have haB:=ha.isB
 have b1:=hv.kind
 have b2:=hv.txn
 have b3:=hv.prev
 have b4:=hv.next
 have b5:=hv.page
 have b6:=hv.slot
 have hcan:=hmay
 unfold mayB mayRB mayCB at hcan
 have hchl:r.change.before.length≤64∧r.change.after.length≤64:=by
  simp only[Bool.and_eq_true,Bool.not_eq_true',Bool.or_eq_false_iff,decide_eq_false_iff_not] at hcan
  omega
 have henc:encBody r=if chgB r.kind=true then encC r.change else if r.kind=8 then encT r.txns r.pages else []:=rfl
 have hrl:=Qco r
 have hll:=Qfr r
 have heL:=Qbh r
 have hrB:=Qm2 (Qlo (r:=r) hbB haB)
 have hraw:encRaw r=List.replicate 6 0++leB r.kind 1++leB r.txn 4++leB r.prev 8++leB r.next 8++encBody r:=rfl
 have hlen:encLen r=layN (encRaw r) 0 (leB (encRaw r).length 2):=rfl
 have hR:encR r=layN (encLen r) 2 (leB (crcTo ((encLen r).drop 6) ((encLen r).drop 6).length) 4):=rfl
 have hmayC:=fun (W:World) (T:Tags) (hs:NS 68 4 Qct n0 W T gt (.slice pt r.txns.length ct) r.txns)=>Qn4 (w:=W) (τ:=T) r.kind r.txn r.prev r.next r.change.page r.change.slot r.change.had r.change.has pb pa pt pp r.change.before.length cb r.change.after.length ca r.txns.length ct r.pages.length cp rfl hs
 rw[show mayRB r.kind r.txns.length r.pages.length (mayCB (chgB r.kind) r.change.page r.change.slot r.change.had r.change.has r.change.before.length r.change.after.length) (Qdu r.txns)=true from hmay] at hmayC
 have hch:=fun (W:World) (T:Tags)=>Qhk W T r.kind r.txn r.prev r.next r.change.page r.change.slot r.change.had r.change.has pb pa pt pp r.change.before.length cb r.change.after.length ca r.txns.length ct r.pages.length cp
 have hwc:=fun (W0 W:World) (T0 T:Tags) (bw:Nat) (l:List Int) (h1:Step W0 T0 W T nil) (h2:WrAt W0.heap.size W T bw l) (h3:l.length≤1000) (h4:Bytes W T tData (.slice pb r.change.before.length cb) r.change.before) (h5:Bytes W T tData (.slice pa r.change.after.length ca) r.change.after)=>Qp4 h1 h2 (by omega) r.change h4 h5 b5 b6 (by omega) (by omega)
 have rn:∀W:World,(Instr.makeSlice 33 (.int .i64 6) (.int .i64 6)).run Tryz.prog W = .ok (.slice (some ⟨W.heap.size,0,none⟩) 6 6) (W.alloc (.cells (madeCells #[.int .u8 0] 6) 5)):=fun W=>Qko 6 (by omega) W
 have hk8:((r.kind:Int)=8)↔r.kind=8:=by omega
 have e1:=Qam r.kind (by omega)
 have e2:=Qam r.txn (by omega)
 obtain⟨rc,hrc⟩:∃rc:Array Value,rc=#[.int .u8 (r.kind:Int),.int .u32 (r.txn:Int),.int .u64 (r.prev:Int),.int .u64 (r.next:Int),.int .u32 (r.change.page:Int),.int .u16 (r.change.slot:Int),.bool r.change.had,.bool r.change.has,.slice pb r.change.before.length cb,.slice pa r.change.after.length ca,.slice pt r.txns.length ct,.slice pp r.pages.length cp]:=⟨_,rfl⟩
 have hvv:=fun (W:World) (T:Tags) (m:Step w τ W T nil)=>hv0.step m
 have ho:=Own.born w τ tData 58 #[.int .u8 (r.kind:Int),.int .u32 (r.txn:Int),.int .u64 (r.prev:Int),.int .u64 (r.next:Int),.int .u32 (r.change.page:Int),.int .u16 (r.change.slot:Int),.bool r.change.had,.bool r.change.has,.slice pb r.change.before.length cb,.slice pa r.change.after.length ca,.slice pt r.txns.length ct,.slice pp r.pages.length cp]
 have hst:=(Step.refl w τ nil).alloc (.cells #[.int .u8 (r.kind:Int),.int .u32 (r.txn:Int),.int .u64 (r.prev:Int),.int .u64 (r.next:Int),.int .u32 (r.change.page:Int),.int .u16 (r.change.slot:Int),.bool r.change.had,.bool r.change.has,.slice pb r.change.before.length cb,.slice pa r.change.after.length ca,.slice pt r.txns.length ct,.slice pp r.pages.length cp] 58) tData
 have hmay1:=hmayC _ _ (ht.step hst (fun h=>h))
 have hb1:=hb.step hst (fun h=>h)
 have ha1:=ha.step hst (fun h=>h)
 generalize τ.put w.heap.size tData=τ1 at *
 clear hrc rc hv hv0 hcan
 generalize encR r=BR at *
 generalize encLen r=BL at *
 generalize encRaw r=BW at *
 generalize encBody r=BB at *
 obtain⟨kd,tx,pv,nx,⟨pg,sl,hd,hs,be,af⟩,ts,ps⟩:=r
 dsimp only at *
 obtain⟨cg,hcg⟩:∃cg,chgB kd=cg:=⟨_,rfl⟩
 simp only[hcg] at hch henc
 generalize hbn:be.length=nb at *
 generalize han:af.length=na at *
 generalize htn:ts.length=nt at *
 generalize hpn:ps.length=np at *
 have c0:=ho.at 0 (v:=.int .u8 (kd:Int)) rfl
 have c1:=ho.at 1 (v:=.int .u32 (tx:Int)) rfl
 have c2:=ho.at 2 (v:=.int .u64 (pv:Int)) rfl
 have c3:=ho.at 3 (v:=.int .u64 (nx:Int)) rfl
 have c4:=ho.at 4 (v:=.int .u32 (pg:Int)) rfl
 have c5:=ho.at 5 (v:=.int .u16 (sl:Int)) rfl
 have c6:=ho.at 6 (v:=.bool hd) rfl
 have c7:=ho.at 7 (v:=.bool hs) rfl
 have c8:=ho.at 8 (v:=.slice pb nb cb) rfl
 have c9:=ho.at 9 (v:=.slice pa na ca) rfl
 have c10:=ho.at 10 (v:=.slice pt nt ct) rfl
 have c11:=ho.at 11 (v:=.slice pp np cp) rfl
 obtain⟨Hmay1,HmayC,Hch,Hwc,Ho,Hst,Hb1,Ha1,Hvv,Htab,Henc,Hraw⟩:=hid12 hmay1 hmayC hch hwc ho hst hb1 ha1 hvv htab henc hraw
 obtain⟨Hlen,HR,HrB,Hrl,Hll,HeL,Hbn,Han,Htn,Hpn,HbB,HaB⟩:=hid12 hlen hR hrB hrl hll heL hbn han htn hpn hbB haB
 obtain⟨Hgt,Hgp,Hmay,Hb,Ha,Ht,Hp,Hchl⟩:=hid8 hgt hgp hmay hb ha ht hp hchl
 clear hmay1 hmayC hch hwc ho hst hb1 ha1 hvv htab henc hraw hlen hR hrB hrl hll heL hbn han htn hpn hbB haB hgt hgp hmay hb ha ht hp hchl
 go_enter Tryz.func52,Tryz.ntmps52
 go_wp2_with fail
 generalize w.alloc (.cells #[.int .u8 (kd:Int),.int .u32 (tx:Int),.int .u64 (pv:Int),.int .u64 (nx:Int),.int .u32 (pg:Int),.int .u16 (sl:Int),.bool hd,.bool hs,.slice pb nb cb,.slice pa na ca,.slice pt nt ct,.slice pp np cp] 58)=W0 at *
 refine Hmay1.out.mono ?_
 rintro e w1 ⟨rfl,hs1⟩
 have ho1:=Ho.out.step hs1 (fun h=>h)
 have hst1:=Hst.out.trans hs1
 have hb2:=Hb1.out.step hs1 (fun h=>h)
 have ha2:=Ha1.out.step hs1 (fun h=>h)
 have hob:=Own.born w1 τ1 tWb 5 (madeCells #[.int .u8 0] 6)
 rw[Qhm 6] at hob
 have hsb:=hst1.alloc (.cells (madeCells #[.int .u8 0] 6) 5) tWb
 have hal:=(Step.refl w1 τ1 nil).alloc (.cells (madeCells #[.int .u8 0] 6) 5) tWb
 have hor:=ho1.step_new (.cells (madeCells #[.int .u8 0] 6) 5) tWb
 have hnb:NB w.heap.size (w1.alloc (.cells (madeCells #[.int .u8 0] 6) 5)) (τ1.put w1.heap.size tWb) tWb (.slice (some ⟨w1.heap.size,0,none⟩) 6 6) (List.replicate 6 0):=by
  have:=NB.mk' (n0:=w.heap.size) (l:=List.replicate 6 0) (cap:=6) (ys:=[]) (by rw[List.append_nil];exact hob) (Qex 6) (by simp) (by unfold maxLen;omega) hst1.size
  rw[List.length_replicate] at this
  exact this
 generalize hτ2:τ1.put w1.heap.size tWb=τ2 at *
 have how:=Own.born (w1.alloc (.cells (madeCells #[.int .u8 0] 6) 5)) τ2 tWr 188 #[.slice (some ⟨w1.heap.size,0,none⟩) 6 6]
 have hst3:=hsb.alloc (.cells #[.slice (some ⟨w1.heap.size,0,none⟩) 6 6] 188) tWr
 have hal3:=hal.alloc (.cells #[.slice (some ⟨w1.heap.size,0,none⟩) 6 6] 188) tWr
 have hor3:=hor.step_new (.cells #[.slice (some ⟨w1.heap.size,0,none⟩) 6 6] 188) tWr
 have hnb3:=hnb.step ((Step.refl _ τ2 nil).alloc (.cells #[.slice (some ⟨w1.heap.size,0,none⟩) 6 6] 188) tWr) (fun h=>h)
 have hwl:=hsb.size
 rw[World.size_alloc] at how hwl hst3 hor3 hnb3 hal3
 generalize hτ3:τ2.put (w1.heap.size+1) tWr=τ3 at *
 have hW:WrAt w.heap.size ((w1.alloc (.cells (madeCells #[.int .u8 0] 6) 5)).alloc (.cells #[.slice (some ⟨w1.heap.size,0,none⟩) 6 6] 188)) τ3 (w1.heap.size+1) (List.replicate 6 0):=⟨⟨_,how,hnb3⟩,hwl⟩
 have hb3:=hb2.step hal3 (fun h=>h)
 have ha3:=ha2.step hal3 (fun h=>h)
 have q0:=hor3.at 0 (v:=.int .u8 (kd:Int)) rfl
 have hn1:=Qa4 hst3 hW (by simp) kd 1 (by omega) (by omega) (by omega)
 obtain⟨bw,hbw⟩:∃bw,w1.heap.size+1=bw:=⟨_,rfl⟩
 rw[hbw] at hn1
 obtain⟨Hn1,Hor3,Hb3,Ha3,Hbw⟩:=hid5 hn1 hor3 hb3 ha3 hbw
 clear hn1 hor3 hb3 ha3 hbw how hst3 hnb3 hwl hW hnb hor hsb hob ho1 hst1 hs1 Hmay1 Ho Hst hτ3 hτ2 hal hal3 hb2 ha2 Hb1 Ha1 c0 c1 c2 c3 c4 c5 c6 c7 c8 c9 c10 c11
 go_wp2_with fail
 rw[Hbw.out]
 refine Hn1.out.mono ?_
 rintro e w4 ⟨rfl,τ4,hw4,hst4,hq4⟩
 have ho4:=Hor3.out.step hq4 (by decide)
 have hb4:=Hb3.out.step hq4 (by decide)
 have ha4:=Ha3.out.step hq4 (by decide)
 have q1:=ho4.at 1 (v:=.int .u32 (tx:Int)) rfl
 have hn2:=Qa4 hst4 hw4 (by simp[Qaa]) tx 4 (by omega) (by omega) (by omega)
 obtain⟨Hn2,Ho4,Hb4,Ha4⟩:=hid4 hn2 ho4 hb4 ha4
 clear hn2 ho4 hb4 ha4 hw4 hst4 hq4 Hn1 Hor3 q0 Hb3 Ha3
 go_wp2_with fail
 refine Hn2.out.mono ?_
 rintro e w5 ⟨rfl,τ5,hw5,hst5,hq5⟩
 have ho5:=Ho4.out.step hq5 (by decide)
 have hb5:=Hb4.out.step hq5 (by decide)
 have ha5:=Ha4.out.step hq5 (by decide)
 have q2:=ho5.at 2 (v:=.int .u64 (pv:Int)) rfl
 have hn3:=Qa4 hst5 hw5 (by simp[Qaa]) pv 8 (by omega) (by omega) (by omega)
 obtain⟨Hn3,Ho5,Hb5,Ha5⟩:=hid4 hn3 ho5 hb5 ha5
 clear hn3 ho5 hb5 ha5 hw5 hst5 hq5 Hn2 Ho4 q1 Hb4 Ha4
 go_wp2_with fail
 refine Hn3.out.mono ?_
 rintro e w6 ⟨rfl,τ6,hw6,hst6,hq6⟩
 have ho6:=Ho5.out.step hq6 (by decide)
 have hb6:=Hb5.out.step hq6 (by decide)
 have ha6:=Ha5.out.step hq6 (by decide)
 have q3:=ho6.at 3 (v:=.int .u64 (nx:Int)) rfl
 have hn4:=Qa4 hst6 hw6 (by simp[Qaa]) nx 8 (by omega) (by omega) (by omega)
 obtain⟨Hn4,Ho6,Hb6,Ha6⟩:=hid4 hn4 ho6 hb6 ha6
 clear hn4 ho6 hb6 ha6 hw6 hst6 hq6 Hn3 Ho5 q2 Hb5 Ha5
 go_wp2_with fail
 refine Hn4.out.mono ?_
 rintro e w7 ⟨rfl,τ7,hw7,hst7,hq7⟩
 have ho7:=Ho6.out.step hq7 (by decide)
 have hb7:=Hb6.out.step hq7 (by decide)
 have ha7:=Ha6.out.step hq7 (by decide)
 have k0:=ho7.at 0 (v:=.int .u8 (kd:Int)) rfl
 have k1:=ho7.at 1 (v:=.int .u32 (tx:Int)) rfl
 have k2:=ho7.at 2 (v:=.int .u64 (pv:Int)) rfl
 have k3:=ho7.at 3 (v:=.int .u64 (nx:Int)) rfl
 have k4:=ho7.at 4 (v:=.int .u32 (pg:Int)) rfl
 have k5:=ho7.at 5 (v:=.int .u16 (sl:Int)) rfl
 have k6:=ho7.at 6 (v:=.bool hd) rfl
 have k7:=ho7.at 7 (v:=.bool hs) rfl
 have k8:=ho7.at 8 (v:=.slice pb nb cb) rfl
 have k9:=ho7.at 9 (v:=.slice pa na ca) rfl
 have k10:=ho7.at 10 (v:=.slice pt nt ct) rfl
 have k11:=ho7.at 11 (v:=.slice pp np cp) rfl
 obtain⟨Hw7,Hst7,Ho7,Hb7,Ha7⟩:=hid5 hw7 hst7 ho7 hb7 ha7
 clear hw7 hst7 ho7 hb7 ha7 hq7 Hn4 Ho6 q3 Hb6 Ha6
 go_wp2_with fail
 refine(Hch.out _ τ7).mono ?_
 rintro e w8 ⟨rfl,hs8⟩
 have ho8:=Ho7.out.step hs8 (fun h=>h)
 have hw8:=Hw7.out.step hs8 (fun h=>h) (fun h=>h)
 have hst8:=Hst7.out.trans hs8
 have hb8:=Hb7.out.step hs8 (fun h=>h)
 have ha8:=Ha7.out.step hs8 (fun h=>h)
 clear k0 k1 k2 k3 k4 k5 k6 k7 k8 k9 k10 k11 hs8
 have k0:=ho8.at 0 (v:=.int .u8 (kd:Int)) rfl
 have k1:=ho8.at 1 (v:=.int .u32 (tx:Int)) rfl
 have k2:=ho8.at 2 (v:=.int .u64 (pv:Int)) rfl
 have k3:=ho8.at 3 (v:=.int .u64 (nx:Int)) rfl
 have k4:=ho8.at 4 (v:=.int .u32 (pg:Int)) rfl
 have k5:=ho8.at 5 (v:=.int .u16 (sl:Int)) rfl
 have k6:=ho8.at 6 (v:=.bool hd) rfl
 have k7:=ho8.at 7 (v:=.bool hs) rfl
 have k8:=ho8.at 8 (v:=.slice pb nb cb) rfl
 have k9:=ho8.at 9 (v:=.slice pa na ca) rfl
 have k10:=ho8.at 10 (v:=.slice pt nt ct) rfl
 have k11:=ho8.at 11 (v:=.slice pp np cp) rfl
 cases cg
 case' true =>
  have hwcc:=Hwc.out _ _ _ _ _ _ hst8 hw8 (by simp[Qaa]) hb8 ha8
  have Hwcc:=Lib.hid hwcc
  clear hwcc hb8 ha8 hst8 hw8
  go_wp2_with fail
  refine Hwcc.out.mono ?_
  rintro e w9 ⟨rfl,τ9,hw9,hst9,hq9⟩
  have hBW:WrAt w.heap.size w9 τ9 bw BW:=by rw[Hraw.out,Henc.out,if_pos trivial];exact hw9
  clear hw9 hq9
  go_wp2_with fail
 case' false =>
  by_cases h8:kd=8
  case' pos =>
   have q1:((kd:Int)=8)↔True:=⟨fun _=>trivial,fun _=>by omega⟩
   have q2:(kd=8)↔True:=⟨fun _=>trivial,fun _=>h8⟩
   have q3:((kd:Int)==8)=true:=by rw[h8];rfl
   have hwcc:=(Htab.out h8) w w8 τ τ7 bw _ _ hst8 hw8 (by simp[Qaa]) (Hvv.out w8 τ7 hst8)
   obtain⟨Hwcc,H8⟩:=hid2 hwcc h8
   clear hwcc h8 hb8 ha8 hst8 hw8
   go_wp2_with fail
   refine Hwcc.out.mono ?_
   rintro e w9 ⟨rfl,τ9,hw9,hst9,hq9⟩
   have hBW:WrAt w.heap.size w9 τ9 bw BW:=by rw[Hraw.out,Henc.out,if_neg (by simp),if_pos H8.out];exact hw9
   clear hw9 hq9
   go_wp2_with fail
  case' neg =>
   have h8i:¬(kd:Int)=8:=by omega
   have hBW:WrAt w.heap.size w8 τ7 bw BW:=by rw[Hraw.out,Henc.out,if_neg (by simp),if_neg h8,List.append_nil];exact hw8
   have hst9:=hst8
   clear hw8 hst8 hb8 ha8
   obtain⟨w9,rfl⟩:∃x,x=w8:=⟨_,rfl⟩
   obtain⟨τ9,rfl⟩:∃x,x=τ7:=⟨_,rfl⟩
   go_wp2_with fail
 all_goals (
  clear k0 k1 k2 k3 k4 k5 k6 k7 k8 k9 k10 k11 ho8)
 all_goals (
  clear Hwc Hvv Htab Henc Hraw Hch Hw7 Hst7 Ho7 Hb7 Ha7 HmayC Hmay Hbn Han Htn Hpn Hb Ha Ht Hp Hgt Hgp HbB HaB hcg Hbw Hchl e1 e2 hk8
  obtain⟨v9,hwo,hwb⟩:=hBW.is
  have hlow9:=hBW.low
  clear hBW
  have hn27:27≤BW.length:=by rw[Hrl.out];omega
  obtain⟨b,cap,ys,rfl,hob,hc1,hc2,hc3,hbl⟩:=hwb.row (by omega)
  have hLlen:=Hll.out
  have hRlen:=HeL.out
  have hlenE:=Hlen.out
  have hRE:=HR.out
  have hnle:BW.length≤60000:=by rw[Hrl.out,←hRlen];exact hsz
  have hBR:BR.length=BW.length:=by rw[hRlen,Hrl.out]
  have hBWB:=HrB.out
  clear Hrl Hll HeL Hlen HR HrB hwb hRlen
  generalize hn:BW.length=n at *
  have hput:=Qeu w9.drew τ9 tData n 2 (by omega) (by omega) (by omega)
  have hob0:=hob.drew
  have hwo0:=hwo.drew
  have hst0:=hst9.drew
  have c0:=hwo0.at 0 (v:=.slice (some ⟨b,0,none⟩) n cap) rfl
  have e3:=Qam n (by omega)
  have hmin:2=Nat.min (leB n 2).length n:=by rw[Qaa];exact(Nat.min_eq_left (by omega)).symm
  have hft:0+2≤(u8s BW++ys).length:=by rw[List.length_append,Qac,hn];omega
  have hover:over (u8s BW++ys) 0 (u8s ((leB n 2).take 2))=u8s BL++ys:=by
   rw[Qgv _ _ _ _ (by rw[Qac,Qac,hn,List.length_take,Qaa];omega),Qby _ _ _ _ (Qaa n 2).symm,hlenE]
  have hLB:IsB BL:=by rw[hlenE];exact Qaw hBWB (Qan _ _) _
  obtain⟨Hput,Hob0,Hwo0,Hst0,Hmin,Hft,Hover,Hn,HlenE,HRE,HLlen,HBR⟩:=hid12 hput hob0 hwo0 hst0 hmin hft hover hn hlenE hRE hLlen hBR
  obtain⟨HLB,HBWB⟩:=hid2 hLB hBWB
  clear hput hob0 hwo0 hst0 hmin hft hover hn hlenE hRE hLlen hBR hLB hBWB hob hwo hst9
  have hSS:w9.drew.cell? ⟨bw,0,none⟩=some (.slice (some ⟨b,0,none⟩) n cap):=c0
  clear c0
  refine Qaf (S:=fun w':World=>w'.cell? ⟨bw,0,none⟩=some (.slice (some ⟨b,0,none⟩) n cap)) (by kernel_rfl) ?_
  refine tk0 [0,1,2,3,4,5,6,7,8,9] ?_
  iterate 10
   refine tks (v:=?_) rfl (Or.inl ⟨by rfl,?_⟩) (by assumption) ?_
   rotate_left
   ·intro w hSw;(try dsimp only at hSw);go_simp
    all_goals with_reducible rfl
   try simp only[Act.put,lz1,lz2,lz3]
  refine tk9 ?_
  clear hSS
  refine tk1 10 rfl fun K hK=>?_
  go_simp
  go_at_call 103
  refine Hput.out.mono ?_
  rintro e wA ⟨uA,τA,rfl,huA,heA,hmA⟩
  have hsA:=Step.of nil hmA heA
  have hwoA:=Hwo0.out.step hsA (fun h=>h)
  have hobA:=Hob0.out.step hsA (fun h=>h)
  have hstA:=Hst0.out.trans hsA
  have d0:=hwoA.at 0 (v:=.slice (some ⟨b,0,none⟩) n cap) rfl
  obtain⟨pA,cA,rfl,-,-⟩:=huA.any
  obtain⟨HuA,HwoA,HobA,HstA⟩:=hid4 huA hwoA hobA hstA
  clear huA hwoA hobA hstA heA hmA hsA Hwo0 Hob0 Hst0 Hput
  refine hK.out _ _ (fun _=>d0) ?_
  clear hK K
  refine tk1 11 rfl fun K hK=>?_
  refine Qbb HstA.out HobA.out (.inr hbl) HuA.out 2 Hmin.out Hft.out rfl _ _ rfl rfl rfl ?_
  intro wB hobB hstB hqB
  rw[Hover.out] at hobB
  have hwoB:=HwoA.out.step hqB (by decide)
  have e0:=hwoB.at 0 (v:=.slice (some ⟨b,0,none⟩) n cap) rfl
  obtain⟨HobB,HstB,HwoB⟩:=hid3 hobB hstB hwoB
  clear hobB hstB hwoB hqB
  refine hK.out _ _ (fun _=>e0) ?_
  clear hK K
  refine Qad (by kernel_rfl) ?_ _
  have hnbB:=NB.mk' (n0:=w.heap.size) HobB.out HLB.out (by rw[HLlen.out];exact hc1) hc3 hbl
  rw[HLlen.out] at hnbB
  have hsub:=(hnbB.bytes).sub 6 n (cap-6) (by omega) (by omega) (by omega) (by omega)
  rw[Nat.zero_add,List.take_of_length_le (by rw[List.length_drop,HLlen.out];omega)] at hsub
  have hsl:(BL.drop 6).length=n-6:=by rw[List.length_drop,HLlen.out]
  have hwoC:=HwoB.out.drew
  have f1:=hwoC.at 0 (v:=.slice (some ⟨b,0,none⟩) n cap) rfl
  have hcell:(wB.drew.alloc (.cells #[.slice (some ⟨b,6,none⟩) (n-6) (cap-6)] 33)).cell? ⟨wB.drew.heap.size,0,none⟩=some (.slice (some ⟨b,6,none⟩) (n-6) (cap-6)):=(Own.new wB.drew τA tData 33 [.slice (some ⟨b,6,none⟩) (n-6) (cap-6)]).at 0 rfl
  rw[←hsl] at hcell
  have hsum:=Qqe hcell (by have:=hsub.drew.alloc (.cells #[.slice (some ⟨b,6,none⟩) (n-6) (cap-6)] 33);rw[←hsl] at this;exact this) (by rw[hsl];omega)
  rw[hsl] at hsum
  have hcl:=Qh8 (BL.drop 6) (n-6)
  rw[←hsl] at hcl
  have hrb:=HRE.out
  rw[←hsl] at hsum
  generalize crcTo (BL.drop 6) (BL.drop 6).length=s at *
  rw[hsl] at hsum
  have hsw:=Qam s (by omega)
  have hwoD:=hwoC.alloc (.cells #[.slice (some ⟨b,6,none⟩) (n-6) (cap-6)] 33)
  have g1:=hwoD.at 0 (v:=.slice (some ⟨b,0,none⟩) n cap) rfl
  have hobD:=HobB.out.drew.alloc (.cells #[.slice (some ⟨b,6,none⟩) (n-6) (cap-6)] 33)
  have hstD:=HstB.out.drew.alloc' (.cells #[.slice (some ⟨b,6,none⟩) (n-6) (cap-6)] 33)
  have hput:=Qeu (wB.drew.alloc (.cells #[.slice (some ⟨b,6,none⟩) (n-6) (cap-6)] 33)) τA tData s 4 (by omega) (by omega) (by omega)
  have hnim:4=Nat.min (leB s 4).length (n-2):=by rw[Qaa];exact(Nat.min_eq_left (by omega)).symm
  have htf:2+4≤(u8s BL++ys).length:=by rw[List.length_append,Qac,HLlen.out];omega
  have hrevo:over (u8s BL++ys) 2 (u8s ((leB s 4).take 4))=u8s BR++ys:=by
   rw[Qgv _ _ _ _ (by rw[Qac,Qac,HLlen.out,List.length_take,Qaa];omega),Qby _ _ _ _ (Qaa s 4).symm,hrb]
  have hRB:IsB BR:=by rw[hrb];exact Qaw HLB.out (Qan _ _) _
  have n1:¬2=cap:=by omega
  have n2:¬cap=2:=by omega
  have n3:¬6=cap:=by omega
  have n4:¬cap=6:=by omega
  have n5:2≤cap:=by omega
  have n6:6≤cap:=by omega
  have n7:(2:Int)≤(n:Int):=by omega
  have n8:(6:Int)≤(n:Int):=by omega
  have n9:(n:Int)≤(cap:Int):=by omega
  obtain⟨Hsum,HwoD,HobD,HstD,Hput,Hnim,Htf,Hrevo,HRB⟩:=hid9 hsum hwoD hobD hstD hput hnim htf hrevo hRB
  clear hsum hwoD hobD hstD hput hnim htf hrevo hRB hnbB hsub hsl hwoC hcell Hmin Hft Hover HwoA HobA HstA HuA hrb e0 d0 HobB HstB
  have hSS:wB.drew.cell? ⟨bw,0,none⟩=some (.slice (some ⟨b,0,none⟩) n cap):=f1
  clear f1
  go_wp2_with fail
  refine Qaf (S:=fun w':World=>w'.cell? ⟨bw,0,none⟩=some (.slice (some ⟨b,0,none⟩) n cap)) (by kernel_rfl) ?_
  refine tk0 [0,1,2,3,4,5,6,7,8,9] ?_
  iterate 10
   refine tks (v:=?_) rfl (Or.inl ⟨by rfl,?_⟩) (by assumption) ?_
   rotate_left
   ·intro w hSw;(try dsimp only at hSw);go_simp
    all_goals with_reducible rfl
   try simp only[Act.put,lz1,lz2,lz3]
  refine tk9 ?_
  clear hSS
  refine tk1 10 rfl fun K hK=>?_
  go_simp
  refine hK.out _ _ (fun _=>g1) ?_
  clear hK K
  refine tk1 11 rfl fun K hK=>?_
  go_simp
  go_at_call 104
  refine Hsum.out.mono ?_
  rintro e wE ⟨rfl,rfl⟩
  refine hK.out _ _ (fun _=>g1) ?_
  clear hK K
  refine tk1 12 rfl fun K hK=>?_
  go_simp
  refine hK.out _ _ (fun _=>g1) ?_
  clear hK K
  refine tk1 13 rfl fun K hK=>?_
  go_simp
  go_at_call 103
  refine Hput.out.mono ?_
  rintro e wF ⟨uF,τF,rfl,huF,heF,hmF⟩
  have hsF:=Step.of nil hmF heF
  have hwoF:=HwoD.out.step hsF (fun h=>h)
  have hobF:=HobD.out.step hsF (fun h=>h)
  have hstF:=HstD.out.trans hsF
  have m0:=hwoF.at 0 (v:=.slice (some ⟨b,0,none⟩) n cap) rfl
  obtain⟨pF,cF,rfl,-,-⟩:=huF.any
  obtain⟨HuF,HwoF,HobF,HstF⟩:=hid4 huF hwoF hobF hstF
  clear huF hwoF hobF hstF heF hmF hsF HwoD HobD HstD Hput
  refine hK.out _ _ (fun _=>m0) ?_
  clear hK K
  refine tk1 14 rfl fun K hK=>?_
  refine Qbb HstF.out HobF.out (.inr hbl) HuF.out 4 Hnim.out Htf.out rfl _ _ rfl rfl rfl ?_
  intro wG hobG hstG hqG
  rw[Hrevo.out] at hobG
  have hwoG:=HwoF.out.step hqG (by decide)
  have o0:=hwoG.at 0 (v:=.slice (some ⟨b,0,none⟩) n cap) rfl
  obtain⟨HobG,HstG,HwoG⟩:=hid3 hobG hstG hwoG
  clear hobG hstG hwoG hqG
  refine hK.out _ _ (fun _=>o0) ?_
  clear hK K
  refine Qad (by kernel_rfl) ?_ _
  go_wp2_with fail
  go_ret2
  have hnb:=NB.mk' (n0:=w.heap.size) HobG.out HRB.out (by rw[HBR.out];exact hc1) hc3 hbl
  rw[HBR.out] at hnb
  exact⟨_,τF,rfl,hnb,HstG.out⟩)
theorem Qjx (x k:Nat) (l:List Int) (hx:x<2 ^ (8*k)):pNum k (leB x k++l)=some (x,l):=by
 have hl:=Qaa x k
 unfold pNum
 rw[if_neg (by rw[List.length_append,hl];omega),List.take_left' hl,List.drop_left' hl,Qdl x k k (Nat.le_refl _),Nat.mod_eq_of_lt hx]
theorem Qnx (x:Nat) (l:List Int) (h:x<256):pNum 1 (leB x 1++l)=some (x,l):=Qjx x 1 l h
theorem Qxf (x:Nat) (l:List Int) (h:x<65536):pNum 2 (leB x 2++l)=some (x,l):=Qjx x 2 l h
theorem Qnw (x:Nat) (l:List Int) (h:x<4294967296):pNum 4 (leB x 4++l)=some (x,l):=Qjx x 4 l (by rw[show (2:Nat) ^ (8*4)=4294967296 from by decide];exact h)
theorem Qsb (x:Nat) (l:List Int) (h:x<18446744073709551616):pNum 8 (leB x 8++l)=some (x,l):=Qjx x 8 l (by rw[show (2:Nat) ^ (8*8)=18446744073709551616 from by decide];exact h)
theorem Qmv (a l:List Int):pTake a.length (a++l)=some (a,l):=by
 unfold pTake
 rw[if_neg (by rw[List.length_append];omega),List.take_left' rfl,List.drop_left' rfl]
theorem Qmw (b l:List Int) (h:b.length≤255):Qi8 (leB b.length 1++(b++l))=some (b,l):=by
 unfold Qi8
 rw[Qnx _ _ (by omega)]
 exact Qmv b l
theorem Qqy (c:ChangeP) (l:List Int) (hp:c.page<4294967296) (hs:c.slot<65536) (h1:c.before.length≤255) (h2:c.after.length≤255):Qd3 (encC c++l)=some (c,l):=by
 obtain⟨pg,sl,hd,hs',be,af⟩:=c
 dsimp only at hp hs h1 h2
 unfold Qd3 encC
 simp only[List.append_assoc]
 rw[Qnw _ _ hp]
 simp only[Option.bind_some]
 rw[Qxf _ _ hs]
 simp only[Option.bind_some]
 rw[Qnx _ _ (by have:=Qoc hd hs';omega)]
 simp only[Option.bind_some]
 rw[if_neg (by have:=Qoc hd hs';omega),Qmw _ _ h1]
 simp only[Option.bind_some]
 rw[Qmw _ _ h2]
 cases hd <;> cases hs' <;> simp[flagN]
theorem Qh3(h:mayB r=true) (h8:r.kind≠8):r.txns=[]∧r.pages=[]∧(chgB r.kind=false→r.change=noChange)∧r.change.before.length≤64∧r.change.after.length≤64:=by
 obtain⟨k,tx,pv,nx,⟨pg,sl,hd,hs,be,af⟩,ts,ps⟩:=r
 unfold mayB mayRB mayCB at h
 simp only[Bool.and_eq_true,Bool.not_eq_true',Bool.or_eq_false_iff,decide_eq_false_iff_not,Bool.and_eq_false_iff,Bool.not_eq_false',Bool.or_eq_true,decide_eq_true_eq] at h
 dsimp only at h h8 ⊢
 obtain⟨⟨_,h2⟩,⟨⟨⟨⟨h3,h4⟩,h5⟩,h6⟩,h7⟩,_⟩:=h
 have hl:ts.length+ps.length=0:=by rcases h2 with h2|h2 <;> omega
 refine⟨List.eq_nil_of_length_eq_zero (by omega),List.eq_nil_of_length_eq_zero (by omega),fun hc=>?_,by omega,by omega⟩
 rcases h7 with h7|⟨⟨⟨a,b⟩,c⟩,d⟩
 ·rw[hc] at h7;cases h7
 ·subst a b c d
  simp only[Bool.false_eq_true,false_or] at h5 h6
  rw[List.eq_nil_of_length_eq_zero (by omega:be.length=0),List.eq_nil_of_length_eq_zero (by omega:af.length=0)]
  rfl
def Qbv (r:RecP):List Int:=leB r.kind 1++leB r.txn 4++leB r.prev 8++leB r.next 8++encBody r
theorem Qz2 (r:RecP):encR r=leB (27+(encBody r).length) 2++(leB (crcTo (Qbv r) (Qbv r).length) 4++Qbv r):=by
 have h0:encRaw r=List.replicate 6 0++Qbv r:=by simp only[encRaw,Qbv,List.append_assoc]
 have h1:encLen r=leB (27+(encBody r).length) 2++(List.replicate 4 0++Qbv r):=by
  unfold encLen
  rw[Qco,h0]
  unfold layN
  rw[Qaa]
  rfl
 have h2:(encLen r).drop 6=Qbv r:=by
  rw[h1,←List.append_assoc,List.drop_left' (by rw[List.length_append,Qaa];rfl)]
 unfold encR
 rw[h2,h1]
 unfold layN
 have hl:=Qaa (27+(encBody r).length) 2
 rw[Qaa,List.take_left' hl,List.append_assoc]
 congr 2
structure RecP.ok (r:RecP):Prop where
 may:mayB r=true
 k8:r.kind≠8
 txn:r.txn<4294967296
 prev:r.prev<18446744073709551616
 next:r.next<18446744073709551616
 page:r.change.page<4294967296
 slot:r.change.slot<65536
theorem RecP.ok.kind(h:r.ok):r.kind<256:=by
 have:=h.may
 unfold mayB mayRB at this
 simp only[Bool.and_eq_true,Bool.not_eq_true',Bool.or_eq_false_iff,decide_eq_false_iff_not] at this
 omega
theorem RecP.ok.body(h:r.ok):(encBody r).length≤137:=by
 obtain⟨_,_,_,h1,h2⟩:=Qh3 h.may h.k8
 unfold encBody
 split
 ·rw[Qhi];omega
 ·rw[if_neg h.k8];simp
theorem Qyf(h:r.ok):pBody r.kind (encBody r)=some ((r.change,[],[]),[]):=by
 obtain⟨ht,hp,hc,hb,ha⟩:=Qh3 h.may h.k8
 unfold pBody encBody
 by_cases hcg:chgB r.kind=true
 ·rw[if_pos hcg,if_pos hcg]
  have:=Qqy r.change [] h.page h.slot (by omega) (by omega)
  rw[List.append_nil] at this
  rw[this,Option.bind_some]
 ·rw[if_neg hcg,if_neg hcg,if_neg h.k8,if_neg h.k8,hc (by simpa using hcg)]
theorem bindS {α β:Type} {o:Option α} {x:α}(h:o=some x) (f:α→Option β):o.bind f=f x:=by rw[h];rfl
theorem Qy7 {l T0 T T1 T2 T3:List Int} {a:List Int} {c k t p n:Nat} {ch:ChangeP}(h2:pTake 2 l=some (a,T0)) (h3:pNum 4 T0=some (c,T)) (hcc:c=crcTo T T.length) (h4:pNum 1 T=some (k,T1)) (h5:pNum 4 T1=some (t,T2)) (h6:pNum 8 T2=some (p,T3)) {T4:List Int}(h7:pNum 8 T3=some (n,T4)) (hb:pBody k T4=some ((ch,[],[]),[])) (hm:mayB ⟨k,t,p,n,ch,[],[]⟩=true):pRead l=some ⟨k,t,p,n,ch,[],[]⟩:=by
 unfold pRead
 refine(bindS h2 _).trans ((bindS h3 _).trans ?_)
 refine(if_neg (fun h=>h hcc)).trans ?_
 refine(bindS h4 _).trans ((bindS h5 _).trans ((bindS h6 _).trans ((bindS h7 _).trans ((bindS hb _).trans ?_))))
 refine if_neg ?_
 rintro(hx|hx)
 ·exact absurd hx (Nat.lt_irrefl 0)
 ·rw[hm] at hx;cases hx
theorem Qw1(h:r.ok) (c:Nat) (hcc:c=crcTo (Qbv r) (Qbv r).length) (hc:c<4294967296) (n:Nat):pRead (leB n 2++(leB c 4++Qbv r))=some r:=by
 obtain⟨ht,hp,-⟩:=Qh3 h.may h.k8
 have hbody:=Qyf h
 have hr:(⟨r.kind,r.txn,r.prev,r.next,r.change,[],[]⟩:RecP)=r:=by
  obtain⟨a1,a2,a3,a4,a5,a6,a7⟩:=r
  simp only at ht hp
  subst ht hp
  rfl
 have h2:=Qmv (leB n 2) (leB c 4++Qbv r)
 rw[Qaa] at h2
 have h3:=Qnw c (Qbv r) hc
 have h4:pNum 1 (Qbv r)=some (r.kind,leB r.txn 4++(leB r.prev 8++(leB r.next 8++encBody r))):=by
  have:=Qnx r.kind (leB r.txn 4++(leB r.prev 8++(leB r.next 8++encBody r))) h.kind
  unfold Qbv
  simp only[List.append_assoc]
  exact this
 have hm:=h.may
 rw[←hr] at hm
 exact(Qy7 h2 h3 hcc h4 (Qnw r.txn _ h.txn) (Qsb r.prev _ h.prev) (Qsb r.next _ h.next) hbody hm).trans (by rw[hr])
theorem Qtz(h:r.ok) (l:List Int):Qd1 (encR r++l)=some (r,(encR r).length):=by
 have hlen:=Qbh r
 have hbl:=h.body
 have e:=Qz2 r
 have hcl:=Qh8 (Qbv r) (Qbv r).length
 have hread:=Qw1 h (crcTo (Qbv r) (Qbv r).length) rfl hcl (27+(encBody r).length)
 rw[←e] at hread
 have hn:leN ((encR r++l).take 2) 2=(encR r).length:=by
  rw[hlen,e,List.append_assoc,List.take_left' (Qaa _ _),Qdl _ 2 2 (Nat.le_refl _),Nat.mod_eq_of_lt (by omega)]
 have h1:¬(encR r++l).length<27:=by rw[List.length_append];omega
 have h2:(encR r).length≤(encR r++l).length:=by rw[List.length_append];omega
 have h3:(encR r++l).take (encR r).length=encR r:=List.take_left' rfl
 have h4:(encR r).length≠0:=by omega
 clear e
 unfold Qd1
 generalize encR r++l=Z at *
 generalize encR r=E at *
 generalize (leN (Z.take 2) 2)=m at *
 subst hn
 rw[if_neg h1,if_neg (by omega),h3,hread,Option.map_some]
theorem Qg1 {w:World} {τ:Tags} {bl bd:Nat} {L:LogM}(hl:LogAt w τ bl bd L) (hns:L.starts.length≤100000) {v:Value}{r:RecP}(hv:RecI w τ v r) (hmay:mayB r=true) (hsz:(encR r).length≤60000) (htab:r.kind=8→TabC r) (sp:Nat) (hsp:sp<18446744073709551616) (hcap:¬L.stream.length+(encR r).length+sp≤L.strips*127) :
 Calls Tryz.prog 37 #[.pointer (some ⟨bl,0,none⟩),v,.int .u64 (sp:Int)] w fun e w'=>e = .returned (.tuple #[.int .u64 0,.int .u16 80])∧∃τ',Step w τ w' τ' nil:=by
 have hbase:=hl.ok.base
 have hstr:=hl.ok.strips
 have hok:=hl.ok
 have hB:=hl.isB
 have hrB:=(by obtain⟨_,_,_,_,_,_,_,_,_,_,_,_,h1,h2,_⟩:=hv.is;exact Qsm h1.isB h2.isB:IsB (encR r))
 have hr27:0<(encR r).length:=by rw[Qbh r];omega
 obtain⟨qb,kb,qa,ka,qt,kt,qp,kp,gt,gp,n0,hve,-⟩:=hv.is
 have henc:=fun (W:World) (T:Tags) (m:Step w τ W T nil)=>Qiq (hv.step m) hmay hsz htab
 rw[hve] at henc ⊢
 clear hve hv hmay htab
 generalize hrl:(encR r).length=rl at *
 generalize encR r=rb at *
 obtain⟨kd,tx,pv,nx,⟨pg,sl,hd,hs,be,af⟩,ts,ps⟩:=r
 dsimp only at *
 generalize be.length=lb at *
 generalize af.length=la at *
 generalize ts.length=lt at *
 generalize ps.length=lp at *
 have hstr0:=(Step.refl w τ nil).alloc' (.cells #[.int .u8 (kd:Int),.int .u32 (tx:Int),.int .u64 (pv:Int),.int .u64 (nx:Int),.int .u32 (pg:Int),.int .u16 (sl:Int),.bool hd,.bool hs,.slice qb lb kb,.slice qa la ka,.slice qt lt kt,.slice qp lp kp] 58)
 have hl0:=hl.step hstr0 (fun _ _ h=>h)
 have henc:=henc _ _ hstr0
 obtain⟨Henc,Hstr0,Hl0,HB,Hrl,HrB,Hok⟩:=hid7 henc hstr0 hl0 hB hrl hrB hok
 clear henc hstr0 hl0 hB hrl hrB hok hl
 go_enter Tryz.func37,Tryz.ntmps37
 go_wp2_with fail
 generalize hW0:w.alloc (.cells #[.int .u8 (kd:Int),.int .u32 (tx:Int),.int .u64 (pv:Int),.int .u64 (nx:Int),.int .u32 (pg:Int),.int .u16 (sl:Int),.bool hd,.bool hs,.slice qb lb kb,.slice qa la ka,.slice qt lt kt,.slice qp lp kp] 58)=W0 at *
 refine Henc.out.mono ?_
 rintro e w1 ⟨u1,τ1,rfl,hnb1,hs1⟩
 have hl1:=Hl0.out.step hs1 (fun _ _ h=>h)
 have hst1:=Hstr0.out.trans hs1
 obtain⟨b1,cap1,ys1,rfl,-,-,-,-,-⟩:=hnb1.row (by rw[Hrl.out];omega)
 rw[Hrl.out] at hnb1 ⊢
 have hby1:=hnb1.bytes
 have hroom:=Qnj (hl1.step (Step.refl w1 τ1 nil).drew (fun _ _ h=>h))
 obtain⟨vs,vt,ho1,hs1s,hs1t⟩:=hl1.is
 obtain⟨ps,cs,rfl⟩:=hs1s.len
 obtain⟨pt,ct,rfl⟩:=hs1t.len
 have c7:=ho1.drew.at 7 (v:=.slice ps L.stream.length cs) rfl
 have hend:=Ql3 (hl1.step (Step.refl w1 τ1 nil).drew (fun _ _ h=>h))
 have hsum:L.base+L.stream.length=L.base+L.stream.length:=rfl
 generalize hen:L.base+L.stream.length=en at *
 generalize hR:L.strips*127=R at *
 have hR3:R≤300000:=by omega
 have hRw:=Qam R (by omega)
 have hRn:¬(R:Int)<0:=by omega
 have hokl:=Hok.out.stream
 obtain⟨Hst1,Hby1,Hroom,Ho1,Hs1s,Hs1t,Hend,HR,Hl1⟩:=hid9 hst1 hby1 hroom ho1 hs1s hs1t hend hR hl1
 clear hst1 hby1 hroom ho1 hs1s hs1t hend hR hl1 hsum hs1 hnb1
 generalize hsl:L.stream.length=sn at *
 go_wp2_with fail
 refine Qaf (S:=fun w':World=>w'.cell? ⟨bl,7,none⟩=some (.slice ps sn cs)) (by kernel_rfl) ?_
 have hSS:w1.drew.cell? ⟨bl,7,none⟩=some (.slice ps sn cs):=c7
 have hdR':IntKind.i64.wrap (R:Int)=(R:Int):=Qbr R (by omega)
 by_cases hsR:R<sp
 ·have hd1:decide ((R:Int)<(sp:Int))=true:=by simp;omega
  have hd1n:decide (R<sp)=true:=by simp;omega
  refine tk0 [0,1] ?_
  iterate 2
   refine tks (v:=?_) rfl (Or.inl ⟨by rfl,?_⟩) (by assumption) ?_
   rotate_left
   ·intro w hSw;(try dsimp only at hSw);go_simp
    all_goals with_reducible rfl
   try simp only[Act.put,lz1,lz2,lz3]
  refine tk9 ?_
  try simp only[lz4,lz5,lz6,lz1,lz2,lz3]
  refine tk1 2 rfl fun K hK=>?_
  go_simp
  go_at_call 55
  refine Hroom.out.mono ?_
  rintro e w2 ⟨rfl,rfl⟩
  refine hK.out _ _ (fun _=>c7) ?_
  clear hK K
  refine tk0 [3,4,5] ?_
  iterate 3
   refine tks (v:=?_) rfl (Or.inl ⟨by rfl,?_⟩) (by assumption) ?_
   rotate_left
   ·intro w hSw;(try dsimp only at hSw);go_simp
    all_goals with_reducible rfl
   try simp only[Act.put,lz1,lz2,lz3]
  refine tk9 ?_
  try simp only[lz4,lz5,lz6,lz1,lz2,lz3]
  refine tk0 [6,7,8,9] ?_
  iterate 4
   refine tks (v:=undef) rfl (Or.inr ⟨by rfl,rfl⟩) (by assumption) ?_
   try simp only[Act.put,lz1,lz2,lz3]
  refine tk9 ?_
  try simp only[lz4,lz5,lz6,lz1,lz2,lz3]
  refine tk0 [10,11,12,13] ?_
  iterate 4
   refine tks (v:=undef) rfl (Or.inr ⟨by rfl,rfl⟩) (by assumption) ?_
   try simp only[Act.put,lz1,lz2,lz3]
  refine tk9 ?_
  try simp only[lz4,lz5,lz6,lz1,lz2,lz3]
  refine tk0 [14,15,16,17] ?_
  iterate 4
   refine tks (v:=undef) rfl (Or.inr ⟨by rfl,rfl⟩) (by assumption) ?_
   try simp only[Act.put,lz1,lz2,lz3]
  refine tk9 ?_
  try simp only[lz4,lz5,lz6,lz1,lz2,lz3]
  refine tk0 [18,19] ?_
  iterate 2
   refine tks (v:=undef) rfl (Or.inr ⟨by rfl,rfl⟩) (by assumption) ?_
   try simp only[Act.put,lz1,lz2,lz3]
  refine tk9 ?_
  try simp only[lz4,lz5,lz6,lz1,lz2,lz3]
  refine tk (i:=20) (v:=?_) rfl (Or.inl ⟨by rfl,?_⟩) (by assumption) ?_
  rotate_left
  ·intro w hSw;(try dsimp only at hSw);go_simp
   all_goals with_reducible rfl
  try simp only[Act.put,lz1,lz2,lz3]
  refine Qad (by kernel_rfl) ?_ _
  go_wp2_with fail
  go_ret2
  exact⟨rfl,τ1,Hst1.out.drew⟩
 ·have hd1:decide ((R:Int)<(sp:Int))=false:=by simp;omega
  have hd1n:decide (R<sp)=false:=by simp;omega
  have hd0:IntKind.i64.wrap (sp:Int)=(sp:Int):=Qbr sp (by omega)
  have hdR:IntKind.i64.wrap ((R:Int)-(sp:Int))=(R:Int)-(sp:Int):=Qd6 (by omega) (by omega)
  have hd2:decide ((R:Int)-(sp:Int)<(sn:Int)+(rl:Int))=true:=by simp;omega
  have hd2n:(R:Int)-(sp:Int)<(sn:Int)+(rl:Int):=by omega
  have hd3:IntKind.i64.wrap ((sn:Int)+(rl:Int))=(sn:Int)+(rl:Int):=Qd6 (by omega) (by omega)
  refine tk0 [0,1] ?_
  iterate 2
   refine tks (v:=?_) rfl (Or.inl ⟨by rfl,?_⟩) (by assumption) ?_
   rotate_left
   ·intro w hSw;(try dsimp only at hSw);go_simp
    all_goals with_reducible rfl
   try simp only[Act.put,lz1,lz2,lz3]
  refine tk9 ?_
  try simp only[lz4,lz5,lz6,lz1,lz2,lz3]
  refine tk1 2 rfl fun K hK=>?_
  go_simp
  go_at_call 55
  refine Hroom.out.mono ?_
  rintro e w2 ⟨rfl,rfl⟩
  refine hK.out _ _ (fun _=>c7) ?_
  clear hK K
  refine tk0 [3,4,5] ?_
  iterate 3
   refine tks (v:=?_) rfl (Or.inl ⟨by rfl,?_⟩) (by assumption) ?_
   rotate_left
   ·intro w hSw;(try dsimp only at hSw);go_simp
    all_goals with_reducible rfl
   try simp only[Act.put,lz1,lz2,lz3]
  refine tk9 ?_
  try simp only[lz4,lz5,lz6,lz1,lz2,lz3]
  refine tk0 [6,7,8,9] ?_
  iterate 4
   refine tks (v:=?_) rfl (Or.inl ⟨by rfl,?_⟩) (by assumption) ?_
   rotate_left
   ·intro w hSw;(try dsimp only at hSw);go_simp
    all_goals with_reducible rfl
   try simp only[Act.put,lz1,lz2,lz3]
  refine tk9 ?_
  try simp only[lz4,lz5,lz6,lz1,lz2,lz3]
  refine tk0 [10,11,12,13] ?_
  iterate 4
   refine tks (v:=?_) rfl (Or.inl ⟨by rfl,?_⟩) (by assumption) ?_
   rotate_left
   ·intro w hSw;(try dsimp only at hSw);go_simp
    all_goals with_reducible rfl
   try simp only[Act.put,lz1,lz2,lz3]
  refine tk9 ?_
  try simp only[lz4,lz5,lz6,lz1,lz2,lz3]
  refine tk0 [14,16,17] ?_
  iterate 3
   refine tks (v:=?_) rfl (Or.inl ⟨by rfl,?_⟩) (by assumption) ?_
   rotate_left
   ·intro w hSw;(try dsimp only at hSw);go_simp
    all_goals with_reducible rfl
   try simp only[Act.put,lz1,lz2,lz3]
  refine tk9 ?_
  try simp only[lz4,lz5,lz6,lz1,lz2,lz3]
  refine tk1 15 rfl fun K hK=>?_
  go_simp
  go_at_call 55
  refine Hroom.out.mono ?_
  rintro e w2 ⟨rfl,rfl⟩
  refine hK.out _ _ (fun _=>c7) ?_
  clear hK K
  refine tk0 [18,19,20] ?_
  iterate 3
   refine tks (v:=?_) rfl (Or.inl ⟨by rfl,?_⟩) (by assumption) ?_
   rotate_left
   ·intro w hSw;(try dsimp only at hSw);go_simp
    all_goals with_reducible rfl
   try simp only[Act.put,lz1,lz2,lz3]
  refine tk9 ?_
  refine Qad (by kernel_rfl) ?_ _
  go_wp2_with fail
  go_ret2
  exact⟨rfl,τ1,Hst1.out.drew⟩
end Go.Proofs.YtjgacceifcnedaaGreat