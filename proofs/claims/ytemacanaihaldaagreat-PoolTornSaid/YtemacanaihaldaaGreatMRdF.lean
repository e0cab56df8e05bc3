/-
 Records: read.
-/
import Derived.Test.YtemacanaihaldaaGreatMRdC
import Derived.Test.YtemacanaihaldaaGreatMRdD
set_option maxRecDepth 100000
set_option maxHeartbeats 40000000
set_option linter.all false
namespace Go.Proofs.YtemacanaihaldaaGreat
variable {bi bx:Nat}{g:Tag}{u0 u1 u10 u11 u2 u3 u4 u5 u6 u7 u8 u9:Value}{w:World}{τ:Tags}
open Go.RowKit
structure RecP where
 kind:Nat
 txn:Nat
 prev:Nat
 next:Nat
 change:ChangeP
 txns:List TxnP
 pages:List (Nat×Nat)
def noChange:ChangeP:=⟨0,0,false,false,[],[]⟩
def mayB (r:RecP):Bool:=mayRB r.kind r.txns.length r.pages.length (mayCB (chgB r.kind) r.change.page r.change.slot r.change.had r.change.has r.change.before.length r.change.after.length) (Qdu r.txns)
def pBody (k:Nat) (l:List Int):Option ((ChangeP×List TxnP×List (Nat×Nat))×List Int) :=
 if chgB k=true then (Qd3 l).bind fun c=>some ((c.1,[],[]),c.2) else if k=8 then (Qdk l).bind fun t=>some ((noChange,t.1.1,t.1.2),t.2) else some ((noChange,[],[]),l)
def pRead (l:List Int):Option RecP :=
 (pTake 2 l).bind fun a=>(pNum 4 a.2).bind fun s=>if s.1≠crcTo s.2 s.2.length then none else (pNum 1 s.2).bind fun k=>(pNum 4 k.2).bind fun t=>(pNum 8 t.2).bind fun p=>(pNum 8 p.2).bind fun n=>(pBody k.1 n.2).bind fun x =>
   if 0<x.2.length∨mayB ⟨k.1,t.1,p.1,n.1,x.1.1,x.1.2.1,x.1.2.2⟩=false then none else some ⟨k.1,t.1,p.1,n.1,x.1.1,x.1.2.1,x.1.2.2⟩
def Qdj:Array Value:=#[.int .u8 0,.int .u32 0,.int .u64 0,.int .u64 0,.int .u32 0,.int .u16 0,.bool false,.bool false,.slice none 0 0,.slice none 0 0,.slice none 0 0,.slice none 0 0]
def Jcp (g:Tag):Prop:=g.1=198∨g.1=199∨g.1=200
theorem Qhc(h:RdTag g):Jcp g:=by unfold RdTag at h;subst h;exact .inl rfl
theorem Qna(h:Qbn g):Jcp g:=by
 rcases h with rfl|rfl|rfl|rfl
 ·exact .inl rfl
 ·exact .inr (.inr rfl)
 ·exact .inr (.inl rfl)
 ·exact .inr (.inl rfl)
theorem Qcd (g:Tag) (h:g=tRec∨g=tIs):Jcp g:=by
 rcases h with rfl|rfl
 ·exact .inr (.inr rfl)
 ·exact .inr (.inr rfl)
def RecV (w:World) (τ:Tags) (v:Value) (r:RecP):Prop:=∃vb va vt vp n0,v = .agg #[.int .u8 (r.kind:Int),.int .u32 (r.txn:Int),.int .u64 (r.prev:Int),.int .u64 (r.next:Int),.int .u32 (r.change.page:Int),.int .u16 (r.change.slot:Int),.bool r.change.had,.bool r.change.has,vb,va,vt,vp]∧OwnV w τ vb r.change.before∧OwnV w τ va r.change.after∧NS 75 4 Qct n0 w τ tTx vt r.txns∧NS 195 2 Qgn n0 w τ tPx vp r.pages
theorem Jby {t:TypeId}(h:Own w τ bx g t [u0,u1,u2,u3,u4,u5,u6,u7,u8,u9,u10,u11]) :
 w.cell? ⟨bx,0,none⟩=some u0∧w.frozen? ⟨bx,0,none⟩=false∧w.cell? ⟨bx,1,none⟩=some u1∧w.frozen? ⟨bx,1,none⟩=false∧w.cell? ⟨bx,2,none⟩=some u2∧w.frozen? ⟨bx,2,none⟩=false∧w.cell? ⟨bx,3,none⟩=some u3∧w.frozen? ⟨bx,3,none⟩=false∧w.cell? ⟨bx,4,none⟩=some u4∧w.frozen? ⟨bx,4,none⟩=false∧w.cell? ⟨bx,5,none⟩=some u5∧w.frozen? ⟨bx,5,none⟩=false∧w.cell? ⟨bx,6,none⟩=some u6∧w.frozen? ⟨bx,6,none⟩=false∧w.cell? ⟨bx,7,none⟩=some u7∧w.frozen? ⟨bx,7,none⟩=false∧w.cell? ⟨bx,8,none⟩=some u8∧w.frozen? ⟨bx,8,none⟩=false∧w.cell? ⟨bx,9,none⟩=some u9∧w.frozen? ⟨bx,9,none⟩=false∧w.cell? ⟨bx,10,none⟩=some u10∧w.frozen? ⟨bx,10,none⟩=false∧w.cell? ⟨bx,11,none⟩=some u11∧w.frozen? ⟨bx,11,none⟩=false:=by
 refine⟨h.at 0 rfl,h.fz 0,h.at 1 rfl,h.fz 1,h.at 2 rfl,h.fz 2,h.at 3 rfl,h.fz 3,h.at 4 rfl,h.fz 4,h.at 5 rfl,h.fz 5,h.at 6 rfl,h.fz 6,h.at 7 rfl,h.fz 7,h.at 8 rfl,h.fz 8,h.at 9 rfl,h.fz 9,h.at 10 rfl,h.fz 10,h.at 11 rfl,h.fz 11⟩
theorem put12 {r0:Value}(hx:Own w τ bx tRec 127 [u0,u1,u2,u3,u4,u5,u6,u7,u8,u9,u10,u11]) (hi:Own w τ bi tIs 4 [r0]) (v0 v1 v2 v3 v4 v5 v6 v7 v8 v9 v10 v11 r:Value) :
 Own (((((((((((((w.setCell ⟨bx,0,none⟩ v0).setCell ⟨bx,1,none⟩ v1).setCell ⟨bx,2,none⟩ v2).setCell ⟨bx,3,none⟩ v3).setCell ⟨bx,4,none⟩ v4).setCell ⟨bx,5,none⟩ v5).setCell ⟨bx,6,none⟩ v6).setCell ⟨bx,7,none⟩ v7).setCell ⟨bx,8,none⟩ v8).setCell ⟨bx,9,none⟩ v9).setCell ⟨bx,10,none⟩ v10).setCell ⟨bx,11,none⟩ v11).setCell ⟨bi,0,none⟩ r) τ bx tRec 127 [v0,v1,v2,v3,v4,v5,v6,v7,v8,v9,v10,v11]∧Own (((((((((((((w.setCell ⟨bx,0,none⟩ v0).setCell ⟨bx,1,none⟩ v1).setCell ⟨bx,2,none⟩ v2).setCell ⟨bx,3,none⟩ v3).setCell ⟨bx,4,none⟩ v4).setCell ⟨bx,5,none⟩ v5).setCell ⟨bx,6,none⟩ v6).setCell ⟨bx,7,none⟩ v7).setCell ⟨bx,8,none⟩ v8).setCell ⟨bx,9,none⟩ v9).setCell ⟨bx,10,none⟩ v10).setCell ⟨bx,11,none⟩ v11).setCell ⟨bi,0,none⟩ r) τ bi tIs 4 [r]∧Step w τ (((((((((((((w.setCell ⟨bx,0,none⟩ v0).setCell ⟨bx,1,none⟩ v1).setCell ⟨bx,2,none⟩ v2).setCell ⟨bx,3,none⟩ v3).setCell ⟨bx,4,none⟩ v4).setCell ⟨bx,5,none⟩ v5).setCell ⟨bx,6,none⟩ v6).setCell ⟨bx,7,none⟩ v7).setCell ⟨bx,8,none⟩ v8).setCell ⟨bx,9,none⟩ v9).setCell ⟨bx,10,none⟩ v10).setCell ⟨bx,11,none⟩ v11).setCell ⟨bi,0,none⟩ r) τ (fun t=>t=tRec∨t=tIs) :=
 ⟨((((((((((((hx.set 0 v0).set 1 v1).set 2 v2).set 3 v3).set 4 v4).set 5 v5).set 6 v6).set 7 v7).set 8 v8).set 9 v9).set 10 v10).set 11 v11).set_ne (p:=⟨bi,0,none⟩) (hx.ne hi (by decide)) r,(hi.step (((((((((((((Step.refl w τ (fun t=>t=tRec)).set (b:=bx) (o:=0) hx.tag rfl v0).set (b:=bx) (o:=1) hx.tag rfl v1).set (b:=bx) (o:=2) hx.tag rfl v2).set (b:=bx) (o:=3) hx.tag rfl v3).set (b:=bx) (o:=4) hx.tag rfl v4).set (b:=bx) (o:=5) hx.tag rfl v5).set (b:=bx) (o:=6) hx.tag rfl v6).set (b:=bx) (o:=7) hx.tag rfl v7).set (b:=bx) (o:=8) hx.tag rfl v8).set (b:=bx) (o:=9) hx.tag rfl v9).set (b:=bx) (o:=10) hx.tag rfl v10).set (b:=bx) (o:=11) hx.tag rfl v11) (by decide)).set 0 r,(((((((((((((Step.refl w τ (fun t=>t=tRec∨t=tIs)).set (b:=bx) (o:=0) hx.tag (.inl rfl) v0).set (b:=bx) (o:=1) hx.tag (.inl rfl) v1).set (b:=bx) (o:=2) hx.tag (.inl rfl) v2).set (b:=bx) (o:=3) hx.tag (.inl rfl) v3).set (b:=bx) (o:=4) hx.tag (.inl rfl) v4).set (b:=bx) (o:=5) hx.tag (.inl rfl) v5).set (b:=bx) (o:=6) hx.tag (.inl rfl) v6).set (b:=bx) (o:=7) hx.tag (.inl rfl) v7).set (b:=bx) (o:=8) hx.tag (.inl rfl) v8).set (b:=bx) (o:=9) hx.tag (.inl rfl) v9).set (b:=bx) (o:=10) hx.tag (.inl rfl) v10).set (b:=bx) (o:=11) hx.tag (.inl rfl) v11).set (b:=bi) (o:=0) hi.tag (.inr rfl) r⟩
theorem Qt5 {b0:Bool}(hx:Own w τ bx tRec 127 [u0,u1,u2,u3,u4,u5,u6,u7,u8,u9,u10,u11]) (hi:Own w τ bi tIs 4 [.bool b0]) (u:TypeId) (pv:Value) (older:List PanicEntry) :
 CallsD Tryz.prog 202 #[.pointer (some ⟨bx,0,none⟩),.pointer (some ⟨bi,0,none⟩)] (.panicking ({v:=.iface u pv,recovered:=false}::older)) w fun e u' w' =>
  e = .returned (.tuple #[])∧u' = .panicking ({v:=.iface u pv,recovered:=true}::older)∧Own w' τ bx tRec 127 [.int .u8 0,.int .u32 0,.int .u64 0,.int .u64 0,.int .u32 0,.int .u16 0,.bool false,.bool false,.slice none 0 0,.slice none 0 0,.slice none 0 0,.slice none 0 0]∧Own w' τ bi tIs 4 [.bool false]∧Step w τ w' τ (fun t=>t=tRec∨t=tIs):=by
 refine(Qwc hx hi u pv older).mono ?_
 rintro e u' w' ⟨rfl,rfl,rfl⟩
 obtain⟨h1,h2,h3⟩:=put12 hx hi (.int .u8 0) (.int .u32 0) (.int .u64 0) (.int .u64 0) (.int .u32 0) (.int .u16 0) (.bool false) (.bool false) (.slice none 0 0) (.slice none 0 0) (.slice none 0 0) (.slice none 0 0) (.bool false)
 exact⟨rfl,rfl,h1,h2,h3⟩
theorem Qc9 {T:Array Value} {W:World} {r:Bool} {R:Ending→World→Prop}(h2:T[2]?.getD undef = .pointer (some ⟨bx,0,none⟩)) (h3:T[3]?.getD undef = .pointer (some ⟨bi,0,none⟩)) (hx:Own W τ bx tRec 127 [u0,u1,u2,u3,u4,u5,u6,u7,u8,u9,u10,u11]) (hi:Own W τ bi tIs 4 [.bool r])
 (h:R (.returned (.tuple #[.agg #[u0,u1,u2,u3,u4,u5,u6,u7,u8,u9,u10,u11],.bool r])) W):Leaves Tryz.prog Tryz.f123 T R [] .returning W:=by
 obtain⟨c0,-,c1,-,c2,-,c3,-,c4,-,c5,-,c6,-,c7,-,c8,-,c9,-,c10,-,c11,-⟩:=Jby hx
 have ci:=hi.at 0 (v:=.bool r) rfl
 simp[Leaves,settle,results,Tryz.results123,go_sem,h2,h3,c0,c1,c2,c3,c4,c5,c6,c7,c8,c9,c10,c11,ci]
 exact h
theorem Qx3 {T:Array Value} {W:World} {r:Bool} {pv:Value} {R:Ending→World→Prop}(h2:T[2]?.getD undef = .pointer (some ⟨bx,0,none⟩)) (h3:T[3]?.getD undef = .pointer (some ⟨bi,0,none⟩)) (hx:Own W τ bx tRec 127 [u0,u1,u2,u3,u4,u5,u6,u7,u8,u9,u10,u11]) (hi:Own W τ bi tIs 4 [.bool r])
 (h:R (.returned (.tuple #[.agg #[u0,u1,u2,u3,u4,u5,u6,u7,u8,u9,u10,u11],.bool r])) W):Leaves Tryz.prog Tryz.f123 T R [] (settle (.panicking [{v:=pv,recovered:=true}])) W:=by
 obtain⟨c0,-,c1,-,c2,-,c3,-,c4,-,c5,-,c6,-,c7,-,c8,-,c9,-,c10,-,c11,-⟩:=Jby hx
 have ci:=hi.at 0 (v:=.bool r) rfl
 simp[Leaves,settle,results,Tryz.results123,go_sem,h2,h3,c0,c1,c2,c3,c4,c5,c6,c7,c8,c9,c10,c11,ci]
 exact h
def ReadR (w:World) (τ:Tags) (r:Option RecP) (e:Ending) (w':World):Prop :=
 ∃τ',Step w τ w' τ' Jcp∧((r=none∧e = .returned (.tuple #[.agg Qdj,.bool false]))∨∃x v,r=some x∧e = .returned (.tuple #[v,.bool true])∧RecV w' τ' v x)
theorem Jbz {T:Array Value} {W w1:World} {τ0 τ1:Tags} {b0:Bool} {l:List Int} {tb:TypeId} {fv:Fn} {cap dargs:Array Value} {S:Tag→Prop}(hx:Own w1 τ1 bx tRec 127 [u0,u1,u2,u3,u4,u5,u6,u7,u8,u9,u10,u11]) (hi:Own w1 τ1 bi tIs 4 [.bool b0]) (hst:Step w τ0 w1 τ1 Jcp) (hs:Step w1 τ1 W τ S)
 (hp:pRead l=none) (hS:∀t,S t→RdTag t:=by exact fun _ h=>h) (hiv:(invoke (.fn fv cap) dargs).run Tryz.prog W = .ok (.enter 202 #[.pointer (some ⟨bx,0,none⟩),.pointer (some ⟨bi,0,none⟩)]) W:=by simp[go_sem]) (h2:T[2]?.getD undef = .pointer (some ⟨bx,0,none⟩):=by rfl) (h3:T[3]?.getD undef = .pointer (some ⟨bi,0,none⟩):=by rfl) :
 Leaves Tryz.prog Tryz.f123 T (ReadR w τ0 (pRead l)) [{target:=.fn fv cap,args:=dargs}] (.panicking [{v:=.iface tb (.agg #[]),recovered:=false}]) W:=by
 refine leaves_cons (by simp) hiv ?_
 refine(Qt5 (hx.step hs (fun h=>by have:=hS _ h;revert this;unfold RdTag;decide)) (hi.step hs (fun h=>by have:=hS _ h;revert this;unfold RdTag;decide)) _ _ []).mono ?_
 rintro e u' w'' ⟨rfl,rfl,hxF,hiF,hsF⟩
 exact Qx3 h2 h3 hxF hiF ⟨τ,(hst.trans (hs.mono (T:=Jcp) (fun _ h=>Qhc (hS _ h)))).trans (hsF.mono (T:=Jcp) Qcd),.inl ⟨hp,rfl⟩⟩
theorem Qqo {b o c:Nat} {l:List Int}(h:LieAt w τ g b o c l) (hll:l.length≤1000000) (hg:¬Jcp g) (hg2:g≠tTwo) (hg3:g≠tOne) :
 Calls Tryz.prog 123 #[.slice (some ⟨b,o,none⟩) l.length c] w (ReadR w τ (pRead l)):=by
 have hmf:∀(fn:Fn) (first cap:Array Value) (w:World),(Instr.makeFunc fn first cap).run Tryz.prog w = .ok (.func fn first cap) w:=fun _ _ _ _=>rfl
 have hg1:g≠tRd:=fun e=>hg (by rw[e];exact .inl rfl)
 have hq:=(((Step.refl w τ nil).alloc (.cells Qdj 127) tRec).alloc (.cells #[.bool false] 4) tIs).alloc (.cells #[.slice (some ⟨b,o,none⟩) l.length c] 311) tRd
 have hx:=((Own.born w τ tRec 127 Qdj).step_new (.cells #[.bool false] 4) tIs).step_new (.cells #[.slice (some ⟨b,o,none⟩) l.length c] 311) tRd
 have hi:=(Own.born (w.alloc (.cells Qdj 127)) (τ.put w.heap.size tRec) tIs 4 #[.bool false]).step_new (.cells #[.slice (some ⟨b,o,none⟩) l.length c] 311) tRd
 have hr:=Own.born ((w.alloc (.cells Qdj 127)).alloc (.cells #[.bool false] 4)) ((τ.put w.heap.size tRec).put (w.alloc (.cells Qdj 127)).heap.size tIs) tRd 311 #[.slice (some ⟨b,o,none⟩) l.length c]
 have hl:=h.step hq (fun h=>h)
 have hB:=h.isB
 simp only[World.size_alloc] at hx hi hr hl hq
 obtain⟨bx,hbx⟩:∃bx,w.heap.size=bx:=⟨_,rfl⟩
 rw[hbx] at hx hi hr hl hq
 obtain⟨bi,hbi⟩:∃bi,bx+1=bi:=⟨_,rfl⟩
 rw[hbi] at hx hi hr hl hq
 obtain⟨br,hbr⟩:∃br,bi+1=br:=⟨_,rfl⟩
 rw[hbr] at hx hi hr hl hq
 generalize ((τ.put bx tRec).put bi tIs).put br tRd=τ0 at *
 unfold Qdj at hx hi hr hl hq
 obtain⟨w0,hw0⟩:∃w0,((w.alloc (.cells #[.int .u8 0,.int .u32 0,.int .u64 0,.int .u64 0,.int .u32 0,.int .u16 0,.bool false,.bool false,.slice none 0 0,.slice none 0 0,.slice none 0 0,.slice none 0 0] 127)).alloc (.cells #[.bool false] 4)).alloc (.cells #[.slice (some ⟨b,o,none⟩) l.length c] 311)=w0:=⟨_,rfl⟩
 rw[hw0] at hx hi hr hl hq
 have hrd:RdAt w0 τ0 br g l:=⟨b,o,c,hr,hl⟩
 have hst:=hq.mono (T:=Jcp) (fun _ h=>h.elim)
 have htk:=Qkp hrd hg1 2 (by omega)
 have HLL:=Lib.hid hll
 clear hll
 obtain⟨Htk,Hx,Hi,Hst,Hw0,Hbx,Hbi,Hbr,HB⟩:=hid9 htk hx hi hst hw0 hbx hbi hbr hB
 clear htk hx hi hst hw0 hbx hbi hbr hB hr hl hq hrd h
 go_enter_defers Tryz.func123,Tryz.ntmps123
 go_wp2_with fail
 rw[Hbx.out,Hbi.out,Hbr.out,Hw0.out]
 refine Htk.out.mono ?_
 rintro e w1 ⟨τ1,hs1,⟨hr,rfl⟩|⟨x1,l1,v,hr1,rfl,-,hrd1⟩⟩
 ·unfold Qav
  exact Jbz Hx.out Hi.out Hst.out hs1 (by unfold pRead;rw[hr];rfl)
 have HPT:=Lib.hid hr1
 have hx1:=Hx.out.step hs1 (by unfold RdTag;decide)
 have hi1:=Hi.out.step hs1 (by unfold RdTag;decide)
 have hst1:=Hst.out.trans (hs1.mono (T:=Jcp) (fun _ h=>Qhc h))
 have hn2:=Qar hrd1 hg1 4 (by omega) (by omega)
 have hB1:=hrd1.isB
 obtain⟨Hx1,Hi1,Hst1,Hn2,Hr1,HB1⟩:=hid6 hx1 hi1 hst1 hn2 hr1 hB1
 clear hx1 hi1 hst1 hn2 hr1 hB1 hs1 hrd1 Htk
 go_wp2_with fail
 refine Hn2.out.mono ?_
 rintro e w2 ⟨τ2,hs2,⟨hr,rfl⟩|⟨sm,l2,v,hr2,rfl,rfl,hrd2⟩⟩
 ·unfold Qav
  exact Jbz Hx1.out Hi1.out Hst1.out hs2 (by unfold pRead;rw[Hr1.out];simp only[Option.bind_some];rw[hr];rfl)
 have hx2:=Hx1.out.step hs2 (by unfold RdTag;decide)
 have hi2:=Hi1.out.step hs2 (by unfold RdTag;decide)
 have hst2:=Hst1.out.trans (hs2.mono (T:=Jcp) (fun _ h=>Qhc h))
 have hB2:=hrd2.isB
 obtain⟨b2,o2,c2,hor2,hl2⟩:=hrd2
 have hq3:=(Step.refl w2 τ2 nil).alloc (.cells #[.slice (some ⟨b2,o2,none⟩) l2.length c2] 37) tOne
 have hbs3:=Own.born w2 τ2 tOne 37 #[.slice (some ⟨b2,o2,none⟩) l2.length c2]
 have hor3:=hor2.step hq3 (fun h=>h)
 have hl3:=hl2.step hq3 (fun h=>h)
 have hx3:=hx2.step hq3 (fun h=>h)
 have hi3:=hi2.step hq3 (fun h=>h)
 have hst3:=hst2.trans (hq3.mono (T:=Jcp) (fun _ h=>h.elim))
 have d2:=hor2.at 0 (v:=.slice (some ⟨b2,o2,none⟩) l2.length c2) rfl
 have hcrc:=Qqe (hbs3.at 0 (v:=.slice (some ⟨b2,o2,none⟩) l2.length c2) rfl) hl3.bytes (by rw[(Qpf hr2).2.2,List.length_drop,(Qmu HPT.out).2.2.1,List.length_drop];have:=HLL.out;omega)
 have hcl:=Qh8 l2 l2.length
 obtain⟨ck,hck⟩:∃ck,crcTo l2 l2.length=ck:=⟨_,rfl⟩
 rw[hck] at hcrc hcl
 have hcw:IntKind.u64.wrap (ck:Int)=(ck:Int):=by
  have:IntKind.u64.wrap (ck:Int)=(ck:Int)%18446744073709551616:=by simp[IntKind.wrap,IntKind.bits,IntKind.signed]
  rw[this];omega
 have hrd3:RdAt (w2.alloc (.cells #[.slice (some ⟨b2,o2,none⟩) l2.length c2] 37)) (τ2.put w2.heap.size tOne) br g l2:=⟨b2,o2,c2,hor3,hl3⟩
 obtain⟨w3,hw3⟩:∃w3,w2.alloc (.cells #[.slice (some ⟨b2,o2,none⟩) l2.length c2] 37)=w3:=⟨_,rfl⟩
 rw[hw3] at hx3 hi3 hst3 hcrc hrd3
 generalize τ2.put w2.heap.size tOne=τ3 at *
 obtain⟨ln2,hln2⟩:∃n,l2.length=n:=⟨_,rfl⟩
 rw[hln2] at d2 hw3
 have hn4:=Qar hrd3 hg1 1 (by omega) (by omega)
 obtain⟨Hx3,Hi3,Hst3,Hcrc,Hr2,HB2,Hn4,Hw3,Hck,Hln2⟩:=hid10 hx3 hi3 hst3 hcrc hr2 hB2 hn4 hw3 hck hln2
 clear hx3 hi3 hst3 hcrc hr2 hB2 hn4 hw3 hck hln2 hs2 hx2 hi2 hst2 hor2 hl2 hq3 hbs3 hor3 hl3 hrd3 Hn2 Hx1 Hi1 Hst1
 go_wp2_with fail
 rw[Hw3.out]
 refine Hcrc.out.mono ?_
 rintro e w3' ⟨rfl,rfl⟩
 by_cases hsum:sm=ck
 rotate_left
 ·have hsI:¬(sm:Int)=(ck:Int):=by omega
  obtain⟨c0,f0,c1,f1,c2,f2,c3,f3,c4,f4,c5,f5,c6,f6,c7,f7,c8,f8,c9,f9,c10,f10,c11,f11⟩:=Jby Hx3.out
  have ci:=Hi3.out.at 0 (v:=.bool false) rfl
  have fi:=Hi3.out.fz 0
  have hne1:bx≠bi:=Hx3.out.ne Hi3.out (by decide)
  have hne2:bi≠bx:=fun e=>hne1 e.symm
  obtain⟨hxF,hiF,hsG⟩:=put12 Hx3.out Hi3.out (.int .u8 0) (.int .u32 0) (.int .u64 0) (.int .u64 0) (.int .u32 0) (.int .u16 0) (.bool false) (.bool false) (.slice none 0 0) (.slice none 0 0) (.slice none 0 0) (.slice none 0 0) (.bool false)
  have hsF:=Hst3.out.trans (hsG.mono (T:=Jcp) Qcd)
  clear hsG
  obtain⟨HxF,HiF,HsF⟩:=hid3 hxF hiF hsF
  clear hxF hiF hsF
  go_wp2_with fail
  refine leaves_cons (f := 202) (args:=#[.pointer (some ⟨bx,0,none⟩),.pointer (some ⟨bi,0,none⟩)]) (by simp) (by simp[go_sem]) ?_
  refine(Qbs _ bx bi).mono ?_
  rintro e u' w'' ⟨rfl,rfl,rfl⟩
  exact Qc9 rfl rfl HxF.out HiF.out ⟨τ3,HsF.out,.inl ⟨by unfold pRead;rw[Hr1.out];simp only[Option.bind_some];rw[Hr2.out];simp only[Option.bind_some];rw[if_pos (by rw[Hck.out];exact hsum)],rfl⟩⟩
 subst hsum
 go_wp2_with fail
 refine Hn4.out.mono ?_
 rintro e w4 ⟨τ4,hs4,⟨hr,rfl⟩|⟨kd,l4,v,hr4,rfl,rfl,hrd4⟩⟩
 ·unfold Qav
  exact Jbz Hx3.out Hi3.out Hst3.out hs4 (by unfold pRead;rw[Hr1.out];simp only[Option.bind_some];rw[Hr2.out];simp only[Option.bind_some];rw[if_neg (by rw[Hck.out];simp)];rw[hr];rfl)
 have hp4:=Qcb hr4 HB2.out
 rw[show (2:Nat) ^ (8*1)=256 from by decide] at hp4
 have hw4:IntKind.u8.wrap (kd:Int)=(kd:Int):=Qrv kd hp4
 have hx4:=Hx3.out.step hs4 (by unfold RdTag;decide)
 have hi4:=Hi3.out.step hs4 (by unfold RdTag;decide)
 have hst4:=Hst3.out.trans (hs4.mono (T:=Jcp) (fun _ h=>Qhc h))
 have hB4:=hrd4.isB
 have hn5:=Qar hrd4 hg1 4 (by omega) (by omega)
 obtain⟨Hx4,Hi4,Hst4,Hr4,HB4,Hn5⟩:=hid6 hx4 hi4 hst4 hr4 hB4 hn5
 clear hx4 hi4 hst4 hr4 hB4 hn5 hs4 hrd4 Hx3 Hi3 Hst3
 go_wp2_with fail
 refine Hn5.out.mono ?_
 rintro e w5 ⟨τ5,hs5,⟨hr,rfl⟩|⟨tx,l5,v,hr5,rfl,rfl,hrd5⟩⟩
 ·unfold Qav
  exact Jbz Hx4.out Hi4.out Hst4.out hs5 (by unfold pRead;rw[Hr1.out];simp only[Option.bind_some];rw[Hr2.out];simp only[Option.bind_some];rw[if_neg (by rw[Hck.out];simp)];rw[Hr4.out];simp only[Option.bind_some];rw[hr];rfl)
 have hp5:=Qcb hr5 HB4.out
 rw[show (2:Nat) ^ (8*4)=4294967296 from by decide] at hp5
 have hw5:IntKind.u32.wrap (tx:Int)=(tx:Int):=Qb1 tx hp5
 have hx5:=Hx4.out.step hs5 (by unfold RdTag;decide)
 have hi5:=Hi4.out.step hs5 (by unfold RdTag;decide)
 have hst5:=Hst4.out.trans (hs5.mono (T:=Jcp) (fun _ h=>Qhc h))
 have hB5:=hrd5.isB
 have hn6:=Qar hrd5 hg1 8 (by omega) (by omega)
 obtain⟨Hx5,Hi5,Hst5,Hr5,HB5,Hn6⟩:=hid6 hx5 hi5 hst5 hr5 hB5 hn6
 clear hx5 hi5 hst5 hr5 hB5 hn6 hs5 hrd5 Hx4 Hi4 Hst4
 go_wp2_with fail
 refine Hn6.out.mono ?_
 rintro e w6 ⟨τ6,hs6,⟨hr,rfl⟩|⟨pv,l6,v,hr6,rfl,rfl,hrd6⟩⟩
 ·unfold Qav
  exact Jbz Hx5.out Hi5.out Hst5.out hs6 (by unfold pRead;rw[Hr1.out];simp only[Option.bind_some];rw[Hr2.out];simp only[Option.bind_some];rw[if_neg (by rw[Hck.out];simp)];rw[Hr4.out];simp only[Option.bind_some];rw[Hr5.out];simp only[Option.bind_some];rw[hr];rfl)
 have hp6:=Qcb hr6 HB5.out
 rw[show (2:Nat) ^ (8*8)=18446744073709551616 from by decide] at hp6
 have hx6:=Hx5.out.step hs6 (by unfold RdTag;decide)
 have hi6:=Hi5.out.step hs6 (by unfold RdTag;decide)
 have hst6:=Hst5.out.trans (hs6.mono (T:=Jcp) (fun _ h=>Qhc h))
 have hB6:=hrd6.isB
 have hn7:=Qar hrd6 hg1 8 (by omega) (by omega)
 obtain⟨Hx6,Hi6,Hst6,Hr6,HB6,Hn7⟩:=hid6 hx6 hi6 hst6 hr6 hB6 hn7
 clear hx6 hi6 hst6 hr6 hB6 hn7 hs6 hrd6 Hx5 Hi5 Hst5
 go_wp2_with fail
 refine Hn7.out.mono ?_
 rintro e w7 ⟨τ7,hs7,⟨hr,rfl⟩|⟨nx,l7,v,hr7,rfl,rfl,hrd7⟩⟩
 ·unfold Qav
  exact Jbz Hx6.out Hi6.out Hst6.out hs7 (by unfold pRead;rw[Hr1.out];simp only[Option.bind_some];rw[Hr2.out];simp only[Option.bind_some];rw[if_neg (by rw[Hck.out];simp)];rw[Hr4.out];simp only[Option.bind_some];rw[Hr5.out];simp only[Option.bind_some];rw[Hr6.out];simp only[Option.bind_some];rw[hr];rfl)
 have hp7:=Qcb hr7 HB6.out
 rw[show (2:Nat) ^ (8*8)=18446744073709551616 from by decide] at hp7
 have hx7:=Hx6.out.step hs7 (by unfold RdTag;decide)
 have hi7:=Hi6.out.step hs7 (by unfold RdTag;decide)
 have hst7:=Hst6.out.trans (hs7.mono (T:=Jcp) (fun _ h=>Qhc h))
 have hB7:=hrd7.isB
 obtain⟨c0,f0,c1,f1,c2,f2,c3,f3,c4,f4,c5,f5,c6,f6,c7,f7,c8,f8,c9,f9,c10,f10,c11,f11⟩:=Jby hx7
 have hq8:=(((((((((((((Step.refl w7 τ7 (fun t=>t=tRec)).set (b:=bx) (o:=0) hx7.tag rfl (.int .u8 (kd:Int))).set (b:=bx) (o:=1) hx7.tag rfl (.int .u32 (tx:Int))).set (b:=bx) (o:=2) hx7.tag rfl (.int .u64 (pv:Int))).set (b:=bx) (o:=3) hx7.tag rfl (.int .u64 (nx:Int))).set (b:=bx) (o:=4) hx7.tag rfl (.int .u32 0)).set (b:=bx) (o:=5) hx7.tag rfl (.int .u16 0)).set (b:=bx) (o:=6) hx7.tag rfl (.bool false)).set (b:=bx) (o:=7) hx7.tag rfl (.bool false)).set (b:=bx) (o:=8) hx7.tag rfl (.slice none 0 0)).set (b:=bx) (o:=9) hx7.tag rfl (.slice none 0 0)).set (b:=bx) (o:=10) hx7.tag rfl (.slice none 0 0)).set (b:=bx) (o:=11) hx7.tag rfl (.slice none 0 0))
 have hx8:=((((((((((((hx7.set 0 (.int .u8 (kd:Int))).set 1 (.int .u32 (tx:Int))).set 2 (.int .u64 (pv:Int))).set 3 (.int .u64 (nx:Int))).set 4 (.int .u32 0)).set 5 (.int .u16 0)).set 6 (.bool false)).set 7 (.bool false)).set 8 (.slice none 0 0)).set 9 (.slice none 0 0)).set 10 (.slice none 0 0)).set 11 (.slice none 0 0))
 have hi8:=hi7.step hq8 (by decide)
 have hst8:=hst7.trans (hq8.mono (T:=Jcp) (fun g h=>Qcd g (.inl h)))
 have hrd8:=hrd7.step hq8 (by decide) (fun h=>hg (Qcd g (.inl h)))
 obtain⟨w8,hw8⟩:∃w8,((((((((((((w7.setCell ⟨bx,0,none⟩ (.int .u8 (kd:Int))).setCell ⟨bx,1,none⟩ (.int .u32 (tx:Int))).setCell ⟨bx,2,none⟩ (.int .u64 (pv:Int))).setCell ⟨bx,3,none⟩ (.int .u64 (nx:Int))).setCell ⟨bx,4,none⟩ (.int .u32 0)).setCell ⟨bx,5,none⟩ (.int .u16 0)).setCell ⟨bx,6,none⟩ (.bool false)).setCell ⟨bx,7,none⟩ (.bool false)).setCell ⟨bx,8,none⟩ (.slice none 0 0)).setCell ⟨bx,9,none⟩ (.slice none 0 0)).setCell ⟨bx,10,none⟩ (.slice none 0 0)).setCell ⟨bx,11,none⟩ (.slice none 0 0))=w8:=⟨_,rfl⟩
 rw[hw8] at hx8 hi8 hst8 hrd8
 replace hx8:Own w8 τ7 bx tRec 127 [.int .u8 (kd:Int),.int .u32 (tx:Int),.int .u64 (pv:Int),.int .u64 (nx:Int),.int .u32 0,.int .u16 0,.bool false,.bool false,.slice none 0 0,.slice none 0 0,.slice none 0 0,.slice none 0 0]:=hx8
 have hchg:=Qhk w8 τ7 kd tx pv nx 0 0 false false none none none none 0 0 0 0 0 0 0 0
 obtain⟨Hx8,Hi8,Hst8,Hrd8,Hw8,Hchg,Hr7,HB7⟩:=hid8 hx8 hi8 hst8 hrd8 hw8 hchg hr7 hB7
 clear hx8 hi8 hst8 hrd8 hw8 hchg hr7 hB7 hs7 hx7 hi7 hst7 hrd7 hq8 Hx6 Hi6 Hst6
 go_wp2_with fail
 rw[Hw8.out]
 refine Hchg.out.mono ?_
 rintro e w9 ⟨rfl,hs9⟩
 have hx9:=Hx8.out.step hs9 (fun h=>h)
 have hi9:=Hi8.out.step hs9 (fun h=>h)
 have hst9:=Hst8.out.trans (hs9.mono (T:=Jcp) (fun _ h=>h.elim))
 have hrd9:=Hrd8.out.step hs9 (fun h=>h) (fun h=>h)
 clear hs9 Hx8 Hi8 Hst8 Hrd8 Hchg Hw8 c0 f0 c1 f1 c2 f2 c3 f3 c4 f4 c5 f5 c6 f6 c7 f7 c8 f8 c9 f9 c10 f10 c11 f11
 have h3:chgB kd=true∨(chgB kd=false∧kd=8)∨(chgB kd=false∧¬kd=8):=by
  cases chgB kd with
  | true=>exact .inl rfl
  | false=>exact .inr (by by_cases h:kd=8;exact .inl ⟨rfl,h⟩;exact .inr ⟨rfl,h⟩)
 rcases h3 with h3|⟨h3,h8⟩|⟨h3,h8⟩
 ·rw[h3]
  have hcall:=Qqp hrd9 hg1 hg2 hg3
  obtain⟨Hx9,Hi9,Hst9,H3⟩:=hid4 hx9 hi9 hst9 h3
  have Hcall:=Lib.hid hcall
  clear hcall hx9 hi9 hst9 hrd9 h3
  go_wp2_with fail
  refine Hcall.out.mono ?_
  rintro e wA ⟨τA,hsA,⟨hr,rfl⟩|⟨⟨pg,sl,hd,hs,bf,af⟩,lA,v,hrA,rfl,⟨vb,va,rfl,hpgC,hslC,⟨pb,cb,rfl,hbb⟩,⟨pa,ca,rfl,hba⟩⟩,hrdA⟩⟩
  ·unfold Qav
   exact Jbz Hx9.out Hi9.out Hst9.out hsA (by unfold pRead;rw[Hr1.out];simp only[Option.bind_some];rw[Hr2.out];simp only[Option.bind_some];rw[if_neg (by rw[Hck.out];simp)];rw[Hr4.out];simp only[Option.bind_some];rw[Hr5.out];simp only[Option.bind_some];rw[Hr6.out];simp only[Option.bind_some];rw[Hr7.out];simp only[Option.bind_some];rw[show pBody kd l7=none by unfold pBody;rw[if_pos H3.out,hr];rfl];rfl)
  simp only at hbb hba hpgC hslC
  have hxA:=Hx9.out.step hsA (by unfold RdTag;decide)
  have hiA:=Hi9.out.step hsA (by unfold RdTag;decide)
  have hstA:=Hst9.out.trans (hsA.mono (T:=Jcp) (fun _ h=>Qhc h))
  obtain⟨c0,f0,c1,f1,c2,f2,c3,f3,c4,f4,c5,f5,c6,f6,c7,f7,c8,f8,c9,f9,c10,f10,c11,f11⟩:=Jby hxA
  have hqB:=(((((((Step.refl wA τA (fun t=>t=tRec)).set (b:=bx) (o:=4) hxA.tag rfl (.int .u32 (pg:Int))).set (b:=bx) (o:=5) hxA.tag rfl (.int .u16 (sl:Int))).set (b:=bx) (o:=6) hxA.tag rfl (.bool hd)).set (b:=bx) (o:=7) hxA.tag rfl (.bool hs)).set (b:=bx) (o:=8) hxA.tag rfl (.slice pb bf.length cb)).set (b:=bx) (o:=9) hxA.tag rfl (.slice pa af.length ca))
  have hxB:=((((((hxA.set 4 (.int .u32 (pg:Int))).set 5 (.int .u16 (sl:Int))).set 6 (.bool hd)).set 7 (.bool hs)).set 8 (.slice pb bf.length cb)).set 9 (.slice pa af.length ca))
  have hiB:=hiA.step hqB (by decide)
  have hstB:=hstA.trans (hqB.mono (T:=Jcp) (fun g h=>Qcd g (.inl h)))
  have hrdB:=hrdA.step hqB (by decide) (fun h=>hg (Qcd g (.inl h)))
  have hvb:OwnV _ τA (.slice pb bf.length cb) bf:=⟨pb,cb,rfl,hbb.step hqB (by decide)⟩
  have hva:OwnV _ τA (.slice pa af.length ca) af:=⟨pa,ca,rfl,hba.step hqB (by decide)⟩
  obtain⟨wB,hwB⟩:∃wB,((((((wA.setCell ⟨bx,4,none⟩ (.int .u32 (pg:Int))).setCell ⟨bx,5,none⟩ (.int .u16 (sl:Int))).setCell ⟨bx,6,none⟩ (.bool hd)).setCell ⟨bx,7,none⟩ (.bool hs)).setCell ⟨bx,8,none⟩ (.slice pb bf.length cb)).setCell ⟨bx,9,none⟩ (.slice pa af.length ca))=wB:=⟨_,rfl⟩
  rw[hwB] at hxB hiB hstB hrdB hvb hva
  have hvt:=NS.nil 75 4 Qct 0 wB τA tTx
  have hvp:=NS.nil 195 2 Qgn 0 wB τA tPx
  have hbody:pBody kd l7=some ((⟨pg,sl,hd,hs,bf,af⟩,[],[]),lA):=by unfold pBody;rw[if_pos H3.out,hrA];rfl
  have hntB:([]:List TxnP).length=0:=rfl
  obtain⟨τB,hτB⟩:∃τB,τA=τB:=⟨_,rfl⟩
  rw[hτB] at hxB hiB hstB hrdB hvb hva hvt hvp
  obtain⟨nb,hnb⟩:∃n,bf.length=n:=⟨_,rfl⟩
  obtain⟨na,hna⟩:∃n,af.length=n:=⟨_,rfl⟩
  rw[hnb] at hxB hvb hwB ⊢
  rw[hna] at hxB hva hwB ⊢
  obtain⟨b3,o3,c3,horA,-⟩:=hrdA
  have d3:=horA.at 0 (v:=.slice (some ⟨b3,o3,none⟩) lA.length c3) rfl
  have hne5:bx≠br:=hxA.ne horA (by decide)
  have hne6:br≠bx:=fun e=>hne5 e.symm
  have ci:=hiA.at 0 (v:=.bool false) rfl
  have fi:=hiA.fz 0
  replace hxB:Own wB τB bx tRec 127 [.int .u8 (kd:Int),.int .u32 (tx:Int),.int .u64 (pv:Int),.int .u64 (nx:Int),.int .u32 (pg:Int),.int .u16 (sl:Int),.bool hd,.bool hs,.slice pb nb cb,.slice pa na ca,.slice none 0 0,.slice none 0 0]:=hxB
  obtain⟨HNB,HNA⟩:=hid2 hnb hna;clear hnb hna
  obtain⟨HxB,HiB,HstB,HwB⟩:=hid4 hxB hiB hstB hwB
  clear hxB hiB hstB hwB
  have hrdB':=hrdB
  clear hsA hxA hiA hstA hqB horA hrdB hbb hba Hcall Hx9 Hi9 Hst9
  go_upto_region 12 with fail
  rw[HwB.out]
  clear d3 ci fi hne5 hne6 HwB c0 f0 c1 f1 c2 f2 c3 f3 c4 f4 c5 f5 c6 f6 c7 f7 c8 f8 c9 f9 c10 f10 c11 f11
  have hvb:=hvb;have hrdB:=hrdB'
  obtain⟨b3,o3,c3,horB,-⟩:=hrdB
  have d3:=horB.at 0 (v:=.slice (some ⟨b3,o3,none⟩) lA.length c3) rfl
  clear horB
  obtain⟨ln,hln⟩:∃n,lA.length=n:=⟨_,rfl⟩
  rw[hln] at d3
  have hmay:=Qn4 (w:=wB) (τ:=τB) kd tx pv nx pg sl hd hs pb pa none none nb cb na ca 0 0 0 0 hntB hvt
  obtain⟨mb,hmb⟩:∃m,mayB ⟨kd,tx,pv,nx,⟨pg,sl,hd,hs,bf,af⟩,[],[]⟩=m:=⟨_,rfl⟩
  have hmb':=hmb
  unfold mayB at hmb'
  try simp only at hmb'
  simp only[HNB.out,HNA.out,List.length_nil] at hmb'
  rw[hmb'] at hmay
  obtain⟨Hvb,Hva,Hvt,Hvp,Hbody,Hln,Hmay,Hmb⟩:=hid8 hvb hva hvt hvp hbody hln hmay hmb
  clear hvb hva hvt hvp hbody hln hmay hmb hmb'
  obtain⟨c0,f0,c1,f1,c2,f2,c3,f3,c4,f4,c5,f5,c6,f6,c7,f7,c8,f8,c9,f9,c10,f10,c11,f11⟩:=Jby HxB.out
  by_cases h0:0<ln
  ·have i0:(0:Int)<(ln:Int):=by omega
   have ci:=HiB.out.at 0 (v:=.bool false) rfl
   have fi:=HiB.out.fz 0
   have hne1:bx≠bi:=HxB.out.ne HiB.out (by decide)
   have hne2:bi≠bx:=fun e=>hne1 e.symm
   obtain⟨hxF,hiF,hsG⟩:=put12 HxB.out HiB.out (.int .u8 0) (.int .u32 0) (.int .u64 0) (.int .u64 0) (.int .u32 0) (.int .u16 0) (.bool false) (.bool false) (.slice none 0 0) (.slice none 0 0) (.slice none 0 0) (.slice none 0 0) (.bool false)
   have hsF:=HstB.out.trans (hsG.mono (T:=Jcp) Qcd)
   obtain⟨HxF,HiF,HsF,HsG⟩:=hid4 hxF hiF hsF hsG
   clear hxF hiF hsF hsG
   go_wp2_with fail
   refine leaves_cons (f := 202) (args:=#[.pointer (some ⟨bx,0,none⟩),.pointer (some ⟨bi,0,none⟩)]) (by simp) (by simp[go_sem]) ?_
   refine(Qbs _ bx bi).mono ?_
   rintro e u' w'' ⟨rfl,rfl,rfl⟩
   exact Qc9 rfl rfl HxF.out HiF.out ⟨τB,HsF.out,.inl ⟨by unfold pRead;rw[Hr1.out];simp only[Option.bind_some];rw[Hr2.out];simp only[Option.bind_some];rw[if_neg (by rw[Hck.out];simp)];rw[Hr4.out];simp only[Option.bind_some];rw[Hr5.out];simp only[Option.bind_some];rw[Hr6.out];simp only[Option.bind_some];rw[Hr7.out];simp only[Option.bind_some];rw[Hbody.out];simp only[Option.bind_some];rw[if_pos (.inl (by rw[Hln.out];exact h0))],rfl⟩⟩
  have i0:¬(0:Int)<(ln:Int):=by omega
  go_wp2_with fail
  refine Hmay.out.mono ?_
  rintro e wC ⟨rfl,hsC⟩
  have hxC:=HxB.out.step hsC (fun h=>h)
  have hiC:=HiB.out.step hsC (fun h=>h)
  have hstC:=HstB.out.trans (hsC.mono (T:=Jcp) (fun _ h=>h.elim))
  have hvbC:=Hvb.out.step hsC (fun h=>h)
  have hvaC:=Hva.out.step hsC (fun h=>h)
  have hvtC:=Hvt.out.step hsC (fun h=>h)
  have hvpC:=Hvp.out.step hsC (fun h=>h)
  obtain⟨HxC,HiC,HstC,HvbC,HvaC,HvtC,HvpC⟩:=hid7 hxC hiC hstC hvbC hvaC hvtC hvpC
  clear hxC hiC hstC hvbC hvaC hvtC hvpC hsC c0 f0 c1 f1 c2 f2 c3 f3 c4 f4 c5 f5 c6 f6 c7 f7 c8 f8 c9 f9 c10 f10 c11 f11
  obtain⟨c0,f0,c1,f1,c2,f2,c3,f3,c4,f4,c5,f5,c6,f6,c7,f7,c8,f8,c9,f9,c10,f10,c11,f11⟩:=Jby HxC.out
  cases mb with
  | false =>
    have ci:=HiC.out.at 0 (v:=.bool false) rfl
    have fi:=HiC.out.fz 0
    have hne1:bx≠bi:=HxC.out.ne HiC.out (by decide)
    have hne2:bi≠bx:=fun e=>hne1 e.symm
    obtain⟨hxF,hiF,hsG⟩:=put12 HxC.out HiC.out (.int .u8 0) (.int .u32 0) (.int .u64 0) (.int .u64 0) (.int .u32 0) (.int .u16 0) (.bool false) (.bool false) (.slice none 0 0) (.slice none 0 0) (.slice none 0 0) (.slice none 0 0) (.bool false)
    have hsF:=HstC.out.trans (hsG.mono (T:=Jcp) Qcd)
    obtain⟨HxF,HiF,HsF,HsG⟩:=hid4 hxF hiF hsF hsG
    clear hxF hiF hsF hsG
    go_wp2_with fail
    refine leaves_cons (f := 202) (args:=#[.pointer (some ⟨bx,0,none⟩),.pointer (some ⟨bi,0,none⟩)]) (by simp) (by simp[go_sem]) ?_
    refine(Qbs _ bx bi).mono ?_
    rintro e u' w'' ⟨rfl,rfl,rfl⟩
    exact Qc9 rfl rfl HxF.out HiF.out ⟨τB,HsF.out,.inl ⟨by unfold pRead;rw[Hr1.out];simp only[Option.bind_some];rw[Hr2.out];simp only[Option.bind_some];rw[if_neg (by rw[Hck.out];simp)];rw[Hr4.out];simp only[Option.bind_some];rw[Hr5.out];simp only[Option.bind_some];rw[Hr6.out];simp only[Option.bind_some];rw[Hr7.out];simp only[Option.bind_some];rw[Hbody.out];simp only[Option.bind_some];rw[if_pos (.inr Hmb.out)],rfl⟩⟩
  | true =>
    have ci:=HiC.out.at 0 (v:=.bool false) rfl
    have fi:=HiC.out.fz 0
    have hne1:bx≠bi:=HxC.out.ne HiC.out (by decide)
    have hne2:bi≠bx:=fun e=>hne1 e.symm
    obtain⟨hxF,hiF,hsG⟩:=put12 HxC.out HiC.out (.int .u8 (kd:Int)) (.int .u32 (tx:Int)) (.int .u64 (pv:Int)) (.int .u64 (nx:Int)) (.int .u32 (pg:Int)) (.int .u16 (sl:Int)) (.bool hd) (.bool hs) (.slice pb nb cb) (.slice pa na ca) (.slice none 0 0) (.slice none 0 0) (.bool true)
    have hsF:=HstC.out.trans (hsG.mono (T:=Jcp) Qcd)
    obtain⟨HxF,HiF,HsF,HsG⟩:=hid4 hxF hiF hsF hsG
    clear hxF hiF hsF hsG
    go_wp2_with fail
    refine leaves_cons (f := 202) (args:=#[.pointer (some ⟨bx,0,none⟩),.pointer (some ⟨bi,0,none⟩)]) (by simp) (by simp[go_sem]) ?_
    refine(Qbs _ bx bi).mono ?_
    rintro e u' w'' ⟨rfl,rfl,rfl⟩
    exact Qc9 rfl rfl HxF.out HiF.out ⟨τB,HsF.out,.inr ⟨_,_,by unfold pRead;rw[Hr1.out];simp only[Option.bind_some];rw[Hr2.out];simp only[Option.bind_some];rw[if_neg (by rw[Hck.out];simp)];rw[Hr4.out];simp only[Option.bind_some];rw[Hr5.out];simp only[Option.bind_some];rw[Hr6.out];simp only[Option.bind_some];rw[Hr7.out];simp only[Option.bind_some];rw[Hbody.out];simp only[Option.bind_some];rw[if_neg (by rw[Hln.out,Hmb.out];rintro(h|h);exact h0 h;cases h)],rfl,_,_,_,_,_,rfl,HvbC.out.step HsG.out (by decide),HvaC.out.step HsG.out (by decide),HvtC.out.step HsG.out (by decide),HvpC.out.step HsG.out (by decide)⟩⟩
 ·rw[h3]
  subst h8
  obtain⟨nx0,hnx0⟩:∃n,n=nx:=⟨nx,rfl⟩
  have hcall:=Qql hrd9 hg1 (fun h=>hg (Qna h)) hx9 rfl rfl rfl
  obtain⟨Hx9,Hi9,Hst9,H3⟩:=hid4 hx9 hi9 hst9 h3
  have c0:=hx9.at 0 (v:=.int .u8 ((8:Nat):Int)) rfl
  have Hcall:=Lib.hid hcall
  clear hcall hx9 hi9 hst9 hrd9 h3
  go_wp2_with fail
  refine Hcall.out.mono ?_
  rintro e wA ⟨τA,vt,vp,hsA,hxA,⟨hr,rfl⟩|⟨tl,dl,lA,hrA,rfl,hvt,hvp,hrdA⟩⟩
  ·have hiA:=Hi9.out.step hsA (by unfold Qbn;decide)
   replace hxA:Own wA τA bx tRec 127 [.int .u8 ((8:Nat):Int),.int .u32 (tx:Int),.int .u64 (pv:Int),.int .u64 (nx:Int),.int .u32 0,.int .u16 0,.bool false,.bool false,.slice none 0 0,.slice none 0 0,vt,vp]:=hxA
   have hstA:=Hst9.out.trans (hsA.mono (T:=Jcp) (fun _ h=>Qna h))
   unfold Qav
   refine leaves_cons (f := 202) (args:=#[.pointer (some ⟨bx,0,none⟩),.pointer (some ⟨bi,0,none⟩)]) (by simp) (by simp[go_sem]) ?_
   refine(Qt5 hxA hiA _ _ []).mono ?_
   rintro e u' w'' ⟨rfl,rfl,hxF,hiF,hsF⟩
   exact Qx3 rfl rfl hxF hiF ⟨τA,hstA.trans (hsF.mono (T:=Jcp) Qcd),.inl ⟨by unfold pRead;rw[Hr1.out];simp only[Option.bind_some];rw[Hr2.out];simp only[Option.bind_some];rw[if_neg (by rw[Hck.out];simp)];rw[Hr4.out];simp only[Option.bind_some];rw[Hr5.out];simp only[Option.bind_some];rw[Hr6.out];simp only[Option.bind_some];rw[Hr7.out];simp only[Option.bind_some];rw[show pBody 8 l7=none by unfold pBody;rw[if_neg (by decide),if_pos rfl,hr];rfl];rfl,rfl⟩⟩
  obtain⟨pt,ct,rfl⟩:=hvt.val
  obtain⟨pp,cp,rfl⟩:=hvp.val
  have hiB:=Hi9.out.step hsA (by unfold Qbn;decide)
  have hxB:Own wA τA bx tRec 127 [.int .u8 ((8:Nat):Int),.int .u32 (tx:Int),.int .u64 (pv:Int),.int .u64 (nx:Int),.int .u32 0,.int .u16 0,.bool false,.bool false,.slice none 0 0,.slice none 0 0,.slice pt tl.length ct,.slice pp dl.length cp]:=hxA
  have hstB:=Hst9.out.trans (hsA.mono (T:=Jcp) (fun _ h=>Qna h))
  have hrdB:=hrdA
  have hvb:OwnV wA τA (.slice none 0 0) []:=⟨none,0,rfl,fun x hx=>by simp at hx,none,0,rfl,Nat.le_refl _,Nat.zero_le _,fun hx=>by simp at hx⟩
  have hva:=hvb
  have hbody:pBody 8 l7=some ((noChange,tl,dl),lA):=by unfold pBody;rw[if_neg (by decide),if_pos rfl,hrA];rfl
  obtain⟨wB,hwB⟩:∃wB,wA=wB:=⟨_,rfl⟩
  obtain⟨τB,hτB⟩:∃τB,τA=τB:=⟨_,rfl⟩
  rw[hwB,hτB] at hxB hiB hstB hrdB hvb hva hvt hvp
  obtain⟨nt,hntB⟩:∃n,tl.length=n:=⟨_,rfl⟩
  obtain⟨np,hnpB⟩:∃n,dl.length=n:=⟨_,rfl⟩
  rw[hntB] at hxB hvt
  rw[hnpB] at hxB hvp
  obtain⟨HNA,HNB⟩:=hid2 hntB hnpB
  obtain⟨HxB,HiB,HstB⟩:=hid3 hxB hiB hstB
  clear hxB hiB hstB hsA hxA hrdA hrA Hcall Hx9 Hi9 Hst9 c0 hτB hnpB
  have HwB:=Lib.hid hwB
  clear hwB
  go_upto_region 12 with fail
  rw[HwB.out]
  clear HwB
  obtain⟨b3,o3,c3,horB,-⟩:=hrdB
  have d3:=horB.at 0 (v:=.slice (some ⟨b3,o3,none⟩) lA.length c3) rfl
  clear horB
  obtain⟨ln,hln⟩:∃n,lA.length=n:=⟨_,rfl⟩
  rw[hln] at d3
  have hmay:=Qn4 (w:=wB) (τ:=τB) 8 tx pv nx 0 0 false false none none pt pp 0 0 0 0 nt ct np cp hntB hvt
  obtain⟨mb,hmb⟩:∃m,mayB ⟨8,tx,pv,nx,noChange,tl,dl⟩=m:=⟨_,rfl⟩
  have hmb':=hmb
  unfold mayB at hmb'
  try simp only at hmb'
  try simp only[noChange,HNA.out,HNB.out,List.length_nil] at hmb'
  rw[hmb'] at hmay
  obtain⟨Hvb,Hva,Hvt,Hvp,Hbody,Hln,Hmay,Hmb⟩:=hid8 hvb hva hvt hvp hbody hln hmay hmb
  clear hvb hva hvt hvp hbody hln hmay hmb hmb'
  obtain⟨c0,f0,c1,f1,c2,f2,c3,f3,c4,f4,c5,f5,c6,f6,c7,f7,c8,f8,c9,f9,c10,f10,c11,f11⟩:=Jby HxB.out
  by_cases h0:0<ln
  ·have i0:(0:Int)<(ln:Int):=by omega
   have ci:=HiB.out.at 0 (v:=.bool false) rfl
   have fi:=HiB.out.fz 0
   have hne1:bx≠bi:=HxB.out.ne HiB.out (by decide)
   have hne2:bi≠bx:=fun e=>hne1 e.symm
   obtain⟨hxF,hiF,hsG⟩:=put12 HxB.out HiB.out (.int .u8 0) (.int .u32 0) (.int .u64 0) (.int .u64 0) (.int .u32 0) (.int .u16 0) (.bool false) (.bool false) (.slice none 0 0) (.slice none 0 0) (.slice none 0 0) (.slice none 0 0) (.bool false)
   have hsF:=HstB.out.trans (hsG.mono (T:=Jcp) Qcd)
   obtain⟨HxF,HiF,HsF,HsG⟩:=hid4 hxF hiF hsF hsG
   clear hxF hiF hsF hsG
   go_wp2_with fail
   refine leaves_cons (f := 202) (args:=#[.pointer (some ⟨bx,0,none⟩),.pointer (some ⟨bi,0,none⟩)]) (by simp) (by simp[go_sem]) ?_
   refine(Qbs _ bx bi).mono ?_
   rintro e u' w'' ⟨rfl,rfl,rfl⟩
   exact Qc9 rfl rfl HxF.out HiF.out ⟨τB,HsF.out,.inl ⟨by unfold pRead;rw[Hr1.out];simp only[Option.bind_some];rw[Hr2.out];simp only[Option.bind_some];rw[if_neg (by rw[Hck.out];simp)];rw[Hr4.out];simp only[Option.bind_some];rw[Hr5.out];simp only[Option.bind_some];rw[Hr6.out];simp only[Option.bind_some];rw[Hr7.out];simp only[Option.bind_some];rw[Hbody.out];simp only[Option.bind_some];rw[if_pos (.inl (by rw[Hln.out];exact h0))],rfl⟩⟩
  have i0:¬(0:Int)<(ln:Int):=by omega
  go_wp2_with fail
  refine Hmay.out.mono ?_
  rintro e wC ⟨rfl,hsC⟩
  have hxC:=HxB.out.step hsC (fun h=>h)
  have hiC:=HiB.out.step hsC (fun h=>h)
  have hstC:=HstB.out.trans (hsC.mono (T:=Jcp) (fun _ h=>h.elim))
  have hvbC:=Hvb.out.step hsC (fun h=>h)
  have hvaC:=Hva.out.step hsC (fun h=>h)
  have hvtC:=Hvt.out.step hsC (fun h=>h)
  have hvpC:=Hvp.out.step hsC (fun h=>h)
  obtain⟨HxC,HiC,HstC,HvbC,HvaC,HvtC,HvpC⟩:=hid7 hxC hiC hstC hvbC hvaC hvtC hvpC
  clear hxC hiC hstC hvbC hvaC hvtC hvpC hsC c0 f0 c1 f1 c2 f2 c3 f3 c4 f4 c5 f5 c6 f6 c7 f7 c8 f8 c9 f9 c10 f10 c11 f11
  obtain⟨c0,f0,c1,f1,c2,f2,c3,f3,c4,f4,c5,f5,c6,f6,c7,f7,c8,f8,c9,f9,c10,f10,c11,f11⟩:=Jby HxC.out
  cases mb with
  | false =>
    have ci:=HiC.out.at 0 (v:=.bool false) rfl
    have fi:=HiC.out.fz 0
    have hne1:bx≠bi:=HxC.out.ne HiC.out (by decide)
    have hne2:bi≠bx:=fun e=>hne1 e.symm
    obtain⟨hxF,hiF,hsG⟩:=put12 HxC.out HiC.out (.int .u8 0) (.int .u32 0) (.int .u64 0) (.int .u64 0) (.int .u32 0) (.int .u16 0) (.bool false) (.bool false) (.slice none 0 0) (.slice none 0 0) (.slice none 0 0) (.slice none 0 0) (.bool false)
    have hsF:=HstC.out.trans (hsG.mono (T:=Jcp) Qcd)
    obtain⟨HxF,HiF,HsF,HsG⟩:=hid4 hxF hiF hsF hsG
    clear hxF hiF hsF hsG
    go_wp2_with fail
    refine leaves_cons (f := 202) (args:=#[.pointer (some ⟨bx,0,none⟩),.pointer (some ⟨bi,0,none⟩)]) (by simp) (by simp[go_sem]) ?_
    refine(Qbs _ bx bi).mono ?_
    rintro e u' w'' ⟨rfl,rfl,rfl⟩
    exact Qc9 rfl rfl HxF.out HiF.out ⟨τB,HsF.out,.inl ⟨by unfold pRead;rw[Hr1.out];simp only[Option.bind_some];rw[Hr2.out];simp only[Option.bind_some];rw[if_neg (by rw[Hck.out];simp)];rw[Hr4.out];simp only[Option.bind_some];rw[Hr5.out];simp only[Option.bind_some];rw[Hr6.out];simp only[Option.bind_some];rw[Hr7.out];simp only[Option.bind_some];rw[Hbody.out];simp only[Option.bind_some];rw[if_pos (.inr Hmb.out)],rfl⟩⟩
  | true =>
    have ci:=HiC.out.at 0 (v:=.bool false) rfl
    have fi:=HiC.out.fz 0
    have hne1:bx≠bi:=HxC.out.ne HiC.out (by decide)
    have hne2:bi≠bx:=fun e=>hne1 e.symm
    obtain⟨hxF,hiF,hsG⟩:=put12 HxC.out HiC.out (.int .u8 ((8:Nat):Int)) (.int .u32 (tx:Int)) (.int .u64 (pv:Int)) (.int .u64 (nx:Int)) (.int .u32 0) (.int .u16 0) (.bool false) (.bool false) (.slice none 0 0) (.slice none 0 0) (.slice pt nt ct) (.slice pp np cp) (.bool true)
    have hsF:=HstC.out.trans (hsG.mono (T:=Jcp) Qcd)
    obtain⟨HxF,HiF,HsF,HsG⟩:=hid4 hxF hiF hsF hsG
    clear hxF hiF hsF hsG
    go_wp2_with fail
    refine leaves_cons (f := 202) (args:=#[.pointer (some ⟨bx,0,none⟩),.pointer (some ⟨bi,0,none⟩)]) (by simp) (by simp[go_sem]) ?_
    refine(Qbs _ bx bi).mono ?_
    rintro e u' w'' ⟨rfl,rfl,rfl⟩
    exact Qc9 rfl rfl HxF.out HiF.out ⟨τB,HsF.out,.inr ⟨_,_,by unfold pRead;rw[Hr1.out];simp only[Option.bind_some];rw[Hr2.out];simp only[Option.bind_some];rw[if_neg (by rw[Hck.out];simp)];rw[Hr4.out];simp only[Option.bind_some];rw[Hr5.out];simp only[Option.bind_some];rw[Hr6.out];simp only[Option.bind_some];rw[Hr7.out];simp only[Option.bind_some];rw[Hbody.out];simp only[Option.bind_some];rw[if_neg (by rw[Hln.out,Hmb.out];rintro(h|h);exact h0 h;cases h)],rfl,_,_,_,_,_,rfl,HvbC.out.step HsG.out (by decide),HvaC.out.step HsG.out (by decide),HvtC.out.step HsG.out (by decide),HvpC.out.step HsG.out (by decide)⟩⟩
 ·rw[h3]
  have hk8:¬(kd:Int)=8:=by omega
  have hbody:pBody kd l7=some ((noChange,[],[]),l7):=by unfold pBody;rw[if_neg (by rw[h3];decide),if_neg h8]
  have hxB:=hx9;have hiB:=hi9;have hstB:=hst9;have hrdB:=hrd9
  have hvb:OwnV w9 τ7 (.slice none 0 0) []:=⟨none,0,rfl,fun x hx=>by simp at hx,none,0,rfl,Nat.le_refl _,Nat.zero_le _,fun hx=>by simp at hx⟩
  have hva:=hvb
  have hvt:=NS.nil 75 4 Qct 0 w9 τ7 tTx
  have hvp:=NS.nil 195 2 Qgn 0 w9 τ7 tPx
  have hntB:([]:List TxnP).length=0:=rfl
  have c0:=hx9.at 0 (v:=.int .u8 (kd:Int)) rfl
  obtain⟨wB,hwB⟩:∃wB,w9=wB:=⟨_,rfl⟩
  obtain⟨τB,hτB⟩:∃τB,τ7=τB:=⟨_,rfl⟩
  rw[hwB,hτB] at hxB hiB hstB hrdB hvb hva hvt hvp
  obtain⟨HxB,HiB,HstB,H3,H8⟩:=hid5 hxB hiB hstB h3 h8
  clear hxB hiB hstB h3 h8 hx9 hi9 hst9 hrd9 hτB
  have HwB:=Lib.hid hwB
  clear hwB
  go_upto_region 12 with fail
  rw[HwB.out]
  clear HwB c0
  obtain⟨b3,o3,c3,horB,-⟩:=hrdB
  have d3:=horB.at 0 (v:=.slice (some ⟨b3,o3,none⟩) l7.length c3) rfl
  clear horB
  obtain⟨ln,hln⟩:∃n,l7.length=n:=⟨_,rfl⟩
  rw[hln] at d3
  have hmay:=Qn4 (w:=wB) (τ:=τB) kd tx pv nx 0 0 false false none none none none 0 0 0 0 0 0 0 0 hntB hvt
  obtain⟨mb,hmb⟩:∃m,mayB ⟨kd,tx,pv,nx,noChange,[],[]⟩=m:=⟨_,rfl⟩
  have hmb':=hmb
  unfold mayB at hmb'
  try simp only at hmb'
  try simp only[noChange,List.length_nil] at hmb'
  rw[hmb'] at hmay
  obtain⟨Hvb,Hva,Hvt,Hvp,Hbody,Hln,Hmay,Hmb⟩:=hid8 hvb hva hvt hvp hbody hln hmay hmb
  clear hvb hva hvt hvp hbody hln hmay hmb hmb'
  obtain⟨c0,f0,c1,f1,c2,f2,c3,f3,c4,f4,c5,f5,c6,f6,c7,f7,c8,f8,c9,f9,c10,f10,c11,f11⟩:=Jby HxB.out
  by_cases h0:0<ln
  ·have i0:(0:Int)<(ln:Int):=by omega
   have ci:=HiB.out.at 0 (v:=.bool false) rfl
   have fi:=HiB.out.fz 0
   have hne1:bx≠bi:=HxB.out.ne HiB.out (by decide)
   have hne2:bi≠bx:=fun e=>hne1 e.symm
   obtain⟨hxF,hiF,hsG⟩:=put12 HxB.out HiB.out (.int .u8 0) (.int .u32 0) (.int .u64 0) (.int .u64 0) (.int .u32 0) (.int .u16 0) (.bool false) (.bool false) (.slice none 0 0) (.slice none 0 0) (.slice none 0 0) (.slice none 0 0) (.bool false)
   have hsF:=HstB.out.trans (hsG.mono (T:=Jcp) Qcd)
   obtain⟨HxF,HiF,HsF,HsG⟩:=hid4 hxF hiF hsF hsG
   clear hxF hiF hsF hsG
   go_wp2_with fail
   refine leaves_cons (f := 202) (args:=#[.pointer (some ⟨bx,0,none⟩),.pointer (some ⟨bi,0,none⟩)]) (by simp) (by simp[go_sem]) ?_
   refine(Qbs _ bx bi).mono ?_
   rintro e u' w'' ⟨rfl,rfl,rfl⟩
   exact Qc9 rfl rfl HxF.out HiF.out ⟨τB,HsF.out,.inl ⟨by unfold pRead;rw[Hr1.out];simp only[Option.bind_some];rw[Hr2.out];simp only[Option.bind_some];rw[if_neg (by rw[Hck.out];simp)];rw[Hr4.out];simp only[Option.bind_some];rw[Hr5.out];simp only[Option.bind_some];rw[Hr6.out];simp only[Option.bind_some];rw[Hr7.out];simp only[Option.bind_some];rw[Hbody.out];simp only[Option.bind_some];rw[if_pos (.inl (by rw[Hln.out];exact h0))],rfl⟩⟩
  have i0:¬(0:Int)<(ln:Int):=by omega
  go_wp2_with fail
  refine Hmay.out.mono ?_
  rintro e wC ⟨rfl,hsC⟩
  have hxC:=HxB.out.step hsC (fun h=>h)
  have hiC:=HiB.out.step hsC (fun h=>h)
  have hstC:=HstB.out.trans (hsC.mono (T:=Jcp) (fun _ h=>h.elim))
  have hvbC:=Hvb.out.step hsC (fun h=>h)
  have hvaC:=Hva.out.step hsC (fun h=>h)
  have hvtC:=Hvt.out.step hsC (fun h=>h)
  have hvpC:=Hvp.out.step hsC (fun h=>h)
  obtain⟨HxC,HiC,HstC,HvbC,HvaC,HvtC,HvpC⟩:=hid7 hxC hiC hstC hvbC hvaC hvtC hvpC
  clear hxC hiC hstC hvbC hvaC hvtC hvpC hsC c0 f0 c1 f1 c2 f2 c3 f3 c4 f4 c5 f5 c6 f6 c7 f7 c8 f8 c9 f9 c10 f10 c11 f11
  obtain⟨c0,f0,c1,f1,c2,f2,c3,f3,c4,f4,c5,f5,c6,f6,c7,f7,c8,f8,c9,f9,c10,f10,c11,f11⟩:=Jby HxC.out
  cases mb with
  | false =>
    have ci:=HiC.out.at 0 (v:=.bool false) rfl
    have fi:=HiC.out.fz 0
    have hne1:bx≠bi:=HxC.out.ne HiC.out (by decide)
    have hne2:bi≠bx:=fun e=>hne1 e.symm
    obtain⟨hxF,hiF,hsG⟩:=put12 HxC.out HiC.out (.int .u8 0) (.int .u32 0) (.int .u64 0) (.int .u64 0) (.int .u32 0) (.int .u16 0) (.bool false) (.bool false) (.slice none 0 0) (.slice none 0 0) (.slice none 0 0) (.slice none 0 0) (.bool false)
    have hsF:=HstC.out.trans (hsG.mono (T:=Jcp) Qcd)
    obtain⟨HxF,HiF,HsF,HsG⟩:=hid4 hxF hiF hsF hsG
    clear hxF hiF hsF hsG
    go_wp2_with fail
    refine leaves_cons (f := 202) (args:=#[.pointer (some ⟨bx,0,none⟩),.pointer (some ⟨bi,0,none⟩)]) (by simp) (by simp[go_sem]) ?_
    refine(Qbs _ bx bi).mono ?_
    rintro e u' w'' ⟨rfl,rfl,rfl⟩
    exact Qc9 rfl rfl HxF.out HiF.out ⟨τB,HsF.out,.inl ⟨by unfold pRead;rw[Hr1.out];simp only[Option.bind_some];rw[Hr2.out];simp only[Option.bind_some];rw[if_neg (by rw[Hck.out];simp)];rw[Hr4.out];simp only[Option.bind_some];rw[Hr5.out];simp only[Option.bind_some];rw[Hr6.out];simp only[Option.bind_some];rw[Hr7.out];simp only[Option.bind_some];rw[Hbody.out];simp only[Option.bind_some];rw[if_pos (.inr Hmb.out)],rfl⟩⟩
  | true =>
    have ci:=HiC.out.at 0 (v:=.bool false) rfl
    have fi:=HiC.out.fz 0
    have hne1:bx≠bi:=HxC.out.ne HiC.out (by decide)
    have hne2:bi≠bx:=fun e=>hne1 e.symm
    obtain⟨hxF,hiF,hsG⟩:=put12 HxC.out HiC.out (.int .u8 (kd:Int)) (.int .u32 (tx:Int)) (.int .u64 (pv:Int)) (.int .u64 (nx:Int)) (.int .u32 0) (.int .u16 0) (.bool false) (.bool false) (.slice none 0 0) (.slice none 0 0) (.slice none 0 0) (.slice none 0 0) (.bool true)
    have hsF:=HstC.out.trans (hsG.mono (T:=Jcp) Qcd)
    obtain⟨HxF,HiF,HsF,HsG⟩:=hid4 hxF hiF hsF hsG
    clear hxF hiF hsF hsG
    go_wp2_with fail
    refine leaves_cons (f := 202) (args:=#[.pointer (some ⟨bx,0,none⟩),.pointer (some ⟨bi,0,none⟩)]) (by simp) (by simp[go_sem]) ?_
    refine(Qbs _ bx bi).mono ?_
    rintro e u' w'' ⟨rfl,rfl,rfl⟩
    exact Qc9 rfl rfl HxF.out HiF.out ⟨τB,HsF.out,.inr ⟨_,_,by unfold pRead;rw[Hr1.out];simp only[Option.bind_some];rw[Hr2.out];simp only[Option.bind_some];rw[if_neg (by rw[Hck.out];simp)];rw[Hr4.out];simp only[Option.bind_some];rw[Hr5.out];simp only[Option.bind_some];rw[Hr6.out];simp only[Option.bind_some];rw[Hr7.out];simp only[Option.bind_some];rw[Hbody.out];simp only[Option.bind_some];rw[if_neg (by rw[Hln.out,Hmb.out];rintro(h|h);exact h0 h;cases h)],rfl,_,_,_,_,_,rfl,HvbC.out.step HsG.out (by decide),HvaC.out.step HsG.out (by decide),HvtC.out.step HsG.out (by decide),HvpC.out.step HsG.out (by decide)⟩⟩
end Go.Proofs.YtemacanaihaldaaGreat