/-
 Records: read.
-/
import Derived.Test.YtemacanaihaldaaGreatMRdC
set_option maxRecDepth 100000
set_option maxHeartbeats 40000000
set_option linter.all false
namespace Go.Proofs.YtemacanaihaldaaGreat
variable {bi bx:Nat}{g:Tag}{u0 u1 u10 u11 u2 u3 u4 u5 u6 u7 u8 u9:Value}{w:World}{τ:Tags}
open Go.RowKit
structure RecP where
 kind:Nat
 txn:Nat
 prev:Nat
 next:Nat
 change:ChangeP
 txns:List TxnP
 pages:List (Nat×Nat)
def noChange:ChangeP:=⟨0,0,false,false,[],[]⟩
def mayB (r:RecP):Bool:=mayRB r.kind r.txns.length r.pages.length (mayCB (chgB r.kind) r.change.page r.change.slot r.change.had r.change.has r.change.before.length r.change.after.length) (Qdu r.txns)
def pBody (k:Nat) (l:List Int):Option ((ChangeP×List TxnP×List (Nat×Nat))×List Int) :=
 if chgB k=true then (Qd3 l).bind fun c=>some ((c.1,[],[]),c.2) else if k=8 then (Qdk l).bind fun t=>some ((noChange,t.1.1,t.1.2),t.2) else some ((noChange,[],[]),l)
def pRead (l:List Int):Option RecP :=
 (pTake 2 l).bind fun a=>(pNum 4 a.2).bind fun s=>if s.1≠crcTo s.2 s.2.length then none else (pNum 1 s.2).bind fun k=>(pNum 4 k.2).bind fun t=>(pNum 8 t.2).bind fun p=>(pNum 8 p.2).bind fun n=>(pBody k.1 n.2).bind fun x =>
   if 0<x.2.length\/mayB ⟨k.1,t.1,p.1,n.1,x.1.1,x.1.2.1,x.1.2.2⟩=false then none else some ⟨k.1,t.1,p.1,n.1,x.1.1,x.1.2.1,x.1.2.2⟩
def Qdj:Array Value:=#[.int .u8 0,.int .u32 0,.int .u64 0,.int .u64 0,.int .u32 0,.int .u16 0,.bool false,.bool false,.slice none 0 0,.slice none 0 0,.slice none 0 0,.slice none 0 0]
def ReadTag (g:Tag):Prop:=g.1=198\/g.1=199\/g.1=200
theorem Qhc(h:RdTag g):ReadTag g:=by unfold RdTag at h;subst h;exact .inl rfl
theorem Qna(h:Qbn g):ReadTag g:=by
 rcases h with rfl|rfl|rfl|rfl
 ·exact .inl rfl
 ·exact .inr (.inr rfl)
 ·exact .inr (.inl rfl)
 ·exact .inr (.inl rfl)
theorem Qcd (g:Tag) (h:g=tRec\/g=tIs):ReadTag g:=by
 rcases h with rfl|rfl
 ·exact .inr (.inr rfl)
 ·exact .inr (.inr rfl)
def RecV (w:World) (τ:Tags) (v:Value) (r:RecP):Prop:=∃vb va vt vp n0,v = .agg #[.int .u8 (r.kind:Int),.int .u32 (r.txn:Int),.int .u64 (r.prev:Int),.int .u64 (r.next:Int),.int .u32 (r.change.page:Int),.int .u16 (r.change.slot:Int),.bool r.change.had,.bool r.change.has,vb,va,vt,vp]/\OwnV w τ vb r.change.before/\OwnV w τ va r.change.after/\NS 75 4 Qct n0 w τ tTx vt r.txns/\NS 195 2 Qgn n0 w τ tPx vp r.pages
theorem Jby {t:TypeId}(h:Own w τ bx g t [u0,u1,u2,u3,u4,u5,u6,u7,u8,u9,u10,u11]) :
 w.cell? ⟨bx,0,none⟩=some u0/\w.frozen? ⟨bx,0,none⟩=false/\w.cell? ⟨bx,1,none⟩=some u1/\w.frozen? ⟨bx,1,none⟩=false/\w.cell? ⟨bx,2,none⟩=some u2/\w.frozen? ⟨bx,2,none⟩=false/\w.cell? ⟨bx,3,none⟩=some u3/\w.frozen? ⟨bx,3,none⟩=false/\w.cell? ⟨bx,4,none⟩=some u4/\w.frozen? ⟨bx,4,none⟩=false/\w.cell? ⟨bx,5,none⟩=some u5/\w.frozen? ⟨bx,5,none⟩=false/\w.cell? ⟨bx,6,none⟩=some u6/\w.frozen? ⟨bx,6,none⟩=false/\w.cell? ⟨bx,7,none⟩=some u7/\w.frozen? ⟨bx,7,none⟩=false/\w.cell? ⟨bx,8,none⟩=some u8/\w.frozen? ⟨bx,8,none⟩=false/\w.cell? ⟨bx,9,none⟩=some u9/\w.frozen? ⟨bx,9,none⟩=false/\w.cell? ⟨bx,10,none⟩=some u10/\w.frozen? ⟨bx,10,none⟩=false/\w.cell? ⟨bx,11,none⟩=some u11/\w.frozen? ⟨bx,11,none⟩=false:=by
 refine⟨h.at 0 rfl,h.fz 0,h.at 1 rfl,h.fz 1,h.at 2 rfl,h.fz 2,h.at 3 rfl,h.fz 3,h.at 4 rfl,h.fz 4,h.at 5 rfl,h.fz 5,h.at 6 rfl,h.fz 6,h.at 7 rfl,h.fz 7,h.at 8 rfl,h.fz 8,h.at 9 rfl,h.fz 9,h.at 10 rfl,h.fz 10,h.at 11 rfl,h.fz 11⟩
theorem put12 {m:Value}(d:Own w τ bx tRec 127 [u0,u1,u2,u3,u4,u5,u6,u7,u8,u9,u10,u11]) (hi:Own w τ bi tIs 4 [m]) (v0 i v2 v3 v4 v5 j k l v9 e h r:Value) :
 Own (((((((((((((w.setCell ⟨bx,0,none⟩ v0).setCell ⟨bx,1,none⟩ i).setCell ⟨bx,2,none⟩ v2).setCell ⟨bx,3,none⟩ v3).setCell ⟨bx,4,none⟩ v4).setCell ⟨bx,5,none⟩ v5).setCell ⟨bx,6,none⟩ j).setCell ⟨bx,7,none⟩ k).setCell ⟨bx,8,none⟩ l).setCell ⟨bx,9,none⟩ v9).setCell ⟨bx,10,none⟩ e).setCell ⟨bx,11,none⟩ h).setCell ⟨bi,0,none⟩ r) τ bx tRec 127 [v0,i,v2,v3,v4,v5,j,k,l,v9,e,h]/\Own (((((((((((((w.setCell ⟨bx,0,none⟩ v0).setCell ⟨bx,1,none⟩ i).setCell ⟨bx,2,none⟩ v2).setCell ⟨bx,3,none⟩ v3).setCell ⟨bx,4,none⟩ v4).setCell ⟨bx,5,none⟩ v5).setCell ⟨bx,6,none⟩ j).setCell ⟨bx,7,none⟩ k).setCell ⟨bx,8,none⟩ l).setCell ⟨bx,9,none⟩ v9).setCell ⟨bx,10,none⟩ e).setCell ⟨bx,11,none⟩ h).setCell ⟨bi,0,none⟩ r) τ bi tIs 4 [r]/\Step w τ (((((((((((((w.setCell ⟨bx,0,none⟩ v0).setCell ⟨bx,1,none⟩ i).setCell ⟨bx,2,none⟩ v2).setCell ⟨bx,3,none⟩ v3).setCell ⟨bx,4,none⟩ v4).setCell ⟨bx,5,none⟩ v5).setCell ⟨bx,6,none⟩ j).setCell ⟨bx,7,none⟩ k).setCell ⟨bx,8,none⟩ l).setCell ⟨bx,9,none⟩ v9).setCell ⟨bx,10,none⟩ e).setCell ⟨bx,11,none⟩ h).setCell ⟨bi,0,none⟩ r) τ (fun t=>t=tRec\/t=tIs) :=
 ⟨((((((((((((d.set 0 v0).set 1 i).set 2 v2).set 3 v3).set 4 v4).set 5 v5).set 6 j).set 7 k).set 8 l).set 9 v9).set 10 e).set 11 h).set_ne (p:=⟨bi,0,none⟩) (d.ne hi (by decide)) r,(hi.step (((((((((((((Step.refl w τ (fun t=>t=tRec)).set (b:=bx) (o:=0) d.tag rfl v0).set (b:=bx) (o:=1) d.tag rfl i).set (b:=bx) (o:=2) d.tag rfl v2).set (b:=bx) (o:=3) d.tag rfl v3).set (b:=bx) (o:=4) d.tag rfl v4).set (b:=bx) (o:=5) d.tag rfl v5).set (b:=bx) (o:=6) d.tag rfl j).set (b:=bx) (o:=7) d.tag rfl k).set (b:=bx) (o:=8) d.tag rfl l).set (b:=bx) (o:=9) d.tag rfl v9).set (b:=bx) (o:=10) d.tag rfl e).set (b:=bx) (o:=11) d.tag rfl h) (by decide)).set 0 r,(((((((((((((Step.refl w τ (fun t=>t=tRec\/t=tIs)).set (b:=bx) (o:=0) d.tag (.inl rfl) v0).set (b:=bx) (o:=1) d.tag (.inl rfl) i).set (b:=bx) (o:=2) d.tag (.inl rfl) v2).set (b:=bx) (o:=3) d.tag (.inl rfl) v3).set (b:=bx) (o:=4) d.tag (.inl rfl) v4).set (b:=bx) (o:=5) d.tag (.inl rfl) v5).set (b:=bx) (o:=6) d.tag (.inl rfl) j).set (b:=bx) (o:=7) d.tag (.inl rfl) k).set (b:=bx) (o:=8) d.tag (.inl rfl) l).set (b:=bx) (o:=9) d.tag (.inl rfl) v9).set (b:=bx) (o:=10) d.tag (.inl rfl) e).set (b:=bx) (o:=11) d.tag (.inl rfl) h).set (b:=bi) (o:=0) hi.tag (.inr rfl) r⟩
theorem Qt5 {j:Bool}(h:Own w τ bx tRec 127 [u0,u1,u2,u3,u4,u5,u6,u7,u8,u9,u10,u11]) (hi:Own w τ bi tIs 4 [.bool j]) (u:TypeId) (pv:Value) (b:List PanicEntry) :
 CallsD Tryz.prog 202 #[.pointer (some ⟨bx,0,none⟩),.pointer (some ⟨bi,0,none⟩)] (.panicking ({v:=.iface u pv,recovered:=false}::b)) w fun e i d =>
  e = .returned (.tuple #[])/\i = .panicking ({v:=.iface u pv,recovered:=true}::b)/\Own d τ bx tRec 127 [.int .u8 0,.int .u32 0,.int .u64 0,.int .u64 0,.int .u32 0,.int .u16 0,.bool false,.bool false,.slice none 0 0,.slice none 0 0,.slice none 0 0,.slice none 0 0]/\Own d τ bi tIs 4 [.bool false]/\Step w τ d τ (fun t=>t=tRec\/t=tIs):=by
 refine(Qwc h hi u pv b).mono ?_
 rintro e i d ⟨rfl,rfl,rfl⟩
 obtain⟨h1,h2,k⟩:=put12 h hi (.int .u8 0) (.int .u32 0) (.int .u64 0) (.int .u64 0) (.int .u32 0) (.int .u16 0) (.bool false) (.bool false) (.slice none 0 0) (.slice none 0 0) (.slice none 0 0) (.slice none 0 0) (.bool false)
 exact⟨rfl,rfl,h1,h2,k⟩
theorem Qc9 {T:Array Value} {W:World} {r:Bool} {R:Ending->World->Prop}(h2:T[2]?.getD undef = .pointer (some ⟨bx,0,none⟩)) (e:T[3]?.getD undef = .pointer (some ⟨bi,0,none⟩)) (i:Own W τ bx tRec 127 [u0,u1,u2,u3,u4,u5,u6,u7,u8,u9,u10,u11]) (hi:Own W τ bi tIs 4 [.bool r])
 (h:R (.returned (.tuple #[.agg #[u0,u1,u2,u3,u4,u5,u6,u7,u8,u9,u10,u11],.bool r])) W):Leaves Tryz.prog Tryz.f123 T R [] .returning W:=by
 obtain⟨c0,-,c1,-,c2,-,c3,-,c4,-,c5,-,c6,-,j,-,k,-,l,-,b,-,d,-⟩:=Jby i
 have m:=hi.at 0 (v:=.bool r) rfl
 simp[Leaves,settle,results,Tryz.results123,go_sem,h2,e,c0,c1,c2,c3,c4,c5,c6,j,k,l,b,d,m]
 exact h
theorem Qx3 {T:Array Value} {W:World} {r:Bool} {pv:Value} {R:Ending->World->Prop}(h2:T[2]?.getD undef = .pointer (some ⟨bx,0,none⟩)) (e:T[3]?.getD undef = .pointer (some ⟨bi,0,none⟩)) (i:Own W τ bx tRec 127 [u0,u1,u2,u3,u4,u5,u6,u7,u8,u9,u10,u11]) (hi:Own W τ bi tIs 4 [.bool r])
 (h:R (.returned (.tuple #[.agg #[u0,u1,u2,u3,u4,u5,u6,u7,u8,u9,u10,u11],.bool r])) W):Leaves Tryz.prog Tryz.f123 T R [] (settle (.panicking [{v:=pv,recovered:=true}])) W:=by
 obtain⟨c0,-,c1,-,c2,-,c3,-,c4,-,c5,-,c6,-,j,-,k,-,l,-,b,-,d,-⟩:=Jby i
 have m:=hi.at 0 (v:=.bool r) rfl
 simp[Leaves,settle,results,Tryz.results123,go_sem,h2,e,c0,c1,c2,c3,c4,c5,c6,j,k,l,b,d,m]
 exact h
def ReadR (w:World) (τ:Tags) (r:Option RecP) (e:Ending) (w':World):Prop :=
 ∃τ',Step w τ w' τ' ReadTag/\((r=none/\e = .returned (.tuple #[.agg Qdj,.bool false]))\/∃x v,r=some x/\e = .returned (.tuple #[v,.bool true])/\RecV w' τ' v x)
theorem Jbz {T:Array Value} {W i:World} {d τ1:Tags} {x:Bool} {l:List Int} {y:TypeId} {s:Fn} {cap b:Array Value} {S:Tag->Prop}(z:Own i τ1 bx tRec 127 [u0,u1,u2,u3,u4,u5,u6,u7,u8,u9,u10,u11]) (hi:Own i τ1 bi tIs 4 [.bool x]) (j:Step w d i τ1 ReadTag) (k:Step i τ1 W τ S)
 (B:pRead l=none) (m:∀t,S t->RdTag t:=by exact fun _ h=>h) (o:(invoke (.fn s cap) b).run Tryz.prog W = .ok (.enter 202 #[.pointer (some ⟨bx,0,none⟩),.pointer (some ⟨bi,0,none⟩)]) W:=by simp[go_sem]) (h2:T[2]?.getD undef = .pointer (some ⟨bx,0,none⟩):=by rfl) (C:T[3]?.getD undef = .pointer (some ⟨bi,0,none⟩):=by rfl) :
 Leaves Tryz.prog Tryz.f123 T (ReadR w d (pRead l)) [{target:=.fn s cap,args:=b}] (.panicking [{v:=.iface y (.agg #[]),recovered:=false}]) W:=by
 refine leaves_cons (by simp) o ?_
 refine(Qt5 (z.step k (fun h=>by have:=m _ h;revert this;unfold RdTag;decide)) (hi.step k (fun h=>by have:=m _ h;revert this;unfold RdTag;decide)) _ _ []).mono ?_
 rintro e u' w'' ⟨rfl,rfl,p,q,r⟩
 exact Qx3 h2 C p q ⟨τ,(j.trans (k.mono (T:=ReadTag) (fun _ h=>Qhc (m _ h)))).trans (r.mono (T:=ReadTag) Qcd),.inl ⟨B,rfl⟩⟩
theorem Qqo {b o c:Nat} {l:List Int}(h:LieAt w τ g b o c l) (gv:l.length<=1000000) (hg:¬ReadTag g) (j1:g≠tTwo) (j2:g≠tOne) :
 Calls Tryz.prog 123 #[.slice (some ⟨b,o,none⟩) l.length c] w (ReadR w τ (pRead l)):=by
 have hmf:∀(fn:Fn) (first cap:Array Value) (w:World),(Instr.makeFunc fn first cap).run Tryz.prog w = .ok (.func fn first cap) w:=fun _ _ _ _=>rfl
 have bb:g≠tRd:=fun e=>hg (by rw[e];exact .inl rfl)
 have hq:=(((Step.refl w τ nil).alloc (.cells Qdj 127) tRec).alloc (.cells #[.bool false] 4) tIs).alloc (.cells #[.slice (some ⟨b,o,none⟩) l.length c] 311) tRd
 have hx:=((Own.born w τ tRec 127 Qdj).step_new (.cells #[.bool false] 4) tIs).step_new (.cells #[.slice (some ⟨b,o,none⟩) l.length c] 311) tRd
 have hi:=(Own.born (w.alloc (.cells Qdj 127)) (τ.put w.heap.size tRec) tIs 4 #[.bool false]).step_new (.cells #[.slice (some ⟨b,o,none⟩) l.length c] 311) tRd
 have hr:=Own.born ((w.alloc (.cells Qdj 127)).alloc (.cells #[.bool false] 4)) ((τ.put w.heap.size tRec).put (w.alloc (.cells Qdj 127)).heap.size tIs) tRd 311 #[.slice (some ⟨b,o,none⟩) l.length c]
 have hl:=h.step hq (fun h=>h)
 have hB:=h.isB
 simp only[World.size_alloc] at hx hi hr hl hq
 obtain⟨bx,ez⟩:∃bx,w.heap.size=bx:=⟨_,rfl⟩
 rw[ez] at hx hi hr hl hq
 obtain⟨bi,fa⟩:∃bi,bx+1=bi:=⟨_,rfl⟩
 rw[fa] at hx hi hr hl hq
 obtain⟨br,fb⟩:∃br,bi+1=br:=⟨_,rfl⟩
 rw[fb] at hx hi hr hl hq
 generalize ((τ.put bx tRec).put bi tIs).put br tRd=j3 at *
 unfold Qdj at hx hi hr hl hq
 obtain⟨w0,fc⟩:∃w0,((w.alloc (.cells #[.int .u8 0,.int .u32 0,.int .u64 0,.int .u64 0,.int .u32 0,.int .u16 0,.bool false,.bool false,.slice none 0 0,.slice none 0 0,.slice none 0 0,.slice none 0 0] 127)).alloc (.cells #[.bool false] 4)).alloc (.cells #[.slice (some ⟨b,o,none⟩) l.length c] 311)=w0:=⟨_,rfl⟩
 rw[fc] at hx hi hr hl hq
 have gw:RdAt w0 j3 br g l:=⟨b,o,c,hr,hl⟩
 have gx:=hq.mono (T:=ReadTag) (fun _ h=>h.elim)
 have gy:=Qkp gw bb 2 (by omega)
 have j5:=Z2 gv
 clear gv
 obtain⟨gz,Hx,Hi,h2,j6,j7,j8,j9,HB⟩:=hid9 gy hx hi gx fc ez fa fb hB
 clear gy hx hi gx fc ez fa fb hB hr hl hq gw h
 go_enter_defers Tryz.func123,Tryz.ntmps123
 go_wp2_with fail
 rw[j7.out,j8.out,j9.out,j6.out]
 refine gz.out.mono ?_
 rintro e w1 ⟨τ1,cs,⟨hr,rfl⟩|⟨x1,l1,v,fe,rfl,-,cv⟩⟩
 ·unfold Qav
  exact Jbz Hx.out Hi.out h2.out cs (by unfold pRead;rw[hr];rfl)
 have ja:=Z2 fe
 have h4:=Hx.out.step cs (by unfold RdTag;decide)
 have h5:=Hi.out.step cs (by unfold RdTag;decide)
 have eb:=h2.out.trans (cs.mono (T:=ReadTag) (fun _ h=>Qhc h))
 have h6:=Qar cv bb 4 (by omega) (by omega)
 have h7:=cv.isB
 obtain⟨ff,fg,cw,h9,J,HB1⟩:=hid6 h4 h5 eb h6 fe h7
 clear h4 h5 eb h6 fe h7 cs cv gz
 go_wp2_with fail
 refine h9.out.mono ?_
 rintro e w2 ⟨e7,cx,⟨hr,rfl⟩|⟨sm,l2,v,fh,rfl,rfl,ec⟩⟩
 ·unfold Qav
  exact Jbz ff.out fg.out cw.out cx (by unfold pRead;rw[J.out];simp only[Z8];rw[hr];rfl)
 have ha:=ff.out.step cx (by unfold RdTag;decide)
 have hb:=fg.out.step cx (by unfold RdTag;decide)
 have ed:=cw.out.trans (cx.mono (T:=ReadTag) (fun _ h=>Qhc h))
 have hc:=ec.isB
 obtain⟨b2,o2,c2,cy,he⟩:=ec
 have cf:=(Step.refl w2 e7 nil).alloc (.cells #[.slice (some ⟨b2,o2,none⟩) l2.length c2] 37) tOne
 have ee:=Own.born w2 e7 tOne 37 #[.slice (some ⟨b2,o2,none⟩) l2.length c2]
 have ef:=cy.step cf (fun h=>h)
 have fl:=he.step cf (fun h=>h)
 have fm:=ha.step cf (fun h=>h)
 have fo:=hb.step cf (fun h=>h)
 have cz:=ed.trans (cf.mono (T:=ReadTag) (fun _ h=>h.elim))
 have d2:=cy.at 0 (v:=.slice (some ⟨b2,o2,none⟩) l2.length c2) rfl
 have bw:=Qqe (ee.at 0 (v:=.slice (some ⟨b2,o2,none⟩) l2.length c2) rfl) fl.bytes (by rw[(Qpf fh).2.2,List.length_drop,(Qmu ja.out).2.2.1,List.length_drop];have:=j5.out;omega)
 have jb:=Qh8 l2 l2.length
 obtain⟨ck,fp⟩:∃ck,crcTo l2 l2.length=ck:=⟨_,rfl⟩
 rw[fp] at bw jb
 have hcw:IntKind.u64.wrap (ck:Int)=(ck:Int):=by
  have:IntKind.u64.wrap (ck:Int)=(ck:Int)%18446744073709551616:=by simp[IntKind.wrap,IntKind.bits,IntKind.signed]
  rw[this];omega
 have da:RdAt (w2.alloc (.cells #[.slice (some ⟨b2,o2,none⟩) l2.length c2] 37)) (e7.put w2.heap.size tOne) br g l2:=⟨b2,o2,c2,ef,fl⟩
 obtain⟨w3,e8⟩:∃w3,w2.alloc (.cells #[.slice (some ⟨b2,o2,none⟩) l2.length c2] 37)=w3:=⟨_,rfl⟩
 rw[e8] at fm fo cz bw da
 generalize e7.put w2.heap.size tOne=jc at *
 obtain⟨ln2,db⟩:∃n,l2.length=n:=⟨_,rfl⟩
 rw[db] at d2 e8
 have hf:=Qar da bb 1 (by omega) (by omega)
 obtain⟨cg,bq,bz,hh,U,jd,je,jf,X,Hln2⟩:=hid10 fm fo cz bw fh hc hf e8 fp db
 clear fm fo cz bw fh hc hf e8 fp db cx ha hb ed cy he cf ee ef fl da h9 ff fg cw
 go_wp2_with fail
 rw[jf.out]
 refine hh.out.mono ?_
 rintro e w3' ⟨rfl,rfl⟩
 by_cases eg:sm=ck
 rotate_left
 ·have hsI:¬(sm:Int)=(ck:Int):=by omega
  obtain⟨c0,f0,c1,f1,c2,f2,c3,f3,c4,f4,c5,f5,c6,f6,c7,f7,c8,f8,c9,f9,aa,f10,ab,f11⟩:=Jby cg.out
  have ci:=bq.out.at 0 (v:=.bool false) rfl
  have fi:=bq.out.fz 0
  have p:bx≠bi:=cg.out.ne bq.out (by decide)
  have a6:bi≠bx:=fun e=>p e.symm
  obtain⟨i,j,d⟩:=put12 cg.out bq.out (.int .u8 0) (.int .u32 0) (.int .u64 0) (.int .u64 0) (.int .u32 0) (.int .u16 0) (.bool false) (.bool false) (.slice none 0 0) (.slice none 0 0) (.slice none 0 0) (.slice none 0 0) (.bool false)
  have k:=bz.out.trans (d.mono (T:=ReadTag) Qcd)
  clear d
  obtain⟨C,D,E⟩:=hid3 i j k
  clear i j k
  go_wp2_with fail
  refine leaves_cons (f := 202) (args:=#[.pointer (some ⟨bx,0,none⟩),.pointer (some ⟨bi,0,none⟩)]) (by simp) (by simp[go_sem]) ?_
  refine(Qbs _ bx bi).mono ?_
  rintro e u' b7 ⟨rfl,rfl,rfl⟩
  exact Qc9 rfl rfl C.out D.out ⟨jc,E.out,.inl ⟨by unfold pRead;rw[J.out];simp only[Z8];rw[U.out];simp only[Z8];rw[if_pos (by rw[X.out];exact eg)],rfl⟩⟩
 subst eg
 go_wp2_with fail
 refine je.out.mono ?_
 rintro e w4 ⟨τ4,de,⟨hr,rfl⟩|⟨kd,l4,v,fq,rfl,rfl,df⟩⟩
 ·unfold Qav
  exact Jbz cg.out bq.out bz.out de (by unfold pRead;rw[J.out];simp only[Z8];rw[U.out];simp only[Z8];rw[if_neg (by rw[X.out];simp)];rw[hr];rfl)
 have hj:=Qcb fq jd.out
 rw[show (2:Nat) ^ (8*1)=256 from by decide] at hj
 have hw4:IntKind.u8.wrap (kd:Int)=(kd:Int):=Qrv kd hj
 have hm:=cg.out.step de (by unfold RdTag;decide)
 have hn:=bq.out.step de (by unfold RdTag;decide)
 have eh:=bz.out.trans (de.mono (T:=ReadTag) (fun _ h=>Qhc h))
 have ho:=df.isB
 have hp:=Qar df bb 4 (by omega) (by omega)
 obtain⟨fr,fs,dh,a7,jg,jh⟩:=hid6 hm hn eh fq ho hp
 clear hm hn eh fq ho hp de df cg bq bz
 go_wp2_with fail
 refine jh.out.mono ?_
 rintro e w5 ⟨τ5,di,⟨hr,rfl⟩|⟨tx,l5,v,ft,rfl,rfl,dj⟩⟩
 ·unfold Qav
  exact Jbz fr.out fs.out dh.out di (by unfold pRead;rw[J.out];simp only[Z8];rw[U.out];simp only[Z8];rw[if_neg (by rw[X.out];simp)];rw[a7.out];simp only[Z8];rw[hr];rfl)
 have ht:=Qcb ft jg.out
 rw[show (2:Nat) ^ (8*4)=4294967296 from by decide] at ht
 have hw5:IntKind.u32.wrap (tx:Int)=(tx:Int):=Qb1 tx ht
 have hv:=fr.out.step di (by unfold RdTag;decide)
 have hw:=fs.out.step di (by unfold RdTag;decide)
 have ei:=dh.out.trans (di.mono (T:=ReadTag) (fun _ h=>Qhc h))
 have hy:=dj.isB
 have hz:=Qar dj bb 8 (by omega) (by omega)
 obtain⟨fv,fw,dk,ac,ji,jj⟩:=hid6 hv hw ei ft hy hz
 clear hv hw ei ft hy hz di dj fr fs dh
 go_wp2_with fail
 refine jj.out.mono ?_
 rintro e w6 ⟨τ6,dm,⟨hr,rfl⟩|⟨pv,l6,v,fx,rfl,rfl,dn⟩⟩
 ·unfold Qav
  exact Jbz fv.out fw.out dk.out dm (by unfold pRead;rw[J.out];simp only[Z8];rw[U.out];simp only[Z8];rw[if_neg (by rw[X.out];simp)];rw[a7.out];simp only[Z8];rw[ac.out];simp only[Z8];rw[hr];rfl)
 have jk:=Qcb fx ji.out
 rw[show (2:Nat) ^ (8*8)=18446744073709551616 from by decide] at jk
 have ia:=fv.out.step dm (by unfold RdTag;decide)
 have ib:=fw.out.step dm (by unfold RdTag;decide)
 have ej:=dk.out.trans (dm.mono (T:=ReadTag) (fun _ h=>Qhc h))
 have ic:=dn.isB
 have ie:=Qar dn bb 8 (by omega) (by omega)
 obtain⟨fy,ga,dp,ap,jl,jm⟩:=hid6 ia ib ej fx ic ie
 clear ia ib ej fx ic ie dm dn fv fw dk
 go_wp2_with fail
 refine jm.out.mono ?_
 rintro e w7 ⟨bs,dq,⟨hr,rfl⟩|⟨nx,l7,v,gb,rfl,rfl,dr⟩⟩
 ·unfold Qav
  exact Jbz fy.out ga.out dp.out dq (by unfold pRead;rw[J.out];simp only[Z8];rw[U.out];simp only[Z8];rw[if_neg (by rw[X.out];simp)];rw[a7.out];simp only[Z8];rw[ac.out];simp only[Z8];rw[ap.out];simp only[Z8];rw[hr];rfl)
 have jn:=Qcb gb jl.out
 rw[show (2:Nat) ^ (8*8)=18446744073709551616 from by decide] at jn
 have a1:=fy.out.step dq (by unfold RdTag;decide)
 have ig:=ga.out.step dq (by unfold RdTag;decide)
 have em:=dp.out.trans (dq.mono (T:=ReadTag) (fun _ h=>Qhc h))
 have ii:=dr.isB
 obtain⟨c0,f0,c1,f1,c2,f2,c3,f3,c4,f4,c5,f5,c6,f6,c7,f7,c8,f8,c9,f9,aa,f10,ab,f11⟩:=Jby a1
 have e9:=(((((((((((((Step.refl w7 bs (fun t=>t=tRec)).set (b:=bx) (o:=0) a1.tag rfl (.int .u8 (kd:Int))).set (b:=bx) (o:=1) a1.tag rfl (.int .u32 (tx:Int))).set (b:=bx) (o:=2) a1.tag rfl (.int .u64 (pv:Int))).set (b:=bx) (o:=3) a1.tag rfl (.int .u64 (nx:Int))).set (b:=bx) (o:=4) a1.tag rfl (.int .u32 0)).set (b:=bx) (o:=5) a1.tag rfl (.int .u16 0)).set (b:=bx) (o:=6) a1.tag rfl (.bool false)).set (b:=bx) (o:=7) a1.tag rfl (.bool false)).set (b:=bx) (o:=8) a1.tag rfl (.slice none 0 0)).set (b:=bx) (o:=9) a1.tag rfl (.slice none 0 0)).set (b:=bx) (o:=10) a1.tag rfl (.slice none 0 0)).set (b:=bx) (o:=11) a1.tag rfl (.slice none 0 0))
 have ds:=((((((((((((a1.set 0 (.int .u8 (kd:Int))).set 1 (.int .u32 (tx:Int))).set 2 (.int .u64 (pv:Int))).set 3 (.int .u64 (nx:Int))).set 4 (.int .u32 0)).set 5 (.int .u16 0)).set 6 (.bool false)).set 7 (.bool false)).set 8 (.slice none 0 0)).set 9 (.slice none 0 0)).set 10 (.slice none 0 0)).set 11 (.slice none 0 0))
 have gd:=ig.step e9 (by decide)
 have dt:=em.trans (e9.mono (T:=ReadTag) (fun g h=>Qcd g (.inl h)))
 have dv:=dr.step e9 (by decide) (fun h=>hg (Qcd g (.inl h)))
 obtain⟨w8,gf⟩:∃w8,((((((((((((w7.setCell ⟨bx,0,none⟩ (.int .u8 (kd:Int))).setCell ⟨bx,1,none⟩ (.int .u32 (tx:Int))).setCell ⟨bx,2,none⟩ (.int .u64 (pv:Int))).setCell ⟨bx,3,none⟩ (.int .u64 (nx:Int))).setCell ⟨bx,4,none⟩ (.int .u32 0)).setCell ⟨bx,5,none⟩ (.int .u16 0)).setCell ⟨bx,6,none⟩ (.bool false)).setCell ⟨bx,7,none⟩ (.bool false)).setCell ⟨bx,8,none⟩ (.slice none 0 0)).setCell ⟨bx,9,none⟩ (.slice none 0 0)).setCell ⟨bx,10,none⟩ (.slice none 0 0)).setCell ⟨bx,11,none⟩ (.slice none 0 0))=w8:=⟨_,rfl⟩
 rw[gf] at ds gd dt dv
 replace ds:Own w8 bs bx tRec 127 [.int .u8 (kd:Int),.int .u32 (tx:Int),.int .u64 (pv:Int),.int .u64 (nx:Int),.int .u32 0,.int .u16 0,.bool false,.bool false,.slice none 0 0,.slice none 0 0,.slice none 0 0,.slice none 0 0]:=ds
 have en:=Qhk w8 bs kd tx pv nx 0 0 false false none none none none 0 0 0 0 0 0 0 0
 obtain⟨ij,ik,eo,ep,il,er,aw,HB7⟩:=hid8 ds gd dt dv gf en gb ii
 clear ds gd dt dv gf en gb ii dq a1 ig em dr e9 fy ga dp
 go_wp2_with fail
 rw[il.out]
 refine er.out.mono ?_
 rintro e w9 ⟨rfl,dw⟩
 have ba:=ij.out.step dw (fun h=>h)
 have cn:=ik.out.step dw (fun h=>h)
 have b8:=eo.out.trans (dw.mono (T:=ReadTag) (fun _ h=>h.elim))
 have b9:=ep.out.step dw (fun h=>h) (fun h=>h)
 clear dw ij ik eo ep er il c0 f0 c1 f1 c2 f2 c3 f3 c4 f4 c5 f5 c6 f6 c7 f7 c8 f8 c9 f9 aa f10 ab f11
 have h3:chgB kd=true\/(chgB kd=false/\kd=8)\/(chgB kd=false/\¬kd=8):=by
  cases chgB kd with
  | true=>exact .inl rfl
  | false=>exact .inr (by by_cases h:kd=8;exact .inl ⟨rfl,h⟩;exact .inr ⟨rfl,h⟩)
 rcases h3 with h3|⟨h3,h8⟩|⟨h3,h8⟩
 ·rw[h3]
  have ax:=Qqp b9 bb j1 j2
  obtain⟨dx,bv,ay,H3⟩:=hid4 ba cn b8 h3
  have az:=Z2 ax
  clear ax ba cn b8 b9 h3
  go_wp2_with fail
  refine az.out.mono ?_
  rintro e wA ⟨aq,b0,⟨hr,rfl⟩|⟨⟨pg,sl,hd,hs,bf,af⟩,lA,v,ea,rfl,⟨vb,va,rfl,io,iq,⟨pb,cb,rfl,gh⟩,⟨pa,ca,rfl,gi⟩⟩,bc⟩⟩
  ·unfold Qav
   exact Jbz dx.out bv.out ay.out b0 (by unfold pRead;rw[J.out];simp only[Z8];rw[U.out];simp only[Z8];rw[if_neg (by rw[X.out];simp)];rw[a7.out];simp only[Z8];rw[ac.out];simp only[Z8];rw[ap.out];simp only[Z8];rw[aw.out];simp only[Z8];rw[show pBody kd l7=none by unfold pBody;rw[if_pos H3.out,hr];rfl];rfl)
  simp only at gh gi io iq
  have Y:=dx.out.step b0 (by unfold RdTag;decide)
  have co:=bv.out.step b0 (by unfold RdTag;decide)
  have cd:=ay.out.trans (b0.mono (T:=ReadTag) (fun _ h=>Qhc h))
  obtain⟨c0,f0,c1,f1,c2,f2,c3,f3,c4,f4,c5,f5,c6,f6,c7,f7,c8,f8,c9,f9,aa,f10,ab,f11⟩:=Jby Y
  have cq:=(((((((Step.refl wA aq (fun t=>t=tRec)).set (b:=bx) (o:=4) Y.tag rfl (.int .u32 (pg:Int))).set (b:=bx) (o:=5) Y.tag rfl (.int .u16 (sl:Int))).set (b:=bx) (o:=6) Y.tag rfl (.bool hd)).set (b:=bx) (o:=7) Y.tag rfl (.bool hs)).set (b:=bx) (o:=8) Y.tag rfl (.slice pb bf.length cb)).set (b:=bx) (o:=9) Y.tag rfl (.slice pa af.length ca))
  have I:=((((((Y.set 4 (.int .u32 (pg:Int))).set 5 (.int .u16 (sl:Int))).set 6 (.bool hd)).set 7 (.bool hs)).set 8 (.slice pb bf.length cb)).set 9 (.slice pa af.length ca))
  have ar:=co.step cq (by decide)
  have F:=cd.trans (cq.mono (T:=ReadTag) (fun g h=>Qcd g (.inl h)))
  have G:=bc.step cq (by decide) (fun h=>hg (Qcd g (.inl h)))
  have L:OwnV _ aq (.slice pb bf.length cb) bf:=⟨pb,cb,rfl,gh.step cq (by decide)⟩
  have ad:OwnV _ aq (.slice pa af.length ca) af:=⟨pa,ca,rfl,gi.step cq (by decide)⟩
  obtain⟨wB,ae⟩:∃wB,((((((wA.setCell ⟨bx,4,none⟩ (.int .u32 (pg:Int))).setCell ⟨bx,5,none⟩ (.int .u16 (sl:Int))).setCell ⟨bx,6,none⟩ (.bool hd)).setCell ⟨bx,7,none⟩ (.bool hs)).setCell ⟨bx,8,none⟩ (.slice pb bf.length cb)).setCell ⟨bx,9,none⟩ (.slice pa af.length ca))=wB:=⟨_,rfl⟩
  rw[ae] at I ar F G L ad
  have Z:=NS.nil 75 4 Qct 0 wB aq tTx
  have ag:=NS.nil 195 2 Qgn 0 wB aq tPx
  have M:pBody kd l7=some ((⟨pg,sl,hd,hs,bf,af⟩,[],[]),lA):=by unfold pBody;rw[if_pos H3.out,ea];rfl
  have b1:([]:List TxnP).length=0:=rfl
  obtain⟨z,b4⟩:∃z,aq=z:=⟨_,rfl⟩
  rw[b4] at I ar F G L ad Z ag
  obtain⟨nb,gj⟩:∃n,bf.length=n:=⟨_,rfl⟩
  obtain⟨na,gk⟩:∃n,af.length=n:=⟨_,rfl⟩
  rw[gj] at I L ae ⊢
  rw[gk] at I ad ae ⊢
  obtain⟨b3,o3,c3,dy,-⟩:=bc
  have d3:=dy.at 0 (v:=.slice (some ⟨b3,o3,none⟩) lA.length c3) rfl
  have ey:bx≠br:=Y.ne dy (by decide)
  have ir:br≠bx:=fun e=>ey e.symm
  have ci:=co.at 0 (v:=.bool false) rfl
  have fi:=co.fz 0
  replace I:Own wB z bx tRec 127 [.int .u8 (kd:Int),.int .u32 (tx:Int),.int .u64 (pv:Int),.int .u64 (nx:Int),.int .u32 (pg:Int),.int .u16 (sl:Int),.bool hd,.bool hs,.slice pb nb cb,.slice pa na ca,.slice none 0 0,.slice none 0 0]:=I
  obtain⟨gn,gp⟩:=hid2 gj gk;clear gj gk
  obtain⟨a8,N,ah,bd⟩:=hid4 I ar F ae
  clear I ar F ae
  have gq:=G
  clear b0 Y co cd cq dy G gh gi az dx bv ay
  go_upto_region 12 with fail
  rw[bd.out]
  clear d3 ci fi ey ir bd c0 f0 c1 f1 c2 f2 c3 f3 c4 f4 c5 f5 c6 f6 c7 f7 c8 f8 c9 f9 aa f10 ab f11
  have L:=L;have G:=gq
  obtain⟨b3,o3,c3,ai,-⟩:=G
  have d3:=ai.at 0 (v:=.slice (some ⟨b3,o3,none⟩) lA.length c3) rfl
  clear ai
  obtain⟨ln,b5⟩:∃n,lA.length=n:=⟨_,rfl⟩
  rw[b5] at d3
  have O:=Qn4 (w:=wB) (τ:=z) kd tx pv nx pg sl hd hs pb pa none none nb cb na ca 0 0 0 0 b1 Z
  obtain⟨mb,b6⟩:∃m,mayB ⟨kd,tx,pv,nx,⟨pg,sl,hd,hs,bf,af⟩,[],[]⟩=m:=⟨_,rfl⟩
  have q:=b6
  unfold mayB at q
  try simp only at q
  simp only[gn.out,gp.out,List.length_nil] at q
  rw[q] at O
  obtain⟨e0,e1,e2,e3,y,be,bg,bh⟩:=hid8 L ad Z ag M b5 O b6
  clear L ad Z ag M b5 O b6 q
  obtain⟨c0,f0,c1,f1,c2,f2,c3,f3,c4,f4,c5,f5,c6,f6,c7,f7,c8,f8,c9,f9,aa,f10,ab,f11⟩:=Jby a8.out
  by_cases h0:0<ln
  ·have i0:(0:Int)<(ln:Int):=by omega
   have ci:=N.out.at 0 (v:=.bool false) rfl
   have fi:=N.out.fz 0
   have p:bx≠bi:=a8.out.ne N.out (by decide)
   have a6:bi≠bx:=fun e=>p e.symm
   obtain⟨i,j,d⟩:=put12 a8.out N.out (.int .u8 0) (.int .u32 0) (.int .u64 0) (.int .u64 0) (.int .u32 0) (.int .u16 0) (.bool false) (.bool false) (.slice none 0 0) (.slice none 0 0) (.slice none 0 0) (.slice none 0 0) (.bool false)
   have k:=ah.out.trans (d.mono (T:=ReadTag) Qcd)
   obtain⟨C,D,E,B⟩:=hid4 i j k d
   clear i j k d
   go_wp2_with fail
   refine leaves_cons (f := 202) (args:=#[.pointer (some ⟨bx,0,none⟩),.pointer (some ⟨bi,0,none⟩)]) (by simp) (by simp[go_sem]) ?_
   refine(Qbs _ bx bi).mono ?_
   rintro e u' b7 ⟨rfl,rfl,rfl⟩
   exact Qc9 rfl rfl C.out D.out ⟨z,E.out,.inl ⟨by unfold pRead;rw[J.out];simp only[Z8];rw[U.out];simp only[Z8];rw[if_neg (by rw[X.out];simp)];rw[a7.out];simp only[Z8];rw[ac.out];simp only[Z8];rw[ap.out];simp only[Z8];rw[aw.out];simp only[Z8];rw[y.out];simp only[Z8];rw[if_pos (.inl (by rw[be.out];exact h0))],rfl⟩⟩
  have i0:¬(0:Int)<(ln:Int):=by omega
  go_wp2_with fail
  refine bg.out.mono ?_
  rintro e wC ⟨rfl,r⟩
  have bj:=a8.out.step r (fun h=>h)
  have bk:=N.out.step r (fun h=>h)
  have aj:=ah.out.trans (r.mono (T:=ReadTag) (fun _ h=>h.elim))
  have ak:=e0.out.step r (fun h=>h)
  have al:=e1.out.step r (fun h=>h)
  have am:=e2.out.step r (fun h=>h)
  have an:=e3.out.step r (fun h=>h)
  obtain⟨R,s,ao,bl,bm,bn,bo⟩:=hid7 bj bk aj ak al am an
  clear bj bk aj ak al am an r c0 f0 c1 f1 c2 f2 c3 f3 c4 f4 c5 f5 c6 f6 c7 f7 c8 f8 c9 f9 aa f10 ab f11
  obtain⟨c0,f0,c1,f1,c2,f2,c3,f3,c4,f4,c5,f5,c6,f6,c7,f7,c8,f8,c9,f9,aa,f10,ab,f11⟩:=Jby R.out
  cases mb with
  | false =>
    have ci:=s.out.at 0 (v:=.bool false) rfl
    have fi:=s.out.fz 0
    have p:bx≠bi:=R.out.ne s.out (by decide)
    have a6:bi≠bx:=fun e=>p e.symm
    obtain⟨i,j,d⟩:=put12 R.out s.out (.int .u8 0) (.int .u32 0) (.int .u64 0) (.int .u64 0) (.int .u32 0) (.int .u16 0) (.bool false) (.bool false) (.slice none 0 0) (.slice none 0 0) (.slice none 0 0) (.slice none 0 0) (.bool false)
    have k:=ao.out.trans (d.mono (T:=ReadTag) Qcd)
    obtain⟨C,D,E,B⟩:=hid4 i j k d
    clear i j k d
    go_wp2_with fail
    refine leaves_cons (f := 202) (args:=#[.pointer (some ⟨bx,0,none⟩),.pointer (some ⟨bi,0,none⟩)]) (by simp) (by simp[go_sem]) ?_
    refine(Qbs _ bx bi).mono ?_
    rintro e u' b7 ⟨rfl,rfl,rfl⟩
    exact Qc9 rfl rfl C.out D.out ⟨z,E.out,.inl ⟨by unfold pRead;rw[J.out];simp only[Z8];rw[U.out];simp only[Z8];rw[if_neg (by rw[X.out];simp)];rw[a7.out];simp only[Z8];rw[ac.out];simp only[Z8];rw[ap.out];simp only[Z8];rw[aw.out];simp only[Z8];rw[y.out];simp only[Z8];rw[if_pos (.inr bh.out)],rfl⟩⟩
  | true =>
    have ci:=s.out.at 0 (v:=.bool false) rfl
    have fi:=s.out.fz 0
    have p:bx≠bi:=R.out.ne s.out (by decide)
    have a6:bi≠bx:=fun e=>p e.symm
    obtain⟨i,j,d⟩:=put12 R.out s.out (.int .u8 (kd:Int)) (.int .u32 (tx:Int)) (.int .u64 (pv:Int)) (.int .u64 (nx:Int)) (.int .u32 (pg:Int)) (.int .u16 (sl:Int)) (.bool hd) (.bool hs) (.slice pb nb cb) (.slice pa na ca) (.slice none 0 0) (.slice none 0 0) (.bool true)
    have k:=ao.out.trans (d.mono (T:=ReadTag) Qcd)
    obtain⟨C,D,E,B⟩:=hid4 i j k d
    clear i j k d
    go_wp2_with fail
    refine leaves_cons (f := 202) (args:=#[.pointer (some ⟨bx,0,none⟩),.pointer (some ⟨bi,0,none⟩)]) (by simp) (by simp[go_sem]) ?_
    refine(Qbs _ bx bi).mono ?_
    rintro e u' b7 ⟨rfl,rfl,rfl⟩
    exact Qc9 rfl rfl C.out D.out ⟨z,E.out,.inr ⟨_,_,by unfold pRead;rw[J.out];simp only[Z8];rw[U.out];simp only[Z8];rw[if_neg (by rw[X.out];simp)];rw[a7.out];simp only[Z8];rw[ac.out];simp only[Z8];rw[ap.out];simp only[Z8];rw[aw.out];simp only[Z8];rw[y.out];simp only[Z8];rw[if_neg (by rw[be.out,bh.out];rintro(h|h);exact h0 h;cases h)],rfl,_,_,_,_,_,rfl,bl.out.step B.out (by decide),bm.out.step B.out (by decide),bn.out.step B.out (by decide),bo.out.step B.out (by decide)⟩⟩
 ·rw[h3]
  subst h8
  obtain⟨nx0,hnx0⟩:∃n,n=nx:=⟨nx,rfl⟩
  have ax:=Qql b9 bb (fun h=>hg (Qna h)) ba rfl rfl rfl
  obtain⟨dx,bv,ay,H3⟩:=hid4 ba cn b8 h3
  have c0:=ba.at 0 (v:=.int .u8 ((8:Nat):Int)) rfl
  have az:=Z2 ax
  clear ax ba cn b8 b9 h3
  go_wp2_with fail
  refine az.out.mono ?_
  rintro e wA ⟨aq,vt,vp,b0,Y,⟨hr,rfl⟩|⟨tl,dl,lA,ea,rfl,Z,ag,bc⟩⟩
  ·have co:=bv.out.step b0 (by unfold Qbn;decide)
   replace Y:Own wA aq bx tRec 127 [.int .u8 ((8:Nat):Int),.int .u32 (tx:Int),.int .u64 (pv:Int),.int .u64 (nx:Int),.int .u32 0,.int .u16 0,.bool false,.bool false,.slice none 0 0,.slice none 0 0,vt,vp]:=Y
   have cd:=ay.out.trans (b0.mono (T:=ReadTag) (fun _ h=>Qna h))
   unfold Qav
   refine leaves_cons (f := 202) (args:=#[.pointer (some ⟨bx,0,none⟩),.pointer (some ⟨bi,0,none⟩)]) (by simp) (by simp[go_sem]) ?_
   refine(Qt5 Y co _ _ []).mono ?_
   rintro e u' b7 ⟨rfl,rfl,i,j,k⟩
   exact Qx3 rfl rfl i j ⟨aq,cd.trans (k.mono (T:=ReadTag) Qcd),.inl ⟨by unfold pRead;rw[J.out];simp only[Z8];rw[U.out];simp only[Z8];rw[if_neg (by rw[X.out];simp)];rw[a7.out];simp only[Z8];rw[ac.out];simp only[Z8];rw[ap.out];simp only[Z8];rw[aw.out];simp only[Z8];rw[show pBody 8 l7=none by unfold pBody;rw[if_neg (by decide),if_pos rfl,hr];rfl];rfl,rfl⟩⟩
  obtain⟨pt,ct,rfl⟩:=Z.val
  obtain⟨pp,cp,rfl⟩:=ag.val
  have ar:=bv.out.step b0 (by unfold Qbn;decide)
  have I:Own wA aq bx tRec 127 [.int .u8 ((8:Nat):Int),.int .u32 (tx:Int),.int .u64 (pv:Int),.int .u64 (nx:Int),.int .u32 0,.int .u16 0,.bool false,.bool false,.slice none 0 0,.slice none 0 0,.slice pt tl.length ct,.slice pp dl.length cp]:=Y
  have F:=ay.out.trans (b0.mono (T:=ReadTag) (fun _ h=>Qna h))
  have G:=bc
  have L:OwnV wA aq (.slice none 0 0) []:=⟨none,0,rfl,fun x hx=>by simp at hx,none,0,rfl,Z0 _,Z9 _,fun hx=>by simp at hx⟩
  have ad:=L
  have M:pBody 8 l7=some ((noChange,tl,dl),lA):=by unfold pBody;rw[if_neg (by decide),if_pos rfl,ea];rfl
  obtain⟨wB,ae⟩:∃wB,wA=wB:=⟨_,rfl⟩
  obtain⟨z,b4⟩:∃z,aq=z:=⟨_,rfl⟩
  rw[ae,b4] at I ar F G L ad Z ag
  obtain⟨nt,b1⟩:∃n,tl.length=n:=⟨_,rfl⟩
  obtain⟨np,e4⟩:∃n,dl.length=n:=⟨_,rfl⟩
  rw[b1] at I Z
  rw[e4] at I ag
  obtain⟨gp,gn⟩:=hid2 b1 e4
  obtain⟨a8,N,ah⟩:=hid3 I ar F
  clear I ar F b0 Y bc ea az dx bv ay c0 b4 e4
  have bd:=Z2 ae
  clear ae
  go_upto_region 12 with fail
  rw[bd.out]
  clear bd
  obtain⟨b3,o3,c3,ai,-⟩:=G
  have d3:=ai.at 0 (v:=.slice (some ⟨b3,o3,none⟩) lA.length c3) rfl
  clear ai
  obtain⟨ln,b5⟩:∃n,lA.length=n:=⟨_,rfl⟩
  rw[b5] at d3
  have O:=Qn4 (w:=wB) (τ:=z) 8 tx pv nx 0 0 false false none none pt pp 0 0 0 0 nt ct np cp b1 Z
  obtain⟨mb,b6⟩:∃m,mayB ⟨8,tx,pv,nx,noChange,tl,dl⟩=m:=⟨_,rfl⟩
  have q:=b6
  unfold mayB at q
  try simp only at q
  try simp only[noChange,gp.out,gn.out,List.length_nil] at q
  rw[q] at O
  obtain⟨e0,e1,e2,e3,y,be,bg,bh⟩:=hid8 L ad Z ag M b5 O b6
  clear L ad Z ag M b5 O b6 q
  obtain⟨c0,f0,c1,f1,c2,f2,c3,f3,c4,f4,c5,f5,c6,f6,c7,f7,c8,f8,c9,f9,aa,f10,ab,f11⟩:=Jby a8.out
  by_cases h0:0<ln
  ·have i0:(0:Int)<(ln:Int):=by omega
   have ci:=N.out.at 0 (v:=.bool false) rfl
   have fi:=N.out.fz 0
   have p:bx≠bi:=a8.out.ne N.out (by decide)
   have a6:bi≠bx:=fun e=>p e.symm
   obtain⟨i,j,d⟩:=put12 a8.out N.out (.int .u8 0) (.int .u32 0) (.int .u64 0) (.int .u64 0) (.int .u32 0) (.int .u16 0) (.bool false) (.bool false) (.slice none 0 0) (.slice none 0 0) (.slice none 0 0) (.slice none 0 0) (.bool false)
   have k:=ah.out.trans (d.mono (T:=ReadTag) Qcd)
   obtain⟨C,D,E,B⟩:=hid4 i j k d
   clear i j k d
   go_wp2_with fail
   refine leaves_cons (f := 202) (args:=#[.pointer (some ⟨bx,0,none⟩),.pointer (some ⟨bi,0,none⟩)]) (by simp) (by simp[go_sem]) ?_
   refine(Qbs _ bx bi).mono ?_
   rintro e u' b7 ⟨rfl,rfl,rfl⟩
   exact Qc9 rfl rfl C.out D.out ⟨z,E.out,.inl ⟨by unfold pRead;rw[J.out];simp only[Z8];rw[U.out];simp only[Z8];rw[if_neg (by rw[X.out];simp)];rw[a7.out];simp only[Z8];rw[ac.out];simp only[Z8];rw[ap.out];simp only[Z8];rw[aw.out];simp only[Z8];rw[y.out];simp only[Z8];rw[if_pos (.inl (by rw[be.out];exact h0))],rfl⟩⟩
  have i0:¬(0:Int)<(ln:Int):=by omega
  go_wp2_with fail
  refine bg.out.mono ?_
  rintro e wC ⟨rfl,r⟩
  have bj:=a8.out.step r (fun h=>h)
  have bk:=N.out.step r (fun h=>h)
  have aj:=ah.out.trans (r.mono (T:=ReadTag) (fun _ h=>h.elim))
  have ak:=e0.out.step r (fun h=>h)
  have al:=e1.out.step r (fun h=>h)
  have am:=e2.out.step r (fun h=>h)
  have an:=e3.out.step r (fun h=>h)
  obtain⟨R,s,ao,bl,bm,bn,bo⟩:=hid7 bj bk aj ak al am an
  clear bj bk aj ak al am an r c0 f0 c1 f1 c2 f2 c3 f3 c4 f4 c5 f5 c6 f6 c7 f7 c8 f8 c9 f9 aa f10 ab f11
  obtain⟨c0,f0,c1,f1,c2,f2,c3,f3,c4,f4,c5,f5,c6,f6,c7,f7,c8,f8,c9,f9,aa,f10,ab,f11⟩:=Jby R.out
  cases mb with
  | false =>
    have ci:=s.out.at 0 (v:=.bool false) rfl
    have fi:=s.out.fz 0
    have p:bx≠bi:=R.out.ne s.out (by decide)
    have a6:bi≠bx:=fun e=>p e.symm
    obtain⟨i,j,d⟩:=put12 R.out s.out (.int .u8 0) (.int .u32 0) (.int .u64 0) (.int .u64 0) (.int .u32 0) (.int .u16 0) (.bool false) (.bool false) (.slice none 0 0) (.slice none 0 0) (.slice none 0 0) (.slice none 0 0) (.bool false)
    have k:=ao.out.trans (d.mono (T:=ReadTag) Qcd)
    obtain⟨C,D,E,B⟩:=hid4 i j k d
    clear i j k d
    go_wp2_with fail
    refine leaves_cons (f := 202) (args:=#[.pointer (some ⟨bx,0,none⟩),.pointer (some ⟨bi,0,none⟩)]) (by simp) (by simp[go_sem]) ?_
    refine(Qbs _ bx bi).mono ?_
    rintro e u' b7 ⟨rfl,rfl,rfl⟩
    exact Qc9 rfl rfl C.out D.out ⟨z,E.out,.inl ⟨by unfold pRead;rw[J.out];simp only[Z8];rw[U.out];simp only[Z8];rw[if_neg (by rw[X.out];simp)];rw[a7.out];simp only[Z8];rw[ac.out];simp only[Z8];rw[ap.out];simp only[Z8];rw[aw.out];simp only[Z8];rw[y.out];simp only[Z8];rw[if_pos (.inr bh.out)],rfl⟩⟩
  | true =>
    have ci:=s.out.at 0 (v:=.bool false) rfl
    have fi:=s.out.fz 0
    have p:bx≠bi:=R.out.ne s.out (by decide)
    have a6:bi≠bx:=fun e=>p e.symm
    obtain⟨i,j,d⟩:=put12 R.out s.out (.int .u8 ((8:Nat):Int)) (.int .u32 (tx:Int)) (.int .u64 (pv:Int)) (.int .u64 (nx:Int)) (.int .u32 0) (.int .u16 0) (.bool false) (.bool false) (.slice none 0 0) (.slice none 0 0) (.slice pt nt ct) (.slice pp np cp) (.bool true)
    have k:=ao.out.trans (d.mono (T:=ReadTag) Qcd)
    obtain⟨C,D,E,B⟩:=hid4 i j k d
    clear i j k d
    go_wp2_with fail
    refine leaves_cons (f := 202) (args:=#[.pointer (some ⟨bx,0,none⟩),.pointer (some ⟨bi,0,none⟩)]) (by simp) (by simp[go_sem]) ?_
    refine(Qbs _ bx bi).mono ?_
    rintro e u' b7 ⟨rfl,rfl,rfl⟩
    exact Qc9 rfl rfl C.out D.out ⟨z,E.out,.inr ⟨_,_,by unfold pRead;rw[J.out];simp only[Z8];rw[U.out];simp only[Z8];rw[if_neg (by rw[X.out];simp)];rw[a7.out];simp only[Z8];rw[ac.out];simp only[Z8];rw[ap.out];simp only[Z8];rw[aw.out];simp only[Z8];rw[y.out];simp only[Z8];rw[if_neg (by rw[be.out,bh.out];rintro(h|h);exact h0 h;cases h)],rfl,_,_,_,_,_,rfl,bl.out.step B.out (by decide),bm.out.step B.out (by decide),bn.out.step B.out (by decide),bo.out.step B.out (by decide)⟩⟩
 ·rw[h3]
  have hk8:¬(kd:Int)=8:=by omega
  have M:pBody kd l7=some ((noChange,[],[]),l7):=by unfold pBody;rw[if_neg (by rw[h3];decide),if_neg h8]
  have I:=ba;have ar:=cn;have F:=b8;have G:=b9
  have L:OwnV w9 bs (.slice none 0 0) []:=⟨none,0,rfl,fun x hx=>by simp at hx,none,0,rfl,Z0 _,Z9 _,fun hx=>by simp at hx⟩
  have ad:=L
  have Z:=NS.nil 75 4 Qct 0 w9 bs tTx
  have ag:=NS.nil 195 2 Qgn 0 w9 bs tPx
  have b1:([]:List TxnP).length=0:=rfl
  have c0:=ba.at 0 (v:=.int .u8 (kd:Int)) rfl
  obtain⟨wB,ae⟩:∃wB,w9=wB:=⟨_,rfl⟩
  obtain⟨z,b4⟩:∃z,bs=z:=⟨_,rfl⟩
  rw[ae,b4] at I ar F G L ad Z ag
  obtain⟨a8,N,ah,H3,H8⟩:=hid5 I ar F h3 h8
  clear I ar F h3 h8 ba cn b8 b9 b4
  have bd:=Z2 ae
  clear ae
  go_upto_region 12 with fail
  rw[bd.out]
  clear bd c0
  obtain⟨b3,o3,c3,ai,-⟩:=G
  have d3:=ai.at 0 (v:=.slice (some ⟨b3,o3,none⟩) l7.length c3) rfl
  clear ai
  obtain⟨ln,b5⟩:∃n,l7.length=n:=⟨_,rfl⟩
  rw[b5] at d3
  have O:=Qn4 (w:=wB) (τ:=z) kd tx pv nx 0 0 false false none none none none 0 0 0 0 0 0 0 0 b1 Z
  obtain⟨mb,b6⟩:∃m,mayB ⟨kd,tx,pv,nx,noChange,[],[]⟩=m:=⟨_,rfl⟩
  have q:=b6
  unfold mayB at q
  try simp only at q
  try simp only[noChange,List.length_nil] at q
  rw[q] at O
  obtain⟨e0,e1,e2,e3,y,be,bg,bh⟩:=hid8 L ad Z ag M b5 O b6
  clear L ad Z ag M b5 O b6 q
  obtain⟨c0,f0,c1,f1,c2,f2,c3,f3,c4,f4,c5,f5,c6,f6,c7,f7,c8,f8,c9,f9,aa,f10,ab,f11⟩:=Jby a8.out
  by_cases h0:0<ln
  ·have i0:(0:Int)<(ln:Int):=by omega
   have ci:=N.out.at 0 (v:=.bool false) rfl
   have fi:=N.out.fz 0
   have p:bx≠bi:=a8.out.ne N.out (by decide)
   have a6:bi≠bx:=fun e=>p e.symm
   obtain⟨i,j,d⟩:=put12 a8.out N.out (.int .u8 0) (.int .u32 0) (.int .u64 0) (.int .u64 0) (.int .u32 0) (.int .u16 0) (.bool false) (.bool false) (.slice none 0 0) (.slice none 0 0) (.slice none 0 0) (.slice none 0 0) (.bool false)
   have k:=ah.out.trans (d.mono (T:=ReadTag) Qcd)
   obtain⟨C,D,E,B⟩:=hid4 i j k d
   clear i j k d
   go_wp2_with fail
   refine leaves_cons (f := 202) (args:=#[.pointer (some ⟨bx,0,none⟩),.pointer (some ⟨bi,0,none⟩)]) (by simp) (by simp[go_sem]) ?_
   refine(Qbs _ bx bi).mono ?_
   rintro e u' b7 ⟨rfl,rfl,rfl⟩
   exact Qc9 rfl rfl C.out D.out ⟨z,E.out,.inl ⟨by unfold pRead;rw[J.out];simp only[Z8];rw[U.out];simp only[Z8];rw[if_neg (by rw[X.out];simp)];rw[a7.out];simp only[Z8];rw[ac.out];simp only[Z8];rw[ap.out];simp only[Z8];rw[aw.out];simp only[Z8];rw[y.out];simp only[Z8];rw[if_pos (.inl (by rw[be.out];exact h0))],rfl⟩⟩
  have i0:¬(0:Int)<(ln:Int):=by omega
  go_wp2_with fail
  refine bg.out.mono ?_
  rintro e wC ⟨rfl,r⟩
  have bj:=a8.out.step r (fun h=>h)
  have bk:=N.out.step r (fun h=>h)
  have aj:=ah.out.trans (r.mono (T:=ReadTag) (fun _ h=>h.elim))
  have ak:=e0.out.step r (fun h=>h)
  have al:=e1.out.step r (fun h=>h)
  have am:=e2.out.step r (fun h=>h)
  have an:=e3.out.step r (fun h=>h)
  obtain⟨R,s,ao,bl,bm,bn,bo⟩:=hid7 bj bk aj ak al am an
  clear bj bk aj ak al am an r c0 f0 c1 f1 c2 f2 c3 f3 c4 f4 c5 f5 c6 f6 c7 f7 c8 f8 c9 f9 aa f10 ab f11
  obtain⟨c0,f0,c1,f1,c2,f2,c3,f3,c4,f4,c5,f5,c6,f6,c7,f7,c8,f8,c9,f9,aa,f10,ab,f11⟩:=Jby R.out
  cases mb with
  | false =>
    have ci:=s.out.at 0 (v:=.bool false) rfl
    have fi:=s.out.fz 0
    have p:bx≠bi:=R.out.ne s.out (by decide)
    have a6:bi≠bx:=fun e=>p e.symm
    obtain⟨i,j,d⟩:=put12 R.out s.out (.int .u8 0) (.int .u32 0) (.int .u64 0) (.int .u64 0) (.int .u32 0) (.int .u16 0) (.bool false) (.bool false) (.slice none 0 0) (.slice none 0 0) (.slice none 0 0) (.slice none 0 0) (.bool false)
    have k:=ao.out.trans (d.mono (T:=ReadTag) Qcd)
    obtain⟨C,D,E,B⟩:=hid4 i j k d
    clear i j k d
    go_wp2_with fail
    refine leaves_cons (f := 202) (args:=#[.pointer (some ⟨bx,0,none⟩),.pointer (some ⟨bi,0,none⟩)]) (by simp) (by simp[go_sem]) ?_
    refine(Qbs _ bx bi).mono ?_
    rintro e u' b7 ⟨rfl,rfl,rfl⟩
    exact Qc9 rfl rfl C.out D.out ⟨z,E.out,.inl ⟨by unfold pRead;rw[J.out];simp only[Z8];rw[U.out];simp only[Z8];rw[if_neg (by rw[X.out];simp)];rw[a7.out];simp only[Z8];rw[ac.out];simp only[Z8];rw[ap.out];simp only[Z8];rw[aw.out];simp only[Z8];rw[y.out];simp only[Z8];rw[if_pos (.inr bh.out)],rfl⟩⟩
  | true =>
    have ci:=s.out.at 0 (v:=.bool false) rfl
    have fi:=s.out.fz 0
    have p:bx≠bi:=R.out.ne s.out (by decide)
    have a6:bi≠bx:=fun e=>p e.symm
    obtain⟨i,j,d⟩:=put12 R.out s.out (.int .u8 (kd:Int)) (.int .u32 (tx:Int)) (.int .u64 (pv:Int)) (.int .u64 (nx:Int)) (.int .u32 0) (.int .u16 0) (.bool false) (.bool false) (.slice none 0 0) (.slice none 0 0) (.slice none 0 0) (.slice none 0 0) (.bool true)
    have k:=ao.out.trans (d.mono (T:=ReadTag) Qcd)
    obtain⟨C,D,E,B⟩:=hid4 i j k d
    clear i j k d
    go_wp2_with fail
    refine leaves_cons (f := 202) (args:=#[.pointer (some ⟨bx,0,none⟩),.pointer (some ⟨bi,0,none⟩)]) (by simp) (by simp[go_sem]) ?_
    refine(Qbs _ bx bi).mono ?_
    rintro e u' b7 ⟨rfl,rfl,rfl⟩
    exact Qc9 rfl rfl C.out D.out ⟨z,E.out,.inr ⟨_,_,by unfold pRead;rw[J.out];simp only[Z8];rw[U.out];simp only[Z8];rw[if_neg (by rw[X.out];simp)];rw[a7.out];simp only[Z8];rw[ac.out];simp only[Z8];rw[ap.out];simp only[Z8];rw[aw.out];simp only[Z8];rw[y.out];simp only[Z8];rw[if_neg (by rw[be.out,bh.out];rintro(h|h);exact h0 h;cases h)],rfl,_,_,_,_,_,rfl,bl.out.step B.out (by decide),bm.out.step B.out (by decide),bn.out.step B.out (by decide),bo.out.step B.out (by decide)⟩⟩
