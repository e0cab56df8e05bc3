/-
 Records: read.
-/
import Derived.Test.YtociicnopccppaaGreatMRdC
set_option maxRecDepth 100000
set_option maxHeartbeats 40000000
set_option linter.all false
namespace Go.Proofs.YtociicnopccppaaGreat
variable {bi bx:Nat}{g:Tag}{u0 u1 u10 u11 u2 u3 u4 u5 u6 u7 u8 u9:Value}{w:World}{τ:qa1}
open Go.RowKit
structure qak where
 kind:Nat
 txn:Nat
 prev:Nat
 next:Nat
 change:qa7
 qbm:List qdb
 pages:List (Nat×Nat)
def noChange:qa7:=⟨0,0,false,false,[],[]⟩
def qes (r:qak):Bool:=qep r.kind r.qbm.length r.pages.length (qef (qgb r.kind) r.change.page r.change.slot r.change.had r.change.has r.change.before.length r.change.after.length) (Qdu r.qbm)
def qev (k:Nat) (l:List Int):Option ((qa7×List qdb×List (Nat×Nat))×List Int) :=
 if qgb k=true then (Qd3 l).bind fun c=>some ((c.1,[],[]),c.2) else if k=8 then (Qdk l).bind fun t=>some ((noChange,t.1.1,t.1.2),t.2) else some ((noChange,[],[]),l)
def qct (l:List Int):Option qak :=
 (qg2 2 l).bind fun a=>(qem 4 a.2).bind fun s=>if s.1≠qeg s.2 s.2.length then none else (qem 1 s.2).bind fun k=>(qem 4 k.2).bind fun t=>(qem 8 t.2).bind fun p=>(qem 8 p.2).bind fun n=>(qev k.1 n.2).bind fun x =>
   if 0<x.2.length\/qes ⟨k.1,t.1,p.1,n.1,x.1.1,x.1.2.1,x.1.2.2⟩=false then none else some ⟨k.1,t.1,p.1,n.1,x.1.1,x.1.2.1,x.1.2.2⟩
def Qdj:Array Value:=zR
def qa4 (g:Tag):Prop:=g.1=198\/g.1=199\/g.1=200
theorem Qhc(h:qb8 g):qa4 g:=by unfold qb8 at h;subst h;exact .inl rfl
theorem Qna(h:Qbn g):qa4 g:=by
 rcases h with rfl|rfl|rfl|rfl
 ·exact .inl rfl
 ·exact .inr (.inr rfl)
 ·exact .inr (.inl rfl)
 ·exact .inr (.inl rfl)
theorem Qcd (g:Tag) (h:g=qdz\/g=tIs):qa4 g:=by
 rcases h with rfl|rfl
 ·exact .inr (.inr rfl)
 ·exact .inr (.inr rfl)
def qjn (w:World) (τ:qa1) (v:Value) (r:qak):Prop:=∃vb va vt vp n0,v = .agg #[.int .u8 r.kind,.int .u32 r.txn,.int .u64 r.prev,.int .u64 r.next,.int .u32 r.change.page,.int .u16 r.change.slot,.bool r.change.had,.bool r.change.has,vb,va,vt,vp]/\qin w τ vb r.change.before/\qin w τ va r.change.after/\NS 42 4 Qct n0 w τ tTx vt r.qbm/\NS 84 2 Qgn n0 w τ tPx vp r.pages
theorem Jby {t:TypeId}(h:Own w τ bx g t [u0,u1,u2,u3,u4,u5,u6,u7,u8,u9,u10,u11]) :
 w.cell? ⟨bx,0,none⟩=some u0/\w.frozen? ⟨bx,0,none⟩=false/\w.cell? ⟨bx,1,none⟩=some u1/\w.frozen? ⟨bx,1,none⟩=false/\w.cell? ⟨bx,2,none⟩=some u2/\w.frozen? ⟨bx,2,none⟩=false/\w.cell? ⟨bx,3,none⟩=some u3/\w.frozen? ⟨bx,3,none⟩=false/\w.cell? ⟨bx,4,none⟩=some u4/\w.frozen? ⟨bx,4,none⟩=false/\w.cell? ⟨bx,5,none⟩=some u5/\w.frozen? ⟨bx,5,none⟩=false/\w.cell? ⟨bx,6,none⟩=some u6/\w.frozen? ⟨bx,6,none⟩=false/\w.cell? ⟨bx,7,none⟩=some u7/\w.frozen? ⟨bx,7,none⟩=false/\w.cell? ⟨bx,8,none⟩=some u8/\w.frozen? ⟨bx,8,none⟩=false/\w.cell? ⟨bx,9,none⟩=some u9/\w.frozen? ⟨bx,9,none⟩=false/\w.cell? ⟨bx,10,none⟩=some u10/\w.frozen? ⟨bx,10,none⟩=false/\w.cell? ⟨bx,11,none⟩=some u11/\w.frozen? ⟨bx,11,none⟩=false:=by
 refine⟨h.at 0 rfl,h.fz 0,h.at 1 rfl,h.fz 1,h.at 2 rfl,h.fz 2,h.at 3 rfl,h.fz 3,h.at 4 rfl,h.fz 4,h.at 5 rfl,h.fz 5,h.at 6 rfl,h.fz 6,h.at 7 rfl,h.fz 7,h.at 8 rfl,h.fz 8,h.at 9 rfl,h.fz 9,h.at 10 rfl,h.fz 10,h.at 11 rfl,h.fz 11⟩
theorem qg0 {l:Value}(a:Own w τ bx qdz 73 [u0,u1,u2,u3,u4,u5,u6,u7,u8,u9,u10,u11]) (hi:Own w τ bi tIs 4 [l]) (v0 e h v3 v4 v5 i j k v9 c d r:Value) :
 Own (((((((((((((w.setCell ⟨bx,0,none⟩ v0).setCell ⟨bx,1,none⟩ e).setCell ⟨bx,2,none⟩ h).setCell ⟨bx,3,none⟩ v3).setCell ⟨bx,4,none⟩ v4).setCell ⟨bx,5,none⟩ v5).setCell ⟨bx,6,none⟩ i).setCell ⟨bx,7,none⟩ j).setCell ⟨bx,8,none⟩ k).setCell ⟨bx,9,none⟩ v9).setCell ⟨bx,10,none⟩ c).setCell ⟨bx,11,none⟩ d).setCell ⟨bi,0,none⟩ r) τ bx qdz 73 [v0,e,h,v3,v4,v5,i,j,k,v9,c,d]/\Own (((((((((((((w.setCell ⟨bx,0,none⟩ v0).setCell ⟨bx,1,none⟩ e).setCell ⟨bx,2,none⟩ h).setCell ⟨bx,3,none⟩ v3).setCell ⟨bx,4,none⟩ v4).setCell ⟨bx,5,none⟩ v5).setCell ⟨bx,6,none⟩ i).setCell ⟨bx,7,none⟩ j).setCell ⟨bx,8,none⟩ k).setCell ⟨bx,9,none⟩ v9).setCell ⟨bx,10,none⟩ c).setCell ⟨bx,11,none⟩ d).setCell ⟨bi,0,none⟩ r) τ bi tIs 4 [r]/\Step w τ (((((((((((((w.setCell ⟨bx,0,none⟩ v0).setCell ⟨bx,1,none⟩ e).setCell ⟨bx,2,none⟩ h).setCell ⟨bx,3,none⟩ v3).setCell ⟨bx,4,none⟩ v4).setCell ⟨bx,5,none⟩ v5).setCell ⟨bx,6,none⟩ i).setCell ⟨bx,7,none⟩ j).setCell ⟨bx,8,none⟩ k).setCell ⟨bx,9,none⟩ v9).setCell ⟨bx,10,none⟩ c).setCell ⟨bx,11,none⟩ d).setCell ⟨bi,0,none⟩ r) τ (fun t=>t=qdz\/t=tIs) :=
 ⟨((((((((((((a.set 0 v0).set 1 e).set 2 h).set 3 v3).set 4 v4).set 5 v5).set 6 i).set 7 j).set 8 k).set 9 v9).set 10 c).set 11 d).qd1 (p:=⟨bi,0,none⟩) (a.ne hi dC) r,(hi.step (((((((((((((Step.refl w τ (fun t=>t=qdz)).set (b:=bx) (o:=0) a.tag rfl v0).set (b:=bx) (o:=1) a.tag rfl e).set (b:=bx) (o:=2) a.tag rfl h).set (b:=bx) (o:=3) a.tag rfl v3).set (b:=bx) (o:=4) a.tag rfl v4).set (b:=bx) (o:=5) a.tag rfl v5).set (b:=bx) (o:=6) a.tag rfl i).set (b:=bx) (o:=7) a.tag rfl j).set (b:=bx) (o:=8) a.tag rfl k).set (b:=bx) (o:=9) a.tag rfl v9).set (b:=bx) (o:=10) a.tag rfl c).set (b:=bx) (o:=11) a.tag rfl d) dC).set 0 r,(((((((((((((Step.refl w τ (fun t=>t=qdz\/t=tIs)).set (b:=bx) (o:=0) a.tag (.inl rfl) v0).set (b:=bx) (o:=1) a.tag (.inl rfl) e).set (b:=bx) (o:=2) a.tag (.inl rfl) h).set (b:=bx) (o:=3) a.tag (.inl rfl) v3).set (b:=bx) (o:=4) a.tag (.inl rfl) v4).set (b:=bx) (o:=5) a.tag (.inl rfl) v5).set (b:=bx) (o:=6) a.tag (.inl rfl) i).set (b:=bx) (o:=7) a.tag (.inl rfl) j).set (b:=bx) (o:=8) a.tag (.inl rfl) k).set (b:=bx) (o:=9) a.tag (.inl rfl) v9).set (b:=bx) (o:=10) a.tag (.inl rfl) c).set (b:=bx) (o:=11) a.tag (.inl rfl) d).set (b:=bi) (o:=0) hi.tag (.inr rfl) r⟩
theorem Qt5 {h:Bool}(c:Own w τ bx qdz 73 [u0,u1,u2,u3,u4,u5,u6,u7,u8,u9,u10,u11]) (hi:Own w τ bi tIs 4 [.bool h]) (u:TypeId) (pv:Value) (a:List PanicEntry) :
 CallsD Tryz.prog 174 #[.pointer (some ⟨bx,0,none⟩),.pointer (some ⟨bi,0,none⟩)] (.panicking ({v:=.iface u pv,recovered:=false}::a)) w fun e d b =>
  e = .returned (.tuple #[])/\d = .panicking ({v:=.iface u pv,recovered:=true}::a)/\Own b τ bx qdz 73 [.int .u8 0,.int .u32 0,.int .u64 0,.int .u64 0,.int .u32 0,.int .u16 0,.bool false,.bool false,.slice none 0 0,.slice none 0 0,.slice none 0 0,.slice none 0 0]/\Own b τ bi tIs 4 [.bool false]/\Step w τ b τ (fun t=>t=qdz\/t=tIs):=by
 refine(Qwc c hi u pv a).mono ?_
 rintro e d b ⟨rfl,rfl,rfl⟩
 obtain⟨h1,h2,i⟩:=qg0 c hi (.int .u8 0) (.int .u32 0) (.int .u64 0) (.int .u64 0) (.int .u32 0) (.int .u16 0) (.bool false) (.bool false) (.slice none 0 0) (.slice none 0 0) (.slice none 0 0) (.slice none 0 0) (.bool false)
 exact⟨rfl,rfl,h1,h2,i⟩
theorem Qc9 {T:Array Value} {W:World} {r:Bool} {R:Ending->World->Prop}(h2:T[2]?.getD undef = .pointer (some ⟨bx,0,none⟩)) (c:T[3]?.getD undef = .pointer (some ⟨bi,0,none⟩)) (d:Own W τ bx qdz 73 [u0,u1,u2,u3,u4,u5,u6,u7,u8,u9,u10,u11]) (hi:Own W τ bi tIs 4 [.bool r])
 (h:R (.returned (.tuple #[.agg #[u0,u1,u2,u3,u4,u5,u6,u7,u8,u9,u10,u11],.bool r])) W):Leaves Tryz.prog Tryz.f123 T R [] .returning W:=by
 obtain⟨c0,-,c1,-,c2,-,c3,-,c4,-,c5,-,c6,-,e,-,i,-,j,-,a,-,b,-⟩:=Jby d
 have k:=hi.at 0 rfl
 simp[Leaves,settle,results,Tryz.results123,go_sem,h2,c,c0,c1,c2,c3,c4,c5,c6,e,i,j,a,b,k]
 exact h
theorem Qx3 {T:Array Value} {W:World} {r:Bool} {pv:Value} {R:Ending->World->Prop}(h2:T[2]?.getD undef = .pointer (some ⟨bx,0,none⟩)) (c:T[3]?.getD undef = .pointer (some ⟨bi,0,none⟩)) (d:Own W τ bx qdz 73 [u0,u1,u2,u3,u4,u5,u6,u7,u8,u9,u10,u11]) (hi:Own W τ bi tIs 4 [.bool r])
 (h:R (.returned (.tuple #[.agg #[u0,u1,u2,u3,u4,u5,u6,u7,u8,u9,u10,u11],.bool r])) W):Leaves Tryz.prog Tryz.f123 T R [] (settle (.panicking [{v:=pv,recovered:=true}])) W:=by
 obtain⟨c0,-,c1,-,c2,-,c3,-,c4,-,c5,-,c6,-,e,-,i,-,j,-,a,-,b,-⟩:=Jby d
 have k:=hi.at 0 rfl
 simp[Leaves,settle,results,Tryz.results123,go_sem,h2,c,c0,c1,c2,c3,c4,c5,c6,e,i,j,a,b,k]
 exact h
def ReadR (w:World) (τ:qa1) (r:Option qak) (e:Ending) (w':World):Prop :=
 ∃τ',Step w τ w' τ' qa4/\((r=none/\e = .returned (.tuple #[.agg Qdj,.bool false]))\/∃x v,r=some x/\e = .returned (.tuple #[v,.bool true])/\qjn w' τ' v x)
theorem Jbz {T:Array Value} {W c:World} {b τ1:qa1} {r:Bool} {l:List Int} {s:TypeId} {q:Fn} {cap a:Array Value} {S:Tag->Prop}(x:Own c τ1 bx qdz 73 [u0,u1,u2,u3,u4,u5,u6,u7,u8,u9,u10,u11]) (hi:Own c τ1 bi tIs 4 [.bool r]) (d:Step w b c τ1 qa4) (i:Step c τ1 W τ S)
 (y:qct l=none) (j:∀t,S t->qb8 t:=by exact fun _ h=>h) (k:(invoke (.fn q cap) a).run Tryz.prog W = .ok (.enter 174 #[.pointer (some ⟨bx,0,none⟩),.pointer (some ⟨bi,0,none⟩)]) W:=by simp[go_sem]) (h2:T[2]?.getD undef = .pointer (some ⟨bx,0,none⟩):=by rfl) (z:T[3]?.getD undef = .pointer (some ⟨bi,0,none⟩):=by rfl) :
 Leaves Tryz.prog Tryz.f123 T (ReadR w b (qct l)) [{target:=.fn q cap,args:=a}] (.panicking [{v:=.iface s (.agg #[]),recovered:=false}]) W:=by
 refine leaves_cons sM k ?_
 refine(Qt5 (x.step i (fun h=>by have:=j _ h;revert this;unfold qb8;decide)) (hi.step i (fun h=>by have:=j _ h;revert this;unfold qb8;decide)) _ _ []).mono ?_
 rintro e u' w'' ⟨rfl,rfl,n,o,p⟩
 exact Qx3 h2 z n o ⟨τ,(d.trans (i.mono (T:=qa4) (fun _ h=>Qhc (j _ h)))).trans (p.mono (T:=qa4) Qcd),.inl ⟨y,rfl⟩⟩
theorem Qqo {b o c:Nat} {l:List Int}(h:qf3 w τ g b o c l) (g2:l.length<=1000000) (hg:¬qa4 g) (hn:g≠qh3) (ho:g≠qbv) :
 Calls Tryz.prog 123 #[.slice (some ⟨b,o,none⟩) l.length c] w (ReadR w τ (qct l)):=by
 have b7:g≠tRd:=fun e=>hg (by rw[e];exact .inl rfl)
 have hq:=(((zS w τ).alloc (.cells Qdj 73) qdz).alloc (.cells #[.bool false] 4) tIs).alloc (.cells #[.slice (some ⟨b,o,none⟩) l.length c] 273) tRd
 have hx:=((Own.born w τ qdz 73 Qdj).qbn (.cells #[.bool false] 4) tIs).qbn (.cells #[.slice (some ⟨b,o,none⟩) l.length c] 273) tRd
 have hi:=(Own.born (w.alloc (.cells Qdj 73)) (τ.put w.heap.size qdz) tIs 4 #[.bool false]).qbn (.cells #[.slice (some ⟨b,o,none⟩) l.length c] 273) tRd
 have hr:=Own.born ((w.alloc (.cells Qdj 73)).alloc (.cells #[.bool false] 4)) ((τ.put w.heap.size qdz).put (w.alloc (.cells Qdj 73)).heap.size tIs) tRd 273 #[.slice (some ⟨b,o,none⟩) l.length c]
 have hl:=h.step hq id
 simp only[World.size_alloc] at hx hi hr hl hq
 obtain⟨bx,em⟩:=gN w.heap.size
 rw[em] at hx hi hr hl hq
 obtain⟨bi,en⟩:=gN (bx+1)
 rw[en] at hx hi hr hl hq
 obtain⟨br,eo⟩:=gN (bi+1)
 rw[eo] at hx hi hr hl hq
 generalize ((τ.put bx qdz).put bi tIs).put br tRd=hp at *
 unfold Qdj at hx hi hr hl hq
 obtain⟨w0,ep⟩:=gN (((w.alloc (.cells zR 73)).alloc (.cells #[.bool false] 4)).alloc (.cells #[.slice (some ⟨b,o,none⟩) l.length c] 273))
 rw[ep] at hx hi hr hl hq
 have g3:qhn w0 hp br g l:=⟨b,o,c,hr,hl⟩
 have g4:=hq.nz (T:=qa4)
 have g5:=Qkp g3 b7 2 oM
 have ht:=Z2 g2
 clear g2
 obtain⟨g6,Hx,Hi,g7,hv,hw,hy,hz⟩:=qen g5 hx hi g4 ep em en eo
 clear g5 hx hi g4 ep em en eo hr hl hq g3 h
 go_enter_defers Tryz.func123,Tryz.ntmps123
 go_wp2_with fail
 rw[hw.out,hy.out,hz.out,hv.out]
 refine g6.mono ?_
 rintro e w1 ⟨τ1,cv,⟨hr,rfl⟩|⟨x1,l1,v,er,rfl,-,dy⟩⟩
 ·unfold Qav
  exact Jbz Hx Hi g7 cv (by unfold qct;rw[hr];rfl)
 have i0:=Z2 er
 have g8:=Hx.step cv (by unfold qb8;decide)
 have g9:=Hi.step cv (by unfold qb8;decide)
 have dz:=g7.trans (cv.mono (T:=qa4) (fun _ h=>Qhc h))
 have ga:=Qar dy b7 4 oM oM
 obtain⟨et,ev,cw,gb,G⟩:=qbq g8 g9 dz ga er
 clear g8 g9 dz ga er cv dy g6
 go_wp2_with fail
 refine gb.mono ?_
 rintro e w2 ⟨dt,cx,⟨hr,rfl⟩|⟨sm,l2,v,ew,rfl,rfl,e0⟩⟩
 ·unfold Qav
  exact Jbz et ev cw cx (by unfold qct;rw[G.out];simp only[Z8];rw[hr];rfl)
 have gd:=et.step cx (by unfold qb8;decide)
 have ge:=ev.step cx (by unfold qb8;decide)
 have e1:=cw.trans (cx.mono (T:=qa4) (fun _ h=>Qhc h))
 have gf:=e0.isB
 obtain⟨b2,o2,c2,cy,gi⟩:=e0
 have bw:=(zS w2 dt).alloc (.cells #[.slice (some ⟨b2,o2,none⟩) l2.length c2] 58) qbv
 have e2:=Own.born w2 dt qbv 58 #[.slice (some ⟨b2,o2,none⟩) l2.length c2]
 have e3:=cy.step bw id
 have ey:=gi.step bw id
 have ez:=gd.step bw id
 have fa:=ge.step bw id
 have cz:=e1.trans bw.nz
 have d2:=cy.at 0 rfl
 have bp:=Qqe (e2.at 0 rfl) ey.bytes (by rw[(Qpf ew).2.2,List.length_drop,(Qmu i0).2.2.1,List.length_drop];have:=ht.out;omega)
 have i1:=Qh8 l2 l2.length
 obtain⟨ck,fb⟩:=gN (qeg l2 l2.length)
 rw[fb] at bp i1
 have hcw:IntKind.u64.wrap (ck:Int)=ck:=by
  have:IntKind.u64.wrap (ck:Int)=ck%18446744073709551616:=by simp[IntKind.wrap,IntKind.bits,IntKind.signed]
  rw[this];omega
 have d0:qhn (w2.alloc (.cells #[.slice (some ⟨b2,o2,none⟩) l2.length c2] 58)) (dt.put w2.heap.size qbv) br g l2:=⟨b2,o2,c2,e3,ey⟩
 obtain⟨w3,dv⟩:=gN (w2.alloc (.cells #[.slice (some ⟨b2,o2,none⟩) l2.length c2] 58))
 rw[dv] at ez fa cz bp d0
 generalize dt.put w2.heap.size qbv=i2 at *
 obtain⟨ln2,e4⟩:=gN l2.length
 rw[e4] at d2 dv
 have gj:=Qar d0 b7 1 oM oM
 obtain⟨bz,bm,bq,gk,R,i3,i4,i5,U⟩:=qgw ez fa cz bp ew gf gj dv fb
 clear ez fa cz bp ew gf gj dv fb e4 cx gd ge e1 cy gi bw e2 e3 ey d0 gb et ev cw
 go_wp2_with fail
 rw[i5.out]
 refine gk.mono ?_
 rintro e w3' ⟨rfl,rfl⟩
 by_cases e5:sm=ck
 rotate_left
 ·have hsI:¬(sm:Int)=ck:=oM
  obtain⟨c0,f0,c1,f1,c2,f2,c3,f3,c4,f4,c5,f5,c6,f6,c7,f7,c8,f8,c9,f9,a4,a5,a6,a7⟩:=Jby bz
  have ci:=bm.at 0 rfl
  have fi:=bm.fz 0
  have k:bx≠bi:=bz.ne bm dC
  have a1:bi≠bx:=fun e=>k e.symm
  obtain⟨d,i,a⟩:=qg0 bz bm (.int .u8 0) (.int .u32 0) (.int .u64 0) (.int .u64 0) (.int .u32 0) (.int .u16 0) (.bool false) (.bool false) (.slice none 0 0) (.slice none 0 0) (.slice none 0 0) (.slice none 0 0) (.bool false)
  have j:=bq.trans (a.mono (T:=qa4) Qcd)
  clear a
  obtain⟨z,B,C⟩:=qan d i j
  clear d i j
  go_wp2_with fail
  refine leaves_cons (f := 174) (args:=#[.pointer (some ⟨bx,0,none⟩),.pointer (some ⟨bi,0,none⟩)]) sM (by simp[go_sem]) ?_
  refine(Qbs _ bx bi).mono ?_
  rintro e u' b1 ⟨rfl,rfl,rfl⟩
  exact Qc9 rfl rfl z B ⟨i2,C,.inl ⟨by unfold qct;rw[G.out];simp only[Z8];rw[R.out];simp only[Z8];rw[if_pos (by rw[U.out];exact e5)],rfl⟩⟩
 subst e5
 go_wp2_with fail
 refine i4.mono ?_
 rintro e w4 ⟨τ4,d5,⟨hr,rfl⟩|⟨kd,l4,v,fc,rfl,rfl,d6⟩⟩
 ·unfold Qav
  exact Jbz bz bm bq d5 (by unfold qct;rw[G.out];simp only[Z8];rw[R.out];simp only[Z8];rw[if_neg (by rw[U.out];simp)];rw[hr];rfl)
 have gl:=Qcb fc i3
 rw[show (2:Nat) ^ (8*1)=256 from by decide] at gl
 have hw4:IntKind.u8.wrap (kd:Int)=kd:=Qrv kd gl
 have gm:=bz.step d5 (by unfold qb8;decide)
 have gn:=bm.step d5 (by unfold qb8;decide)
 have e6:=bq.trans (d5.mono (T:=qa4) (fun _ h=>Qhc h))
 have gp:=d6.isB
 have gq:=Qar d6 b7 4 oM oM
 obtain⟨fe,ff,d7,a2,i6,i7⟩:=qcq gm gn e6 fc gp gq
 clear gm gn e6 fc gp gq d5 d6 bz bm bq
 go_wp2_with fail
 refine i7.mono ?_
 rintro e w5 ⟨τ5,d8,⟨hr,rfl⟩|⟨tx,l5,v,fg,rfl,rfl,e7⟩⟩
 ·unfold Qav
  exact Jbz fe ff d7 d8 (by unfold qct;rw[G.out];simp only[Z8];rw[R.out];simp only[Z8];rw[if_neg (by rw[U.out];simp)];rw[a2.out];simp only[Z8];rw[hr];rfl)
 have gr:=Qcb fg i6
 rw[show (2:Nat) ^ (8*4)=4294967296 from by decide] at gr
 have hw5:IntKind.u32.wrap (tx:Int)=tx:=Qb1 tx gr
 have gs:=fe.step d8 (by unfold qb8;decide)
 have gt:=ff.step d8 (by unfold qb8;decide)
 have e8:=d7.trans (d8.mono (T:=qa4) (fun _ h=>Qhc h))
 have gv:=Qar e7 b7 8 oM oM
 obtain⟨fh,fj,d9,a8,i8⟩:=qbq gs gt e8 fg gv
 clear gs gt e8 fg gv d8 e7 fe ff d7
 go_wp2_with fail
 refine i8.mono ?_
 rintro e w6 ⟨τ6,da,⟨hr,rfl⟩|⟨pv,l6,v,gw,rfl,rfl,e9⟩⟩
 ·unfold Qav
  exact Jbz fh fj d9 da (by unfold qct;rw[G.out];simp only[Z8];rw[R.out];simp only[Z8];rw[if_neg (by rw[U.out];simp)];rw[a2.out];simp only[Z8];rw[a8.out];simp only[Z8];rw[hr];rfl)
 have gx:=fh.step da (by unfold qb8;decide)
 have gy:=fj.step da (by unfold qb8;decide)
 have ea:=d9.trans (da.mono (T:=qa4) (fun _ h=>Qhc h))
 have gz:=Qar e9 b7 8 oM oM
 obtain⟨fk,fm,db,al,i9⟩:=qbq gx gy ea gw gz
 clear gx gy ea gw gz da e9 fh fj d9
 go_wp2_with fail
 refine i9.mono ?_
 rintro e w7 ⟨bn,dc,⟨hr,rfl⟩|⟨nx,l7,v,h1,rfl,rfl,eb⟩⟩
 ·unfold Qav
  exact Jbz fk fm db dc (by unfold qct;rw[G.out];simp only[Z8];rw[R.out];simp only[Z8];rw[if_neg (by rw[U.out];simp)];rw[a2.out];simp only[Z8];rw[a8.out];simp only[Z8];rw[al.out];simp only[Z8];rw[hr];rfl)
 have Y:=fk.step dc (by unfold qb8;decide)
 have h2:=fm.step dc (by unfold qb8;decide)
 have ec:=db.trans (dc.mono (T:=qa4) (fun _ h=>Qhc h))
 obtain⟨c0,f0,c1,f1,c2,f2,c3,f3,c4,f4,c5,f5,c6,f6,c7,f7,c8,f8,c9,f9,a4,a5,a6,a7⟩:=Jby Y
 have dw:=(((((((((((((Step.refl w7 bn (fun t=>t=qdz)).set (b:=bx) (o:=0) Y.tag rfl (.int .u8 kd)).set (b:=bx) (o:=1) Y.tag rfl (.int .u32 tx)).set (b:=bx) (o:=2) Y.tag rfl (.int .u64 pv)).set (b:=bx) (o:=3) Y.tag rfl (.int .u64 nx)).set (b:=bx) (o:=4) Y.tag rfl (.int .u32 0)).set (b:=bx) (o:=5) Y.tag rfl (.int .u16 0)).set (b:=bx) (o:=6) Y.tag rfl (.bool false)).set (b:=bx) (o:=7) Y.tag rfl (.bool false)).set (b:=bx) (o:=8) Y.tag rfl (.slice none 0 0)).set (b:=bx) (o:=9) Y.tag rfl (.slice none 0 0)).set (b:=bx) (o:=10) Y.tag rfl (.slice none 0 0)).set (b:=bx) (o:=11) Y.tag rfl (.slice none 0 0))
 have dd:=((((((((((((Y.set 0 (.int .u8 kd)).set 1 (.int .u32 tx)).set 2 (.int .u64 pv)).set 3 (.int .u64 nx)).set 4 (.int .u32 0)).set 5 (.int .u16 0)).set 6 (.bool false)).set 7 (.bool false)).set 8 (.slice none 0 0)).set 9 (.slice none 0 0)).set 10 (.slice none 0 0)).set 11 (.slice none 0 0))
 have fo:=h2.step dw dC
 have de:=ec.trans (dw.mono (T:=qa4) (fun g h=>Qcd g (.inl h)))
 have df:=eb.step dw dC (fun h=>hg (Qcd g (.inl h)))
 obtain⟨w8,fp⟩:=gN (((((((((((((w7.setCell ⟨bx,0,none⟩ (.int .u8 kd)).setCell ⟨bx,1,none⟩ (.int .u32 tx)).setCell ⟨bx,2,none⟩ (.int .u64 pv)).setCell ⟨bx,3,none⟩ (.int .u64 nx)).setCell ⟨bx,4,none⟩ (.int .u32 0)).setCell ⟨bx,5,none⟩ (.int .u16 0)).setCell ⟨bx,6,none⟩ (.bool false)).setCell ⟨bx,7,none⟩ (.bool false)).setCell ⟨bx,8,none⟩ (.slice none 0 0)).setCell ⟨bx,9,none⟩ (.slice none 0 0)).setCell ⟨bx,10,none⟩ (.slice none 0 0)).setCell ⟨bx,11,none⟩ (.slice none 0 0)))
 rw[fp] at dd fo de df
 replace dd:Own w8 bn bx qdz 73 [.int .u8 kd,.int .u32 tx,.int .u64 pv,.int .u64 nx,.int .u32 0,.int .u16 0,.bool false,.bool false,.slice none 0 0,.slice none 0 0,.slice none 0 0,.slice none 0 0]:=dd
 have ed:=Qhk w8 bn kd tx pv nx 0 0 false false none none none none 0 0 0 0 0 0 0 0
 obtain⟨h4,h5,ee,ef,h6,eg,ap⟩:=qdr dd fo de df fp ed h1
 clear dd fo de df fp ed h1 dc Y h2 ec eb dw fk fm db
 go_wp2_with fail
 rw[h6.out]
 refine eg.mono ?_
 rintro e w9 ⟨rfl,dh⟩
 have b6:=h4.step dh id
 have cq:=h5.step dh id
 have b4:=ee.trans dh.nz
 have b5:=ef.step dh id id
 clear dh h4 h5 ee ef eg h6 c0 f0 c1 f1 c2 f2 c3 f3 c4 f4 c5 f5 c6 f6 c7 f7 c8 f8 c9 f9 a4 a5 a6 a7
 have h3:qgb kd=true\/(qgb kd=false/\kd=8)\/(qgb kd=false/\¬kd=8):=by
  cases qgb kd with
  | true=>exact .inl rfl
  | false=>exact .inr (by by_cases h:kd=8;exact .inl ⟨rfl,h⟩;exact .inr ⟨rfl,h⟩)
 rcases h3 with h3|⟨h3,h8⟩|⟨h3,h8⟩
 ·rw[h3]
  have aq:=Qqp b5 b7 hn ho
  obtain⟨di,bo,ar,H3⟩:=qb9 b6 cq b4 h3
  have av:=Z2 aq
  clear aq b6 cq b4 b5 h3
  go_wp2_with fail
  refine av.mono ?_
  rintro e wA ⟨am,aw,⟨hr,rfl⟩|⟨⟨pg,sl,hd,hs,bf,af⟩,lA,v,dx,rfl,⟨vb,va,rfl,h9,ha,⟨pb,cb,rfl,fr⟩,⟨pa,ca,rfl,fs⟩⟩,b8⟩⟩
  ·unfold Qav
   exact Jbz di bo ar aw (by unfold qct;rw[G.out];simp only[Z8];rw[R.out];simp only[Z8];rw[if_neg (by rw[U.out];simp)];rw[a2.out];simp only[Z8];rw[a8.out];simp only[Z8];rw[al.out];simp only[Z8];rw[ap.out];simp only[Z8];rw[show qev kd l7=none by unfold qev;rw[if_pos H3.out,hr];rfl];rfl)
  simp only at fr fs h9 ha
  have Z:=di.step aw (by unfold qb8;decide)
  have cr:=bo.step aw (by unfold qb8;decide)
  have bv:=ar.trans (aw.mono (T:=qa4) (fun _ h=>Qhc h))
  obtain⟨c0,f0,c1,f1,c2,f2,c3,f3,c4,f4,c5,f5,c6,f6,c7,f7,c8,f8,c9,f9,a4,a5,a6,a7⟩:=Jby Z
  have cs:=(((((((Step.refl wA am (fun t=>t=qdz)).set (b:=bx) (o:=4) Z.tag rfl (.int .u32 pg)).set (b:=bx) (o:=5) Z.tag rfl (.int .u16 sl)).set (b:=bx) (o:=6) Z.tag rfl (.bool hd)).set (b:=bx) (o:=7) Z.tag rfl (.bool hs)).set (b:=bx) (o:=8) Z.tag rfl (.slice pb bf.length cb)).set (b:=bx) (o:=9) Z.tag rfl (.slice pa af.length ca))
  have F:=((((((Z.set 4 (.int .u32 pg)).set 5 (.int .u16 sl)).set 6 (.bool hd)).set 7 (.bool hs)).set 8 (.slice pb bf.length cb)).set 9 (.slice pa af.length ca))
  have an:=cr.step cs dC
  have D:=bv.trans (cs.mono (T:=qa4) (fun g h=>Qcd g (.inl h)))
  have E:=b8.step cs dC (fun h=>hg (Qcd g (.inl h)))
  have I:qin _ am (.slice pb bf.length cb) bf:=⟨pb,cb,rfl,fr.step cs dC⟩
  have a9:qin _ am (.slice pa af.length ca) af:=⟨pa,ca,rfl,fs.step cs dC⟩
  obtain⟨wB,aa⟩:=gN (((((((wA.setCell ⟨bx,4,none⟩ (.int .u32 pg)).setCell ⟨bx,5,none⟩ (.int .u16 sl)).setCell ⟨bx,6,none⟩ (.bool hd)).setCell ⟨bx,7,none⟩ (.bool hs)).setCell ⟨bx,8,none⟩ (.slice pb bf.length cb)).setCell ⟨bx,9,none⟩ (.slice pa af.length ca)))
  rw[aa] at F an D E I a9
  have X:=NS.nil 42 4 Qct 0 wB am tTx
  have ab:=NS.nil 84 2 Qgn 0 wB am tPx
  have J:qev kd l7=some ((⟨pg,sl,hd,hs,bf,af⟩,[],[]),lA):=by unfold qev;rw[if_pos H3.out,dx];rfl
  have ax:([]:List qdb).length=0:=rfl
  obtain⟨a0,ay⟩:=gN am
  rw[ay] at F an D E I a9 X ab
  obtain⟨nb,ft⟩:=gN bf.length
  obtain⟨na,fv⟩:=gN af.length
  rw[ft] at F I aa ⊢
  rw[fv] at F a9 aa ⊢
  obtain⟨b3,o3,c3,ek,-⟩:=b8
  have d3:=ek.at 0 rfl
  have ci:=cr.at 0 rfl
  have fi:=cr.fz 0
  replace F:Own wB a0 bx qdz 73 [.int .u8 kd,.int .u32 tx,.int .u64 pv,.int .u64 nx,.int .u32 pg,.int .u16 sl,.bool hd,.bool hs,.slice pb nb cb,.slice pa na ca,.slice none 0 0,.slice none 0 0]:=F
  obtain⟨fx,fy⟩:=qaj ft fv;clear ft fv
  obtain⟨a3,L,ac,b9⟩:=qb9 F an D aa
  clear F an D aa
  have g0:=E
  clear aw Z cr bv cs ek E fr fs av di bo ar
  go_upto_region 12 with fail
  rw[b9.out]
  clear d3 ci fi b9 c0 f0 c1 f1 c2 f2 c3 f3 c4 f4 c5 f5 c6 f6 c7 f7 c8 f8 c9 f9 a4 a5 a6 a7
  have I:=I;have E:=g0
  obtain⟨b3,o3,c3,ad,-⟩:=E
  have d3:=ad.at 0 rfl
  clear ad
  obtain⟨ln,az⟩:=gN lA.length
  rw[az] at d3
  have M:=Qn4 (w:=wB) (τ:=a0) kd tx pv nx pg sl hd hs pb pa none none nb cb na ca 0 0 0 0 ax X
  obtain⟨mb,b0⟩:=gN (qes ⟨kd,tx,pv,nx,⟨pg,sl,hd,hs,bf,af⟩,[],[]⟩)
  have p:=b0
  unfold qes at p
  try simp only at p
  simp only[fx.out,fy.out,List.length_nil] at p
  rw[p] at M
  obtain⟨dj,dk,dm,dn,s,ba,bb,bc⟩:=qen I a9 X ab J az M b0
  clear I a9 X ab J az M b0 p
  obtain⟨c0,f0,c1,f1,c2,f2,c3,f3,c4,f4,c5,f5,c6,f6,c7,f7,c8,f8,c9,f9,a4,a5,a6,a7⟩:=Jby a3
  by_cases h0:0<ln
  ·have ci:=L.at 0 rfl
   have fi:=L.fz 0
   have k:bx≠bi:=a3.ne L dC
   have a1:bi≠bx:=fun e=>k e.symm
   obtain⟨d,i,a⟩:=qg0 a3 L (.int .u8 0) (.int .u32 0) (.int .u64 0) (.int .u64 0) (.int .u32 0) (.int .u16 0) (.bool false) (.bool false) (.slice none 0 0) (.slice none 0 0) (.slice none 0 0) (.slice none 0 0) (.bool false)
   have j:=ac.trans (a.mono (T:=qa4) Qcd)
   obtain⟨z,B,C,y⟩:=qb9 d i j a
   clear d i j a
   go_wp2_with fail
   refine leaves_cons (f := 174) (args:=#[.pointer (some ⟨bx,0,none⟩),.pointer (some ⟨bi,0,none⟩)]) sM (by simp[go_sem]) ?_
   refine(Qbs _ bx bi).mono ?_
   rintro e u' b1 ⟨rfl,rfl,rfl⟩
   exact Qc9 rfl rfl z B ⟨a0,C,.inl ⟨by unfold qct;rw[G.out];simp only[Z8];rw[R.out];simp only[Z8];rw[if_neg (by rw[U.out];simp)];rw[a2.out];simp only[Z8];rw[a8.out];simp only[Z8];rw[al.out];simp only[Z8];rw[ap.out];simp only[Z8];rw[s.out];simp only[Z8];rw[if_pos (.inl (by rw[ba.out];exact h0))],rfl⟩⟩
  go_wp2_with fail
  refine bb.mono ?_
  rintro e wC ⟨rfl,q⟩
  have bd:=a3.step q id
  have be:=L.step q id
  have ae:=ac.trans q.nz
  have ag:=dj.step q id
  have ah:=dk.step q id
  have ai:=dm.step q id
  have aj:=dn.step q id
  obtain⟨O,r,ak,bg,bh,bj,bk⟩:=qdr bd be ae ag ah ai aj
  clear bd be ae ag ah ai aj q c0 f0 c1 f1 c2 f2 c3 f3 c4 f4 c5 f5 c6 f6 c7 f7 c8 f8 c9 f9 a4 a5 a6 a7
  obtain⟨c0,f0,c1,f1,c2,f2,c3,f3,c4,f4,c5,f5,c6,f6,c7,f7,c8,f8,c9,f9,a4,a5,a6,a7⟩:=Jby O
  cases mb with
  | false =>
    have ci:=r.at 0 rfl
    have fi:=r.fz 0
    have k:bx≠bi:=O.ne r dC
    have a1:bi≠bx:=fun e=>k e.symm
    obtain⟨d,i,a⟩:=qg0 O r (.int .u8 0) (.int .u32 0) (.int .u64 0) (.int .u64 0) (.int .u32 0) (.int .u16 0) (.bool false) (.bool false) (.slice none 0 0) (.slice none 0 0) (.slice none 0 0) (.slice none 0 0) (.bool false)
    have j:=ak.trans (a.mono (T:=qa4) Qcd)
    obtain⟨z,B,C,y⟩:=qb9 d i j a
    clear d i j a
    go_wp2_with fail
    refine leaves_cons (f := 174) (args:=#[.pointer (some ⟨bx,0,none⟩),.pointer (some ⟨bi,0,none⟩)]) sM (by simp[go_sem]) ?_
    refine(Qbs _ bx bi).mono ?_
    rintro e u' b1 ⟨rfl,rfl,rfl⟩
    exact Qc9 rfl rfl z B ⟨a0,C,.inl ⟨by unfold qct;rw[G.out];simp only[Z8];rw[R.out];simp only[Z8];rw[if_neg (by rw[U.out];simp)];rw[a2.out];simp only[Z8];rw[a8.out];simp only[Z8];rw[al.out];simp only[Z8];rw[ap.out];simp only[Z8];rw[s.out];simp only[Z8];rw[if_pos (.inr bc)],rfl⟩⟩
  | true =>
    have ci:=r.at 0 rfl
    have fi:=r.fz 0
    have k:bx≠bi:=O.ne r dC
    have a1:bi≠bx:=fun e=>k e.symm
    obtain⟨d,i,a⟩:=qg0 O r (.int .u8 kd) (.int .u32 tx) (.int .u64 pv) (.int .u64 nx) (.int .u32 pg) (.int .u16 sl) (.bool hd) (.bool hs) (.slice pb nb cb) (.slice pa na ca) (.slice none 0 0) (.slice none 0 0) (.bool true)
    have j:=ak.trans (a.mono (T:=qa4) Qcd)
    obtain⟨z,B,C,y⟩:=qb9 d i j a
    clear d i j a
    go_wp2_with fail
    refine leaves_cons (f := 174) (args:=#[.pointer (some ⟨bx,0,none⟩),.pointer (some ⟨bi,0,none⟩)]) sM (by simp[go_sem]) ?_
    refine(Qbs _ bx bi).mono ?_
    rintro e u' b1 ⟨rfl,rfl,rfl⟩
    exact Qc9 rfl rfl z B ⟨a0,C,.inr ⟨_,_,by unfold qct;rw[G.out];simp only[Z8];rw[R.out];simp only[Z8];rw[if_neg (by rw[U.out];simp)];rw[a2.out];simp only[Z8];rw[a8.out];simp only[Z8];rw[al.out];simp only[Z8];rw[ap.out];simp only[Z8];rw[s.out];simp only[Z8];rw[if_neg (by rw[ba.out,bc.out];rintro(h|h);exact h0 h;cases h)],rfl,_,_,_,_,_,rfl,bg.step y dC,bh.step y dC,bj.step y dC,bk.step y dC⟩⟩
 ·rw[h3]
  subst h8
  obtain⟨nx0,hnx0⟩:∃n,n=nx:=⟨nx,rfl⟩
  have aq:=Qql b5 b7 (fun h=>hg (Qna h)) b6 rfl rfl rfl
  obtain⟨di,bo,ar,H3⟩:=qb9 b6 cq b4 h3
  have c0:=b6.at 0 rfl
  have av:=Z2 aq
  clear aq b6 cq b4 b5 h3
  go_wp2_with fail
  refine av.mono ?_
  rintro e wA ⟨am,vt,vp,aw,Z,⟨hr,rfl⟩|⟨tl,dl,lA,dx,rfl,X,ab,b8⟩⟩
  ·have cr:=bo.step aw (by unfold Qbn;decide)
   replace Z:Own wA am bx qdz 73 [.int .u8 ((8:Nat):Int),.int .u32 tx,.int .u64 pv,.int .u64 nx,.int .u32 0,.int .u16 0,.bool false,.bool false,.slice none 0 0,.slice none 0 0,vt,vp]:=Z
   have bv:=ar.trans (aw.mono (T:=qa4) (fun _ h=>Qna h))
   unfold Qav
   refine leaves_cons (f := 174) (args:=#[.pointer (some ⟨bx,0,none⟩),.pointer (some ⟨bi,0,none⟩)]) sM (by simp[go_sem]) ?_
   refine(Qt5 Z cr _ _ []).mono ?_
   rintro e u' b1 ⟨rfl,rfl,d,i,j⟩
   exact Qx3 rfl rfl d i ⟨am,bv.trans (j.mono (T:=qa4) Qcd),.inl ⟨by unfold qct;rw[G.out];simp only[Z8];rw[R.out];simp only[Z8];rw[if_neg (by rw[U.out];simp)];rw[a2.out];simp only[Z8];rw[a8.out];simp only[Z8];rw[al.out];simp only[Z8];rw[ap.out];simp only[Z8];rw[show qev 8 l7=none by unfold qev;rw[if_neg dC,if_pos rfl,hr];rfl];rfl,rfl⟩⟩
  obtain⟨pt,ct,rfl⟩:=X.val
  obtain⟨pp,cp,rfl⟩:=ab.val
  have an:=bo.step aw (by unfold Qbn;decide)
  have F:Own wA am bx qdz 73 [.int .u8 ((8:Nat):Int),.int .u32 tx,.int .u64 pv,.int .u64 nx,.int .u32 0,.int .u16 0,.bool false,.bool false,.slice none 0 0,.slice none 0 0,.slice pt tl.length ct,.slice pp dl.length cp]:=Z
  have D:=ar.trans (aw.mono (T:=qa4) (fun _ h=>Qna h))
  have E:=b8
  have I:qin wA am (.slice none 0 0) []:=⟨none,0,rfl,fun x hx=>by simp at hx,none,0,rfl,Z0 _,Z9 _,fun hx=>by simp at hx⟩
  have a9:=I
  have J:qev 8 l7=some ((noChange,tl,dl),lA):=by unfold qev;rw[if_neg dC,if_pos rfl,dx];rfl
  obtain⟨wB,aa⟩:=gN wA
  obtain⟨a0,ay⟩:=gN am
  rw[aa,ay] at F an D E I a9 X ab
  obtain⟨nt,ax⟩:=gN tl.length
  obtain⟨np,dp⟩:=gN dl.length
  rw[ax] at F X
  rw[dp] at F ab
  obtain⟨fy,fx⟩:=qaj ax dp
  obtain⟨a3,L,ac⟩:=qan F an D
  clear F an D aw Z b8 dx av di bo ar c0 ay dp
  have b9:=Z2 aa
  clear aa
  go_upto_region 12 with fail
  rw[b9.out]
  clear b9
  obtain⟨b3,o3,c3,ad,-⟩:=E
  have d3:=ad.at 0 rfl
  clear ad
  obtain⟨ln,az⟩:=gN lA.length
  rw[az] at d3
  have M:=Qn4 (w:=wB) (τ:=a0) 8 tx pv nx 0 0 false false none none pt pp 0 0 0 0 nt ct np cp ax X
  obtain⟨mb,b0⟩:=gN (qes ⟨8,tx,pv,nx,noChange,tl,dl⟩)
  have p:=b0
  unfold qes at p
  try simp only at p
  try simp only[noChange,fy.out,fx.out,List.length_nil] at p
  rw[p] at M
  obtain⟨dj,dk,dm,dn,s,ba,bb,bc⟩:=qen I a9 X ab J az M b0
  clear I a9 X ab J az M b0 p
  obtain⟨c0,f0,c1,f1,c2,f2,c3,f3,c4,f4,c5,f5,c6,f6,c7,f7,c8,f8,c9,f9,a4,a5,a6,a7⟩:=Jby a3
  by_cases h0:0<ln
  ·have ci:=L.at 0 rfl
   have fi:=L.fz 0
   have k:bx≠bi:=a3.ne L dC
   have a1:bi≠bx:=fun e=>k e.symm
   obtain⟨d,i,a⟩:=qg0 a3 L (.int .u8 0) (.int .u32 0) (.int .u64 0) (.int .u64 0) (.int .u32 0) (.int .u16 0) (.bool false) (.bool false) (.slice none 0 0) (.slice none 0 0) (.slice none 0 0) (.slice none 0 0) (.bool false)
   have j:=ac.trans (a.mono (T:=qa4) Qcd)
   obtain⟨z,B,C,y⟩:=qb9 d i j a
   clear d i j a
   go_wp2_with fail
   refine leaves_cons (f := 174) (args:=#[.pointer (some ⟨bx,0,none⟩),.pointer (some ⟨bi,0,none⟩)]) sM (by simp[go_sem]) ?_
   refine(Qbs _ bx bi).mono ?_
   rintro e u' b1 ⟨rfl,rfl,rfl⟩
   exact Qc9 rfl rfl z B ⟨a0,C,.inl ⟨by unfold qct;rw[G.out];simp only[Z8];rw[R.out];simp only[Z8];rw[if_neg (by rw[U.out];simp)];rw[a2.out];simp only[Z8];rw[a8.out];simp only[Z8];rw[al.out];simp only[Z8];rw[ap.out];simp only[Z8];rw[s.out];simp only[Z8];rw[if_pos (.inl (by rw[ba.out];exact h0))],rfl⟩⟩
  go_wp2_with fail
  refine bb.mono ?_
  rintro e wC ⟨rfl,q⟩
  have bd:=a3.step q id
  have be:=L.step q id
  have ae:=ac.trans q.nz
  have ag:=dj.step q id
  have ah:=dk.step q id
  have ai:=dm.step q id
  have aj:=dn.step q id
  obtain⟨O,r,ak,bg,bh,bj,bk⟩:=qdr bd be ae ag ah ai aj
  clear bd be ae ag ah ai aj q c0 f0 c1 f1 c2 f2 c3 f3 c4 f4 c5 f5 c6 f6 c7 f7 c8 f8 c9 f9 a4 a5 a6 a7
  obtain⟨c0,f0,c1,f1,c2,f2,c3,f3,c4,f4,c5,f5,c6,f6,c7,f7,c8,f8,c9,f9,a4,a5,a6,a7⟩:=Jby O
  cases mb with
  | false =>
    have ci:=r.at 0 rfl
    have fi:=r.fz 0
    have k:bx≠bi:=O.ne r dC
    have a1:bi≠bx:=fun e=>k e.symm
    obtain⟨d,i,a⟩:=qg0 O r (.int .u8 0) (.int .u32 0) (.int .u64 0) (.int .u64 0) (.int .u32 0) (.int .u16 0) (.bool false) (.bool false) (.slice none 0 0) (.slice none 0 0) (.slice none 0 0) (.slice none 0 0) (.bool false)
    have j:=ak.trans (a.mono (T:=qa4) Qcd)
    obtain⟨z,B,C,y⟩:=qb9 d i j a
    clear d i j a
    go_wp2_with fail
    refine leaves_cons (f := 174) (args:=#[.pointer (some ⟨bx,0,none⟩),.pointer (some ⟨bi,0,none⟩)]) sM (by simp[go_sem]) ?_
    refine(Qbs _ bx bi).mono ?_
    rintro e u' b1 ⟨rfl,rfl,rfl⟩
    exact Qc9 rfl rfl z B ⟨a0,C,.inl ⟨by unfold qct;rw[G.out];simp only[Z8];rw[R.out];simp only[Z8];rw[if_neg (by rw[U.out];simp)];rw[a2.out];simp only[Z8];rw[a8.out];simp only[Z8];rw[al.out];simp only[Z8];rw[ap.out];simp only[Z8];rw[s.out];simp only[Z8];rw[if_pos (.inr bc)],rfl⟩⟩
  | true =>
    have ci:=r.at 0 rfl
    have fi:=r.fz 0
    have k:bx≠bi:=O.ne r dC
    have a1:bi≠bx:=fun e=>k e.symm
    obtain⟨d,i,a⟩:=qg0 O r (.int .u8 ((8:Nat):Int)) (.int .u32 tx) (.int .u64 pv) (.int .u64 nx) (.int .u32 0) (.int .u16 0) (.bool false) (.bool false) (.slice none 0 0) (.slice none 0 0) (.slice pt nt ct) (.slice pp np cp) (.bool true)
    have j:=ak.trans (a.mono (T:=qa4) Qcd)
    obtain⟨z,B,C,y⟩:=qb9 d i j a
    clear d i j a
    go_wp2_with fail
    refine leaves_cons (f := 174) (args:=#[.pointer (some ⟨bx,0,none⟩),.pointer (some ⟨bi,0,none⟩)]) sM (by simp[go_sem]) ?_
    refine(Qbs _ bx bi).mono ?_
    rintro e u' b1 ⟨rfl,rfl,rfl⟩
    exact Qc9 rfl rfl z B ⟨a0,C,.inr ⟨_,_,by unfold qct;rw[G.out];simp only[Z8];rw[R.out];simp only[Z8];rw[if_neg (by rw[U.out];simp)];rw[a2.out];simp only[Z8];rw[a8.out];simp only[Z8];rw[al.out];simp only[Z8];rw[ap.out];simp only[Z8];rw[s.out];simp only[Z8];rw[if_neg (by rw[ba.out,bc.out];rintro(h|h);exact h0 h;cases h)],rfl,_,_,_,_,_,rfl,bg.step y dC,bh.step y dC,bj.step y dC,bk.step y dC⟩⟩
 ·rw[h3]
  have hk8:¬(kd:Int)=8:=oM
  have J:qev kd l7=some ((noChange,[],[]),l7):=by unfold qev;rw[if_neg (by rw[h3];decide),if_neg h8]
  have F:=b6;have an:=cq;have D:=b4;have E:=b5
  have I:qin w9 bn (.slice none 0 0) []:=⟨none,0,rfl,fun x hx=>by simp at hx,none,0,rfl,Z0 _,Z9 _,fun hx=>by simp at hx⟩
  have a9:=I
  have X:=NS.nil 42 4 Qct 0 w9 bn tTx
  have ab:=NS.nil 84 2 Qgn 0 w9 bn tPx
  have ax:([]:List qdb).length=0:=rfl
  have c0:=b6.at 0 rfl
  obtain⟨wB,aa⟩:=gN w9
  obtain⟨a0,ay⟩:=gN bn
  rw[aa,ay] at F an D E I a9 X ab
  obtain⟨a3,L,ac,H3⟩:=qb9 F an D h3
  clear F an D h3 h8 b6 cq b4 b5 ay
  have b9:=Z2 aa
  clear aa
  go_upto_region 12 with fail
  rw[b9.out]
  clear b9 c0
  obtain⟨b3,o3,c3,ad,-⟩:=E
  have d3:=ad.at 0 rfl
  clear ad
  obtain⟨ln,az⟩:=gN l7.length
  rw[az] at d3
  have M:=Qn4 (w:=wB) (τ:=a0) kd tx pv nx 0 0 false false none none none none 0 0 0 0 0 0 0 0 ax X
  obtain⟨mb,b0⟩:=gN (qes ⟨kd,tx,pv,nx,noChange,[],[]⟩)
  have p:=b0
  unfold qes at p
  try simp only at p
  try simp only[noChange,List.length_nil] at p
  rw[p] at M
  obtain⟨dj,dk,dm,dn,s,ba,bb,bc⟩:=qen I a9 X ab J az M b0
  clear I a9 X ab J az M b0 p
  obtain⟨c0,f0,c1,f1,c2,f2,c3,f3,c4,f4,c5,f5,c6,f6,c7,f7,c8,f8,c9,f9,a4,a5,a6,a7⟩:=Jby a3
  by_cases h0:0<ln
  ·have ci:=L.at 0 rfl
   have fi:=L.fz 0
   have k:bx≠bi:=a3.ne L dC
   have a1:bi≠bx:=fun e=>k e.symm
   obtain⟨d,i,a⟩:=qg0 a3 L (.int .u8 0) (.int .u32 0) (.int .u64 0) (.int .u64 0) (.int .u32 0) (.int .u16 0) (.bool false) (.bool false) (.slice none 0 0) (.slice none 0 0) (.slice none 0 0) (.slice none 0 0) (.bool false)
   have j:=ac.trans (a.mono (T:=qa4) Qcd)
   obtain⟨z,B,C,y⟩:=qb9 d i j a
   clear d i j a
   go_wp2_with fail
   refine leaves_cons (f := 174) (args:=#[.pointer (some ⟨bx,0,none⟩),.pointer (some ⟨bi,0,none⟩)]) sM (by simp[go_sem]) ?_
   refine(Qbs _ bx bi).mono ?_
   rintro e u' b1 ⟨rfl,rfl,rfl⟩
   exact Qc9 rfl rfl z B ⟨a0,C,.inl ⟨by unfold qct;rw[G.out];simp only[Z8];rw[R.out];simp only[Z8];rw[if_neg (by rw[U.out];simp)];rw[a2.out];simp only[Z8];rw[a8.out];simp only[Z8];rw[al.out];simp only[Z8];rw[ap.out];simp only[Z8];rw[s.out];simp only[Z8];rw[if_pos (.inl (by rw[ba.out];exact h0))],rfl⟩⟩
  go_wp2_with fail
  refine bb.mono ?_
  rintro e wC ⟨rfl,q⟩
  have bd:=a3.step q id
  have be:=L.step q id
  have ae:=ac.trans q.nz
  have ag:=dj.step q id
  have ah:=dk.step q id
  have ai:=dm.step q id
  have aj:=dn.step q id
  obtain⟨O,r,ak,bg,bh,bj,bk⟩:=qdr bd be ae ag ah ai aj
  clear bd be ae ag ah ai aj q c0 f0 c1 f1 c2 f2 c3 f3 c4 f4 c5 f5 c6 f6 c7 f7 c8 f8 c9 f9 a4 a5 a6 a7
  obtain⟨c0,f0,c1,f1,c2,f2,c3,f3,c4,f4,c5,f5,c6,f6,c7,f7,c8,f8,c9,f9,a4,a5,a6,a7⟩:=Jby O
  cases mb with
  | false =>
    have ci:=r.at 0 rfl
    have fi:=r.fz 0
    have k:bx≠bi:=O.ne r dC
    have a1:bi≠bx:=fun e=>k e.symm
    obtain⟨d,i,a⟩:=qg0 O r (.int .u8 0) (.int .u32 0) (.int .u64 0) (.int .u64 0) (.int .u32 0) (.int .u16 0) (.bool false) (.bool false) (.slice none 0 0) (.slice none 0 0) (.slice none 0 0) (.slice none 0 0) (.bool false)
    have j:=ak.trans (a.mono (T:=qa4) Qcd)
    obtain⟨z,B,C,y⟩:=qb9 d i j a
    clear d i j a
    go_wp2_with fail
    refine leaves_cons (f := 174) (args:=#[.pointer (some ⟨bx,0,none⟩),.pointer (some ⟨bi,0,none⟩)]) sM (by simp[go_sem]) ?_
    refine(Qbs _ bx bi).mono ?_
    rintro e u' b1 ⟨rfl,rfl,rfl⟩
    exact Qc9 rfl rfl z B ⟨a0,C,.inl ⟨by unfold qct;rw[G.out];simp only[Z8];rw[R.out];simp only[Z8];rw[if_neg (by rw[U.out];simp)];rw[a2.out];simp only[Z8];rw[a8.out];simp only[Z8];rw[al.out];simp only[Z8];rw[ap.out];simp only[Z8];rw[s.out];simp only[Z8];rw[if_pos (.inr bc)],rfl⟩⟩
  | true =>
    have ci:=r.at 0 rfl
    have fi:=r.fz 0
    have k:bx≠bi:=O.ne r dC
    have a1:bi≠bx:=fun e=>k e.symm
    obtain⟨d,i,a⟩:=qg0 O r (.int .u8 kd) (.int .u32 tx) (.int .u64 pv) (.int .u64 nx) (.int .u32 0) (.int .u16 0) (.bool false) (.bool false) (.slice none 0 0) (.slice none 0 0) (.slice none 0 0) (.slice none 0 0) (.bool true)
    have j:=ak.trans (a.mono (T:=qa4) Qcd)
    obtain⟨z,B,C,y⟩:=qb9 d i j a
    clear d i j a
    go_wp2_with fail
    refine leaves_cons (f := 174) (args:=#[.pointer (some ⟨bx,0,none⟩),.pointer (some ⟨bi,0,none⟩)]) sM (by simp[go_sem]) ?_
    refine(Qbs _ bx bi).mono ?_
    rintro e u' b1 ⟨rfl,rfl,rfl⟩
    exact Qc9 rfl rfl z B ⟨a0,C,.inr ⟨_,_,by unfold qct;rw[G.out];simp only[Z8];rw[R.out];simp only[Z8];rw[if_neg (by rw[U.out];simp)];rw[a2.out];simp only[Z8];rw[a8.out];simp only[Z8];rw[al.out];simp only[Z8];rw[ap.out];simp only[Z8];rw[s.out];simp only[Z8];rw[if_neg (by rw[ba.out,bc.out];rintro(h|h);exact h0 h;cases h)],rfl,_,_,_,_,_,rfl,bg.step y dC,bh.step y dC,bj.step y dC,bk.step y dC⟩⟩
