/-
 Transactions: change: one is logged,and done.
-/
import Derived.Test.YtociicnopccppaaGreatMWalA
set_option maxRecDepth 100000
set_option maxHeartbeats 8000000
set_option linter.all false
namespace Go.Proofs.YtociicnopccppaaGreat
open Go.RowKit
theorem Qlb {k t p n:Nat}{c:qa7}(d:k=2\/k=3) (h1:c.before.length<=64) (h2:c.after.length<=64) (h3:c.had=false->c.before=[]) (h4:c.has=false->c.after=[]):qes ⟨k,t,p,n,c,[],[]⟩=true:=by
 obtain⟨pg,sl,hd,a,be,b⟩:=c
 dsimp only at *
 have e:qef true pg sl hd a be.length b.length=true:=by
  unfold qef
  cases hd <;> cases a <;> simp_all <;> omega
 rcases d with rfl|rfl
 ·show qep 2 0 0 (qef true pg sl hd a be.length b.length) false=true
  rw[e];rfl
 ·show qep 3 0 0 (qef true pg sl hd a be.length b.length) false=true
  rw[e];rfl
def qg7 (n:Nat) (P:List Int) (s:Nat) (has:Bool) (m:List Int):qa7:=⟨n,s,decide (0<qad P s),has,qb7 P s,if has=true then m else []⟩
def Qak (c:qa7):Nat:=36+c.before.length+c.after.length
def Qcp (c:qa7) (x:qa9):qak:=⟨2,x.txn,x.last,0,c,[],[]⟩
theorem Qdt (c:qa7) (x:qa9):(encR (Qcp c x)).length=Qak c:=by
 rw[Qbh]
 unfold qb2 Qcp Qak
 rw[if_pos (by rfl),Qhi]
 show 27+(9+c.before.length+c.after.length)=_
 omega
def qa9.changed (x:qa9) (lsn size:Nat):qa9:={x with last:=lsn,undo:=lsn,ch:=x.ch++[(lsn,size)]}
def qea (i k:Nat) (t:Tag):Prop:=qai t\/t=qab k\/t=qd3 k\/t=tPg i\/t=qfg
def Qwr (w:World) (τ:qa1) (bl bd:Nat) (bo:Nat->Nat) (X:List qa9) (L:qac) (x:qa9) (i b:Nat) (P:List Int) (c:qa7) (e:Ending) (w':World):Prop :=
 (c.has=false/\c.had=false/\e = .returned (.tuple #[.int .u64 0,.int .u16 0])/\∃τ',Step w τ w' τ' nil) \/
 ((c.has=true\/c.had=true)/\¬L.stream.length+Qak c+(qci X+Qak c)<=L.strips*127/\e = .returned (.tuple #[.int .u64 0,.int .u16 80])/\∃τ',Step w τ w' τ' (fun t=>t=qfg)) \/
 ((c.has=true\/c.had=true)/\L.stream.length+Qak c+(qci X+Qak c)<=L.strips*127/\e = .returned (.tuple #[.int .u64 ((L.base+L.stream.length:Nat):Int),.int .u16 0])/\∃Q τ',qh2 P Q c.slot c.now/\qag w' τ' (tPg i) b Q/\qaw w' τ' bl bd (L.more (encR (Qcp c x)))/\qel w' τ' (bo x.txn) (x.changed (L.base+L.stream.length) (Qak c))/\Step w τ w' τ' (qea i x.txn))
theorem Qt4 {w:World}{τ:qa1}{bm bl bd bp:Nat}{bo:Nat->Nat}{X:List qa9}{next:Nat}{L:qac}(hm:qbr w τ bm bl bp bo X next) (hl:qaw w τ bl bd L) {x:qa9}(hx:x∈X) (hn:L.starts.length<=100000) (ah:x.last<18446744073709551616) (hxl:x.ch.length<1000)
 {i b:Nat} {P:List Int} (hP:qag w τ (tPg i) b P) (hs:Sound P) (hp:Small P) (n:Nat) (dw:n<4294967296) (s:Nat) (bz:s<12) (has:Bool) {pd:Option Addr} {cd:Nat} {m:List Int} (hd:Bytes w τ qa2 (.slice pd m.length cd) m) (hm4:m.length<=4) (gb:0<m.length) :
 Calls Tryz.prog 90 #[.pointer (some ⟨bm,0,none⟩),.pointer (some ⟨bo x.txn,0,none⟩),.pointer (some ⟨b,0,none⟩),.int .u32 n,.int .i64 s,.bool has,.slice pd m.length cd] w (Qwr w τ bl bd bo X L x i b P (qg7 n P s has m)):=by
 have huw:IntKind.u16.wrap (s:Int)=s:=by simp[IntKind.wrap,IntKind.bits,IntKind.signed];omega
 have dx:=(zS w τ).alloc (.cells #[.int .u32 n,.int .u16 s,.bool false,.bool has,.slice none 0 0,.slice none 0 0] 70) tTn
 have dy:=Own.born w τ tTn 70 #[.int .u32 n,.int .u16 s,.bool false,.bool has,.slice none 0 0,.slice none 0 0]
 have dz:=hP.step dx id
 have an:=Qi5 dz hs.tidy.lies.fit s oM qa2
 have c3:=Qbm hs.tidy.lies.fit hs.tidy.len s
 have h3:=(hp s).1
 obtain⟨bc,h4⟩:=gN w.heap.size
 have c4:w.heap.size<=bc:=oM
 generalize hT:τ.put w.heap.size tTn=T1 at *
 rw[h4] at dy
 obtain⟨W1,er⟩:=gN (w.alloc (.cells #[.int .u32 n,.int .u16 s,.bool false,.bool has,.slice none 0 0,.slice none 0 0] 70))
 rw[er] at dx dy dz an
 obtain⟨j,bw⟩:=gN (decide (0<qad P s))
 rw[bw] at an
 obtain⟨be,et⟩:=gN (qb7 P s)
 rw[et] at an c3 h3
 have eh:j=false->be=[]:=fun h=>by
  rw[h] at bw
  have:=of_decide_eq_false bw
  exact List.eq_nil_of_length_eq_zero oM
 have gd:qg7 n P s has m=⟨n,s,j,has,be,if has=true then m else []⟩:=by unfold qg7;rw[bw,et]
 generalize qg7 n P s has m=c at *
 have ei:=dx
 have ge:qci X<=70000000:=by
  rw[Qqn hm.nodup]
  have h1:=Qki (Qh1 X) 1000054 (qa9.ids X) (fun k hk=>by
   obtain⟨y,hy,rfl⟩:=List.mem_map.1 hk
   rw[Qgk hm.nodup hy];exact(hm.ones y hy).qht)
  have h2:(qa9.ids X).length<=64:=by have:=hm.many;unfold qa9.ids;rw[Y0];exact this
  omega
 obtain⟨e6,Hm,Hl,Hs,Hp,Hd,h7,h8,gf,h9,Hhd,e7⟩:=qds ge hm hl hs hp hd dy dz an er bw gd
 have gg:=Z2 ei
 clear ge hm hl hP hs hp hd dx dy dz an hT er bw et gd c3 ei
 go_enter Tryz.func90,Tryz.ntmps90
 go_wp2_with fail
 rw[h9.out]
 refine gf.mono ?_
 rintro e w2 ⟨u,T2,rfl,hu,e8⟩
 obtain⟨qb,kb,rfl,-,-⟩:=hu.any
 generalize gh:be.length=nb at *
 have G:=h7.step e8 id
 have d2:=G.at 2 rfl
 have y2:=G.fz 2
 have d3:=G.at 3 rfl
 have d4:=G.at 4 rfl
 have y4:=G.fz 4
 have ej:=gg.trans e8
 have c5:Own ((w2.setCell ⟨bc,4,none⟩ (.slice qb nb kb)).setCell ⟨bc,2,none⟩ (.bool j)) T2 bc tTn 70 [.int .u32 n,.int .u16 s,.bool j,.bool has,.slice qb nb kb,.slice none 0 0]:=(G.set 4 (.slice qb nb kb)).set 2 (.bool j)
 have e9:Step w2 T2 ((w2.setCell ⟨bc,4,none⟩ (.slice qb nb kb)).setCell ⟨bc,2,none⟩ (.bool j)) T2 (fun t=>t=tTn):=((Step.refl w2 T2 (fun t=>t=tTn)).set (o:=4) G.tag rfl _).set (o:=2) G.tag rfl _
 have c6:Step w τ ((w2.setCell ⟨bc,4,none⟩ (.slice qb nb kb)).setCell ⟨bc,2,none⟩ (.bool j)) T2 nil:=(ej.qa3 (b:=bc) (o:=4) c4 _).qa3 (b:=bc) (o:=2) c4 _
 have ev:=hu.step e9 dC
 have ew:=(h8.step e8 id).step e9 (by simp[tPg,tTn])
 obtain⟨W3,ey⟩:=gN ((w2.setCell ⟨bc,4,none⟩ (.slice qb nb kb)).setCell ⟨bc,2,none⟩ (.bool j))
 rw[ey] at c5 e9 c6 ev ew
 obtain⟨gi,Hoc2,ek,bv,ea,ez,f6⟩:=qdr ev G c5 c6 gh ew ey
 clear ev G c5 e9 ej c6 gh ew ey e8 hu
 by_cases b8:has=false/\j=false
 ·obtain⟨rfl,rfl⟩:=b8
  go_wp2_with fail
  rw[f6.out]
  go_ret2
  exact .inl ⟨by rw[e7.out],by rw[e7.out],rfl,T2,bv⟩
 ·have c7:has=true\/j=true:=by cases has <;> cases j <;> simp at b8 ⊢
  have f7:=Hd.step bv id
  have em:=Qy4 ez Hs Hp s bz has f7 dC (fun _=>gb) oM
  obtain⟨en,hb,f8⟩:=qan em f7 c7
  clear em f7 c7 b8
  cases has
  case' true =>
   go_wp2_with fail
   rw[f6.out]
   refine en.mono ?_
   rintro e w4 ⟨rfl,T4,Y⟩
   have eo:=ek.step Y dC
   have gj:=gi.step Y dC
   have gk:=ez.step Y (by simp[tPg,qfg])
   have ep:=(bv.mono (T:=fun t=>t=qfg) (fun _ h=>h.elim)).trans Y
   have gl:=Qeb (hb.step Y dC) qa2 oM
   obtain⟨gm,hc,he,gn,hf⟩:=qbq eo gj gk ep gl
   clear eo gj gk ep gl Y
   go_wp2_with fail
   refine hf.mono ?_
   rintro e w5 ⟨u5,T5,rfl,f9,gr,gs⟩
   have c8:=Step.of nil gs gr
   obtain⟨pa,ca,rfl,-,-⟩:=f9.any
   have ao:=gm.step c8 id
   have z5:=ao.fz 5
   have d5:=ao.at 5 rfl
   have eb:Step w5 T5 (w5.setCell ⟨bc,5,none⟩ (.slice pa m.length ca)) T5 (fun t=>t=tTn):=(Step.refl w5 T5 (fun t=>t=tTn)).set (o:=5) ao.tag rfl _
   have d:Own (w5.setCell ⟨bc,5,none⟩ (.slice pa m.length ca)) T5 bc tTn 70 [.int .u32 n,.int .u16 s,.bool j,.bool true,.slice qb nb kb,.slice pa m.length ca]:=ao.set 5 (.slice pa m.length ca)
   have Z:=(hc.step c8 id).step eb dC
   have a0:=f9.step eb dC
   have b9:=(he.step c8 id).step eb (by simp[tPg,tTn])
   have a1:=(gn.trans (c8.mono (T:=fun t=>t=qfg) (fun _ h=>h.elim))).qa3 (b:=bc) (o:=5) c4 (.slice pa m.length ca)
   have c9:c=⟨n,s,j,true,be,m⟩:=e7.out
   obtain⟨na,fa⟩:=gN m.length
   have ap:be.length=nb:=ea.out
   have e0:=d.at 0 rfl
   have e1:=d.at 1 rfl
   have e2:=d.at 2 rfl
   have e3:=d.at 3 rfl
   have e4:=d.at 4 rfl
   have e5:=d.at 5 rfl
   rw[fa] at d a0 b9 Z a1
   obtain⟨w6,fb⟩:=gN (w5.setCell ⟨bc,5,none⟩ (.slice pa na ca))
   rw[fb] at d Z a0 b9 a1
   obtain⟨T6,rfl⟩:∃x,x=T5:=⟨_,rfl⟩
   obtain⟨ce,aq,ar,fc,cf,a2,ai,ht,cg⟩:=qgw d Z a0 b9 a1 c9 fa fb ap
   clear d Z a0 b9 a1 c9 fa fb ap c8 gr gs f9 ao eb
   go_wp2_with fail
   rw[ai.out,ht.out]
   have hbl:be.length=nb:=ea.out
   have fe:qes (Qf5 ⟨n,s,j,true,be,m⟩ 0 0 0)=true:=Qlb (.inr rfl) (by show (m:List Int).length<=64;omega) (by show be.length<=64;omega) (fun h=>by cases h) (fun h=>by exact eh h)
   have ci:qes ⟨2,0,0,0,⟨n,s,j,true,be,m⟩,[],[]⟩=true:=Qlb (.inl rfl) (by show be.length<=64;omega) (by show (m:List Int).length<=64;omega) (fun h=>by exact eh h) (fun h=>by cases h)
   have p:=Qj9 (c:=⟨n,s,j,true,be,m⟩) (pb:=qb) (cb:=kb) (pa:=pa) (ca:=ca) (by show Bytes w6 T6 qa2 (.slice qb be.length kb) be;rw[hbl];exact aq) (by show Bytes w6 T6 qa2 (.slice pa m.length ca) m;rw[ai.out];exact ar) fe dw (by show s<65536;omega)
   unfold qhk at p
   dsimp only at p
   rw[hbl,ai.out] at p
   obtain⟨sz,cj⟩:=gN (36+nb+na)
   rw[cj] at p
   have ck:Qak c=sz:=by rw[a2.out,<-cj];unfold Qak;show 36+be.length+(m:List Int).length=_;rw[cg.out,ai.out]
   obtain⟨cm,aj,ba⟩:=qan p ck hbl
   clear p ck hbl
   refine cm.mono ?_
   rintro e w7 ⟨rfl,T7,R⟩
   have av:=(ce.step R id)
   have a3:=cf.trans (R.mono (T:=fun t=>t=qfg) (fun _ h=>h.elim))
   have cn:=fc.step R id
   have aw:=aq.step R id
   have ax:=ar.step R id
   have ak:Step w7 T7 w7.drew T7 nil:=(zS w7 T7).drew
   have bb:∀W T,Step w7 T7 W T (fun t=>qai t\/t=qab x.txn)->W.cell? ⟨bc,0,none⟩=some (.int .u32 n)/\W.cell? ⟨bc,1,none⟩=some (.int .u16 s)/\W.cell? ⟨bc,2,none⟩=some (.bool j)/\W.cell? ⟨bc,3,none⟩=some (.bool true)/\W.cell? ⟨bc,4,none⟩=some (.slice qb nb kb)/\W.cell? ⟨bc,5,none⟩=some (.slice pa na ca):=fun W T q=>by
    have h:=av.step q (by simp[qai,qb1,qa5,qa6,tTn,qab])
    exact⟨h.at 0 rfl,h.at 1 rfl,h.at 2 rfl,h.at 3 rfl,h.at 4 rfl,h.at 5 rfl⟩
   have ff:=bb _ _ (ak.nz)
   have bf:=(Hm.step a3 (fun g hg e=>by subst e;simp[Qai,qfg] at hg)).nil ak
   have co:=Qde bf
   have cp:=e6.out
   have gv:sz<=200:=by have:=ai.out;omega
   have gw:IntKind.u64.wrap ((qci X:Int)+(sz:Int))=(qci X:Int)+(sz:Int):=by
    have:=Qer (a:=qci X) (b:=sz) oM
    rw[X1] at this
    exact this
   obtain⟨cq,fg,cr,cs,fh,bg,fi,fj⟩:=qen a3 cn aw ax ak bb bf co
   clear av a3 cn aw ax ak bb bf co R e0 e1 e2 e3 e4 e5 cp
   go_wp2_with fail
   refine Qaf (S:=fun W:World=>W.cell? ⟨bc,0,none⟩=some (.int .u32 n)/\W.cell? ⟨bc,1,none⟩=some (.int .u16 s)/\W.cell? ⟨bc,2,none⟩=some (.bool j)/\W.cell? ⟨bc,3,none⟩=some (.bool true)/\W.cell? ⟨bc,4,none⟩=some (.slice qb nb kb)/\W.cell? ⟨bc,5,none⟩=some (.slice pa na ca)) kR ?_
   refine tk0 [0,1,2,3,4,6] ?_
   iterate 6
    refine tkv (v:=?_) ?_ ?_
    rotate_left
    ·intro w I;(try dsimp only at I);go_simp
     all_goals with_reducible rfl
    try simp only[Act.put,lz1,lz2,lz3]
   refine tk9 ?_
   try simp only[lz4,lz5,lz6,lz1,lz2,lz3]
   refine Qst (i:=5) dK rfl (fun K r=>?_)
   go_simp
   go_at_call 86
   refine fj.mono ?_
   rintro e w8 ⟨rfl,T8,bh⟩
   have J:=fh.trans bh
   have fk:=bg _ _ (J.nz)
   have a5:=cq.trans (J.mono (T:=fun t=>t=qfg) (fun _ h=>h.elim))
   have ct:=fi.nil bh
   have cw:=Hl.step a5 (by intro g hg e;subst e;rcases hg with h|h|h <;> simp[qfg,qb1,qa5,qa6] at h)
   have ay:=cr.step J id
   have a6:=cs.step J id
   have cx:=fg.step J id
   have cy:qh1 w8 T8 (.agg #[.int .u8 2,.int .u32 0,.int .u64 0,.int .u64 0,.int .u32 n,.int .u16 s,.bool j,.bool true,.slice qb nb kb,.slice pa na ca,.slice none 0 0,.slice none 0 0]) ⟨2,0,0,0,⟨n,s,j,true,be,m⟩,[],[]⟩:=⟨⟨qb,kb,pa,ca,none,0,none,0,qay,qay,0,by dsimp only;rw[ba.out];rw[ai.out];rfl,by dsimp only;rw[ba.out];exact ay,by dsimp only;rw[ai.out];exact a6,NS.nil _ _ _ _ _ _ _,NS.nil _ _ _ _ _ _ _,by simp[WrT,qay,tWr,tWb],by simp[WrT,qay,tWr,tWb]⟩,by show 2<256;omega,by show 0<4294967296;omega,by show 0<18446744073709551616;omega,by show 0<18446744073709551616;omega,dw,by show s<65536;omega⟩
   have a7:(qak.own ⟨2,0,0,0,⟨n,s,j,true,be,m⟩,[],[]⟩ x)=Qcp c x:=by rw[a2.out];rfl
   have cz:(encR (Qcp c x)).length=sz:=by rw[Qdt];exact aj
   obtain⟨d0,d1,d6,fm,d7,az,l,al,d8⟩:=qgw ct cw a6 cx cy a5 a7 cz J
   clear ct cw ay a6 cx cy a5 a7 cz J bh ff
   refine r.out _ _ (fun _=>fk) ?_
   clear r K
   refine tk (i:=7) (v:=?_) rfl (Or.inl ⟨by rfl,?_⟩) (by assumption) ?_
   rotate_left
   ·intro w I;(try dsimp only at I);go_simp
    all_goals with_reducible rfl
   try simp only[Act.put,lz1,lz2,lz3]
   try simp only[lz4,lz5,lz6,lz1,lz2,lz3]
   by_cases z:L.stream.length+sz+(qci X+sz)<=L.strips*127
   ·have M:=Qe2 d0 d1 hx hn d7 ci (by rw[l.out,al.out];omega) (by show (2:Nat)≠8;omega) ah (qci X+sz) (by rw[l.out,al.out];exact z)
    rw[l.out,X1] at M
    have bi:=Z2 M
    clear M
    refine Qst (i:=8) dK rfl (fun K r=>?_)
    go_simp
    go_at_call 44
    refine bi.mono ?_
    rintro e w9 ⟨rfl,T9,d9,bj,B⟩
    obtain⟨lsn,a8⟩:=gN (L.base+L.stream.length)
    rw[a8] at bj ⊢
    have U:=bg _ _ ((d8.mono (T:=fun t=>qai t\/t=qab x.txn) (fun _ h=>h.elim)).trans B)
    have da:=fm.step B (by simp[qai,tPg,qb1,qa5,qa6,qab])
    have b0:=d6.step B (by simp[qai,qa2,qb1,qa5,qa6,qab])
    have E:Step w τ w9 T9 (qea i x.txn):=(az.mono (fun t h=>.inr (.inr (.inr (.inr h))))).trans (B.mono (fun t h=>h.elim .inl (fun h=>.inr (.inl h))))
    have a9:=Qv1 (g:=tPg i) (by simp[tPg,qe3,qa2,qji]) da Hs Hp ⟨n,s,j,true,be,m⟩ bz (pb:=qb) (cb:=kb) (pa:=pa) (ca:=ca) (by show Bytes w9 T9 qa2 (.slice pa m.length ca) m;rw[ai.out];exact b0) (fun h=>by exact gb) (by show (m:List Int).length<=64;omega)
    unfold qhk at a9
    dsimp only at a9
    rw[ba.out,ai.out] at a9
    obtain⟨fo,fp,aa,fq,b1⟩:=qbq d9 bj E a9 a8
    clear d9 bj da b0 E a9 a8 B
    refine r.out _ _ (fun _=>U) ?_
    clear r K
    refine tk0 [9,10,11] ?_
    iterate 3
     refine tkv (v:=?_) ?_ ?_
     rotate_left
     ·intro w I;(try dsimp only at I);go_simp
      all_goals with_reducible rfl
     try simp only[Act.put,lz1,lz2,lz3]
    refine tk9 ?_
    try simp only[lz4,lz5,lz6,lz1,lz2,lz3]
    refine Qst (i:=12) dK rfl (fun K r=>?_)
    go_simp
    refine r.out _ _ (fun _=>U) ?_
    clear r K
    refine Qst (i:=13) dK rfl (fun K r=>?_)
    go_simp
    refine r.out _ _ (fun h=>absurd h dK) ?_
    clear r K
    refine Qad kR ?_ _
    obtain⟨f0,f1,f2,f3,f4,f5⟩:=U
    go_wp2_with fail
    refine fq.mono ?_
    rintro e wa ⟨rfl,Q,Ta,db,dd,am⟩
    have bk:=fp.step am (by simp[qab,tPg]) (by simp[qd3,tPg])
    have de:=fo.step am (by intro g hg e;subst e;rcases hg with h|h|h <;> simp[tPg,qb1,qa5,qa6] at h)
    have b2:=aa.trans (am.mono (T:=qea i x.txn) (fun t h=>.inr (.inr (.inr (.inl h)))))
    obtain⟨vv,C,ab⟩:=bk.is
    obtain⟨pv,cv,rfl,-,-⟩:=ab.done
    have D:=bk.size
    unfold qa9.cells at C
    dsimp only at C ab D
    obtain⟨bx,df⟩:=gN (bo x.txn)
    rw[df] at C
    obtain⟨bn,ac⟩:=gN x.ch.length
    rw[ac] at C ab
    have g2:=C.at 2 rfl
    have z2:=C.fz 2
    have ad:Step wa Ta (wa.setCell ⟨bx,2,none⟩ (.int .u64 lsn)) Ta (fun t=>t=qab x.txn):=(Step.refl wa Ta (fun t=>t=qab x.txn)).set (o:=2) C.tag rfl _
    have bq:=C.set 2 (.int .u64 lsn)
    have y5:=bq.at 5 rfl
    have b3:=ab.step ad (by simp[qd3,qab])
    have dh:=de.step ad (by intro g hg e;subst e;rcases hg with h|h|h <;> simp[qab,qb1,qa5,qa6] at h)
    have di:=dd.step ad (by simp[tPg,qab])
    have b4:=b2.trans (ad.mono (T:=qea i x.txn) (fun t h=>.inr (.inl h)))
    have O:(x.ch++[(lsn,sz)]).length=bn+1:=by rw[Z6,ac];rfl
    have dj:x.ch.length<=1000000:=oM
    have b5:(x.ch++[(lsn,sz)]).length<=1000:=by rw[O];omega
    have b6:∀y∈x.ch++[(lsn,sz)],y.2<=1000:=fun y hy=>by
     rcases List.mem_append.1 hy with h|h
     ·exact D y h
     ·rw[Y8 h];show sz<=1000;omega
    obtain⟨fs,ft,fv,dk,fw⟩:=qbq db dh di b4 bq
    have dl:=Z2 b3
    obtain⟨br,fx,dm,dn⟩:=qb9 O dj b5 b6
    clear db dh di b4 bq b3 D ac O dj b5 b6 bk de b2 C ab ad dd am f0 f1 f2 f3 f4 f5
    go_wp2_with (at_builtin;go_loud (refine Qec dl (lsn,sz) fx (kb:=wa.heap.size) sM rfl _ _ rfl rfl rfl ?_;intro v9 wc Tc bs ae;obtain⟨pc,cc,dp,-,-⟩:=bs.done;rw[br.out] at dp;subst dp;have F:=fw.step ae (by simp[qd3,qab]);have zc:=F.fz 5;have dc:=F.at 5 rfl;have af:Step wc Tc (wc.setCell ⟨bx,5,none⟩ (.slice pc (bn+1) cc)) Tc (fun t=>t=qab x.txn):=(Step.refl wc Tc (fun t=>t=qab x.txn)).set (o:=5) F.tag rfl _;have dq:=F.set 5 (.slice pc (bn+1) cc);have dr:=bs.step af (by simp[qd3,qab]);have ds:=(ft.step ae (by intro g hg e;subst e;rcases hg with h|h|h <;> simp[qd3,qb1,qa5,qa6] at h)).step af (by intro g hg e;subst e;rcases hg with h|h|h <;> simp[qab,qb1,qa5,qa6] at h);have dt:=(fv.step ae (by simp[tPg,qd3])).step af (by simp[tPg,qab]);have b7:=(dk.trans (ae.mono (T:=qea i x.txn) (fun t h=>.inr (.inr (.inl h))))).trans (af.mono (T:=qea i x.txn) (fun t h=>.inr (.inl h)));obtain⟨fy,g0,g1,g3,dv⟩:=qbq dq dr ds dt b7;clear dq dr ds dt b7;clear F af bs ae))
    go_ret2
    exact .inr (.inr ⟨by rw[a2.out];exact .inl rfl,by rw[aj.out];exact z,by rw[b1.out];rfl,Q,Tc,by rw[a2.out];exact fs,g3,g1,by rw[b1.out,aj.out,df];exact⟨⟨_,fy,g0⟩,dm,dn⟩,dv⟩)
   ·have M:=Qg9 d0 d1 hx hn d7 ci (by rw[l.out,al.out];omega) (by show (2:Nat)≠8;omega) ah (qci X+sz) (by have:=e6.out;omega) (by rw[l.out,al.out];exact z)
    rw[X1] at M
    have bi:=Z2 M
    clear M
    refine Qst (i:=8) dK rfl (fun K r=>?_)
    go_simp
    go_at_call 44
    refine bi.mono ?_
    rintro e w9 ⟨rfl,T9,B⟩
    have U:=bg _ _ ((d8.trans B).nz)
    have E:=az.trans (B.mono (T:=fun t=>t=qfg) (fun _ h=>h.elim))
    have aa:=Z2 E
    clear E B
    refine r.out _ _ (fun _=>U) ?_
    clear r K
    refine tk0 [9,10,11] ?_
    iterate 3
     refine tkv (v:=?_) ?_ ?_
     rotate_left
     ·intro w I;(try dsimp only at I);go_simp
      all_goals with_reducible rfl
     try simp only[Act.put,lz1,lz2,lz3]
    refine tk9 ?_
    try simp only[lz4,lz5,lz6,lz1,lz2,lz3]
    refine Qst (i:=12) dK rfl (fun K r=>?_)
    go_simp
    refine r.out _ _ (fun _=>U) ?_
    clear r K
    refine Qst (i:=13) dK rfl (fun K r=>?_)
    go_simp
    refine r.out _ _ (fun h=>absurd h dK) ?_
    clear r K
    refine Qad kR ?_ _
    go_wp2_with fail
    go_ret2
    exact .inr (.inl ⟨by rw[a2.out];exact .inl rfl,by rw[aj.out];exact z,rfl,T9,aa⟩)
  case' false =>
   have i3:j=true:=by
    rcases f8.out with h|h
    ·cases h
    ·exact h
   subst i3
   go_wp2_with fail
   rw[f6.out]
   refine en.mono ?_
   rintro e w6 ⟨rfl,T6,Y⟩
   have d:=ek.step Y dC
   have Z:=gi.step Y dC
   have b9:=ez.step Y (by simp[tPg,qfg])
   have a1:=(bv.mono (T:=fun t=>t=qfg) (fun _ h=>h.elim)).trans Y
   have a0:Bytes w6 T6 qa2 (.slice none 0 0) []:=Bytes.empty _ _ _
   have c9:c=⟨n,s,true,false,be,[]⟩:=e7.out
   have ap:be.length=nb:=ea.out
   have e0:=d.at 0 rfl
   have e1:=d.at 1 rfl
   have e2:=d.at 2 rfl
   have e3:=d.at 3 rfl
   have e4:=d.at 4 rfl
   have e5:=d.at 5 rfl
   obtain⟨ce,aq,ar,fc,cf,a2,cg⟩:=qdr d Z a0 b9 a1 c9 ap
   clear d Z a0 b9 a1 c9 ap Y
   go_wp2_with fail
   have hbl:be.length=nb:=ea.out
   have fe:qes (Qf5 ⟨n,s,true,false,be,([]:List Int)⟩ 0 0 0)=true:=Qlb (.inr rfl) (by show (([]:List Int):List Int).length<=64;simp) (by show be.length<=64;omega) (fun h=>by rfl) (fun h=>by cases h)
   have ci:qes ⟨2,0,0,0,⟨n,s,true,false,be,([]:List Int)⟩,[],[]⟩=true:=Qlb (.inl rfl) (by show be.length<=64;omega) (by show (([]:List Int):List Int).length<=64;simp) (fun h=>by cases h) (fun h=>by rfl)
   have p:=Qj9 (c:=⟨n,s,true,false,be,([]:List Int)⟩) (pb:=qb) (cb:=kb) (pa:=none) (ca:=0) (by show Bytes w6 T6 qa2 (.slice qb be.length kb) be;rw[hbl];exact aq) (by show Bytes w6 T6 qa2 (.slice none 0 0) [];exact ar) fe dw (by show s<65536;omega)
   unfold qhk at p
   dsimp only at p
   rw[hbl] at p
   obtain⟨sz,cj⟩:=gN (36+nb+0)
   rw[show 36+nb+([]:List Int).length=sz from cj] at p
   have ck:Qak c=sz:=by rw[a2.out,<-cj];unfold Qak;show 36+be.length+(([]:List Int):List Int).length=_;rw[cg.out];rfl
   obtain⟨cm,aj,ba⟩:=qan p ck hbl
   clear p ck hbl
   refine cm.mono ?_
   rintro e w7 ⟨rfl,T7,R⟩
   have av:=(ce.step R id)
   have a3:=cf.trans (R.mono (T:=fun t=>t=qfg) (fun _ h=>h.elim))
   have cn:=fc.step R id
   have aw:=aq.step R id
   have ax:=ar.step R id
   have ak:Step w7 T7 w7.drew T7 nil:=(zS w7 T7).drew
   have bb:∀W T,Step w7 T7 W T (fun t=>qai t\/t=qab x.txn)->W.cell? ⟨bc,0,none⟩=some (.int .u32 n)/\W.cell? ⟨bc,1,none⟩=some (.int .u16 s)/\W.cell? ⟨bc,2,none⟩=some (.bool true)/\W.cell? ⟨bc,3,none⟩=some (.bool false)/\W.cell? ⟨bc,4,none⟩=some (.slice qb nb kb)/\W.cell? ⟨bc,5,none⟩=some (.slice none 0 0):=fun W T q=>by
    have h:=av.step q (by simp[qai,qb1,qa5,qa6,tTn,qab])
    exact⟨h.at 0 rfl,h.at 1 rfl,h.at 2 rfl,h.at 3 rfl,h.at 4 rfl,h.at 5 rfl⟩
   have ff:=bb _ _ (ak.nz)
   have bf:=(Hm.step a3 (fun g hg e=>by subst e;simp[Qai,qfg] at hg)).nil ak
   have co:=Qde bf
   have cp:=e6.out
   have gv:sz<=200:=oM
   have gw:IntKind.u64.wrap ((qci X:Int)+(sz:Int))=(qci X:Int)+(sz:Int):=by
    have:=Qer (a:=qci X) (b:=sz) oM
    rw[X1] at this
    exact this
   obtain⟨cq,fg,cr,cs,fh,bg,fi,fj⟩:=qen a3 cn aw ax ak bb bf co
   clear av a3 cn aw ax ak bb bf co R e0 e1 e2 e3 e4 e5 cp
   go_wp2_with fail
   refine Qaf (S:=fun W:World=>W.cell? ⟨bc,0,none⟩=some (.int .u32 n)/\W.cell? ⟨bc,1,none⟩=some (.int .u16 s)/\W.cell? ⟨bc,2,none⟩=some (.bool true)/\W.cell? ⟨bc,3,none⟩=some (.bool false)/\W.cell? ⟨bc,4,none⟩=some (.slice qb nb kb)/\W.cell? ⟨bc,5,none⟩=some (.slice none 0 0)) kR ?_
   refine tk0 [0,1,2,3,4,6] ?_
   iterate 6
    refine tkv (v:=?_) ?_ ?_
    rotate_left
    ·intro w I;(try dsimp only at I);go_simp
     all_goals with_reducible rfl
    try simp only[Act.put,lz1,lz2,lz3]
   refine tk9 ?_
   try simp only[lz4,lz5,lz6,lz1,lz2,lz3]
   refine Qst (i:=5) dK rfl (fun K r=>?_)
   go_simp
   go_at_call 86
   refine fj.mono ?_
   rintro e w8 ⟨rfl,T8,bh⟩
   have J:=fh.trans bh
   have fk:=bg _ _ (J.nz)
   have a5:=cq.trans (J.mono (T:=fun t=>t=qfg) (fun _ h=>h.elim))
   have ct:=fi.nil bh
   have cw:=Hl.step a5 (by intro g hg e;subst e;rcases hg with h|h|h <;> simp[qfg,qb1,qa5,qa6] at h)
   have ay:=cr.step J id
   have a6:=cs.step J id
   have cx:=fg.step J id
   have cy:qh1 w8 T8 (.agg #[.int .u8 2,.int .u32 0,.int .u64 0,.int .u64 0,.int .u32 n,.int .u16 s,.bool true,.bool false,.slice qb nb kb,.slice none 0 0,.slice none 0 0,.slice none 0 0]) ⟨2,0,0,0,⟨n,s,true,false,be,([]:List Int)⟩,[],[]⟩:=⟨⟨qb,kb,none,0,none,0,none,0,qay,qay,0,by dsimp only;rw[ba.out];rfl,by dsimp only;rw[ba.out];exact ay,by dsimp only;exact a6,NS.nil _ _ _ _ _ _ _,NS.nil _ _ _ _ _ _ _,by simp[WrT,qay,tWr,tWb],by simp[WrT,qay,tWr,tWb]⟩,by show 2<256;omega,by show 0<4294967296;omega,by show 0<18446744073709551616;omega,by show 0<18446744073709551616;omega,dw,by show s<65536;omega⟩
   have a7:(qak.own ⟨2,0,0,0,⟨n,s,true,false,be,([]:List Int)⟩,[],[]⟩ x)=Qcp c x:=by rw[a2.out];rfl
   have cz:(encR (Qcp c x)).length=sz:=by rw[Qdt];exact aj
   obtain⟨d0,d1,d6,fm,d7,az,l,al,d8⟩:=qgw ct cw a6 cx cy a5 a7 cz J
   clear ct cw ay a6 cx cy a5 a7 cz J bh ff
   refine r.out _ _ (fun _=>fk) ?_
   clear r K
   refine tk (i:=7) (v:=?_) rfl (Or.inl ⟨by rfl,?_⟩) (by assumption) ?_
   rotate_left
   ·intro w I;(try dsimp only at I);go_simp
    all_goals with_reducible rfl
   try simp only[Act.put,lz1,lz2,lz3]
   try simp only[lz4,lz5,lz6,lz1,lz2,lz3]
   by_cases z:L.stream.length+sz+(qci X+sz)<=L.strips*127
   ·have M:=Qe2 d0 d1 hx hn d7 ci (by rw[l.out,al.out];omega) (by show (2:Nat)≠8;omega) ah (qci X+sz) (by rw[l.out,al.out];exact z)
    rw[l.out,X1] at M
    have bi:=Z2 M
    clear M
    refine Qst (i:=8) dK rfl (fun K r=>?_)
    go_simp
    go_at_call 44
    refine bi.mono ?_
    rintro e w9 ⟨rfl,T9,d9,bj,B⟩
    obtain⟨lsn,a8⟩:=gN (L.base+L.stream.length)
    rw[a8] at bj ⊢
    have U:=bg _ _ ((d8.mono (T:=fun t=>qai t\/t=qab x.txn) (fun _ h=>h.elim)).trans B)
    have da:=fm.step B (by simp[qai,tPg,qb1,qa5,qa6,qab])
    have b0:=d6.step B (by simp[qai,qa2,qb1,qa5,qa6,qab])
    have E:Step w τ w9 T9 (qea i x.txn):=(az.mono (fun t h=>.inr (.inr (.inr (.inr h))))).trans (B.mono (fun t h=>h.elim .inl (fun h=>.inr (.inl h))))
    have a9:=Qv1 (g:=tPg i) (by simp[tPg,qe3,qa2,qji]) da Hs Hp ⟨n,s,true,false,be,([]:List Int)⟩ bz (pb:=qb) (cb:=kb) (pa:=none) (ca:=0) (by show Bytes w9 T9 qa2 (.slice none 0 0) [];exact b0) (fun h=>by cases h) (by show (([]:List Int):List Int).length<=64;simp)
    unfold qhk at a9
    dsimp only at a9
    rw[ba.out] at a9
    obtain⟨fo,fp,aa,fq,b1⟩:=qbq d9 bj E a9 a8
    clear d9 bj da b0 E a9 a8 B
    refine r.out _ _ (fun _=>U) ?_
    clear r K
    refine tk0 [9,10,11] ?_
    iterate 3
     refine tkv (v:=?_) ?_ ?_
     rotate_left
     ·intro w I;(try dsimp only at I);go_simp
      all_goals with_reducible rfl
     try simp only[Act.put,lz1,lz2,lz3]
    refine tk9 ?_
    try simp only[lz4,lz5,lz6,lz1,lz2,lz3]
    refine Qst (i:=12) dK rfl (fun K r=>?_)
    go_simp
    refine r.out _ _ (fun _=>U) ?_
    clear r K
    refine Qst (i:=13) dK rfl (fun K r=>?_)
    go_simp
    refine r.out _ _ (fun h=>absurd h dK) ?_
    clear r K
    refine Qad kR ?_ _
    obtain⟨f0,f1,f2,f3,f4,f5⟩:=U
    go_wp2_with fail
    refine fq.mono ?_
    rintro e wa ⟨rfl,Q,Ta,db,dd,am⟩
    have bk:=fp.step am (by simp[qab,tPg]) (by simp[qd3,tPg])
    have de:=fo.step am (by intro g hg e;subst e;rcases hg with h|h|h <;> simp[tPg,qb1,qa5,qa6] at h)
    have b2:=aa.trans (am.mono (T:=qea i x.txn) (fun t h=>.inr (.inr (.inr (.inl h)))))
    obtain⟨vv,C,ab⟩:=bk.is
    obtain⟨pv,cv,rfl,-,-⟩:=ab.done
    have D:=bk.size
    unfold qa9.cells at C
    dsimp only at C ab D
    obtain⟨bx,df⟩:=gN (bo x.txn)
    rw[df] at C
    obtain⟨bn,ac⟩:=gN x.ch.length
    rw[ac] at C ab
    have g2:=C.at 2 rfl
    have z2:=C.fz 2
    have ad:Step wa Ta (wa.setCell ⟨bx,2,none⟩ (.int .u64 lsn)) Ta (fun t=>t=qab x.txn):=(Step.refl wa Ta (fun t=>t=qab x.txn)).set (o:=2) C.tag rfl _
    have bq:=C.set 2 (.int .u64 lsn)
    have y5:=bq.at 5 rfl
    have b3:=ab.step ad (by simp[qd3,qab])
    have dh:=de.step ad (by intro g hg e;subst e;rcases hg with h|h|h <;> simp[qab,qb1,qa5,qa6] at h)
    have di:=dd.step ad (by simp[tPg,qab])
    have b4:=b2.trans (ad.mono (T:=qea i x.txn) (fun t h=>.inr (.inl h)))
    have O:(x.ch++[(lsn,sz)]).length=bn+1:=by rw[Z6,ac];rfl
    have dj:x.ch.length<=1000000:=oM
    have b5:(x.ch++[(lsn,sz)]).length<=1000:=by rw[O];omega
    have b6:∀y∈x.ch++[(lsn,sz)],y.2<=1000:=fun y hy=>by
     rcases List.mem_append.1 hy with h|h
     ·exact D y h
     ·rw[Y8 h];show sz<=1000;omega
    obtain⟨fs,ft,fv,dk,fw⟩:=qbq db dh di b4 bq
    have dl:=Z2 b3
    obtain⟨br,fx,dm,dn⟩:=qb9 O dj b5 b6
    clear db dh di b4 bq b3 D ac O dj b5 b6 bk de b2 C ab ad dd am f0 f1 f2 f3 f4 f5
    go_wp2_with (at_builtin;go_loud (refine Qec dl (lsn,sz) fx (kb:=wa.heap.size) sM rfl _ _ rfl rfl rfl ?_;intro v9 wc Tc bs ae;obtain⟨pc,cc,dp,-,-⟩:=bs.done;rw[br.out] at dp;subst dp;have F:=fw.step ae (by simp[qd3,qab]);have zc:=F.fz 5;have dc:=F.at 5 rfl;have af:Step wc Tc (wc.setCell ⟨bx,5,none⟩ (.slice pc (bn+1) cc)) Tc (fun t=>t=qab x.txn):=(Step.refl wc Tc (fun t=>t=qab x.txn)).set (o:=5) F.tag rfl _;have dq:=F.set 5 (.slice pc (bn+1) cc);have dr:=bs.step af (by simp[qd3,qab]);have ds:=(ft.step ae (by intro g hg e;subst e;rcases hg with h|h|h <;> simp[qd3,qb1,qa5,qa6] at h)).step af (by intro g hg e;subst e;rcases hg with h|h|h <;> simp[qab,qb1,qa5,qa6] at h);have dt:=(fv.step ae (by simp[tPg,qd3])).step af (by simp[tPg,qab]);have b7:=(dk.trans (ae.mono (T:=qea i x.txn) (fun t h=>.inr (.inr (.inl h))))).trans (af.mono (T:=qea i x.txn) (fun t h=>.inr (.inl h)));obtain⟨fy,g0,g1,g3,dv⟩:=qbq dq dr ds dt b7;clear dq dr ds dt b7;clear F af bs ae))
    go_ret2
    exact .inr (.inr ⟨by rw[a2.out];exact .inr rfl,by rw[aj.out];exact z,by rw[b1.out];rfl,Q,Tc,by rw[a2.out];exact fs,g3,g1,by rw[b1.out,aj.out,df];exact⟨⟨_,fy,g0⟩,dm,dn⟩,dv⟩)
   ·have M:=Qg9 d0 d1 hx hn d7 ci (by rw[l.out,al.out];omega) (by show (2:Nat)≠8;omega) ah (qci X+sz) (by have:=e6.out;omega) (by rw[l.out,al.out];exact z)
    rw[X1] at M
    have bi:=Z2 M
    clear M
    refine Qst (i:=8) dK rfl (fun K r=>?_)
    go_simp
    go_at_call 44
    refine bi.mono ?_
    rintro e w9 ⟨rfl,T9,B⟩
    have U:=bg _ _ ((d8.trans B).nz)
    have E:=az.trans (B.mono (T:=fun t=>t=qfg) (fun _ h=>h.elim))
    have aa:=Z2 E
    clear E B
    refine r.out _ _ (fun _=>U) ?_
    clear r K
    refine tk0 [9,10,11] ?_
    iterate 3
     refine tkv (v:=?_) ?_ ?_
     rotate_left
     ·intro w I;(try dsimp only at I);go_simp
      all_goals with_reducible rfl
     try simp only[Act.put,lz1,lz2,lz3]
    refine tk9 ?_
    try simp only[lz4,lz5,lz6,lz1,lz2,lz3]
    refine Qst (i:=12) dK rfl (fun K r=>?_)
    go_simp
    refine r.out _ _ (fun _=>U) ?_
    clear r K
    refine Qst (i:=13) dK rfl (fun K r=>?_)
    go_simp
    refine r.out _ _ (fun h=>absurd h dK) ?_
    clear r K
    refine Qad kR ?_ _
    go_wp2_with fail
    go_ret2
    exact .inr (.inl ⟨by rw[a2.out];exact .inr rfl,by rw[aj.out];exact z,rfl,T9,aa⟩)
