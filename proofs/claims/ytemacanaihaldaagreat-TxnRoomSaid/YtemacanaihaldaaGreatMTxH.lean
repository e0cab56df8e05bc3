/-
 Transactions: change: one is logged,and done.
-/
import Derived.Test.YtemacanaihaldaaGreatMTxD
import Derived.Test.YtemacanaihaldaaGreatMTxF
set_option maxRecDepth 100000
set_option maxHeartbeats 8000000
set_option linter.all false
namespace Go.Proofs.YtemacanaihaldaaGreat
open Go.RowKit
theorem Qlb {k t p n:Nat}{c:ChangeP}(hk:k=2\/k=3) (h1:c.before.length<=64) (h2:c.after.length<=64) (h3:c.had=false->c.before=[]) (h4:c.has=false->c.after=[]):mayB ⟨k,t,p,n,c,[],[]⟩=true:=by
 obtain⟨pg,sl,hd,b,be,d⟩:=c
 dsimp only at *
 have e:mayCB true pg sl hd b be.length d.length=true:=by
  unfold mayCB
  cases hd <;> cases b <;> simp_all <;> omega
 rcases hk with rfl|rfl
 ·show mayRB 2 0 0 (mayCB true pg sl hd b be.length d.length) false=true
  rw[e];rfl
 ·show mayRB 3 0 0 (mayCB true pg sl hd b be.length d.length) false=true
  rw[e];rfl
def chgOf (n:Nat) (P:List Int) (s:Nat) (has:Bool) (m:List Int):ChangeP:=⟨n,s,decide (0<pLen P s),has,pData P s,if has=true then m else []⟩
def Qak (c:ChangeP):Nat:=36+c.before.length+c.after.length
def Qcp (c:ChangeP) (x:OneP):RecP:=⟨2,x.txn,x.last,0,c,[],[]⟩
theorem Qdt (c:ChangeP) (x:OneP):(encR (Qcp c x)).length=Qak c:=by
 rw[Qbh]
 unfold encBody Qcp Qak
 rw[if_pos (by rfl),Qhi]
 show 27+(9+c.before.length+c.after.length)=_
 omega
def OneP.changed (x:OneP) (lsn size:Nat):OneP:={x with last:=lsn,undo:=lsn,ch:=x.ch++[(lsn,size)]}
def TcTag (i k:Nat) (t:Tag):Prop:=LogTag t\/t=tOneT k\/t=tChg k\/t=tPg i\/t=tTry
def Qwr (w:World) (τ:Tags) (bl bd:Nat) (bo:Nat->Nat) (X:List OneP) (L:LogM) (x:OneP) (i b:Nat) (P:List Int) (c:ChangeP) (e:Ending) (w':World):Prop :=
 (c.has=false/\c.had=false/\e = .returned (.tuple #[.int .u64 0,.int .u16 0])/\∃τ',Step w τ w' τ' nil) \/
 ((c.has=true\/c.had=true)/\¬L.stream.length+Qak c+(resv X+Qak c)<=L.strips*127/\e = .returned (.tuple #[.int .u64 0,.int .u16 80])/\∃τ',Step w τ w' τ' (fun t=>t=tTry)) \/
 ((c.has=true\/c.had=true)/\L.stream.length+Qak c+(resv X+Qak c)<=L.strips*127/\e = .returned (.tuple #[.int .u64 ((L.base+L.stream.length:Nat):Int),.int .u16 0])/\∃Q τ',DoneP P Q c.slot c.now/\PageAt w' τ' (tPg i) b Q/\LogAt w' τ' bl bd (L.more (encR (Qcp c x)))/\OneAt w' τ' (bo x.txn) (x.changed (L.base+L.stream.length) (Qak c))/\Step w τ w' τ' (TcTag i x.txn))
theorem Qt4 {w:World}{τ:Tags}{bm bl bd bp:Nat}{bo:Nat->Nat}{X:List OneP}{next:Nat}{L:LogM}(hm:MgrAt w τ bm bl bp bo X next) (hl:LogAt w τ bl bd L) {x:OneP}(hx:x∈X) (hn:L.starts.length<=100000) (ar:x.last<18446744073709551616) (hxl:x.ch.length<1000)
 {i b:Nat} {P:List Int} (hP:PageAt w τ (tPg i) b P) (hs:Sound P) (hp:Small P) (n:Nat) (ei:n<4294967296) (s:Nat) (ce:s<12) (has:Bool) {pd:Option Addr} {cd:Nat} {m:List Int} (hd:Bytes w τ tData (.slice pd m.length cd) m) (hm4:m.length<=4) (hh:0<m.length) :
 Calls Tryz.prog 139 #[.pointer (some ⟨bm,0,none⟩),.pointer (some ⟨bo x.txn,0,none⟩),.pointer (some ⟨b,0,none⟩),.int .u32 (n:Int),.int .i64 (s:Int),.bool has,.slice pd m.length cd] w (Qwr w τ bl bd bo X L x i b P (chgOf n P s has m)):=by
 have huw:IntKind.u16.wrap (s:Int)=(s:Int):=by simp[IntKind.wrap,IntKind.bits,IntKind.signed];omega
 have cf:=(Step.refl w τ nil).alloc (.cells #[.int .u32 (n:Int),.int .u16 (s:Int),.bool false,.bool has,.slice none 0 0,.slice none 0 0] 124) tTn
 have ej:=Own.born w τ tTn 124 #[.int .u32 (n:Int),.int .u16 (s:Int),.bool false,.bool has,.slice none 0 0,.slice none 0 0]
 have ek:=hP.step cf (fun h=>h)
 have b1:=Qi5 ek hs.tidy.lies.fit s (by omega) tData
 have bj:=Qbm hs.tidy.lies.fit hs.tidy.len s
 have iz:=(hp s).1
 obtain⟨bc,j0⟩:∃bc,w.heap.size=bc:=⟨_,rfl⟩
 have cg:w.heap.size<=bc:=by omega
 generalize hT:τ.put w.heap.size tTn=T1 at *
 rw[j0] at ej
 obtain⟨W1,fl⟩:∃W,w.alloc (.cells #[.int .u32 (n:Int),.int .u16 (s:Int),.bool false,.bool has,.slice none 0 0,.slice none 0 0] 124)=W:=⟨_,rfl⟩
 rw[fl] at cf ej ek b1
 obtain⟨l,c9⟩:∃v,decide (0<pLen P s)=v:=⟨_,rfl⟩
 rw[c9] at b1
 obtain⟨be,em⟩:∃be,pData P s=be:=⟨_,rfl⟩
 rw[em] at b1 bj iz
 have fc:l=false->be=[]:=fun h=>by
  rw[h] at c9
  have:=of_decide_eq_false c9
  exact List.eq_nil_of_length_eq_zero (by omega)
 have hi:chgOf n P s has m=⟨n,s,l,has,be,if has=true then m else []⟩:=by unfold chgOf;rw[c9,em]
 generalize chgOf n P s has m=c at *
 have hj:=(hm.ones x hx)
 have fe:=cf
 have ho:resv X<=70000000:=by
  rw[Qqn hm.nodup]
  have h1:=Qki (Qh1 X) 1000054 (OneP.ids X) (fun k hk=>by
   obtain⟨y,hy,rfl⟩:=List.mem_map.1 hk
   rw[Qgk hm.nodup hy];exact(hm.ones y hy).need_le)
  have h2:(OneP.ids X).length<=64:=by have:=hm.many;unfold OneP.ids;rw[Y0];exact this
  have h3:=Y7 1000054 h2
  omega
 obtain⟨en,Hm,Hl,HP,Hs,Hp,Hd,Hal,j3,j4,hq,HT⟩:=hid12 ho hm hl hP hs hp hd cf ej ek b1 hT
 obtain⟨j5,Hhd,Hbe,eo,Hplen,Hb0,hr⟩:=hid7 fl c9 em hi bj hj fe
 clear ho hm hl hP hs hp hd cf ej ek b1 hT fl c9 em hi bj hj fe
 go_enter Tryz.func139,Tryz.ntmps139
 go_wp2_with fail
 rw[j5.out]
 refine hq.out.mono ?_
 rintro e w2 ⟨u,T2,rfl,hu,ep⟩
 obtain⟨qb,kb,rfl,-,-⟩:=hu.any
 generalize ht:be.length=nb at *
 have I:=j3.out.step ep (fun h=>h)
 have d2:=I.at 2 (v:=.bool false) rfl
 have y2:=I.fz 2
 have d3:=I.at 3 (v:=.bool has) rfl
 have d4:=I.at 4 (v:=.slice none 0 0) rfl
 have y4:=I.fz 4
 have ci:=hr.out.trans ep
 have cj:Own ((w2.setCell ⟨bc,4,none⟩ (.slice qb nb kb)).setCell ⟨bc,2,none⟩ (.bool l)) T2 bc tTn 124 [.int .u32 (n:Int),.int .u16 (s:Int),.bool l,.bool has,.slice qb nb kb,.slice none 0 0]:=(I.set 4 (.slice qb nb kb)).set 2 (.bool l)
 have ck:Step w2 T2 ((w2.setCell ⟨bc,4,none⟩ (.slice qb nb kb)).setCell ⟨bc,2,none⟩ (.bool l)) T2 (fun t=>t=tTn):=((Step.refl w2 T2 (fun t=>t=tTn)).set (o:=4) I.tag rfl _).set (o:=2) I.tag rfl _
 have cm:Step w τ ((w2.setCell ⟨bc,4,none⟩ (.slice qb nb kb)).setCell ⟨bc,2,none⟩ (.bool l)) T2 nil:=(ci.setNew (b:=bc) (o:=4) cg _).setNew (b:=bc) (o:=2) cg _
 have fm:=hu.step ck (by decide)
 have fo:=(j4.out.step ep (fun h=>h)).step ck (by simp[tPg,tTn])
 obtain⟨W3,fp⟩:∃W,(w2.setCell ⟨bc,4,none⟩ (.slice qb nb kb)).setCell ⟨bc,2,none⟩ (.bool l)=W:=⟨_,rfl⟩
 rw[fp] at cj ck cm fm fo
 obtain⟨hv,Hoc2,ff,Hq3,Hst2,c8,er,fq,fr⟩:=hid9 fm I cj ck ci cm ht fo fp
 clear fm I cj ck ci cm ht fo fp ep hu
 by_cases bk:has=false/\l=false
 ·obtain⟨rfl,rfl⟩:=bk
  go_wp2_with fail
  rw[fr.out]
  go_ret2
  exact .inl ⟨by rw[eo.out],by rw[eo.out],rfl,T2,c8.out⟩
 ·have cn:has=true\/l=true:=by cases has <;> cases l <;> simp at bk ⊢
  have fs:=Hd.out.step c8.out (fun h=>h)
  have fg:=Qy4 fq.out Hs.out Hp.out s ce has fs (by decide) (fun _=>hh) (by omega)
  obtain⟨fh,j6,ft⟩:=hid3 fg fs cn
  clear fg fs cn bk
  cases has
  case' true =>
   go_wp2_with fail
   rw[fr.out]
   refine fh.out.mono ?_
   rintro e w4 ⟨rfl,T4,Z⟩
   have fi:=ff.out.step Z (by decide)
   have hw:=hv.out.step Z (by decide)
   have hz:=fq.out.step Z (by simp[tPg,tTry])
   have fj:=(c8.out.mono (T:=fun t=>t=tTry) (fun _ h=>h.elim)).trans Z
   have ia:=Qeb (j6.out.step Z (by decide)) tData (by omega)
   obtain⟨ib,j7,j8,ic,j9⟩:=hid5 fi hw hz fj ia
   clear fi hw hz fj ia Z
   go_wp2_with fail
   refine j9.out.mono ?_
   rintro e w5 ⟨u5,T5,rfl,fv,ii,ij⟩
   have co:=Step.of nil ij ii
   obtain⟨pa,ca,rfl,-,-⟩:=fv.any
   have b2:=ib.out.step co (fun h=>h)
   have z5:=b2.fz 5
   have d5:=b2.at 5 (v:=.slice none 0 0) rfl
   have et:Step w5 T5 (w5.setCell ⟨bc,5,none⟩ (.slice pa m.length ca)) T5 (fun t=>t=tTn):=(Step.refl w5 T5 (fun t=>t=tTn)).set (o:=5) b2.tag rfl _
   have d:Own (w5.setCell ⟨bc,5,none⟩ (.slice pa m.length ca)) T5 bc tTn 124 [.int .u32 (n:Int),.int .u16 (s:Int),.bool l,.bool true,.slice qb nb kb,.slice pa m.length ca]:=b2.set 5 (.slice pa m.length ca)
   have a1:=(j7.out.step co (fun h=>h)).step et (by decide)
   have a6:=fv.step et (by decide)
   have bn:=(j8.out.step co (fun h=>h)).step et (by simp[tPg,tTn])
   have a7:=(ic.out.trans (co.mono (T:=fun t=>t=tTry) (fun _ h=>h.elim))).setNew (b:=bc) (o:=5) cg (.slice pa m.length ca)
   have cp:c=⟨n,s,l,true,be,m⟩:=eo.out
   obtain⟨na,fx⟩:∃na,m.length=na:=⟨_,rfl⟩
   have b3:be.length=nb:=er.out
   have e0:=d.at 0 rfl
   have e1:=d.at 1 rfl
   have e2:=d.at 2 rfl
   have e3:=d.at 3 rfl
   have e4:=d.at 4 rfl
   have e5:=d.at 5 rfl
   rw[fx] at d a6 bn a1 a7
   obtain⟨w6,fy⟩:∃W,w5.setCell ⟨bc,5,none⟩ (.slice pa na ca)=W:=⟨_,rfl⟩
   rw[fy] at d a1 a6 bn a7
   obtain⟨T6,rfl⟩:∃x,x=T5:=⟨_,rfl⟩
   obtain⟨cq,b4,b5,ga,cr,a8,av,jg,cs⟩:=hid9 d a1 a6 bn a7 cp fx fy b3
   clear d a1 a6 bn a7 cp fx fy b3 co ii ij fv b2 et
   go_wp2_with fail
   rw[av.out,jg.out]
   have hbl:be.length=nb:=er.out
   have gb:mayB (Qf5 ⟨n,s,l,true,be,m⟩ 0 0 0)=true:=Qlb (.inr rfl) (by show (m:List Int).length<=64;omega) (by show be.length<=64;omega) (fun h=>by cases h) (fun h=>by exact fc h)
   have ct:mayB ⟨2,0,0,0,⟨n,s,l,true,be,m⟩,[],[]⟩=true:=Qlb (.inl rfl) (by show be.length<=64;omega) (by show (m:List Int).length<=64;omega) (fun h=>by exact fc h) (fun h=>by cases h)
   have r:=Qj9 (c:=⟨n,s,l,true,be,m⟩) (pb:=qb) (cb:=kb) (pa:=pa) (ca:=ca) (by show Bytes w6 T6 tData (.slice qb be.length kb) be;rw[hbl];exact b4.out) (by show Bytes w6 T6 tData (.slice pa m.length ca) m;rw[av.out];exact b5.out) gb ei (by show s<65536;omega)
   unfold ChgV at r
   dsimp only at r
   rw[hbl,av.out] at r
   obtain⟨sz,cw⟩:∃sz,36+nb+na=sz:=⟨_,rfl⟩
   rw[cw] at r
   have cx:Qak c=sz:=by rw[a8.out,<-cw];unfold Qak;show 36+be.length+(m:List Int).length=_;rw[cs.out,av.out]
   obtain⟨cy,aw,bq⟩:=hid3 r cx hbl
   clear r cx hbl
   refine cy.out.mono ?_
   rintro e w7 ⟨rfl,T7,U⟩
   have aa:=(cq.out.step U (fun h=>h))
   have ab:=cr.out.trans (U.mono (T:=fun t=>t=tTry) (fun _ h=>h.elim))
   have cz:=ga.out.step U (fun h=>h)
   have b6:=b4.out.step U (fun h=>h)
   have b7:=b5.out.step U (fun h=>h)
   have ax:Step w7 T7 w7.drew T7 nil:=(Step.refl w7 T7 nil).drew
   have br:∀W T,Step w7 T7 W T (fun t=>LogTag t\/t=tOneT x.txn)->W.cell? ⟨bc,0,none⟩=some (.int .u32 (n:Int))/\W.cell? ⟨bc,1,none⟩=some (.int .u16 (s:Int))/\W.cell? ⟨bc,2,none⟩=some (.bool l)/\W.cell? ⟨bc,3,none⟩=some (.bool true)/\W.cell? ⟨bc,4,none⟩=some (.slice qb nb kb)/\W.cell? ⟨bc,5,none⟩=some (.slice pa na ca):=fun W T q=>by
    have h:=aa.step q (by simp[LogTag,tLog,Qah,Qag,tTn,tOneT])
    exact⟨h.at 0 rfl,h.at 1 rfl,h.at 2 rfl,h.at 3 rfl,h.at 4 rfl,h.at 5 rfl⟩
   have gd:=br _ _ (ax.mono (fun _ h=>h.elim))
   have bs:=(Hm.out.step ab (fun g hg e=>by subst e;simp[Qai,tTry] at hg)).nil ax
   have da:=Qde bs
   have db:=en.out
   have ik:sz<=200:=by have:=av.out;omega
   have il:IntKind.u64.wrap ((resv X:Int)+(sz:Int))=(resv X:Int)+(sz:Int):=by
    have:=Qer (a:=resv X) (b:=sz) (by omega)
    rw[X3] at this
    exact this
   obtain⟨im,dd,gf,de,df,gg,bv,gh,gi⟩:=hid9 aa ab cz b6 b7 ax br bs da
   clear aa ab cz b6 b7 ax br bs da U e0 e1 e2 e3 e4 e5 db
   go_wp2_with fail
   refine Qaf (S:=fun W:World=>W.cell? ⟨bc,0,none⟩=some (.int .u32 (n:Int))/\W.cell? ⟨bc,1,none⟩=some (.int .u16 (s:Int))/\W.cell? ⟨bc,2,none⟩=some (.bool l)/\W.cell? ⟨bc,3,none⟩=some (.bool true)/\W.cell? ⟨bc,4,none⟩=some (.slice qb nb kb)/\W.cell? ⟨bc,5,none⟩=some (.slice pa na ca)) (by kernel_rfl) ?_
   refine tk0 [0,1,2,3,4,6] ?_
   iterate 6
    refine tks (v:=?_) rfl (Or.inl ⟨by rfl,?_⟩) (by assumption) ?_
    rotate_left
    ·intro w J;(try dsimp only at J);go_simp
     all_goals with_reducible rfl
    try simp only[Act.put,lz1,lz2,lz3]
   refine tk9 ?_
   try simp only[lz4,lz5,lz6,lz1,lz2,lz3]
   refine tk1 5 rfl fun K z=>?_
   go_simp
   go_at_call 30
   refine gi.out.mono ?_
   rintro e w8 ⟨rfl,T8,bw⟩
   have M:=gg.out.trans bw
   have gj:=bv.out _ _ (M.mono (fun _ h=>h.elim))
   have ad:=dd.out.trans (M.mono (T:=fun t=>t=tTry) (fun _ h=>h.elim))
   have dh:=gh.out.nil bw
   have di:=Hl.out.step ad (by intro g hg e;subst e;rcases hg with h|h|h <;> simp[tTry,tLog,Qah,Qag] at h)
   have ae:=de.out.step M (fun h=>h)
   have af:=df.out.step M (fun h=>h)
   have dj:=gf.out.step M (fun h=>h)
   have dk:RecI w8 T8 (.agg #[.int .u8 2,.int .u32 0,.int .u64 0,.int .u64 0,.int .u32 (n:Int),.int .u16 (s:Int),.bool l,.bool true,.slice qb nb kb,.slice pa na ca,.slice none 0 0,.slice none 0 0]) ⟨2,0,0,0,⟨n,s,l,true,be,m⟩,[],[]⟩:=⟨⟨qb,kb,pa,ca,none,0,none,0,tBox,tBox,0,by dsimp only;rw[bq.out];rw[av.out];rfl,by dsimp only;rw[bq.out];exact ae,by dsimp only;rw[av.out];exact af,NS.nil _ _ _ _ _ _ _,NS.nil _ _ _ _ _ _ _,by simp[WrT,tBox,tWr,tWb],by simp[WrT,tBox,tWr,tWb]⟩,by show 2<256;omega,by show 0<4294967296;omega,by show 0<18446744073709551616;omega,by show 0<18446744073709551616;omega,ei,by show s<65536;omega⟩
   have ag:(RecP.own ⟨2,0,0,0,⟨n,s,l,true,be,m⟩,[],[]⟩ x)=Qcp c x:=by rw[a8.out];rfl
   have dl:(encR (Qcp c x)).length=sz:=by rw[Qdt];exact aw.out
   obtain⟨dm,dn,io,dp,gk,dq,b8,p,ay,dr⟩:=hid10 dh di ae af dj dk ad ag dl M
   clear dh di ae af dj dk ad ag dl M bw gd
   refine z.out _ _ (fun _=>gj) ?_
   clear z K
   refine tk (i:=7) (v:=?_) rfl (Or.inl ⟨by rfl,?_⟩) (by assumption) ?_
   rotate_left
   ·intro w J;(try dsimp only at J);go_simp
    all_goals with_reducible rfl
   try simp only[Act.put,lz1,lz2,lz3]
   try simp only[lz4,lz5,lz6,lz1,lz2,lz3]
   by_cases B:L.stream.length+sz+(resv X+sz)<=L.strips*127
   ·have N:=Qe2 dm.out dn.out hx hn dq.out ct (by rw[p.out,ay.out];omega) (by show (2:Nat)≠8;omega) ar (resv X+sz) (by rw[p.out,ay.out];exact B)
    rw[p.out,X3] at N
    have bz:=Z2 N
    clear N
    refine tk1 8 rfl fun K z=>?_
    go_simp
    go_at_call 82
    refine bz.out.mono ?_
    rintro e w9 ⟨rfl,T9,ds,c3,C⟩
    obtain⟨lsn,ah⟩:∃lsn,L.base+L.stream.length=lsn:=⟨_,rfl⟩
    rw[ah] at c3 ⊢
    have Y:=bv.out _ _ ((dr.out.mono (T:=fun t=>LogTag t\/t=tOneT x.txn) (fun _ h=>h.elim)).trans C)
    have c4:=gk.out.step C (by simp[LogTag,tPg,tLog,Qah,Qag,tOneT])
    have ai:=dp.out.step C (by simp[LogTag,tData,tLog,Qah,Qag,tOneT])
    have E:Step w τ w9 T9 (TcTag i x.txn):=(b8.out.mono (fun t h=>.inr (.inr (.inr (.inr h))))).trans (C.mono (fun t h=>h.elim .inl (fun h=>.inr (.inl h))))
    have aj:=Qv1 (g:=tPg i) (by simp[tPg,tOut,tData,tAll]) c4 Hs.out Hp.out ⟨n,s,l,true,be,m⟩ ce (pb:=qb) (cb:=kb) (pa:=pa) (ca:=ca) (by show Bytes w9 T9 tData (.slice pa m.length ca) m;rw[av.out];exact ai) (fun h=>by exact hh) (by show (m:List Int).length<=64;omega)
    unfold ChgV at aj
    dsimp only at aj
    rw[bq.out,av.out] at aj
    obtain⟨gm,gn,jj,iq,ak,gp,b9⟩:=hid7 ds c3 c4 ai E aj ah
    clear ds c3 c4 ai E aj ah C
    refine z.out _ _ (fun _=>Y) ?_
    clear z K
    refine tk0 [9,10,11] ?_
    iterate 3
     refine tks (v:=?_) rfl (Or.inl ⟨by rfl,?_⟩) (by assumption) ?_
     rotate_left
     ·intro w J;(try dsimp only at J);go_simp
      all_goals with_reducible rfl
     try simp only[Act.put,lz1,lz2,lz3]
    refine tk9 ?_
    try simp only[lz4,lz5,lz6,lz1,lz2,lz3]
    refine tk1 12 rfl fun K z=>?_
    go_simp
    refine z.out _ _ (fun _=>Y) ?_
    clear z K
    refine tk1 13 rfl fun K z=>?_
    go_simp
    refine z.out _ _ (fun h=>absurd h (by decide +kernel)) ?_
    clear z K
    refine Qad (by kernel_rfl) ?_ _
    obtain⟨f0,f1,f2,f3,f4,f5⟩:=Y
    go_wp2_with fail
    refine gp.out.mono ?_
    rintro e wa ⟨rfl,Q,Ta,dt,dv,az⟩
    have b0:=gn.out.step az (by simp[tOneT,tPg]) (by simp[tChg,tPg])
    have dw:=gm.out.step az (by intro g hg e;subst e;rcases hg with h|h|h <;> simp[tPg,tLog,Qah,Qag] at h)
    have ba:=ak.out.trans (az.mono (T:=TcTag i x.txn) (fun t h=>.inr (.inr (.inr (.inl h)))))
    obtain⟨vv,D,al⟩:=b0.is
    obtain⟨pv,cv,rfl,-,-⟩:=al.done
    have am:=b0.len
    have j:=b0.size
    unfold OneP.cells at D
    dsimp only at D al am j
    obtain⟨bx,dx⟩:∃bx,bo x.txn=bx:=⟨_,rfl⟩
    rw[dx] at D
    obtain⟨F,R⟩:∃F,x.ch.length=F:=⟨_,rfl⟩
    rw[R] at D al
    have g2:=D.at 2 (v:=.int .u64 (x.undo:Int)) rfl
    have z2:=D.fz 2
    have an:Step wa Ta (wa.setCell ⟨bx,2,none⟩ (.int .u64 (lsn:Int))) Ta (fun t=>t=tOneT x.txn):=(Step.refl wa Ta (fun t=>t=tOneT x.txn)).set (o:=2) D.tag rfl _
    have c5:=D.set 2 (.int .u64 (lsn:Int))
    have y5:=c5.at 5 (v:=.slice pv F cv) rfl
    have bb:=al.step an (by simp[tChg,tOneT])
    have dy:=dw.step an (by intro g hg e;subst e;rcases hg with h|h|h <;> simp[tOneT,tLog,Qah,Qag] at h)
    have dz:=dv.step an (by simp[tPg,tOneT])
    have bf:=ba.trans (an.mono (T:=TcTag i x.txn) (fun t h=>.inr (.inl h)))
    have O:(x.ch++[(lsn,sz)]).length=F+1:=by rw[Z6,R];rfl
    have e6:x.ch.length<=1000000:=by omega
    have e7:∀W T,Own W T bx (tOneT x.txn) 176 [.int .u32 (x.txn:Int),.int .u64 (lsn:Int),.int .u64 (lsn:Int),.int .u8 (x.state:Int),.int .u64 (x.start:Int),.slice pv (F+1) cv]->True:=fun _ _ _=>trivial
    have bg:(x.ch++[(lsn,sz)]).length<=1000:=by rw[O];omega
    have bh:∀y∈x.ch++[(lsn,sz)],y.2<=1000:=fun y hy=>by
     rcases List.mem_append.1 hy with h|h
     ·exact j y h
     ·rw[Y8 h];show sz<=1000;omega
    obtain⟨gv,gw,gx,e8,gy⟩:=hid5 dt dy dz bf c5
    have e9:=Z2 bb
    obtain⟨ir,fa,it,c6,gz,ea,eb⟩:=hid7 am j R O e6 bg bh
    clear dt dy dz bf c5 bb am j R O e6 bg bh b0 dw ba D al an dv az f0 f1 f2 f3 f4 f5 e7
    go_wp2_with (at_builtin;go_loud (refine Qec e9.out (lsn,sz) gz.out (kb:=wa.heap.size) (by simp) rfl _ _ rfl rfl rfl ?_;intro v9 wc Tc c7 ao;obtain⟨pc,cc,ec,-,-⟩:=c7.done;rw[c6.out] at ec;subst ec;have G:=gy.out.step ao (by simp[tChg,tOneT]);have zc:=G.fz 5;have dc:=G.at 5 (v:=.slice pv F cv) rfl;have ap:Step wc Tc (wc.setCell ⟨bx,5,none⟩ (.slice pc (F+1) cc)) Tc (fun t=>t=tOneT x.txn):=(Step.refl wc Tc (fun t=>t=tOneT x.txn)).set (o:=5) G.tag rfl _;have ed:=G.set 5 (.slice pc (F+1) cc);have ee:=c7.step ap (by simp[tChg,tOneT]);have ef:=(gw.out.step ao (by intro g hg e;subst e;rcases hg with h|h|h <;> simp[tChg,tLog,Qah,Qag] at h)).step ap (by intro g hg e;subst e;rcases hg with h|h|h <;> simp[tOneT,tLog,Qah,Qag] at h);have eg:=(gx.out.step ao (by simp[tPg,tChg])).step ap (by simp[tPg,tOneT]);have bi:=(e8.out.trans (ao.mono (T:=TcTag i x.txn) (fun t h=>.inr (.inr (.inl h))))).trans (ap.mono (T:=TcTag i x.txn) (fun t h=>.inr (.inl h)));obtain⟨h0,h4,h5,h6,eh⟩:=hid5 ed ee ef eg bi;clear ed ee ef eg bi;clear G ap c7 ao))
    go_ret2
    exact .inr (.inr ⟨by rw[a8.out];exact .inl rfl,by rw[aw.out];exact B,by rw[b9.out];rfl,Q,Tc,by rw[a8.out];exact gv.out,h6.out,h5.out,by rw[b9.out,aw.out,dx];exact⟨⟨_,h0.out,h4.out⟩,ea.out,eb.out⟩,eh.out⟩)
   ·have N:=Qg9 dm.out dn.out hx hn dq.out ct (by rw[p.out,ay.out];omega) (by show (2:Nat)≠8;omega) ar (resv X+sz) (by have:=en.out;omega) (by rw[p.out,ay.out];exact B)
    rw[X3] at N
    have bz:=Z2 N
    clear N
    refine tk1 8 rfl fun K z=>?_
    go_simp
    go_at_call 82
    refine bz.out.mono ?_
    rintro e w9 ⟨rfl,T9,C⟩
    have Y:=bv.out _ _ ((dr.out.trans C).mono (fun _ h=>h.elim))
    have E:=b8.out.trans (C.mono (T:=fun t=>t=tTry) (fun _ h=>h.elim))
    have ak:=Z2 E
    clear E C
    refine z.out _ _ (fun _=>Y) ?_
    clear z K
    refine tk0 [9,10,11] ?_
    iterate 3
     refine tks (v:=?_) rfl (Or.inl ⟨by rfl,?_⟩) (by assumption) ?_
     rotate_left
     ·intro w J;(try dsimp only at J);go_simp
      all_goals with_reducible rfl
     try simp only[Act.put,lz1,lz2,lz3]
    refine tk9 ?_
    try simp only[lz4,lz5,lz6,lz1,lz2,lz3]
    refine tk1 12 rfl fun K z=>?_
    go_simp
    refine z.out _ _ (fun _=>Y) ?_
    clear z K
    refine tk1 13 rfl fun K z=>?_
    go_simp
    refine z.out _ _ (fun h=>absurd h (by decide +kernel)) ?_
    clear z K
    refine Qad (by kernel_rfl) ?_ _
    go_wp2_with fail
    go_ret2
    exact .inr (.inl ⟨by rw[a8.out];exact .inl rfl,by rw[aw.out];exact B,rfl,T9,ak.out⟩)
  case' false =>
   have jk:l=true:=by
    rcases ft.out with h|h
    ·cases h
    ·exact h
   subst jk
   go_wp2_with fail
   rw[fr.out]
   refine fh.out.mono ?_
   rintro e w6 ⟨rfl,T6,Z⟩
   have d:=ff.out.step Z (by decide)
   have a1:=hv.out.step Z (by decide)
   have bn:=fq.out.step Z (by simp[tPg,tTry])
   have a7:=(c8.out.mono (T:=fun t=>t=tTry) (fun _ h=>h.elim)).trans Z
   have a6:Bytes w6 T6 tData (.slice none 0 0) []:=Bytes.empty _ _ _
   have cp:c=⟨n,s,true,false,be,[]⟩:=eo.out
   have b3:be.length=nb:=er.out
   have e0:=d.at 0 rfl
   have e1:=d.at 1 rfl
   have e2:=d.at 2 rfl
   have e3:=d.at 3 rfl
   have e4:=d.at 4 rfl
   have e5:=d.at 5 rfl
   obtain⟨cq,b4,b5,ga,cr,a8,cs⟩:=hid7 d a1 a6 bn a7 cp b3
   clear d a1 a6 bn a7 cp b3 Z
   go_wp2_with fail
   have hbl:be.length=nb:=er.out
   have gb:mayB (Qf5 ⟨n,s,true,false,be,([]:List Int)⟩ 0 0 0)=true:=Qlb (.inr rfl) (by show (([]:List Int):List Int).length<=64;simp) (by show be.length<=64;omega) (fun h=>by rfl) (fun h=>by cases h)
   have ct:mayB ⟨2,0,0,0,⟨n,s,true,false,be,([]:List Int)⟩,[],[]⟩=true:=Qlb (.inl rfl) (by show be.length<=64;omega) (by show (([]:List Int):List Int).length<=64;simp) (fun h=>by cases h) (fun h=>by rfl)
   have r:=Qj9 (c:=⟨n,s,true,false,be,([]:List Int)⟩) (pb:=qb) (cb:=kb) (pa:=none) (ca:=0) (by show Bytes w6 T6 tData (.slice qb be.length kb) be;rw[hbl];exact b4.out) (by show Bytes w6 T6 tData (.slice none 0 0) [];exact b5.out) gb ei (by show s<65536;omega)
   unfold ChgV at r
   dsimp only at r
   rw[hbl] at r
   obtain⟨sz,cw⟩:∃sz,36+nb+0=sz:=⟨_,rfl⟩
   rw[show 36+nb+([]:List Int).length=sz from cw] at r
   have cx:Qak c=sz:=by rw[a8.out,<-cw];unfold Qak;show 36+be.length+(([]:List Int):List Int).length=_;rw[cs.out];rfl
   obtain⟨cy,aw,bq⟩:=hid3 r cx hbl
   clear r cx hbl
   refine cy.out.mono ?_
   rintro e w7 ⟨rfl,T7,U⟩
   have aa:=(cq.out.step U (fun h=>h))
   have ab:=cr.out.trans (U.mono (T:=fun t=>t=tTry) (fun _ h=>h.elim))
   have cz:=ga.out.step U (fun h=>h)
   have b6:=b4.out.step U (fun h=>h)
   have b7:=b5.out.step U (fun h=>h)
   have ax:Step w7 T7 w7.drew T7 nil:=(Step.refl w7 T7 nil).drew
   have br:∀W T,Step w7 T7 W T (fun t=>LogTag t\/t=tOneT x.txn)->W.cell? ⟨bc,0,none⟩=some (.int .u32 (n:Int))/\W.cell? ⟨bc,1,none⟩=some (.int .u16 (s:Int))/\W.cell? ⟨bc,2,none⟩=some (.bool true)/\W.cell? ⟨bc,3,none⟩=some (.bool false)/\W.cell? ⟨bc,4,none⟩=some (.slice qb nb kb)/\W.cell? ⟨bc,5,none⟩=some (.slice none 0 0):=fun W T q=>by
    have h:=aa.step q (by simp[LogTag,tLog,Qah,Qag,tTn,tOneT])
    exact⟨h.at 0 rfl,h.at 1 rfl,h.at 2 rfl,h.at 3 rfl,h.at 4 rfl,h.at 5 rfl⟩
   have gd:=br _ _ (ax.mono (fun _ h=>h.elim))
   have bs:=(Hm.out.step ab (fun g hg e=>by subst e;simp[Qai,tTry] at hg)).nil ax
   have da:=Qde bs
   have db:=en.out
   have ik:sz<=200:=by omega
   have il:IntKind.u64.wrap ((resv X:Int)+(sz:Int))=(resv X:Int)+(sz:Int):=by
    have:=Qer (a:=resv X) (b:=sz) (by omega)
    rw[X3] at this
    exact this
   obtain⟨im,dd,gf,de,df,gg,bv,gh,gi⟩:=hid9 aa ab cz b6 b7 ax br bs da
   clear aa ab cz b6 b7 ax br bs da U e0 e1 e2 e3 e4 e5 db
   go_wp2_with fail
   refine Qaf (S:=fun W:World=>W.cell? ⟨bc,0,none⟩=some (.int .u32 (n:Int))/\W.cell? ⟨bc,1,none⟩=some (.int .u16 (s:Int))/\W.cell? ⟨bc,2,none⟩=some (.bool true)/\W.cell? ⟨bc,3,none⟩=some (.bool false)/\W.cell? ⟨bc,4,none⟩=some (.slice qb nb kb)/\W.cell? ⟨bc,5,none⟩=some (.slice none 0 0)) (by kernel_rfl) ?_
   refine tk0 [0,1,2,3,4,6] ?_
   iterate 6
    refine tks (v:=?_) rfl (Or.inl ⟨by rfl,?_⟩) (by assumption) ?_
    rotate_left
    ·intro w J;(try dsimp only at J);go_simp
     all_goals with_reducible rfl
    try simp only[Act.put,lz1,lz2,lz3]
   refine tk9 ?_
   try simp only[lz4,lz5,lz6,lz1,lz2,lz3]
   refine tk1 5 rfl fun K z=>?_
   go_simp
   go_at_call 30
   refine gi.out.mono ?_
   rintro e w8 ⟨rfl,T8,bw⟩
   have M:=gg.out.trans bw
   have gj:=bv.out _ _ (M.mono (fun _ h=>h.elim))
   have ad:=dd.out.trans (M.mono (T:=fun t=>t=tTry) (fun _ h=>h.elim))
   have dh:=gh.out.nil bw
   have di:=Hl.out.step ad (by intro g hg e;subst e;rcases hg with h|h|h <;> simp[tTry,tLog,Qah,Qag] at h)
   have ae:=de.out.step M (fun h=>h)
   have af:=df.out.step M (fun h=>h)
   have dj:=gf.out.step M (fun h=>h)
   have dk:RecI w8 T8 (.agg #[.int .u8 2,.int .u32 0,.int .u64 0,.int .u64 0,.int .u32 (n:Int),.int .u16 (s:Int),.bool true,.bool false,.slice qb nb kb,.slice none 0 0,.slice none 0 0,.slice none 0 0]) ⟨2,0,0,0,⟨n,s,true,false,be,([]:List Int)⟩,[],[]⟩:=⟨⟨qb,kb,none,0,none,0,none,0,tBox,tBox,0,by dsimp only;rw[bq.out];rfl,by dsimp only;rw[bq.out];exact ae,by dsimp only;exact af,NS.nil _ _ _ _ _ _ _,NS.nil _ _ _ _ _ _ _,by simp[WrT,tBox,tWr,tWb],by simp[WrT,tBox,tWr,tWb]⟩,by show 2<256;omega,by show 0<4294967296;omega,by show 0<18446744073709551616;omega,by show 0<18446744073709551616;omega,ei,by show s<65536;omega⟩
   have ag:(RecP.own ⟨2,0,0,0,⟨n,s,true,false,be,([]:List Int)⟩,[],[]⟩ x)=Qcp c x:=by rw[a8.out];rfl
   have dl:(encR (Qcp c x)).length=sz:=by rw[Qdt];exact aw.out
   obtain⟨dm,dn,io,dp,gk,dq,b8,p,ay,dr⟩:=hid10 dh di ae af dj dk ad ag dl M
   clear dh di ae af dj dk ad ag dl M bw gd
   refine z.out _ _ (fun _=>gj) ?_
   clear z K
   refine tk (i:=7) (v:=?_) rfl (Or.inl ⟨by rfl,?_⟩) (by assumption) ?_
   rotate_left
   ·intro w J;(try dsimp only at J);go_simp
    all_goals with_reducible rfl
   try simp only[Act.put,lz1,lz2,lz3]
   try simp only[lz4,lz5,lz6,lz1,lz2,lz3]
   by_cases B:L.stream.length+sz+(resv X+sz)<=L.strips*127
   ·have N:=Qe2 dm.out dn.out hx hn dq.out ct (by rw[p.out,ay.out];omega) (by show (2:Nat)≠8;omega) ar (resv X+sz) (by rw[p.out,ay.out];exact B)
    rw[p.out,X3] at N
    have bz:=Z2 N
    clear N
    refine tk1 8 rfl fun K z=>?_
    go_simp
    go_at_call 82
    refine bz.out.mono ?_
    rintro e w9 ⟨rfl,T9,ds,c3,C⟩
    obtain⟨lsn,ah⟩:∃lsn,L.base+L.stream.length=lsn:=⟨_,rfl⟩
    rw[ah] at c3 ⊢
    have Y:=bv.out _ _ ((dr.out.mono (T:=fun t=>LogTag t\/t=tOneT x.txn) (fun _ h=>h.elim)).trans C)
    have c4:=gk.out.step C (by simp[LogTag,tPg,tLog,Qah,Qag,tOneT])
    have ai:=dp.out.step C (by simp[LogTag,tData,tLog,Qah,Qag,tOneT])
    have E:Step w τ w9 T9 (TcTag i x.txn):=(b8.out.mono (fun t h=>.inr (.inr (.inr (.inr h))))).trans (C.mono (fun t h=>h.elim .inl (fun h=>.inr (.inl h))))
    have aj:=Qv1 (g:=tPg i) (by simp[tPg,tOut,tData,tAll]) c4 Hs.out Hp.out ⟨n,s,true,false,be,([]:List Int)⟩ ce (pb:=qb) (cb:=kb) (pa:=none) (ca:=0) (by show Bytes w9 T9 tData (.slice none 0 0) [];exact ai) (fun h=>by cases h) (by show (([]:List Int):List Int).length<=64;simp)
    unfold ChgV at aj
    dsimp only at aj
    rw[bq.out] at aj
    obtain⟨gm,gn,jj,iq,ak,gp,b9⟩:=hid7 ds c3 c4 ai E aj ah
    clear ds c3 c4 ai E aj ah C
    refine z.out _ _ (fun _=>Y) ?_
    clear z K
    refine tk0 [9,10,11] ?_
    iterate 3
     refine tks (v:=?_) rfl (Or.inl ⟨by rfl,?_⟩) (by assumption) ?_
     rotate_left
     ·intro w J;(try dsimp only at J);go_simp
      all_goals with_reducible rfl
     try simp only[Act.put,lz1,lz2,lz3]
    refine tk9 ?_
    try simp only[lz4,lz5,lz6,lz1,lz2,lz3]
    refine tk1 12 rfl fun K z=>?_
    go_simp
    refine z.out _ _ (fun _=>Y) ?_
    clear z K
    refine tk1 13 rfl fun K z=>?_
    go_simp
    refine z.out _ _ (fun h=>absurd h (by decide +kernel)) ?_
    clear z K
    refine Qad (by kernel_rfl) ?_ _
    obtain⟨f0,f1,f2,f3,f4,f5⟩:=Y
    go_wp2_with fail
    refine gp.out.mono ?_
    rintro e wa ⟨rfl,Q,Ta,dt,dv,az⟩
    have b0:=gn.out.step az (by simp[tOneT,tPg]) (by simp[tChg,tPg])
    have dw:=gm.out.step az (by intro g hg e;subst e;rcases hg with h|h|h <;> simp[tPg,tLog,Qah,Qag] at h)
    have ba:=ak.out.trans (az.mono (T:=TcTag i x.txn) (fun t h=>.inr (.inr (.inr (.inl h)))))
    obtain⟨vv,D,al⟩:=b0.is
    obtain⟨pv,cv,rfl,-,-⟩:=al.done
    have am:=b0.len
    have j:=b0.size
    unfold OneP.cells at D
    dsimp only at D al am j
    obtain⟨bx,dx⟩:∃bx,bo x.txn=bx:=⟨_,rfl⟩
    rw[dx] at D
    obtain⟨F,R⟩:∃F,x.ch.length=F:=⟨_,rfl⟩
    rw[R] at D al
    have g2:=D.at 2 (v:=.int .u64 (x.undo:Int)) rfl
    have z2:=D.fz 2
    have an:Step wa Ta (wa.setCell ⟨bx,2,none⟩ (.int .u64 (lsn:Int))) Ta (fun t=>t=tOneT x.txn):=(Step.refl wa Ta (fun t=>t=tOneT x.txn)).set (o:=2) D.tag rfl _
    have c5:=D.set 2 (.int .u64 (lsn:Int))
    have y5:=c5.at 5 (v:=.slice pv F cv) rfl
    have bb:=al.step an (by simp[tChg,tOneT])
    have dy:=dw.step an (by intro g hg e;subst e;rcases hg with h|h|h <;> simp[tOneT,tLog,Qah,Qag] at h)
    have dz:=dv.step an (by simp[tPg,tOneT])
    have bf:=ba.trans (an.mono (T:=TcTag i x.txn) (fun t h=>.inr (.inl h)))
    have O:(x.ch++[(lsn,sz)]).length=F+1:=by rw[Z6,R];rfl
    have e6:x.ch.length<=1000000:=by omega
    have e7:∀W T,Own W T bx (tOneT x.txn) 176 [.int .u32 (x.txn:Int),.int .u64 (lsn:Int),.int .u64 (lsn:Int),.int .u8 (x.state:Int),.int .u64 (x.start:Int),.slice pv (F+1) cv]->True:=fun _ _ _=>trivial
    have bg:(x.ch++[(lsn,sz)]).length<=1000:=by rw[O];omega
    have bh:∀y∈x.ch++[(lsn,sz)],y.2<=1000:=fun y hy=>by
     rcases List.mem_append.1 hy with h|h
     ·exact j y h
     ·rw[Y8 h];show sz<=1000;omega
    obtain⟨gv,gw,gx,e8,gy⟩:=hid5 dt dy dz bf c5
    have e9:=Z2 bb
    obtain⟨ir,fa,it,c6,gz,ea,eb⟩:=hid7 am j R O e6 bg bh
    clear dt dy dz bf c5 bb am j R O e6 bg bh b0 dw ba D al an dv az f0 f1 f2 f3 f4 f5 e7
    go_wp2_with (at_builtin;go_loud (refine Qec e9.out (lsn,sz) gz.out (kb:=wa.heap.size) (by simp) rfl _ _ rfl rfl rfl ?_;intro v9 wc Tc c7 ao;obtain⟨pc,cc,ec,-,-⟩:=c7.done;rw[c6.out] at ec;subst ec;have G:=gy.out.step ao (by simp[tChg,tOneT]);have zc:=G.fz 5;have dc:=G.at 5 (v:=.slice pv F cv) rfl;have ap:Step wc Tc (wc.setCell ⟨bx,5,none⟩ (.slice pc (F+1) cc)) Tc (fun t=>t=tOneT x.txn):=(Step.refl wc Tc (fun t=>t=tOneT x.txn)).set (o:=5) G.tag rfl _;have ed:=G.set 5 (.slice pc (F+1) cc);have ee:=c7.step ap (by simp[tChg,tOneT]);have ef:=(gw.out.step ao (by intro g hg e;subst e;rcases hg with h|h|h <;> simp[tChg,tLog,Qah,Qag] at h)).step ap (by intro g hg e;subst e;rcases hg with h|h|h <;> simp[tOneT,tLog,Qah,Qag] at h);have eg:=(gx.out.step ao (by simp[tPg,tChg])).step ap (by simp[tPg,tOneT]);have bi:=(e8.out.trans (ao.mono (T:=TcTag i x.txn) (fun t h=>.inr (.inr (.inl h))))).trans (ap.mono (T:=TcTag i x.txn) (fun t h=>.inr (.inl h)));obtain⟨h0,h4,h5,h6,eh⟩:=hid5 ed ee ef eg bi;clear ed ee ef eg bi;clear G ap c7 ao))
    go_ret2
    exact .inr (.inr ⟨by rw[a8.out];exact .inr rfl,by rw[aw.out];exact B,by rw[b9.out];rfl,Q,Tc,by rw[a8.out];exact gv.out,h6.out,h5.out,by rw[b9.out,aw.out,dx];exact⟨⟨_,h0.out,h4.out⟩,ea.out,eb.out⟩,eh.out⟩)
   ·have N:=Qg9 dm.out dn.out hx hn dq.out ct (by rw[p.out,ay.out];omega) (by show (2:Nat)≠8;omega) ar (resv X+sz) (by have:=en.out;omega) (by rw[p.out,ay.out];exact B)
    rw[X3] at N
    have bz:=Z2 N
    clear N
    refine tk1 8 rfl fun K z=>?_
    go_simp
    go_at_call 82
    refine bz.out.mono ?_
    rintro e w9 ⟨rfl,T9,C⟩
    have Y:=bv.out _ _ ((dr.out.trans C).mono (fun _ h=>h.elim))
    have E:=b8.out.trans (C.mono (T:=fun t=>t=tTry) (fun _ h=>h.elim))
    have ak:=Z2 E
    clear E C
    refine z.out _ _ (fun _=>Y) ?_
    clear z K
    refine tk0 [9,10,11] ?_
    iterate 3
     refine tks (v:=?_) rfl (Or.inl ⟨by rfl,?_⟩) (by assumption) ?_
     rotate_left
     ·intro w J;(try dsimp only at J);go_simp
      all_goals with_reducible rfl
     try simp only[Act.put,lz1,lz2,lz3]
    refine tk9 ?_
    try simp only[lz4,lz5,lz6,lz1,lz2,lz3]
    refine tk1 12 rfl fun K z=>?_
    go_simp
    refine z.out _ _ (fun _=>Y) ?_
    clear z K
    refine tk1 13 rfl fun K z=>?_
    go_simp
    refine z.out _ _ (fun h=>absurd h (by decide +kernel)) ?_
    clear z K
    refine Qad (by kernel_rfl) ?_ _
    go_wp2_with fail
    go_ret2
    exact .inr (.inl ⟨by rw[a8.out];exact .inr rfl,by rw[aw.out];exact B,rfl,T9,ak.out⟩)
