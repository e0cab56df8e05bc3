/-
 Transactions: change: one is logged,and done.
-/
import Derived.Test.YtjgacceifcnedaaGreatMTxD
import Derived.Test.YtjgacceifcnedaaGreatMTxF
import Derived.Test.YtjgacceifcnedaaGreatMTxA
set_option maxRecDepth 100000
set_option maxHeartbeats 8000000
set_option linter.all false
namespace Go.Proofs.YtjgacceifcnedaaGreat
open Go.RowKit
theorem Qlb {k t p n:Nat}{c:ChangeP}(hk:k=2∨k=3) (h1:c.before.length≤64) (h2:c.after.length≤64) (h3:c.had=false→c.before=[]) (h4:c.has=false→c.after=[]):mayB ⟨k,t,p,n,c,[],[]⟩=true:=by
 obtain⟨pg,sl,hd,hs,be,af⟩:=c
 dsimp only at *
 have e:mayCB true pg sl hd hs be.length af.length=true:=by
  unfold mayCB
  cases hd <;> cases hs <;> simp_all <;> omega
 rcases hk with rfl|rfl
 ·show mayRB 2 0 0 (mayCB true pg sl hd hs be.length af.length) false=true
  rw[e];rfl
 ·show mayRB 3 0 0 (mayCB true pg sl hd hs be.length af.length) false=true
  rw[e];rfl
def chgOf (n:Nat) (P:List Int) (s:Nat) (has:Bool) (m:List Int):ChangeP:=⟨n,s,decide (0<pLen P s),has,pData P s,if has=true then m else []⟩
def Qak (c:ChangeP):Nat:=36+c.before.length+c.after.length
def Qcp (c:ChangeP) (x:OneP):RecP:=⟨2,x.txn,x.last,0,c,[],[]⟩
theorem Qdt (c:ChangeP) (x:OneP):(encR (Qcp c x)).length=Qak c:=by
 rw[Qbh]
 unfold encBody Qcp Qak
 rw[if_pos (by rfl),Qhi]
 show 27+(9+c.before.length+c.after.length)=_
 omega
def OneP.changed (x:OneP) (lsn size:Nat):OneP:={x with last:=lsn,undo:=lsn,ch:=x.ch++[(lsn,size)]}
def TcTag (i k:Nat) (t:Tag):Prop:=LogTag t∨t=tOneT k∨t=tChg k∨t=tPg i∨t=tTry
def Qwr (w:World) (τ:Tags) (bl bd:Nat) (bo:Nat→Nat) (X:List OneP) (L:LogM) (x:OneP) (i b:Nat) (P:List Int) (c:ChangeP) (e:Ending) (w':World):Prop :=
 (c.has=false∧c.had=false∧e = .returned (.tuple #[.int .u64 0,.int .u16 0])∧∃τ',Step w τ w' τ' nil) ∨
 ((c.has=true∨c.had=true)∧¬L.stream.length+Qak c+(resv X+Qak c)≤L.strips*127∧e = .returned (.tuple #[.int .u64 0,.int .u16 80])∧∃τ',Step w τ w' τ' (fun t=>t=tTry)) ∨
 ((c.has=true∨c.had=true)∧L.stream.length+Qak c+(resv X+Qak c)≤L.strips*127∧e = .returned (.tuple #[.int .u64 ((L.base+L.stream.length:Nat):Int),.int .u16 0])∧∃Q τ',DoneP P Q c.slot c.now∧PageAt w' τ' (tPg i) b Q∧LogAt w' τ' bl bd (L.more (encR (Qcp c x)))∧OneAt w' τ' (bo x.txn) (x.changed (L.base+L.stream.length) (Qak c))∧Step w τ w' τ' (TcTag i x.txn))
theorem Qt4 {w:World}{τ:Tags}{bm bl bd bp:Nat}{bo:Nat→Nat}{X:List OneP}{next:Nat}{L:LogM}(hm:MgrAt w τ bm bl bp bo X next) (hl:LogAt w τ bl bd L) {x:OneP}(hx:x∈X) (hn:L.starts.length≤100000) (hlast:x.last<18446744073709551616) (hxl:x.ch.length<1000)
 {i b:Nat} {P:List Int} (hP:PageAt w τ (tPg i) b P) (hs:Sound P) (hp:Small P) (n:Nat) (hn4:n<4294967296) (s:Nat) (hs12:s<12) (has:Bool) {pd:Option Addr} {cd:Nat} {m:List Int} (hd:Bytes w τ tData (.slice pd m.length cd) m) (hm4:m.length≤4) (hm0:0<m.length) :
 Calls Tryz.prog 59 #[.pointer (some ⟨bm,0,none⟩),.pointer (some ⟨bo x.txn,0,none⟩),.pointer (some ⟨b,0,none⟩),.int .u32 (n:Int),.int .i64 (s:Int),.bool has,.slice pd m.length cd] w (Qwr w τ bl bd bo X L x i b P (chgOf n P s has m)):=by
 have huw:IntKind.u16.wrap (s:Int)=(s:Int):=by simp[IntKind.wrap,IntKind.bits,IntKind.signed];omega
 have hal:=(Step.refl w τ nil).alloc (.cells #[.int .u32 (n:Int),.int .u16 (s:Int),.bool false,.bool has,.slice none 0 0,.slice none 0 0] 55) tTn
 have hoc:=Own.born w τ tTn 55 #[.int .u32 (n:Int),.int .u16 (s:Int),.bool false,.bool has,.slice none 0 0,.slice none 0 0]
 have hP1:=hP.step hal (fun h=>h)
 have hget:=Qi5 hP1 hs.tidy.lies.fit s (by omega) tData
 have hplen:=Qbm hs.tidy.lies.fit hs.tidy.len s
 have hp4:=(hp s).1
 obtain⟨bc,hbc⟩:∃bc,w.heap.size=bc:=⟨_,rfl⟩
 have hlow:w.heap.size≤bc:=by omega
 generalize hT:τ.put w.heap.size tTn=T1 at *
 rw[hbc] at hoc
 obtain⟨W1,hW1⟩:∃W,w.alloc (.cells #[.int .u32 (n:Int),.int .u16 (s:Int),.bool false,.bool has,.slice none 0 0,.slice none 0 0] 55)=W:=⟨_,rfl⟩
 rw[hW1] at hal hoc hP1 hget
 obtain⟨hdv,hhd⟩:∃v,decide (0<pLen P s)=v:=⟨_,rfl⟩
 rw[hhd] at hget
 obtain⟨be,hbe⟩:∃be,pData P s=be:=⟨_,rfl⟩
 rw[hbe] at hget hplen hp4
 have hbe0:hdv=false→be=[]:=fun h=>by
  rw[h] at hhd
  have:=of_decide_eq_false hhd
  exact List.eq_nil_of_length_eq_zero (by omega)
 have hcO:chgOf n P s has m=⟨n,s,hdv,has,be,if has=true then m else []⟩:=by unfold chgOf;rw[hhd,hbe]
 generalize chgOf n P s has m=c at *
 have hb0:=(hm.ones x hx)
 have hst1:=hal
 have hrb:resv X≤70000000:=by
  rw[Qqn hm.nodup]
  have h1:=Qki (Qh1 X) 1000054 (OneP.ids X) (fun k hk=>by
   obtain⟨y,hy,rfl⟩:=List.mem_map.1 hk
   rw[Qgk hm.nodup hy];exact(hm.ones y hy).need_le)
  have h2:(OneP.ids X).length≤64:=by have:=hm.many;unfold OneP.ids;rw[List.length_map];exact this
  have h3:=Nat.mul_le_mul_right 1000054 h2
  omega
 obtain⟨Hrb,Hm,Hl,HP,Hs,Hp,Hd,Hal,Hoc,HP1,Hget,HT⟩:=hid12 hrb hm hl hP hs hp hd hal hoc hP1 hget hT
 obtain⟨HW1,Hhd,Hbe,HcO,Hplen,Hb0,Hst1⟩:=hid7 hW1 hhd hbe hcO hplen hb0 hst1
 clear hrb hm hl hP hs hp hd hal hoc hP1 hget hT hW1 hhd hbe hcO hplen hb0 hst1
 go_enter Tryz.func59,Tryz.ntmps59
 go_wp2_with fail
 rw[HW1.out]
 refine Hget.out.mono ?_
 rintro e w2 ⟨u,T2,rfl,hu,hs2⟩
 obtain⟨qb,kb,rfl,-,-⟩:=hu.any
 generalize hnb:be.length=nb at *
 have hoc2:=Hoc.out.step hs2 (fun h=>h)
 have d2:=hoc2.at 2 (v:=.bool false) rfl
 have y2:=hoc2.fz 2
 have d3:=hoc2.at 3 (v:=.bool has) rfl
 have d4:=hoc2.at 4 (v:=.slice none 0 0) rfl
 have y4:=hoc2.fz 4
 have hst2:=Hst1.out.trans hs2
 have hoc3:Own ((w2.setCell ⟨bc,4,none⟩ (.slice qb nb kb)).setCell ⟨bc,2,none⟩ (.bool hdv)) T2 bc tTn 55 [.int .u32 (n:Int),.int .u16 (s:Int),.bool hdv,.bool has,.slice qb nb kb,.slice none 0 0]:=(hoc2.set 4 (.slice qb nb kb)).set 2 (.bool hdv)
 have hq3:Step w2 T2 ((w2.setCell ⟨bc,4,none⟩ (.slice qb nb kb)).setCell ⟨bc,2,none⟩ (.bool hdv)) T2 (fun t=>t=tTn):=((Step.refl w2 T2 (fun t=>t=tTn)).set (o:=4) hoc2.tag rfl _).set (o:=2) hoc2.tag rfl _
 have hst3:Step w τ ((w2.setCell ⟨bc,4,none⟩ (.slice qb nb kb)).setCell ⟨bc,2,none⟩ (.bool hdv)) T2 nil:=(hst2.setNew (b:=bc) (o:=4) hlow _).setNew (b:=bc) (o:=2) hlow _
 have hu3:=hu.step hq3 (by decide)
 have hP3:=(HP1.out.step hs2 (fun h=>h)).step hq3 (by simp[tPg,tTn])
 obtain⟨W3,hW3⟩:∃W,(w2.setCell ⟨bc,4,none⟩ (.slice qb nb kb)).setCell ⟨bc,2,none⟩ (.bool hdv)=W:=⟨_,rfl⟩
 rw[hW3] at hoc3 hq3 hst3 hu3 hP3
 obtain⟨Hu3,Hoc2,Hoc3,Hq3,Hst2,Hst3,Hnb,HP3,HW3⟩:=hid9 hu3 hoc2 hoc3 hq3 hst2 hst3 hnb hP3 hW3
 clear hu3 hoc2 hoc3 hq3 hst2 hst3 hnb hP3 hW3 hs2 hu
 by_cases hnone:has=false∧hdv=false
 ·obtain⟨rfl,rfl⟩:=hnone
  go_wp2_with fail
  rw[HW3.out]
  go_ret2
  exact .inl ⟨by rw[HcO.out],by rw[HcO.out],rfl,T2,Hst3.out⟩
 ·have hsome:has=true∨hdv=true:=by cases has <;> cases hdv <;> simp at hnone ⊢
  have hd3:=Hd.out.step Hst3.out (fun h=>h)
  have htry:=Qy4 HP3.out Hs.out Hp.out s hs12 has hd3 (by decide) (fun _=>hm0) (by omega)
  obtain⟨Htry,Hd3,Hsome⟩:=hid3 htry hd3 hsome
  clear htry hd3 hsome hnone
  cases has
  case' true =>
   go_wp2_with fail
   rw[HW3.out]
   refine Htry.out.mono ?_
   rintro e w4 ⟨rfl,T4,hs4⟩
   have hoc4:=Hoc3.out.step hs4 (by decide)
   have hu4:=Hu3.out.step hs4 (by decide)
   have hP4:=HP3.out.step hs4 (by simp[tPg,tTry])
   have hst4:=(Hst3.out.mono (T:=fun t=>t=tTry) (fun _ h=>h.elim)).trans hs4
   have hcl:=Qeb (Hd3.out.step hs4 (by decide)) tData (by omega)
   obtain⟨Hoc4,Hu4,HP4,Hst4,Hcl⟩:=hid5 hoc4 hu4 hP4 hst4 hcl
   clear hoc4 hu4 hP4 hst4 hcl hs4
   go_wp2_with fail
   refine Hcl.out.mono ?_
   rintro e w5 ⟨u5,T5,rfl,hb5,he5,hm5⟩
   have hs5:=Step.of nil hm5 he5
   obtain⟨pa,ca,rfl,-,-⟩:=hb5.any
   have hoc5:=Hoc4.out.step hs5 (fun h=>h)
   have z5:=hoc5.fz 5
   have d5:=hoc5.at 5 (v:=.slice none 0 0) rfl
   have hq6:Step w5 T5 (w5.setCell ⟨bc,5,none⟩ (.slice pa m.length ca)) T5 (fun t=>t=tTn):=(Step.refl w5 T5 (fun t=>t=tTn)).set (o:=5) hoc5.tag rfl _
   have hoc6:Own (w5.setCell ⟨bc,5,none⟩ (.slice pa m.length ca)) T5 bc tTn 55 [.int .u32 (n:Int),.int .u16 (s:Int),.bool hdv,.bool true,.slice qb nb kb,.slice pa m.length ca]:=hoc5.set 5 (.slice pa m.length ca)
   have hba6:=(Hu4.out.step hs5 (fun h=>h)).step hq6 (by decide)
   have haa6:=hb5.step hq6 (by decide)
   have hP6:=(HP4.out.step hs5 (fun h=>h)).step hq6 (by simp[tPg,tTn])
   have hst6:=(Hst4.out.trans (hs5.mono (T:=fun t=>t=tTry) (fun _ h=>h.elim))).setNew (b:=bc) (o:=5) hlow (.slice pa m.length ca)
   have hcc:c=⟨n,s,hdv,true,be,m⟩:=HcO.out
   obtain⟨na,hna⟩:∃na,m.length=na:=⟨_,rfl⟩
   have hbl0:be.length=nb:=Hnb.out
   have e0:=hoc6.at 0 rfl
   have e1:=hoc6.at 1 rfl
   have e2:=hoc6.at 2 rfl
   have e3:=hoc6.at 3 rfl
   have e4:=hoc6.at 4 rfl
   have e5:=hoc6.at 5 rfl
   rw[hna] at hoc6 haa6 hP6 hba6 hst6
   obtain⟨w6,hw6⟩:∃W,w5.setCell ⟨bc,5,none⟩ (.slice pa na ca)=W:=⟨_,rfl⟩
   rw[hw6] at hoc6 hba6 haa6 hP6 hst6
   obtain⟨T6,rfl⟩:∃x,x=T5:=⟨_,rfl⟩
   obtain⟨Hoc6,Hba6,Haa6,HP6,Hst6,Hcc,Hna,Hw6,Hbl0⟩:=hid9 hoc6 hba6 haa6 hP6 hst6 hcc hna hw6 hbl0
   clear hoc6 hba6 haa6 hP6 hst6 hcc hna hw6 hbl0 hs5 he5 hm5 hb5 hoc5 hq6
   go_wp2_with fail
   rw[Hna.out,Hw6.out]
   have hbl:be.length=nb:=Hnb.out
   have hmU:mayB (Qf5 ⟨n,s,hdv,true,be,m⟩ 0 0 0)=true:=Qlb (.inr rfl) (by show (m:List Int).length≤64;omega) (by show be.length≤64;omega) (fun h=>by cases h) (fun h=>by exact hbe0 h)
   have hmC:mayB ⟨2,0,0,0,⟨n,s,hdv,true,be,m⟩,[],[]⟩=true:=Qlb (.inl rfl) (by show be.length≤64;omega) (by show (m:List Int).length≤64;omega) (fun h=>by exact hbe0 h) (fun h=>by cases h)
   have hund:=Qj9 (c:=⟨n,s,hdv,true,be,m⟩) (pb:=qb) (cb:=kb) (pa:=pa) (ca:=ca) (by show Bytes w6 T6 tData (.slice qb be.length kb) be;rw[hbl];exact Hba6.out) (by show Bytes w6 T6 tData (.slice pa m.length ca) m;rw[Hna.out];exact Haa6.out) hmU hn4 (by show s<65536;omega)
   unfold ChgV at hund
   dsimp only at hund
   rw[hbl,Hna.out] at hund
   obtain⟨sz,hsz⟩:∃sz,36+nb+na=sz:=⟨_,rfl⟩
   rw[hsz] at hund
   have hcs:Qak c=sz:=by rw[Hcc.out,←hsz];unfold Qak;show 36+be.length+(m:List Int).length=_;rw[Hbl0.out,Hna.out]
   obtain⟨Hund,Hcs,Hbl⟩:=hid3 hund hcs hbl
   clear hund hcs hbl
   refine Hund.out.mono ?_
   rintro e w7 ⟨rfl,T7,hs7⟩
   have hoc7:=(Hoc6.out.step hs7 (fun h=>h))
   have hst7:=Hst6.out.trans (hs7.mono (T:=fun t=>t=tTry) (fun _ h=>h.elim))
   have hP7:=HP6.out.step hs7 (fun h=>h)
   have hba7:=Hba6.out.step hs7 (fun h=>h)
   have haa7:=Haa6.out.step hs7 (fun h=>h)
   have hd7:Step w7 T7 w7.drew T7 nil:=(Step.refl w7 T7 nil).drew
   have hlo:∀W T,Step w7 T7 W T (fun t=>LogTag t∨t=tOneT x.txn)→W.cell? ⟨bc,0,none⟩=some (.int .u32 (n:Int))∧W.cell? ⟨bc,1,none⟩=some (.int .u16 (s:Int))∧W.cell? ⟨bc,2,none⟩=some (.bool hdv)∧W.cell? ⟨bc,3,none⟩=some (.bool true)∧W.cell? ⟨bc,4,none⟩=some (.slice qb nb kb)∧W.cell? ⟨bc,5,none⟩=some (.slice pa na ca):=fun W T q=>by
    have h:=hoc7.step q (by simp[LogTag,tLog,Qah,Qag,tTn,tOneT])
    exact⟨h.at 0 rfl,h.at 1 rfl,h.at 2 rfl,h.at 3 rfl,h.at 4 rfl,h.at 5 rfl⟩
   have hS7:=hlo _ _ (hd7.mono (fun _ h=>h.elim))
   have hm7:=(Hm.out.step hst7 (fun g hg e=>by subst e;simp[Qai,tTry] at hg)).nil hd7
   have hrs:=Qde hm7
   have hres:=Hrb.out
   have hszl:sz≤200:=by have:=Hna.out;omega
   have hadd:IntKind.u64.wrap ((resv X:Int)+(sz:Int))=(resv X:Int)+(sz:Int):=by
    have:=Qer (a:=resv X) (b:=sz) (by omega)
    rw[Int.natCast_add] at this
    exact this
   obtain⟨Hoc7,Hst7,HP7,Hba7,Haa7,Hd7,Hlo,Hm7,Hrs⟩:=hid9 hoc7 hst7 hP7 hba7 haa7 hd7 hlo hm7 hrs
   clear hoc7 hst7 hP7 hba7 haa7 hd7 hlo hm7 hrs hs7 e0 e1 e2 e3 e4 e5 hres
   go_wp2_with fail
   refine Qaf (S:=fun W:World=>W.cell? ⟨bc,0,none⟩=some (.int .u32 (n:Int))∧W.cell? ⟨bc,1,none⟩=some (.int .u16 (s:Int))∧W.cell? ⟨bc,2,none⟩=some (.bool hdv)∧W.cell? ⟨bc,3,none⟩=some (.bool true)∧W.cell? ⟨bc,4,none⟩=some (.slice qb nb kb)∧W.cell? ⟨bc,5,none⟩=some (.slice pa na ca)) (by kernel_rfl) ?_
   refine tk0 [0,1,2,3,4,6] ?_
   iterate 6
    refine tks (v:=?_) rfl (Or.inl ⟨by rfl,?_⟩) (by assumption) ?_
    rotate_left
    ·intro w hSw;(try dsimp only at hSw);go_simp
     all_goals with_reducible rfl
    try simp only[Act.put,lz1,lz2,lz3]
   refine tk9 ?_
   try simp only[lz4,lz5,lz6,lz1,lz2,lz3]
   refine tk1 5 rfl fun K hK=>?_
   go_simp
   go_at_call 27
   refine Hrs.out.mono ?_
   rintro e w8 ⟨rfl,T8,hs8⟩
   have hq8:=Hd7.out.trans hs8
   have hS8:=Hlo.out _ _ (hq8.mono (fun _ h=>h.elim))
   have hst8:=Hst7.out.trans (hq8.mono (T:=fun t=>t=tTry) (fun _ h=>h.elim))
   have hm8:=Hm7.out.nil hs8
   have hl8:=Hl.out.step hst8 (by intro g hg e;subst e;rcases hg with h|h|h <;> simp[tTry,tLog,Qah,Qag] at h)
   have hba8:=Hba7.out.step hq8 (fun h=>h)
   have haa8:=Haa7.out.step hq8 (fun h=>h)
   have hP8:=HP7.out.step hq8 (fun h=>h)
   have hvr:RecI w8 T8 (.agg #[.int .u8 2,.int .u32 0,.int .u64 0,.int .u64 0,.int .u32 (n:Int),.int .u16 (s:Int),.bool hdv,.bool true,.slice qb nb kb,.slice pa na ca,.slice none 0 0,.slice none 0 0]) ⟨2,0,0,0,⟨n,s,hdv,true,be,m⟩,[],[]⟩:=⟨⟨qb,kb,pa,ca,none,0,none,0,tBox,tBox,0,by dsimp only;rw[Hbl.out];rw[Hna.out];rfl,by dsimp only;rw[Hbl.out];exact hba8,by dsimp only;rw[Hna.out];exact haa8,NS.nil _ _ _ _ _ _ _,NS.nil _ _ _ _ _ _ _,by simp[WrT,tBox,tWr,tWb],by simp[WrT,tBox,tWr,tWb]⟩,by show 2<256;omega,by show 0<4294967296;omega,by show 0<18446744073709551616;omega,by show 0<18446744073709551616;omega,hn4,by show s<65536;omega⟩
   have hownE:(RecP.own ⟨2,0,0,0,⟨n,s,hdv,true,be,m⟩,[],[]⟩ x)=Qcp c x:=by rw[Hcc.out];rfl
   have hrl:(encR (Qcp c x)).length=sz:=by rw[Qdt];exact Hcs.out
   obtain⟨Hm8,Hl8,Hba8,Haa8,HP8,Hvr,Hst8,HownE,Hrl,Hq8⟩:=hid10 hm8 hl8 hba8 haa8 hP8 hvr hst8 hownE hrl hq8
   clear hm8 hl8 hba8 haa8 hP8 hvr hst8 hownE hrl hq8 hs8 hS7
   refine hK.out _ _ (fun _=>hS8) ?_
   clear hK K
   refine tk (i:=7) (v:=?_) rfl (Or.inl ⟨by rfl,?_⟩) (by assumption) ?_
   rotate_left
   ·intro w hSw;(try dsimp only at hSw);go_simp
    all_goals with_reducible rfl
   try simp only[Act.put,lz1,lz2,lz3]
   try simp only[lz4,lz5,lz6,lz1,lz2,lz3]
   by_cases hroom:L.stream.length+sz+(resv X+sz)≤L.strips*127
   ·have hwr:=Qe2 Hm8.out Hl8.out hx hn Hvr.out hmC (by rw[HownE.out,Hrl.out];omega) (by show (2:Nat)≠8;omega) hlast (resv X+sz) (by rw[HownE.out,Hrl.out];exact hroom)
    rw[HownE.out,Int.natCast_add] at hwr
    have Hwr:=Lib.hid hwr
    clear hwr
    refine tk1 8 rfl fun K hK=>?_
    go_simp
    go_at_call 41
    refine Hwr.out.mono ?_
    rintro e w9 ⟨rfl,T9,hl9,hx9,hs9⟩
    obtain⟨lsn,hlsn⟩:∃lsn,L.base+L.stream.length=lsn:=⟨_,rfl⟩
    rw[hlsn] at hx9 ⊢
    have hS9:=Hlo.out _ _ ((Hq8.out.mono (T:=fun t=>LogTag t∨t=tOneT x.txn) (fun _ h=>h.elim)).trans hs9)
    have hP9:=HP8.out.step hs9 (by simp[LogTag,tPg,tLog,Qah,Qag,tOneT])
    have haa9:=Haa8.out.step hs9 (by simp[LogTag,tData,tLog,Qah,Qag,tOneT])
    have hst9:Step w τ w9 T9 (TcTag i x.txn):=(Hst8.out.mono (fun t h=>.inr (.inr (.inr (.inr h))))).trans (hs9.mono (fun t h=>h.elim .inl (fun h=>.inr (.inl h))))
    have hdo:=Qv1 (g:=tPg i) (by simp[tPg,tOut,tData,tAll]) hP9 Hs.out Hp.out ⟨n,s,hdv,true,be,m⟩ hs12 (pb:=qb) (cb:=kb) (pa:=pa) (ca:=ca) (by show Bytes w9 T9 tData (.slice pa m.length ca) m;rw[Hna.out];exact haa9) (fun h=>by exact hm0) (by show (m:List Int).length≤64;omega)
    unfold ChgV at hdo
    dsimp only at hdo
    rw[Hbl.out,Hna.out] at hdo
    obtain⟨Hl9,Hx9,HP9,Haa9,Hst9,Hdo,Hlsn⟩:=hid7 hl9 hx9 hP9 haa9 hst9 hdo hlsn
    clear hl9 hx9 hP9 haa9 hst9 hdo hlsn hs9
    refine hK.out _ _ (fun _=>hS9) ?_
    clear hK K
    refine tk0 [9,10,11] ?_
    iterate 3
     refine tks (v:=?_) rfl (Or.inl ⟨by rfl,?_⟩) (by assumption) ?_
     rotate_left
     ·intro w hSw;(try dsimp only at hSw);go_simp
      all_goals with_reducible rfl
     try simp only[Act.put,lz1,lz2,lz3]
    refine tk9 ?_
    try simp only[lz4,lz5,lz6,lz1,lz2,lz3]
    refine tk1 12 rfl fun K hK=>?_
    go_simp
    refine hK.out _ _ (fun _=>hS9) ?_
    clear hK K
    refine tk1 13 rfl fun K hK=>?_
    go_simp
    refine hK.out _ _ (fun h=>absurd h (by decide +kernel)) ?_
    clear hK K
    refine Qad (by kernel_rfl) ?_ _
    obtain⟨f0,f1,f2,f3,f4,f5⟩:=hS9
    go_wp2_with fail
    refine Hdo.out.mono ?_
    rintro e wa ⟨rfl,Q,Ta,hdn,hQa,hsa⟩
    have hxa:=Hx9.out.step hsa (by simp[tOneT,tPg]) (by simp[tChg,tPg])
    have hla:=Hl9.out.step hsa (by intro g hg e;subst e;rcases hg with h|h|h <;> simp[tPg,tLog,Qah,Qag] at h)
    have hsta:=Hst9.out.trans (hsa.mono (T:=TcTag i x.txn) (fun t h=>.inr (.inr (.inr (.inl h)))))
    obtain⟨vv,hox,hnx⟩:=hxa.is
    obtain⟨pv,cv,rfl,-,-⟩:=hnx.done
    have hlen:=hxa.len
    have hsizes:=hxa.size
    unfold OneP.cells at hox
    dsimp only at hox hnx hlen hsizes
    obtain⟨bx,hbx⟩:∃bx,bo x.txn=bx:=⟨_,rfl⟩
    rw[hbx] at hox
    obtain⟨nch,hnch⟩:∃nch,x.ch.length=nch:=⟨_,rfl⟩
    rw[hnch] at hox hnx
    have g2:=hox.at 2 (v:=.int .u64 (x.undo:Int)) rfl
    have z2:=hox.fz 2
    have hqb:Step wa Ta (wa.setCell ⟨bx,2,none⟩ (.int .u64 (lsn:Int))) Ta (fun t=>t=tOneT x.txn):=(Step.refl wa Ta (fun t=>t=tOneT x.txn)).set (o:=2) hox.tag rfl _
    have hob:=hox.set 2 (.int .u64 (lsn:Int))
    have y5:=hob.at 5 (v:=.slice pv nch cv) rfl
    have hnb':=hnx.step hqb (by simp[tChg,tOneT])
    have hlb:=hla.step hqb (by intro g hg e;subst e;rcases hg with h|h|h <;> simp[tOneT,tLog,Qah,Qag] at h)
    have hQb:=hQa.step hqb (by simp[tPg,tOneT])
    have hstb:=hsta.trans (hqb.mono (T:=TcTag i x.txn) (fun t h=>.inr (.inl h)))
    have hlen1:(x.ch++[(lsn,sz)]).length=nch+1:=by rw[List.length_append,hnch];rfl
    have hl3:x.ch.length≤1000000:=by omega
    have hone:∀W T,Own W T bx (tOneT x.txn) 103 [.int .u32 (x.txn:Int),.int .u64 (lsn:Int),.int .u64 (lsn:Int),.int .u8 (x.state:Int),.int .u64 (x.start:Int),.slice pv (nch+1) cv]→True:=fun _ _ _=>trivial
    have hch1:(x.ch++[(lsn,sz)]).length≤1000:=by rw[hlen1];omega
    have hsz1:∀y∈x.ch++[(lsn,sz)],y.2≤1000:=fun y hy=>by
     rcases List.mem_append.1 hy with h|h
     ·exact hsizes y h
     ·rw[List.mem_singleton.1 h];show sz≤1000;omega
    obtain⟨Hdn,Hlb,HQb,Hstb,Hob⟩:=hid5 hdn hlb hQb hstb hob
    have Hnb':=Lib.hid hnb'
    obtain⟨Hlen,Hsizes,Hnch,Hlen1,Hl3,Hch1,Hsz1⟩:=hid7 hlen hsizes hnch hlen1 hl3 hch1 hsz1
    clear hdn hlb hQb hstb hob hnb' hlen hsizes hnch hlen1 hl3 hch1 hsz1 hxa hla hsta hox hnx hqb hQa hsa f0 f1 f2 f3 f4 f5 hone
    go_wp2_with (at_builtin;go_loud (refine Qec Hnb'.out (lsn,sz) Hl3.out (kb:=wa.heap.size) (by simp) rfl _ _ rfl rfl rfl ?_;intro v9 wc Tc hnc hsc;obtain⟨pc,cc,hv9,-,-⟩:=hnc.done;rw[Hlen1.out] at hv9;subst hv9;have hod':=Hob.out.step hsc (by simp[tChg,tOneT]);have zc:=hod'.fz 5;have dc:=hod'.at 5 (v:=.slice pv nch cv) rfl;have hqd:Step wc Tc (wc.setCell ⟨bx,5,none⟩ (.slice pc (nch+1) cc)) Tc (fun t=>t=tOneT x.txn):=(Step.refl wc Tc (fun t=>t=tOneT x.txn)).set (o:=5) hod'.tag rfl _;have hod:=hod'.set 5 (.slice pc (nch+1) cc);have hnd:=hnc.step hqd (by simp[tChg,tOneT]);have hld:=(Hlb.out.step hsc (by intro g hg e;subst e;rcases hg with h|h|h <;> simp[tChg,tLog,Qah,Qag] at h)).step hqd (by intro g hg e;subst e;rcases hg with h|h|h <;> simp[tOneT,tLog,Qah,Qag] at h);have hQd:=(HQb.out.step hsc (by simp[tPg,tChg])).step hqd (by simp[tPg,tOneT]);have hstd:=(Hstb.out.trans (hsc.mono (T:=TcTag i x.txn) (fun t h=>.inr (.inr (.inl h))))).trans (hqd.mono (T:=TcTag i x.txn) (fun t h=>.inr (.inl h)));obtain⟨Hod,Hnd,Hld,HQd,Hstd⟩:=hid5 hod hnd hld hQd hstd;clear hod hnd hld hQd hstd;clear hod' hqd hnc hsc))
    go_ret2
    exact .inr (.inr ⟨by rw[Hcc.out];exact .inl rfl,by rw[Hcs.out];exact hroom,by rw[Hlsn.out];rfl,Q,Tc,by rw[Hcc.out];exact Hdn.out,HQd.out,Hld.out,by rw[Hlsn.out,Hcs.out,hbx];exact⟨⟨_,Hod.out,Hnd.out⟩,Hch1.out,Hsz1.out⟩,Hstd.out⟩)
   ·have hwr:=Qg9 Hm8.out Hl8.out hx hn Hvr.out hmC (by rw[HownE.out,Hrl.out];omega) (by show (2:Nat)≠8;omega) hlast (resv X+sz) (by have:=Hrb.out;omega) (by rw[HownE.out,Hrl.out];exact hroom)
    rw[Int.natCast_add] at hwr
    have Hwr:=Lib.hid hwr
    clear hwr
    refine tk1 8 rfl fun K hK=>?_
    go_simp
    go_at_call 41
    refine Hwr.out.mono ?_
    rintro e w9 ⟨rfl,T9,hs9⟩
    have hS9:=Hlo.out _ _ ((Hq8.out.trans hs9).mono (fun _ h=>h.elim))
    have hst9:=Hst8.out.trans (hs9.mono (T:=fun t=>t=tTry) (fun _ h=>h.elim))
    have Hst9:=Lib.hid hst9
    clear hst9 hs9
    refine hK.out _ _ (fun _=>hS9) ?_
    clear hK K
    refine tk0 [9,10,11] ?_
    iterate 3
     refine tks (v:=?_) rfl (Or.inl ⟨by rfl,?_⟩) (by assumption) ?_
     rotate_left
     ·intro w hSw;(try dsimp only at hSw);go_simp
      all_goals with_reducible rfl
     try simp only[Act.put,lz1,lz2,lz3]
    refine tk9 ?_
    try simp only[lz4,lz5,lz6,lz1,lz2,lz3]
    refine tk1 12 rfl fun K hK=>?_
    go_simp
    refine hK.out _ _ (fun _=>hS9) ?_
    clear hK K
    refine tk1 13 rfl fun K hK=>?_
    go_simp
    refine hK.out _ _ (fun h=>absurd h (by decide +kernel)) ?_
    clear hK K
    refine Qad (by kernel_rfl) ?_ _
    go_wp2_with fail
    go_ret2
    exact .inr (.inl ⟨by rw[Hcc.out];exact .inl rfl,by rw[Hcs.out];exact hroom,rfl,T9,Hst9.out⟩)
  case' false =>
   have hhv:hdv=true:=by
    rcases Hsome.out with h|h
    ·cases h
    ·exact h
   subst hhv
   go_wp2_with fail
   rw[HW3.out]
   refine Htry.out.mono ?_
   rintro e w6 ⟨rfl,T6,hs4⟩
   have hoc6:=Hoc3.out.step hs4 (by decide)
   have hba6:=Hu3.out.step hs4 (by decide)
   have hP6:=HP3.out.step hs4 (by simp[tPg,tTry])
   have hst6:=(Hst3.out.mono (T:=fun t=>t=tTry) (fun _ h=>h.elim)).trans hs4
   have haa6:Bytes w6 T6 tData (.slice none 0 0) []:=Bytes.empty _ _ _
   have hcc:c=⟨n,s,true,false,be,[]⟩:=HcO.out
   have hbl0:be.length=nb:=Hnb.out
   have e0:=hoc6.at 0 rfl
   have e1:=hoc6.at 1 rfl
   have e2:=hoc6.at 2 rfl
   have e3:=hoc6.at 3 rfl
   have e4:=hoc6.at 4 rfl
   have e5:=hoc6.at 5 rfl
   obtain⟨Hoc6,Hba6,Haa6,HP6,Hst6,Hcc,Hbl0⟩:=hid7 hoc6 hba6 haa6 hP6 hst6 hcc hbl0
   clear hoc6 hba6 haa6 hP6 hst6 hcc hbl0 hs4
   go_wp2_with fail
   have hbl:be.length=nb:=Hnb.out
   have hmU:mayB (Qf5 ⟨n,s,true,false,be,([]:List Int)⟩ 0 0 0)=true:=Qlb (.inr rfl) (by show (([]:List Int):List Int).length≤64;simp) (by show be.length≤64;omega) (fun h=>by rfl) (fun h=>by cases h)
   have hmC:mayB ⟨2,0,0,0,⟨n,s,true,false,be,([]:List Int)⟩,[],[]⟩=true:=Qlb (.inl rfl) (by show be.length≤64;omega) (by show (([]:List Int):List Int).length≤64;simp) (fun h=>by cases h) (fun h=>by rfl)
   have hund:=Qj9 (c:=⟨n,s,true,false,be,([]:List Int)⟩) (pb:=qb) (cb:=kb) (pa:=none) (ca:=0) (by show Bytes w6 T6 tData (.slice qb be.length kb) be;rw[hbl];exact Hba6.out) (by show Bytes w6 T6 tData (.slice none 0 0) [];exact Haa6.out) hmU hn4 (by show s<65536;omega)
   unfold ChgV at hund
   dsimp only at hund
   rw[hbl] at hund
   obtain⟨sz,hsz⟩:∃sz,36+nb+0=sz:=⟨_,rfl⟩
   rw[show 36+nb+([]:List Int).length=sz from hsz] at hund
   have hcs:Qak c=sz:=by rw[Hcc.out,←hsz];unfold Qak;show 36+be.length+(([]:List Int):List Int).length=_;rw[Hbl0.out];rfl
   obtain⟨Hund,Hcs,Hbl⟩:=hid3 hund hcs hbl
   clear hund hcs hbl
   refine Hund.out.mono ?_
   rintro e w7 ⟨rfl,T7,hs7⟩
   have hoc7:=(Hoc6.out.step hs7 (fun h=>h))
   have hst7:=Hst6.out.trans (hs7.mono (T:=fun t=>t=tTry) (fun _ h=>h.elim))
   have hP7:=HP6.out.step hs7 (fun h=>h)
   have hba7:=Hba6.out.step hs7 (fun h=>h)
   have haa7:=Haa6.out.step hs7 (fun h=>h)
   have hd7:Step w7 T7 w7.drew T7 nil:=(Step.refl w7 T7 nil).drew
   have hlo:∀W T,Step w7 T7 W T (fun t=>LogTag t∨t=tOneT x.txn)→W.cell? ⟨bc,0,none⟩=some (.int .u32 (n:Int))∧W.cell? ⟨bc,1,none⟩=some (.int .u16 (s:Int))∧W.cell? ⟨bc,2,none⟩=some (.bool true)∧W.cell? ⟨bc,3,none⟩=some (.bool false)∧W.cell? ⟨bc,4,none⟩=some (.slice qb nb kb)∧W.cell? ⟨bc,5,none⟩=some (.slice none 0 0):=fun W T q=>by
    have h:=hoc7.step q (by simp[LogTag,tLog,Qah,Qag,tTn,tOneT])
    exact⟨h.at 0 rfl,h.at 1 rfl,h.at 2 rfl,h.at 3 rfl,h.at 4 rfl,h.at 5 rfl⟩
   have hS7:=hlo _ _ (hd7.mono (fun _ h=>h.elim))
   have hm7:=(Hm.out.step hst7 (fun g hg e=>by subst e;simp[Qai,tTry] at hg)).nil hd7
   have hrs:=Qde hm7
   have hres:=Hrb.out
   have hszl:sz≤200:=by omega
   have hadd:IntKind.u64.wrap ((resv X:Int)+(sz:Int))=(resv X:Int)+(sz:Int):=by
    have:=Qer (a:=resv X) (b:=sz) (by omega)
    rw[Int.natCast_add] at this
    exact this
   obtain⟨Hoc7,Hst7,HP7,Hba7,Haa7,Hd7,Hlo,Hm7,Hrs⟩:=hid9 hoc7 hst7 hP7 hba7 haa7 hd7 hlo hm7 hrs
   clear hoc7 hst7 hP7 hba7 haa7 hd7 hlo hm7 hrs hs7 e0 e1 e2 e3 e4 e5 hres
   go_wp2_with fail
   refine Qaf (S:=fun W:World=>W.cell? ⟨bc,0,none⟩=some (.int .u32 (n:Int))∧W.cell? ⟨bc,1,none⟩=some (.int .u16 (s:Int))∧W.cell? ⟨bc,2,none⟩=some (.bool true)∧W.cell? ⟨bc,3,none⟩=some (.bool false)∧W.cell? ⟨bc,4,none⟩=some (.slice qb nb kb)∧W.cell? ⟨bc,5,none⟩=some (.slice none 0 0)) (by kernel_rfl) ?_
   refine tk0 [0,1,2,3,4,6] ?_
   iterate 6
    refine tks (v:=?_) rfl (Or.inl ⟨by rfl,?_⟩) (by assumption) ?_
    rotate_left
    ·intro w hSw;(try dsimp only at hSw);go_simp
     all_goals with_reducible rfl
    try simp only[Act.put,lz1,lz2,lz3]
   refine tk9 ?_
   try simp only[lz4,lz5,lz6,lz1,lz2,lz3]
   refine tk1 5 rfl fun K hK=>?_
   go_simp
   go_at_call 27
   refine Hrs.out.mono ?_
   rintro e w8 ⟨rfl,T8,hs8⟩
   have hq8:=Hd7.out.trans hs8
   have hS8:=Hlo.out _ _ (hq8.mono (fun _ h=>h.elim))
   have hst8:=Hst7.out.trans (hq8.mono (T:=fun t=>t=tTry) (fun _ h=>h.elim))
   have hm8:=Hm7.out.nil hs8
   have hl8:=Hl.out.step hst8 (by intro g hg e;subst e;rcases hg with h|h|h <;> simp[tTry,tLog,Qah,Qag] at h)
   have hba8:=Hba7.out.step hq8 (fun h=>h)
   have haa8:=Haa7.out.step hq8 (fun h=>h)
   have hP8:=HP7.out.step hq8 (fun h=>h)
   have hvr:RecI w8 T8 (.agg #[.int .u8 2,.int .u32 0,.int .u64 0,.int .u64 0,.int .u32 (n:Int),.int .u16 (s:Int),.bool true,.bool false,.slice qb nb kb,.slice none 0 0,.slice none 0 0,.slice none 0 0]) ⟨2,0,0,0,⟨n,s,true,false,be,([]:List Int)⟩,[],[]⟩:=⟨⟨qb,kb,none,0,none,0,none,0,tBox,tBox,0,by dsimp only;rw[Hbl.out];rfl,by dsimp only;rw[Hbl.out];exact hba8,by dsimp only;exact haa8,NS.nil _ _ _ _ _ _ _,NS.nil _ _ _ _ _ _ _,by simp[WrT,tBox,tWr,tWb],by simp[WrT,tBox,tWr,tWb]⟩,by show 2<256;omega,by show 0<4294967296;omega,by show 0<18446744073709551616;omega,by show 0<18446744073709551616;omega,hn4,by show s<65536;omega⟩
   have hownE:(RecP.own ⟨2,0,0,0,⟨n,s,true,false,be,([]:List Int)⟩,[],[]⟩ x)=Qcp c x:=by rw[Hcc.out];rfl
   have hrl:(encR (Qcp c x)).length=sz:=by rw[Qdt];exact Hcs.out
   obtain⟨Hm8,Hl8,Hba8,Haa8,HP8,Hvr,Hst8,HownE,Hrl,Hq8⟩:=hid10 hm8 hl8 hba8 haa8 hP8 hvr hst8 hownE hrl hq8
   clear hm8 hl8 hba8 haa8 hP8 hvr hst8 hownE hrl hq8 hs8 hS7
   refine hK.out _ _ (fun _=>hS8) ?_
   clear hK K
   refine tk (i:=7) (v:=?_) rfl (Or.inl ⟨by rfl,?_⟩) (by assumption) ?_
   rotate_left
   ·intro w hSw;(try dsimp only at hSw);go_simp
    all_goals with_reducible rfl
   try simp only[Act.put,lz1,lz2,lz3]
   try simp only[lz4,lz5,lz6,lz1,lz2,lz3]
   by_cases hroom:L.stream.length+sz+(resv X+sz)≤L.strips*127
   ·have hwr:=Qe2 Hm8.out Hl8.out hx hn Hvr.out hmC (by rw[HownE.out,Hrl.out];omega) (by show (2:Nat)≠8;omega) hlast (resv X+sz) (by rw[HownE.out,Hrl.out];exact hroom)
    rw[HownE.out,Int.natCast_add] at hwr
    have Hwr:=Lib.hid hwr
    clear hwr
    refine tk1 8 rfl fun K hK=>?_
    go_simp
    go_at_call 41
    refine Hwr.out.mono ?_
    rintro e w9 ⟨rfl,T9,hl9,hx9,hs9⟩
    obtain⟨lsn,hlsn⟩:∃lsn,L.base+L.stream.length=lsn:=⟨_,rfl⟩
    rw[hlsn] at hx9 ⊢
    have hS9:=Hlo.out _ _ ((Hq8.out.mono (T:=fun t=>LogTag t∨t=tOneT x.txn) (fun _ h=>h.elim)).trans hs9)
    have hP9:=HP8.out.step hs9 (by simp[LogTag,tPg,tLog,Qah,Qag,tOneT])
    have haa9:=Haa8.out.step hs9 (by simp[LogTag,tData,tLog,Qah,Qag,tOneT])
    have hst9:Step w τ w9 T9 (TcTag i x.txn):=(Hst8.out.mono (fun t h=>.inr (.inr (.inr (.inr h))))).trans (hs9.mono (fun t h=>h.elim .inl (fun h=>.inr (.inl h))))
    have hdo:=Qv1 (g:=tPg i) (by simp[tPg,tOut,tData,tAll]) hP9 Hs.out Hp.out ⟨n,s,true,false,be,([]:List Int)⟩ hs12 (pb:=qb) (cb:=kb) (pa:=none) (ca:=0) (by show Bytes w9 T9 tData (.slice none 0 0) [];exact haa9) (fun h=>by cases h) (by show (([]:List Int):List Int).length≤64;simp)
    unfold ChgV at hdo
    dsimp only at hdo
    rw[Hbl.out] at hdo
    obtain⟨Hl9,Hx9,HP9,Haa9,Hst9,Hdo,Hlsn⟩:=hid7 hl9 hx9 hP9 haa9 hst9 hdo hlsn
    clear hl9 hx9 hP9 haa9 hst9 hdo hlsn hs9
    refine hK.out _ _ (fun _=>hS9) ?_
    clear hK K
    refine tk0 [9,10,11] ?_
    iterate 3
     refine tks (v:=?_) rfl (Or.inl ⟨by rfl,?_⟩) (by assumption) ?_
     rotate_left
     ·intro w hSw;(try dsimp only at hSw);go_simp
      all_goals with_reducible rfl
     try simp only[Act.put,lz1,lz2,lz3]
    refine tk9 ?_
    try simp only[lz4,lz5,lz6,lz1,lz2,lz3]
    refine tk1 12 rfl fun K hK=>?_
    go_simp
    refine hK.out _ _ (fun _=>hS9) ?_
    clear hK K
    refine tk1 13 rfl fun K hK=>?_
    go_simp
    refine hK.out _ _ (fun h=>absurd h (by decide +kernel)) ?_
    clear hK K
    refine Qad (by kernel_rfl) ?_ _
    obtain⟨f0,f1,f2,f3,f4,f5⟩:=hS9
    go_wp2_with fail
    refine Hdo.out.mono ?_
    rintro e wa ⟨rfl,Q,Ta,hdn,hQa,hsa⟩
    have hxa:=Hx9.out.step hsa (by simp[tOneT,tPg]) (by simp[tChg,tPg])
    have hla:=Hl9.out.step hsa (by intro g hg e;subst e;rcases hg with h|h|h <;> simp[tPg,tLog,Qah,Qag] at h)
    have hsta:=Hst9.out.trans (hsa.mono (T:=TcTag i x.txn) (fun t h=>.inr (.inr (.inr (.inl h)))))
    obtain⟨vv,hox,hnx⟩:=hxa.is
    obtain⟨pv,cv,rfl,-,-⟩:=hnx.done
    have hlen:=hxa.len
    have hsizes:=hxa.size
    unfold OneP.cells at hox
    dsimp only at hox hnx hlen hsizes
    obtain⟨bx,hbx⟩:∃bx,bo x.txn=bx:=⟨_,rfl⟩
    rw[hbx] at hox
    obtain⟨nch,hnch⟩:∃nch,x.ch.length=nch:=⟨_,rfl⟩
    rw[hnch] at hox hnx
    have g2:=hox.at 2 (v:=.int .u64 (x.undo:Int)) rfl
    have z2:=hox.fz 2
    have hqb:Step wa Ta (wa.setCell ⟨bx,2,none⟩ (.int .u64 (lsn:Int))) Ta (fun t=>t=tOneT x.txn):=(Step.refl wa Ta (fun t=>t=tOneT x.txn)).set (o:=2) hox.tag rfl _
    have hob:=hox.set 2 (.int .u64 (lsn:Int))
    have y5:=hob.at 5 (v:=.slice pv nch cv) rfl
    have hnb':=hnx.step hqb (by simp[tChg,tOneT])
    have hlb:=hla.step hqb (by intro g hg e;subst e;rcases hg with h|h|h <;> simp[tOneT,tLog,Qah,Qag] at h)
    have hQb:=hQa.step hqb (by simp[tPg,tOneT])
    have hstb:=hsta.trans (hqb.mono (T:=TcTag i x.txn) (fun t h=>.inr (.inl h)))
    have hlen1:(x.ch++[(lsn,sz)]).length=nch+1:=by rw[List.length_append,hnch];rfl
    have hl3:x.ch.length≤1000000:=by omega
    have hone:∀W T,Own W T bx (tOneT x.txn) 103 [.int .u32 (x.txn:Int),.int .u64 (lsn:Int),.int .u64 (lsn:Int),.int .u8 (x.state:Int),.int .u64 (x.start:Int),.slice pv (nch+1) cv]→True:=fun _ _ _=>trivial
    have hch1:(x.ch++[(lsn,sz)]).length≤1000:=by rw[hlen1];omega
    have hsz1:∀y∈x.ch++[(lsn,sz)],y.2≤1000:=fun y hy=>by
     rcases List.mem_append.1 hy with h|h
     ·exact hsizes y h
     ·rw[List.mem_singleton.1 h];show sz≤1000;omega
    obtain⟨Hdn,Hlb,HQb,Hstb,Hob⟩:=hid5 hdn hlb hQb hstb hob
    have Hnb':=Lib.hid hnb'
    obtain⟨Hlen,Hsizes,Hnch,Hlen1,Hl3,Hch1,Hsz1⟩:=hid7 hlen hsizes hnch hlen1 hl3 hch1 hsz1
    clear hdn hlb hQb hstb hob hnb' hlen hsizes hnch hlen1 hl3 hch1 hsz1 hxa hla hsta hox hnx hqb hQa hsa f0 f1 f2 f3 f4 f5 hone
    go_wp2_with (at_builtin;go_loud (refine Qec Hnb'.out (lsn,sz) Hl3.out (kb:=wa.heap.size) (by simp) rfl _ _ rfl rfl rfl ?_;intro v9 wc Tc hnc hsc;obtain⟨pc,cc,hv9,-,-⟩:=hnc.done;rw[Hlen1.out] at hv9;subst hv9;have hod':=Hob.out.step hsc (by simp[tChg,tOneT]);have zc:=hod'.fz 5;have dc:=hod'.at 5 (v:=.slice pv nch cv) rfl;have hqd:Step wc Tc (wc.setCell ⟨bx,5,none⟩ (.slice pc (nch+1) cc)) Tc (fun t=>t=tOneT x.txn):=(Step.refl wc Tc (fun t=>t=tOneT x.txn)).set (o:=5) hod'.tag rfl _;have hod:=hod'.set 5 (.slice pc (nch+1) cc);have hnd:=hnc.step hqd (by simp[tChg,tOneT]);have hld:=(Hlb.out.step hsc (by intro g hg e;subst e;rcases hg with h|h|h <;> simp[tChg,tLog,Qah,Qag] at h)).step hqd (by intro g hg e;subst e;rcases hg with h|h|h <;> simp[tOneT,tLog,Qah,Qag] at h);have hQd:=(HQb.out.step hsc (by simp[tPg,tChg])).step hqd (by simp[tPg,tOneT]);have hstd:=(Hstb.out.trans (hsc.mono (T:=TcTag i x.txn) (fun t h=>.inr (.inr (.inl h))))).trans (hqd.mono (T:=TcTag i x.txn) (fun t h=>.inr (.inl h)));obtain⟨Hod,Hnd,Hld,HQd,Hstd⟩:=hid5 hod hnd hld hQd hstd;clear hod hnd hld hQd hstd;clear hod' hqd hnc hsc))
    go_ret2
    exact .inr (.inr ⟨by rw[Hcc.out];exact .inr rfl,by rw[Hcs.out];exact hroom,by rw[Hlsn.out];rfl,Q,Tc,by rw[Hcc.out];exact Hdn.out,HQd.out,Hld.out,by rw[Hlsn.out,Hcs.out,hbx];exact⟨⟨_,Hod.out,Hnd.out⟩,Hch1.out,Hsz1.out⟩,Hstd.out⟩)
   ·have hwr:=Qg9 Hm8.out Hl8.out hx hn Hvr.out hmC (by rw[HownE.out,Hrl.out];omega) (by show (2:Nat)≠8;omega) hlast (resv X+sz) (by have:=Hrb.out;omega) (by rw[HownE.out,Hrl.out];exact hroom)
    rw[Int.natCast_add] at hwr
    have Hwr:=Lib.hid hwr
    clear hwr
    refine tk1 8 rfl fun K hK=>?_
    go_simp
    go_at_call 41
    refine Hwr.out.mono ?_
    rintro e w9 ⟨rfl,T9,hs9⟩
    have hS9:=Hlo.out _ _ ((Hq8.out.trans hs9).mono (fun _ h=>h.elim))
    have hst9:=Hst8.out.trans (hs9.mono (T:=fun t=>t=tTry) (fun _ h=>h.elim))
    have Hst9:=Lib.hid hst9
    clear hst9 hs9
    refine hK.out _ _ (fun _=>hS9) ?_
    clear hK K
    refine tk0 [9,10,11] ?_
    iterate 3
     refine tks (v:=?_) rfl (Or.inl ⟨by rfl,?_⟩) (by assumption) ?_
     rotate_left
     ·intro w hSw;(try dsimp only at hSw);go_simp
      all_goals with_reducible rfl
     try simp only[Act.put,lz1,lz2,lz3]
    refine tk9 ?_
    try simp only[lz4,lz5,lz6,lz1,lz2,lz3]
    refine tk1 12 rfl fun K hK=>?_
    go_simp
    refine hK.out _ _ (fun _=>hS9) ?_
    clear hK K
    refine tk1 13 rfl fun K hK=>?_
    go_simp
    refine hK.out _ _ (fun h=>absurd h (by decide +kernel)) ?_
    clear hK K
    refine Qad (by kernel_rfl) ?_ _
    go_wp2_with fail
    go_ret2
    exact .inr (.inl ⟨by rw[Hcc.out];exact .inr rfl,by rw[Hcs.out];exact hroom,rfl,T9,Hst9.out⟩)
end Go.Proofs.YtjgacceifcnedaaGreat