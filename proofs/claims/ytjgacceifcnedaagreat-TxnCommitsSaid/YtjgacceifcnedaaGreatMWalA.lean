/-
 The log: Append of a record.
-/
import Derived.Test.YtjgacceifcnedaaGreatMEncB
import Derived.Test.YtjgacceifcnedaaGreatMWalG
import Derived.Test.YtjgacceifcnedaaGreatMRegL
set_option maxRecDepth 100000
set_option maxHeartbeats 4000000
set_option linter.all false
namespace Go.Proofs.YtjgacceifcnedaaGreat
open Go.RowKit
theorem Qi0 {w:World}{τ:Tags}{bl bd:Nat}{L:LogM}(hl:LogAt w τ bl bd L) (hns:L.starts.length≤100000) {v:Value}{r:RecP}(hv:RecI w τ v r) (hmay:mayB r=true) (hsz:(encR r).length≤60000) (htab:r.kind=8→TabC r) (sp:Nat) (hcap:L.stream.length+(encR r).length+sp≤L.strips*127) :
 Calls Tryz.prog 37 #[.pointer (some ⟨bl,0,none⟩),v,.int .u64 (sp:Int)] w fun e w'=>e = .returned (.tuple #[.int .u64 ((L.base+L.stream.length:Nat):Int),.int .u16 0])∧∃τ',LogAt w' τ' bl bd (L.more (encR r))∧Step w τ w' τ' LogTag:=by
 have hbase:=hl.ok.base
 have hstr:=hl.ok.strips
 have hok:=hl.ok
 have hB:=hl.isB
 have hrB:=(by obtain⟨_,_,_,_,_,_,_,_,_,_,_,_,h1,h2,_⟩:=hv.is;exact Qsm h1.isB h2.isB:IsB (encR r))
 have hr27:0<(encR r).length:=by rw[Qbh r];omega
 obtain⟨qb,kb,qa,ka,qt,kt,qp,kp,gt,gp,n0,hve,-⟩:=hv.is
 have henc:=fun (W:World) (T:Tags) (m:Step w τ W T nil)=>Qiq (hv.step m) hmay hsz htab
 rw[hve] at henc ⊢
 clear hve hv hmay htab
 generalize hrl:(encR r).length=rl at *
 generalize encR r=rb at *
 obtain⟨kd,tx,pv,nx,⟨pg,sl,hd,hs,be,af⟩,ts,ps⟩:=r
 dsimp only at *
 generalize be.length=lb at *
 generalize af.length=la at *
 generalize ts.length=lt at *
 generalize ps.length=lp at *
 have hstr0:=(Step.refl w τ nil).alloc' (.cells #[.int .u8 (kd:Int),.int .u32 (tx:Int),.int .u64 (pv:Int),.int .u64 (nx:Int),.int .u32 (pg:Int),.int .u16 (sl:Int),.bool hd,.bool hs,.slice qb lb kb,.slice qa la ka,.slice qt lt kt,.slice qp lp kp] 58)
 have hl0:=hl.step hstr0 (fun _ _ h=>h)
 have henc:=henc _ _ hstr0
 obtain⟨Henc,Hstr0,Hl0,HB,Hrl,HrB,Hok⟩:=hid7 henc hstr0 hl0 hB hrl hrB hok
 clear henc hstr0 hl0 hB hrl hrB hok hl
 go_enter Tryz.func37,Tryz.ntmps37
 go_wp2_with fail
 generalize hW0:w.alloc (.cells #[.int .u8 (kd:Int),.int .u32 (tx:Int),.int .u64 (pv:Int),.int .u64 (nx:Int),.int .u32 (pg:Int),.int .u16 (sl:Int),.bool hd,.bool hs,.slice qb lb kb,.slice qa la ka,.slice qt lt kt,.slice qp lp kp] 58)=W0 at *
 refine Henc.out.mono ?_
 rintro e w1 ⟨u1,τ1,rfl,hnb1,hs1⟩
 have hl1:=Hl0.out.step hs1 (fun _ _ h=>h)
 have hst1:=Hstr0.out.trans hs1
 obtain⟨b1,cap1,ys1,rfl,-,-,-,-,-⟩:=hnb1.row (by rw[Hrl.out];omega)
 rw[Hrl.out] at hnb1 ⊢
 have hby1:=hnb1.bytes
 have hroom:=Qnj (hl1.step (Step.refl w1 τ1 nil).drew (fun _ _ h=>h))
 obtain⟨vs,vt,ho1,hs1s,hs1t⟩:=hl1.is
 obtain⟨ps,cs,rfl⟩:=hs1s.len
 obtain⟨pt,ct,rfl⟩:=hs1t.len
 have c7:=ho1.drew.at 7 (v:=.slice ps L.stream.length cs) rfl
 have hend:=Ql3 (hl1.step (Step.refl w1 τ1 nil).drew (fun _ _ h=>h))
 have hsum:L.base+L.stream.length=L.base+L.stream.length:=rfl
 generalize hen:L.base+L.stream.length=en at *
 generalize hR:L.strips*127=R at *
 have hR3:R≤300000:=by omega
 have hRw:=Qam R (by omega)
 have hRn:¬(R:Int)<0:=by omega
 have hokl:=Hok.out.stream
 have hcap':¬(R:Int)-(sp:Int)<(L.stream.length:Int)+(rl:Int):=by omega
 have hq1:∀vs vt,(Qa8 L bd vs vt)[7]?=some vs:=fun _ _=>rfl
 have hq2:∀vs vt,(Qa8 L bd vs vt)[8]?=some vt:=fun _ _=>rfl
 have hmore:∀vs vt a b,((Qa8 L bd vs vt).set 8 b).set 7 a=Qa8 (L.more rb) bd a b:=fun _ _ _ _=>rfl
 have hmokS:(L.more rb).stream=L.stream++rb:=rfl
 have hmokT:(L.more rb).starts=L.starts++[L.stream.length]:=rfl
 have hlst:=Hl0.out.ok.strips
 have hmok:(L.more rb).ok:=⟨Hok.out.stamp,Hok.out.base,Hok.out.check,Hok.out.area,Hok.out.strips,Hok.out.slot,by rw[hmokS,List.length_append,Hrl.out];omega,by rw[hmokT,List.length_append,List.length_singleton];omega,by rw[hmokS,List.length_append];exact Nat.le_trans Hok.out.lasts (Nat.le_add_right _ _)⟩
 have hBm:IsB (L.more rb).stream:=by rw[hmokS];exact HB.out.append HrB.out
 obtain⟨Hst1,Hby1,Hroom,Ho1,Hs1s,Hs1t,Hend,Hq1,Hq2,Hmore,HmokS,HmokT⟩:=hid12 hst1 hby1 hroom ho1 hs1s hs1t hend hq1 hq2 hmore hmokS hmokT
 obtain⟨Hmok,HBm,HR,Hl1⟩:=hid4 hmok hBm hR hl1
 clear hst1 hby1 hroom ho1 hs1s hs1t hend hq1 hq2 hmore hmokS hmokT hmok hBm hR hl1 hsum hs1 hnb1
 generalize hsl:L.stream.length=sn at *
 go_wp2_with fail
 have hd1:decide ((R:Int)<(sp:Int))=false:=by simp;omega
 have hd1n:decide (R<sp)=false:=by simp;omega
 have hd0:IntKind.i64.wrap (sp:Int)=(sp:Int):=Qbr sp (by omega)
 have hdR:IntKind.i64.wrap ((R:Int)-(sp:Int))=(R:Int)-(sp:Int):=Qd6 (by omega) (by omega)
 have hdR':IntKind.i64.wrap (R:Int)=(R:Int):=Qbr R (by omega)
 have hd2:decide ((R:Int)-(sp:Int)<(sn:Int)+(rl:Int))=false:=by simp;omega
 have hd3:IntKind.i64.wrap ((sn:Int)+(rl:Int))=(sn:Int)+(rl:Int):=Qd6 (by omega) (by omega)
 refine Qaf (S:=fun w':World=>w'.cell? ⟨bl,7,none⟩=some (.slice ps sn cs)) (by kernel_rfl) ?_
 have hSS:w1.drew.cell? ⟨bl,7,none⟩=some (.slice ps sn cs):=c7
 refine tk0 [0,1] ?_
 iterate 2
  refine tks (v:=?_) rfl (Or.inl ⟨by rfl,?_⟩) (by assumption) ?_
  rotate_left
  ·intro w hSw;(try dsimp only at hSw);go_simp
   all_goals with_reducible rfl
  try simp only[Act.put,lz1,lz2,lz3]
 refine tk9 ?_
 try simp only[lz4,lz5,lz6,lz1,lz2,lz3]
 refine tk1 2 rfl fun K hK=>?_
 go_simp
 go_at_call 55
 refine Hroom.out.mono ?_
 rintro e w2 ⟨rfl,rfl⟩
 refine hK.out _ _ (fun _=>c7) ?_
 clear hK K
 refine tk0 [3,4,5] ?_
 iterate 3
  refine tks (v:=?_) rfl (Or.inl ⟨by rfl,?_⟩) (by assumption) ?_
  rotate_left
  ·intro w hSw;(try dsimp only at hSw);go_simp
   all_goals with_reducible rfl
  try simp only[Act.put,lz1,lz2,lz3]
 refine tk9 ?_
 try simp only[lz4,lz5,lz6,lz1,lz2,lz3]
 refine tk0 [6,7,8,9] ?_
 iterate 4
  refine tks (v:=?_) rfl (Or.inl ⟨by rfl,?_⟩) (by assumption) ?_
  rotate_left
  ·intro w hSw;(try dsimp only at hSw);go_simp
   all_goals with_reducible rfl
  try simp only[Act.put,lz1,lz2,lz3]
 refine tk9 ?_
 try simp only[lz4,lz5,lz6,lz1,lz2,lz3]
 refine tk0 [10,11,12,13] ?_
 iterate 4
  refine tks (v:=?_) rfl (Or.inl ⟨by rfl,?_⟩) (by assumption) ?_
  rotate_left
  ·intro w hSw;(try dsimp only at hSw);go_simp
   all_goals with_reducible rfl
  try simp only[Act.put,lz1,lz2,lz3]
 refine tk9 ?_
 try simp only[lz4,lz5,lz6,lz1,lz2,lz3]
 refine tk0 [14,16,17] ?_
 iterate 3
  refine tks (v:=?_) rfl (Or.inl ⟨by rfl,?_⟩) (by assumption) ?_
  rotate_left
  ·intro w hSw;(try dsimp only at hSw);go_simp
   all_goals with_reducible rfl
  try simp only[Act.put,lz1,lz2,lz3]
 refine tk9 ?_
 try simp only[lz4,lz5,lz6,lz1,lz2,lz3]
 refine tk1 15 rfl fun K hK=>?_
 go_simp
 go_at_call 55
 refine Hroom.out.mono ?_
 rintro e w2 ⟨rfl,rfl⟩
 refine hK.out _ _ (fun _=>c7) ?_
 clear hK K
 try simp only[lz4,lz5,lz6,lz1,lz2,lz3]
 refine tk0 [18,19,20] ?_
 iterate 3
  refine tks (v:=?_) rfl (Or.inl ⟨by rfl,?_⟩) (by assumption) ?_
  rotate_left
  ·intro w hSw;(try dsimp only at hSw);go_simp
   all_goals with_reducible rfl
  try simp only[Act.put,lz1,lz2,lz3]
 refine tk9 ?_
 refine Qad (by kernel_rfl) ?_ _
 go_wp2_with fail
 refine Hend.out.mono ?_
 rintro e w2 ⟨rfl,hs2⟩
 have hq2s:=(Step.refl w1 τ1 nil).drew.trans hs2
 have ho2:=(Ho1.out.step hq2s (fun h=>h)).drew
 have hs2s:=(Hs1s.out.step hq2s (fun h=>h)).drew
 have hs2t:=(Hs1t.out.step hq2s (fun h=>h)).drew
 have hby2:=(Hby1.out.step hq2s (fun h=>h)).drew
 have hst2:=(Hst1.out.trans hq2s).drew
 have hlt:=ho2.lt
 generalize hnt:L.starts.length=nt at *
 have c8:=ho2.at 8 (v:=.slice pt nt ct) (Hq2.out _ _)
 have c7':=ho2.at 7 (v:=.slice ps sn cs) (Hq1.out _ _)
 have ht2:Ints w2.drew τ1 Qag (.slice pt nt ct) L.starts:=by unfold Ints;rw[hnt];exact hs2t
 have hoA:=ho2.alloc (.cells #[.int .i64 (sn:Int)] 3)
 have cA8:=hoA.at 8 (v:=.slice pt nt ct) (Hq2.out _ _)
 have cA7:=hoA.at 7 (v:=.slice ps sn cs) (Hq1.out _ _)
 have hSS:w2.drew.cell? ⟨bl,8,none⟩=some (.slice pt nt ct)∧w2.drew.cell? ⟨bl,7,none⟩=some (.slice ps sn cs):=⟨c8,c7'⟩
 obtain⟨Ho2,Hs2s,Hby2,Hst2,Ht2,HoA⟩:=hid6 ho2 hs2s hby2 hst2 ht2 hoA
 clear ho2 hs2s hby2 hst2 ht2 hoA c7 c8 c7' hs2 hq2s hs2t Hst1 Hby1 Ho1 Hs1s Hs1t hd1 hd2 hd3 hd0 hdR hdR'
 go_wp2_with fail
 refine Qaf (S:=fun w':World=>w'.cell? ⟨bl,8,none⟩=some (.slice pt nt ct)∧w'.cell? ⟨bl,7,none⟩=some (.slice ps sn cs)) (by kernel_rfl) ?_
 refine tk0 [0,1,2,3,4,5,6,7,8,9] ?_
 iterate 10
  refine tks (v:=?_) rfl (Or.inl ⟨by rfl,?_⟩) (by assumption) ?_
  rotate_left
  ·intro w hSw;(try dsimp only at hSw);go_simp
   all_goals with_reducible rfl
  try simp only[Act.put,lz1,lz2,lz3]
 refine tk9 ?_
 clear hSS
 refine tk1 10 rfl fun K hK=>?_
 go_simp
 refine hK.out _ _ (fun _=>⟨cA8,cA7⟩) ?_
 clear hK K
 refine tk1 11 rfl fun K hK=>?_
 refine Qfx Ht2.out sn rfl (by rw[hnt];omega) rfl rfl _ _ rfl rfl rfl ?_
 intro v3 w3 τ3 ht3 hs3
 obtain⟨p3,c3,rfl,-,-⟩:=ht3.read
 have ho3:=Ho2.out.step hs3 (by decide)
 have d8:=ho3.at 8 (v:=.slice pt nt ct) (Hq2.out _ _)
 have d7:=ho3.at 7 (v:=.slice ps sn cs) (Hq1.out _ _)
 have z8:=ho3.fz 8
 have ho4:=ho3.set 8 (.slice p3 (L.starts++[sn]).length c3)
 have hq4:Step w3 τ3 (w3.setCell ⟨bl,8,none⟩ (.slice p3 (L.starts++[sn]).length c3)) τ3 (fun t=>t=tLog):=(Step.refl w3 τ3 (fun t=>t=tLog)).set (o:=8) ho3.tag rfl _
 have ht4:=ht3.step hq4 (by decide)
 have hs4:=(Hs2s.out.step hs3 (by decide)).step hq4 (by decide)
 have hby4:=(Hby2.out.step hs3 (by decide)).step hq4 (by decide)
 have hst4:=((Hst2.out.mono (T:=LogTag) (fun _ h=>h.elim)).trans (hs3.mono (T:=LogTag) (fun _ h=>.inr (.inr h)))).trans (hq4.mono (T:=LogTag) (fun _ h=>.inl h))
 obtain⟨Ho4,Ht4,Hs4,Hby4,Hst4⟩:=hid5 ho4 ht4 hs4 hby4 hst4
 clear ho4 ht4 hs4 hby4 hst4 hs3 ht3 ho3 hq4
 generalize (L.starts++[sn]).length=nt2 at *
 refine hK.out _ _ (fun _=>⟨d8,d7⟩) ?_
 clear hK K
 refine tk1 12 rfl fun K hK=>?_
 go_simp
 refine hK.out _ _ (fun _=>⟨d8,d7⟩) ?_
 clear hK K
 refine tk1 13 rfl fun K hK=>?_
 go_simp
 refine hK.out _ _ (fun _=>⟨d8,d7⟩) ?_
 clear hK K
 refine tk1 14 rfl fun K hK=>?_
 go_simp
 refine hK.out _ _ (fun h=>absurd h (by decide +kernel)) ?_
 clear hK K
 refine Qad (by kernel_rfl) ?_ _
 have e7:=Ho4.out.at 7 (v:=.slice ps sn cs) (by rw[List.getElem?_set_ne (by omega)];exact Hq1.out _ _)
 have hnb5:=Qpi (show Buf _ τ3 Qah 5 1 (.slice ps sn cs) L.stream.length (u8s L.stream) by rw[hsl];exact Hs4.out) HB.out
 rw[show w_z (w3.setCell ⟨bl,8,none⟩ (.slice p3 nt2 c3))=w_z (w3.setCell ⟨bl,8,none⟩ (.slice p3 nt2 c3)) from rfl] at hnb5
 have hsz5:L.stream.length+rb.length≤100000000000:=by rw[Hrl.out,hsl];omega
 have hsz6:=Qyk (w3.setCell ⟨bl,8,none⟩ (.slice p3 nt2 c3)) τ3 LogTag
 obtain⟨Hnb5,Hsz5,Hsz6⟩:=hid3 hnb5 hsz5 hsz6
 clear hnb5 hsz5 hsz6 d7 d8 z8
 generalize hw4:w3.setCell ⟨bl,8,none⟩ (.slice p3 nt2 c3)=w4 at *
 go_wp2_with (at_builtin;refine Qal Hsz6.out Hnb5.out Hby4.out Hsz5.out rfl _ _ rfl rfl rfl ?_;intro v5 w5 τ5 hb5 he5 hmo5;obtain⟨p5,c5,rfl⟩:=hb5.val;generalize (L.stream++rb).length=nsl at *;have ho5:=Ho4.out.step hmo5 (by decide);have ht5:=Ht4.out.step hmo5 (by decide);have f7:=ho5.at 7 (v:=.slice ps sn cs) (by rw[List.getElem?_set_ne (by omega)];exact Hq1.out _ _);have z7:=ho5.fz 7;have ho6:=ho5.set 7 (.slice p5 nsl c5);have hq6:Step w5 τ5 (w5.setCell ⟨bl,7,none⟩ (.slice p5 nsl c5)) τ5 (fun t=>t=tLog):=(Step.refl w5 τ5 (fun t=>t=tLog)).set (o:=7) ho5.tag rfl _;have ht6:=ht5.step hq6 (by decide);have hb6:=hb5.step hq6 (by decide);have hst6:=(Hst4.out.trans (hmo5.mono (T:=LogTag) (fun _ h=>.inr (.inl h)))).trans (hq6.mono (T:=LogTag) (fun _ h=>.inl h));obtain⟨Ho6,Ht6,Hb6,Hst6⟩:=hid4 ho6 ht6 hb6 hst6;clear ho6 ht6 hb6 hst6;clear he5 hmo5 ho5 ht5 hq6)
 go_ret2
 have ho7:=Ho6.out
 rw[Hmore.out] at ho7
 refine⟨by first|rfl|(rw[hsl,hen];rfl)|(rw[←hen];rfl),τ5,⟨⟨_,_,ho7,?_,?_⟩,HBm.out,Hmok.out⟩,Hst6.out⟩
 ·rw[HmokS.out];exact Hb6.out.buf
 ·rw[HmokT.out];exact Ht6.out
def tRr:Tag:=(205,0)
def tRx:Tag:=(206,0)
def RT (t:Tag):Prop:=ReadTag t∨t=tRx∨t=tRr
theorem RecV.step {w w':World}{τ τ':Tags}{S:Tag→Prop}{v:Value}{r:RecP}(h:RecV w τ v r) (m:Step w τ w' τ' S) (h1:¬S tData) (h2:¬S tTx) (h3:¬S tPx):RecV w' τ' v r:=by
 obtain⟨vb,va,vt,vp,n0,e,a,b,c,d⟩:=h
 exact⟨vb,va,vt,vp,n0,e,a.step m h1,b.step m h1,c.step m h2,d.step m h3⟩
theorem LogM.AtR.at {L:LogM}(hr:L.Rise) {k:Nat}(hk:k<L.starts.length) {j:Nat}{f:Bool}(hat:L.AtR (L.base+L.starts.getD k 0) j f):j=k∧f=true:=by
 have hget:∀i,(hi:i<L.starts.length)→L.starts.getD i 0=L.starts[i]:=fun i hi=>by rw[List.getD_eq_getElem?_getD,List.getElem?_eq_getElem hi];rfl
 have hlow:=hr.low (L.starts.getD k 0) (by rw[hget k hk];exact List.getElem_mem _)
 have hf:=hat.within (Nat.le_add_right _ _) (by omega)
 rw[Nat.add_sub_cancel_left] at hf
 have hjk:j=k:=by
  rcases Nat.lt_trichotomy j k with h|h|h
  ·have h1:=hf.hi j (Nat.le_refl _) (by omega)
   have h2:=hr.rise j k h hk
   omega
  ·exact h
  ·have:=hf.lo k h;omega
 subst hjk
 exact⟨rfl,by rw[hf.is];exact decide_eq_true ⟨hk,rfl⟩⟩
theorem Qg8 {w:World}{τ:Tags}{bl bd:Nat}{L:LogM}(hl:LogAt w τ bl bd L) (hr:L.Rise) {k:Nat}(hk:k<L.starts.length) {x lsn:Nat}(hx:L.starts.getD k 0=x) (hlsn:L.base+x=lsn) {r:RecP}{n:Nat}(hdec:Qd1 (L.stream.drop x)=some (r,n)) :
 Calls Tryz.prog 50 #[.pointer (some ⟨bl,0,none⟩),.int .u64 (lsn:Int)] w fun e w'=>∃v τ',e = .returned (.tuple #[v,.int .u64 ((lsn+n:Nat):Int),.int .u16 0])∧RecV w' τ' v r∧Step w τ w' τ' ReadTag:=by
 have hbase:=hl.ok.base
 have hstr:=hl.ok.stream
 have hgm:x∈L.starts:=by rw[←hx,List.getD_eq_getElem?_getD,List.getElem?_eq_getElem hk];exact List.getElem_mem _
 have hlow:=hr.low x hgm
 have hnl:=Qtf hdec
 have hn6:n≤1000000:=by have:=hnl.2;rw[List.length_drop] at this;omega
 have hal:=(Step.refl w τ nil).alloc (.cells #[.int .u8 0,.int .u32 0,.int .u64 0,.int .u64 0,.int .u32 0,.int .u16 0,.bool false,.bool false,.slice none 0 0,.slice none 0 0,.slice none 0 0,.slice none 0 0] 58) tRr
 have hoz:=Own.born w τ tRr 58 #[.int .u8 0,.int .u32 0,.int .u64 0,.int .u64 0,.int .u32 0,.int .u16 0,.bool false,.bool false,.slice none 0 0,.slice none 0 0,.slice none 0 0,.slice none 0 0]
 have hl0:=hl.step hal (fun _ _ h=>h)
 generalize hτ1:τ.put w.heap.size tRr=τ1 at *
 have hat:=Qos hl0 hr lsn (by omega)
 have hres:=fun j f (h:L.AtR lsn j f)=>LogM.AtR.at hr hk (by rw[hx,hlsn];exact h)
 obtain⟨bz,hbz⟩:∃bz,w.heap.size=bz:=⟨_,rfl⟩
 rw[hbz] at hoz
 obtain⟨Hat,Hres,Hl,Hl0,Hdec,Hx,Hal,Hoz,Hbz,Hτ1⟩:=hid10 hat hres hl hl0 hdec hx hal hoz hbz hτ1
 clear hat hres hl hl0 hdec hx hal hoz hbz hτ1
 go_enter Tryz.func50,Tryz.ntmps50
 go_wp2_with fail
 rw[Hbz.out]
 generalize w.alloc (.cells #[.int .u8 0,.int .u32 0,.int .u64 0,.int .u64 0,.int .u32 0,.int .u16 0,.bool false,.bool false,.slice none 0 0,.slice none 0 0,.slice none 0 0,.slice none 0 0] 58)=W0 at *
 refine Hat.out.mono ?_
 rintro e w1 ⟨⟨j,f,rfl,hat⟩,hs1⟩
 obtain⟨rfl,rfl⟩:=Hres.out j f hat
 have hl1:=Hl0.out.step hs1 (fun _ _ h=>h)
 have hoz1:=Hoz.out.step hs1 (fun h=>h)
 have hst1:=Hal.out.trans hs1
 obtain⟨vs,vt,ho1,hs1s,hs1t⟩:=hl1.is
 have hby:=Buf.bytes hs1s hl1.isB
 obtain⟨hx1,⟨rfl,he⟩|⟨bs,cs,ys,rfl,hos,hc1,hc2,hc3⟩⟩:=hs1s
 ·omega
 obtain⟨hx2,⟨rfl,he⟩|⟨bt,ct,zs,rfl,hot,hd1,hd2,hd3⟩⟩:=hs1t
 ·omega
 have hxj:(i64s L.starts++zs)[j]?=some (.int .i64 (x:Int)):=by
  have hjl:j<(i64s L.starts).length:=by rw[hx2];omega
  have e:=Hx.out
  rw[List.getD_eq_getElem?_getD,List.getElem?_eq_getElem hk] at e
  rw[List.getElem?_append_left hjl]
  unfold i64s
  rw[List.getElem?_map,List.getElem?_eq_getElem hk]
  simp only[Option.map_some]
  rw[←e];rfl
 have ct_:=hot.at j hxj
 have hsub:=hby.sub x L.stream.length (cs-x) (by omega) (Nat.le_refl _) (by omega) (by omega)
 rw[Nat.zero_add,List.take_of_length_le (by rw[List.length_drop];exact Nat.le_refl _)] at hsub
 have hdl:(L.stream.drop x).length=L.stream.length-x:=List.length_drop
 have hdc:=fun (W:World) (T:Tags) (m:Step w1 τ1 W T nil)=>Qt0 (hsub.step m (fun h=>h)) (by rw[hdl];omega) (by simp[ReadTag,Qah]) (by decide) (by decide)
 rw[Hdec.out] at hdc
 have hlo:∀W T,Step w1 τ1 W T RT→W.cell? ⟨bl,7,none⟩=some (.slice (some ⟨bs,0,none⟩) L.stream.length cs)∧W.cell? ⟨bl,8,none⟩=some (.slice (some ⟨bt,0,none⟩) L.starts.length ct)∧W.cell? ⟨bt,j,none⟩=some (.int .i64 (x:Int)):=fun W T m =>
  ⟨(ho1.step m (by simp[RT,ReadTag,tLog,tRx,tRr])).at 7 rfl,(ho1.step m (by simp[RT,ReadTag,tLog,tRx,tRr])).at 8 rfl,(hot.step m (by simp[RT,ReadTag,Qag,tRx,tRr])).at j hxj⟩
 have hd0:=(Step.refl w1 τ1 nil).drew
 have hd0R:Step w1 τ1 w1.drew τ1 ReadTag:=hd0.mono (fun _ h=>h.elim)
 have hS0:=hlo _ _ (hd0R.mono (fun _ h=>.inl h))
 generalize hsn:L.stream.length=sn at *
 generalize hnt:L.starts.length=nt at *
 have hxs:x<sn:=hlow
 have n1:¬cs=x:=by omega
 have n2:¬x=cs:=by omega
 have n3:(x:Int)≤(sn:Int):=by omega
 have n4:(sn:Int)≤(cs:Int):=by omega
 have n5:(j:Int)<(nt:Int):=by omega
 have n6:x≤cs:=by omega
 have n7:(x:Int)≤(cs:Int):=by omega
 have n8:((sn:Int)-(x:Int))=((sn-x:Nat):Int):=by omega
 have hlz:∀W T,Step w1 τ1 W T ReadTag→Own W T bz tRr 58 [.int .u8 0,.int .u32 0,.int .u64 0,.int .u64 0,.int .u32 0,.int .u16 0,.bool false,.bool false,.slice none 0 0,.slice none 0 0,.slice none 0 0,.slice none 0 0]:=fun W T m=>hoz1.step m (by simp[ReadTag,tRr])
 have hd1:Step w1 τ1 (w1.drew.alloc (.cells #[.int .u8 0,.int .u32 0,.int .u64 0,.int .u64 0,.int .u32 0,.int .u16 0,.bool false,.bool false,.slice none 0 0,.slice none 0 0,.slice none 0 0,.slice none 0 0] 58)) (τ1.put w1.drew.heap.size tRx) nil:=hd0.alloc _ _
 have hd1R:Step w1 τ1 (w1.drew.alloc (.cells #[.int .u8 0,.int .u32 0,.int .u64 0,.int .u64 0,.int .u32 0,.int .u16 0,.bool false,.bool false,.slice none 0 0,.slice none 0 0,.slice none 0 0,.slice none 0 0] 58)) (τ1.put w1.drew.heap.size tRx) ReadTag:=hd1.mono (fun _ h=>h.elim)
 have hoB:Own (w1.drew.alloc (.cells #[.int .u8 0,.int .u32 0,.int .u64 0,.int .u64 0,.int .u32 0,.int .u16 0,.bool false,.bool false,.slice none 0 0,.slice none 0 0,.slice none 0 0,.slice none 0 0] 58)) (τ1.put w1.drew.heap.size tRx) w1.heap.size tRx 58 [.int .u8 0,.int .u32 0,.int .u64 0,.int .u64 0,.int .u32 0,.int .u16 0,.bool false,.bool false,.slice none 0 0,.slice none 0 0,.slice none 0 0,.slice none 0 0]:=Own.born w1.drew τ1 tRx 58 #[.int .u8 0,.int .u32 0,.int .u64 0,.int .u64 0,.int .u32 0,.int .u16 0,.bool false,.bool false,.slice none 0 0,.slice none 0 0,.slice none 0 0,.slice none 0 0]
 generalize τ1.put w1.drew.heap.size tRx=τB at *
 have hS1:=hlo _ _ (hd1R.mono (fun _ h=>.inl h))
 have hA:=hdc _ _ hd0
 have hB:=hdc _ _ hd1
 obtain⟨Hl1,Hoz1,Hst1,Ho1,Hot,Hos,Hby,Hat,Hlo,Hsub,Hdc,Hd0R⟩:=hid12 hl1 hoz1 hst1 ho1 hot hos hby hat hlo hsub hdc hd0R
 obtain⟨Hd1R,Hlz,HA,HB,Hx1,Hx2,Hxj,HoB⟩:=hid8 hd1R hlz hA hB hx1 hx2 hxj hoB
 clear hl1 hoz1 hst1 ho1 hot hos hby hat hlo hsub hdc hd0R hd1R hlz hA hB hx1 hx2 hxj hoB hd0 hd1 hs1 ct_ hdl
 go_wp2_with fail
 refine Qaf (S:=fun w':World=>w'.cell? ⟨bl,7,none⟩=some (.slice (some ⟨bs,0,none⟩) sn cs)∧w'.cell? ⟨bl,8,none⟩=some (.slice (some ⟨bt,0,none⟩) nt ct)∧w'.cell? ⟨bt,j,none⟩=some (.int .i64 (x:Int))) (by kernel_rfl) ?_
 refine tk0 [0,1,2,3,4,5,6,7,8,9,10,11] ?_
 iterate 12
  refine tks (v:=?_) rfl (Or.inl ⟨by rfl,?_⟩) (by assumption) ?_
  rotate_left
  ·intro w hSw;(try dsimp only at hSw);go_simp
   all_goals with_reducible rfl
  try simp only[Act.put,lz1,lz2,lz3]
 refine tk9 ?_
 try simp only[lz4,lz5,lz6,lz1,lz2,lz3]
 refine Qss (i:=12) (j:=17) (by decide +kernel) rfl rfl (fun K hK=>?h1) (fun K hK=>?h2)
 case' h1 =>
  go_simp
  go_at_call 94
  refine HA.out.mono ?_
  rintro e w2 ⟨τ2,hs2,⟨h,_⟩|⟨y,m,v,hym,rfl,hv⟩⟩
  ·cases h
  cases hym
  have hm2:=Hd0R.out.trans hs2
  have hS2:=Hlo.out _ _ (hm2.mono (fun _ h=>.inl h))
  have hx3:=Own.born w2 τ2 tRx 58 #[.int .u8 0,.int .u32 0,.int .u64 0,.int .u64 0,.int .u32 0,.int .u16 0,.bool false,.bool false,.slice none 0 0,.slice none 0 0,.slice none 0 0,.slice none 0 0]
  have hal3:Step w2 τ2 (w2.alloc (.cells #[.int .u8 0,.int .u32 0,.int .u64 0,.int .u64 0,.int .u32 0,.int .u16 0,.bool false,.bool false,.slice none 0 0,.slice none 0 0,.slice none 0 0,.slice none 0 0] 58)) (τ2.put w2.heap.size tRx) nil:=(Step.refl w2 τ2 nil).alloc (.cells #[.int .u8 0,.int .u32 0,.int .u64 0,.int .u64 0,.int .u32 0,.int .u16 0,.bool false,.bool false,.slice none 0 0,.slice none 0 0,.slice none 0 0,.slice none 0 0] 58) tRx
  generalize τ2.put w2.heap.size tRx=τ3 at *
  have hv3:=hv.step hal3 (fun h=>h) (fun h=>h) (fun h=>h)
  have hm3:=hm2.trans (hal3.mono (fun _ h=>h.elim))
  have hz3:=Hlz.out _ _ hm3
  have hS3:=Hlo.out _ _ (hm3.mono (fun _ h=>.inl h))
  have hst3:=(Hst1.out.mono (T:=ReadTag) (fun _ h=>h.elim)).trans hm3
  obtain⟨vb,va,vt,vp,q0,rfl,hq1,hq2,hq3,hq4⟩:=hv3
  obtain⟨pb,cb,rfl,hq1⟩:=hq1
  obtain⟨pa,ca,rfl,hq2⟩:=hq2
  obtain⟨pt,ct',rfl⟩:=hq3.val
  obtain⟨pp,cp,rfl⟩:=hq4.val
  obtain⟨bx,hbx⟩:∃bx,w2.heap.size=bx:=⟨_,rfl⟩
  have hxl:w.heap.size≤bx:=by rw[←hbx];exact(Hst1.out.mono (T:=ReadTag) (fun _ h=>h.elim)).trans hm2 |>.size
  rw[hbx] at hx3
  obtain⟨Hx3,Hz3,Hst3,Hq1,Hq2,Hq3,Hq4,Hm3⟩:=hid8 hx3 hz3 hst3 hq1 hq2 hq3 hq4 hm3
  clear hx3 hz3 hst3 hq1 hq2 hq3 hq4 hm3 hs2 hm2 hal3 hv
  refine hK.out _ _ (fun _=>hS2) ?_
  clear hK K
  refine tk0 [13,14,15,16] ?_
  iterate 4
   refine tks (v:=?_) rfl (Or.inl ⟨by rfl,?_⟩) (by assumption) ?_
   rotate_left
   ·intro w hSw;(try dsimp only at hSw);go_simp
    all_goals with_reducible rfl
   try simp only[Act.put,lz1,lz2,lz3]
  refine tk9 ?_
  try simp only[lz4,lz5,lz6,lz1,lz2,lz3]
  refine tk1 17 rfl fun K hK=>?_
  go_simp
  refine hK.out _ _ (fun _=>hS3) ?_
  clear hK K hS2
  generalize w2.alloc (.cells #[.int .u8 0,.int .u32 0,.int .u64 0,.int .u64 0,.int .u32 0,.int .u16 0,.bool false,.bool false,.slice none 0 0,.slice none 0 0,.slice none 0 0,.slice none 0 0] 58)=w3 at *
  try rw[hbx]
 case' h2 =>
  go_simp
  refine hK.out _ _ (fun _=>hS1) ?_
  clear hK K
  refine tk1 12 rfl fun K hK=>?_
  go_simp
  go_at_call 94
  refine HB.out.mono ?_
  rintro e w3 ⟨τ3,hs3,⟨h,_⟩|⟨y,m,v,hym,rfl,hv⟩⟩
  ·cases h
  cases hym
  have hm3:=Hd1R.out.trans hs3
  have hS3:=Hlo.out _ _ (hm3.mono (fun _ h=>.inl h))
  have hx3:=HoB.out.step hs3 (by simp[ReadTag,tRx])
  have hz3:=Hlz.out _ _ hm3
  have hst3:=(Hst1.out.mono (T:=ReadTag) (fun _ h=>h.elim)).trans hm3
  obtain⟨vb,va,vt,vp,q0,rfl,hq1,hq2,hq3,hq4⟩:=hv
  obtain⟨pb,cb,rfl,hq1⟩:=hq1
  obtain⟨pa,ca,rfl,hq2⟩:=hq2
  obtain⟨pt,ct',rfl⟩:=hq3.val
  obtain⟨pp,cp,rfl⟩:=hq4.val
  obtain⟨bx,hbx⟩:∃bx,w1.heap.size=bx:=⟨_,rfl⟩
  have hxl:w.heap.size≤bx:=by rw[←hbx];exact Hst1.out.size
  rw[hbx] at hx3
  obtain⟨Hx3,Hz3,Hst3,Hq1,Hq2,Hq3,Hq4,Hm3⟩:=hid8 hx3 hz3 hst3 hq1 hq2 hq3 hq4 hm3
  clear hx3 hz3 hst3 hq1 hq2 hq3 hq4 hm3 hs3
  refine hK.out _ _ (fun _=>hS3) ?_
  clear hK K
  refine tk0 [13,14,15,16] ?_
  iterate 4
   refine tks (v:=?_) rfl (Or.inl ⟨by rfl,?_⟩) (by assumption) ?_
   rotate_left
   ·intro w hSw;(try dsimp only at hSw);go_simp
    all_goals with_reducible rfl
   try simp only[Act.put,lz1,lz2,lz3]
  refine tk9 ?_
  try simp only[lz4,lz5,lz6,lz1,lz2,lz3]
  try rw[hbx]
 all_goals (
  have c0:=Hx3.out.at 0 (v:=.int .u8 0) rfl
  have z0:=Hx3.out.fz 0
  have c1:=Hx3.out.at 1 (v:=.int .u32 0) rfl
  have z1:=Hx3.out.fz 1
  have c2:=Hx3.out.at 2 (v:=.int .u64 0) rfl
  have z2:=Hx3.out.fz 2
  have c3:=Hx3.out.at 3 (v:=.int .u64 0) rfl
  have z3:=Hx3.out.fz 3
  have c4:=Hx3.out.at 4 (v:=.int .u32 0) rfl
  have z4:=Hx3.out.fz 4
  have c5:=Hx3.out.at 5 (v:=.int .u16 0) rfl
  have z5:=Hx3.out.fz 5
  have c6:=Hx3.out.at 6 (v:=.bool false) rfl
  have z6:=Hx3.out.fz 6
  have c7:=Hx3.out.at 7 (v:=.bool false) rfl
  have z7:=Hx3.out.fz 7
  have c8:=Hx3.out.at 8 (v:=.slice none 0 0) rfl
  have z8:=Hx3.out.fz 8
  have c9:=Hx3.out.at 9 (v:=.slice none 0 0) rfl
  have z9:=Hx3.out.fz 9
  have c10:=Hx3.out.at 10 (v:=.slice none 0 0) rfl
  have z10:=Hx3.out.fz 10
  have c11:=Hx3.out.at 11 (v:=.slice none 0 0) rfl
  have z11:=Hx3.out.fz 11
  refine tk1 18 rfl fun K hK=>?_
  go_simp
  have hx4:Own ((((((((((((w3.setCell ⟨bx,0,none⟩ (.int .u8 (r.kind:Int))).setCell ⟨bx,1,none⟩ (.int .u32 (r.txn:Int))).setCell ⟨bx,2,none⟩ (.int .u64 (r.prev:Int))).setCell ⟨bx,3,none⟩ (.int .u64 (r.next:Int))).setCell ⟨bx,4,none⟩ (.int .u32 (r.change.page:Int))).setCell ⟨bx,5,none⟩ (.int .u16 (r.change.slot:Int))).setCell ⟨bx,6,none⟩ (.bool r.change.had)).setCell ⟨bx,7,none⟩ (.bool r.change.has)).setCell ⟨bx,8,none⟩ (.slice pb r.change.before.length cb)).setCell ⟨bx,9,none⟩ (.slice pa r.change.after.length ca)).setCell ⟨bx,10,none⟩ (.slice pt r.txns.length ct')).setCell ⟨bx,11,none⟩ (.slice pp r.pages.length cp)) τ3 bx tRx 58 [.int .u8 (r.kind:Int),.int .u32 (r.txn:Int),.int .u64 (r.prev:Int),.int .u64 (r.next:Int),.int .u32 (r.change.page:Int),.int .u16 (r.change.slot:Int),.bool r.change.had,.bool r.change.has,.slice pb r.change.before.length cb,.slice pa r.change.after.length ca,.slice pt r.txns.length ct',.slice pp r.pages.length cp]:=((((((((((((Hx3.out.set 0 (.int .u8 (r.kind:Int))).set 1 (.int .u32 (r.txn:Int))).set 2 (.int .u64 (r.prev:Int))).set 3 (.int .u64 (r.next:Int))).set 4 (.int .u32 (r.change.page:Int))).set 5 (.int .u16 (r.change.slot:Int))).set 6 (.bool r.change.had)).set 7 (.bool r.change.has)).set 8 (.slice pb r.change.before.length cb)).set 9 (.slice pa r.change.after.length ca)).set 10 (.slice pt r.txns.length ct')).set 11 (.slice pp r.pages.length cp))
  have hq4s:Step w3 τ3 ((((((((((((w3.setCell ⟨bx,0,none⟩ (.int .u8 (r.kind:Int))).setCell ⟨bx,1,none⟩ (.int .u32 (r.txn:Int))).setCell ⟨bx,2,none⟩ (.int .u64 (r.prev:Int))).setCell ⟨bx,3,none⟩ (.int .u64 (r.next:Int))).setCell ⟨bx,4,none⟩ (.int .u32 (r.change.page:Int))).setCell ⟨bx,5,none⟩ (.int .u16 (r.change.slot:Int))).setCell ⟨bx,6,none⟩ (.bool r.change.had)).setCell ⟨bx,7,none⟩ (.bool r.change.has)).setCell ⟨bx,8,none⟩ (.slice pb r.change.before.length cb)).setCell ⟨bx,9,none⟩ (.slice pa r.change.after.length ca)).setCell ⟨bx,10,none⟩ (.slice pt r.txns.length ct')).setCell ⟨bx,11,none⟩ (.slice pp r.pages.length cp)) τ3 (fun t=>t=tRx):=(((((((((((((Step.refl w3 τ3 (fun t=>t=tRx)).set (o:=0) Hx3.out.tag rfl _).set (o:=1) Hx3.out.tag rfl _).set (o:=2) Hx3.out.tag rfl _).set (o:=3) Hx3.out.tag rfl _).set (o:=4) Hx3.out.tag rfl _).set (o:=5) Hx3.out.tag rfl _).set (o:=6) Hx3.out.tag rfl _).set (o:=7) Hx3.out.tag rfl _).set (o:=8) Hx3.out.tag rfl _).set (o:=9) Hx3.out.tag rfl _).set (o:=10) Hx3.out.tag rfl _).set (o:=11) Hx3.out.tag rfl _)
  have hst4:Step w τ ((((((((((((w3.setCell ⟨bx,0,none⟩ (.int .u8 (r.kind:Int))).setCell ⟨bx,1,none⟩ (.int .u32 (r.txn:Int))).setCell ⟨bx,2,none⟩ (.int .u64 (r.prev:Int))).setCell ⟨bx,3,none⟩ (.int .u64 (r.next:Int))).setCell ⟨bx,4,none⟩ (.int .u32 (r.change.page:Int))).setCell ⟨bx,5,none⟩ (.int .u16 (r.change.slot:Int))).setCell ⟨bx,6,none⟩ (.bool r.change.had)).setCell ⟨bx,7,none⟩ (.bool r.change.has)).setCell ⟨bx,8,none⟩ (.slice pb r.change.before.length cb)).setCell ⟨bx,9,none⟩ (.slice pa r.change.after.length ca)).setCell ⟨bx,10,none⟩ (.slice pt r.txns.length ct')).setCell ⟨bx,11,none⟩ (.slice pp r.pages.length cp)) τ3 ReadTag:=((((((((((((Hst3.out.setNew (b:=bx) (o:=0) hxl _).setNew (b:=bx) (o:=1) hxl _).setNew (b:=bx) (o:=2) hxl _).setNew (b:=bx) (o:=3) hxl _).setNew (b:=bx) (o:=4) hxl _).setNew (b:=bx) (o:=5) hxl _).setNew (b:=bx) (o:=6) hxl _).setNew (b:=bx) (o:=7) hxl _).setNew (b:=bx) (o:=8) hxl _).setNew (b:=bx) (o:=9) hxl _).setNew (b:=bx) (o:=10) hxl _).setNew (b:=bx) (o:=11) hxl _)
  have hm4:Step w1 τ1 ((((((((((((w3.setCell ⟨bx,0,none⟩ (.int .u8 (r.kind:Int))).setCell ⟨bx,1,none⟩ (.int .u32 (r.txn:Int))).setCell ⟨bx,2,none⟩ (.int .u64 (r.prev:Int))).setCell ⟨bx,3,none⟩ (.int .u64 (r.next:Int))).setCell ⟨bx,4,none⟩ (.int .u32 (r.change.page:Int))).setCell ⟨bx,5,none⟩ (.int .u16 (r.change.slot:Int))).setCell ⟨bx,6,none⟩ (.bool r.change.had)).setCell ⟨bx,7,none⟩ (.bool r.change.has)).setCell ⟨bx,8,none⟩ (.slice pb r.change.before.length cb)).setCell ⟨bx,9,none⟩ (.slice pa r.change.after.length ca)).setCell ⟨bx,10,none⟩ (.slice pt r.txns.length ct')).setCell ⟨bx,11,none⟩ (.slice pp r.pages.length cp)) τ3 RT:=(Hm3.out.mono (fun _ h=>.inl h)).trans (hq4s.mono (fun _ h=>.inr (.inl h)))
  have hS4:=Hlo.out _ _ hm4
  have hz4:=Hz3.out.step hq4s (by decide)
  have hr1:=Hq1.out.step hq4s (by decide)
  have hr2:=Hq2.out.step hq4s (by decide)
  have hr3:=Hq3.out.step hq4s (by decide)
  have hr4:=Hq4.out.step hq4s (by decide)
  obtain⟨Hx4,Hst4,Hz4,Hr1,Hr2,Hr3,Hr4⟩:=hid7 hx4 hst4 hz4 hr1 hr2 hr3 hr4
  clear hx4 hst4 hz4 hr1 hr2 hr3 hr4
  refine hK.out _ _ (fun _=>hS4) ?_
  clear hK K hq4s hm4 Hx3 Hz3 Hst3 Hq1 Hq2 Hq3 Hq4 Hm3 c0 z0 c1 z1 c2 z2 c3 z3 c4 z4 c5 z5 c6 z6 c7 z7 c8 z8 c9 z9 c10 z10 c11 z11 hS3
  generalize ((((((((((((w3.setCell ⟨bx,0,none⟩ (.int .u8 (r.kind:Int))).setCell ⟨bx,1,none⟩ (.int .u32 (r.txn:Int))).setCell ⟨bx,2,none⟩ (.int .u64 (r.prev:Int))).setCell ⟨bx,3,none⟩ (.int .u64 (r.next:Int))).setCell ⟨bx,4,none⟩ (.int .u32 (r.change.page:Int))).setCell ⟨bx,5,none⟩ (.int .u16 (r.change.slot:Int))).setCell ⟨bx,6,none⟩ (.bool r.change.had)).setCell ⟨bx,7,none⟩ (.bool r.change.has)).setCell ⟨bx,8,none⟩ (.slice pb r.change.before.length cb)).setCell ⟨bx,9,none⟩ (.slice pa r.change.after.length ca)).setCell ⟨bx,10,none⟩ (.slice pt r.txns.length ct')).setCell ⟨bx,11,none⟩ (.slice pp r.pages.length cp))=w4 at *
  refine tk1 19 rfl fun K hK=>?_
  go_simp
  refine hK.out _ _ (fun _=>hS4) ?_
  clear hK K
  refine tk1 20 rfl fun K hK=>?_
  go_simp
  refine hK.out _ _ (fun h=>absurd h (by decide +kernel)) ?_
  clear hK K
  refine Qad (by kernel_rfl) ?_ _
  have c0:=Hx4.out.at 0 (v:=.int .u8 (r.kind:Int)) rfl
  have c1:=Hx4.out.at 1 (v:=.int .u32 (r.txn:Int)) rfl
  have c2:=Hx4.out.at 2 (v:=.int .u64 (r.prev:Int)) rfl
  have c3:=Hx4.out.at 3 (v:=.int .u64 (r.next:Int)) rfl
  have c4:=Hx4.out.at 4 (v:=.int .u32 (r.change.page:Int)) rfl
  have c5:=Hx4.out.at 5 (v:=.int .u16 (r.change.slot:Int)) rfl
  have c6:=Hx4.out.at 6 (v:=.bool r.change.had) rfl
  have c7:=Hx4.out.at 7 (v:=.bool r.change.has) rfl
  have c8:=Hx4.out.at 8 (v:=.slice pb r.change.before.length cb) rfl
  have c9:=Hx4.out.at 9 (v:=.slice pa r.change.after.length ca) rfl
  have c10:=Hx4.out.at 10 (v:=.slice pt r.txns.length ct') rfl
  have c11:=Hx4.out.at 11 (v:=.slice pp r.pages.length cp) rfl
  have hwn:=Qam n (by omega)
  have hwa:IntKind.u64.wrap ((lsn:Int)+(n:Int))=(lsn:Int)+(n:Int):=by
   have:=Qer (a:=lsn) (b:=n) (by omega)
   rw[Int.natCast_add] at this
   exact this
  have hwa2:((lsn+n:Nat):Int)=(lsn:Int)+(n:Int):=Int.natCast_add ..
  have d0:=Hz4.out.at 0 (v:=.int .u8 0) rfl
  have y0:=Hz4.out.fz 0
  have d1:=Hz4.out.at 1 (v:=.int .u32 0) rfl
  have y1:=Hz4.out.fz 1
  have d2:=Hz4.out.at 2 (v:=.int .u64 0) rfl
  have y2:=Hz4.out.fz 2
  have d3:=Hz4.out.at 3 (v:=.int .u64 0) rfl
  have y3:=Hz4.out.fz 3
  have d4:=Hz4.out.at 4 (v:=.int .u32 0) rfl
  have y4:=Hz4.out.fz 4
  have d5:=Hz4.out.at 5 (v:=.int .u16 0) rfl
  have y5:=Hz4.out.fz 5
  have d6:=Hz4.out.at 6 (v:=.bool false) rfl
  have y6:=Hz4.out.fz 6
  have d7:=Hz4.out.at 7 (v:=.bool false) rfl
  have y7:=Hz4.out.fz 7
  have d8:=Hz4.out.at 8 (v:=.slice none 0 0) rfl
  have y8:=Hz4.out.fz 8
  have d9:=Hz4.out.at 9 (v:=.slice none 0 0) rfl
  have y9:=Hz4.out.fz 9
  have d10:=Hz4.out.at 10 (v:=.slice none 0 0) rfl
  have y10:=Hz4.out.fz 10
  have d11:=Hz4.out.at 11 (v:=.slice none 0 0) rfl
  have y11:=Hz4.out.fz 11
  clear hS4
  go_wp2_with fail
  have hz5:Own ((((((((((((w4.setCell ⟨bz,0,none⟩ (.int .u8 (r.kind:Int))).setCell ⟨bz,1,none⟩ (.int .u32 (r.txn:Int))).setCell ⟨bz,2,none⟩ (.int .u64 (r.prev:Int))).setCell ⟨bz,3,none⟩ (.int .u64 (r.next:Int))).setCell ⟨bz,4,none⟩ (.int .u32 (r.change.page:Int))).setCell ⟨bz,5,none⟩ (.int .u16 (r.change.slot:Int))).setCell ⟨bz,6,none⟩ (.bool r.change.had)).setCell ⟨bz,7,none⟩ (.bool r.change.has)).setCell ⟨bz,8,none⟩ (.slice pb r.change.before.length cb)).setCell ⟨bz,9,none⟩ (.slice pa r.change.after.length ca)).setCell ⟨bz,10,none⟩ (.slice pt r.txns.length ct')).setCell ⟨bz,11,none⟩ (.slice pp r.pages.length cp)) τ3 bz tRr 58 [.int .u8 (r.kind:Int),.int .u32 (r.txn:Int),.int .u64 (r.prev:Int),.int .u64 (r.next:Int),.int .u32 (r.change.page:Int),.int .u16 (r.change.slot:Int),.bool r.change.had,.bool r.change.has,.slice pb r.change.before.length cb,.slice pa r.change.after.length ca,.slice pt r.txns.length ct',.slice pp r.pages.length cp]:=((((((((((((Hz4.out.set 0 (.int .u8 (r.kind:Int))).set 1 (.int .u32 (r.txn:Int))).set 2 (.int .u64 (r.prev:Int))).set 3 (.int .u64 (r.next:Int))).set 4 (.int .u32 (r.change.page:Int))).set 5 (.int .u16 (r.change.slot:Int))).set 6 (.bool r.change.had)).set 7 (.bool r.change.has)).set 8 (.slice pb r.change.before.length cb)).set 9 (.slice pa r.change.after.length ca)).set 10 (.slice pt r.txns.length ct')).set 11 (.slice pp r.pages.length cp))
  have hq5:Step w4 τ3 ((((((((((((w4.setCell ⟨bz,0,none⟩ (.int .u8 (r.kind:Int))).setCell ⟨bz,1,none⟩ (.int .u32 (r.txn:Int))).setCell ⟨bz,2,none⟩ (.int .u64 (r.prev:Int))).setCell ⟨bz,3,none⟩ (.int .u64 (r.next:Int))).setCell ⟨bz,4,none⟩ (.int .u32 (r.change.page:Int))).setCell ⟨bz,5,none⟩ (.int .u16 (r.change.slot:Int))).setCell ⟨bz,6,none⟩ (.bool r.change.had)).setCell ⟨bz,7,none⟩ (.bool r.change.has)).setCell ⟨bz,8,none⟩ (.slice pb r.change.before.length cb)).setCell ⟨bz,9,none⟩ (.slice pa r.change.after.length ca)).setCell ⟨bz,10,none⟩ (.slice pt r.txns.length ct')).setCell ⟨bz,11,none⟩ (.slice pp r.pages.length cp)) τ3 (fun t=>t=tRr):=(((((((((((((Step.refl w4 τ3 (fun t=>t=tRr)).set (o:=0) Hz4.out.tag rfl _).set (o:=1) Hz4.out.tag rfl _).set (o:=2) Hz4.out.tag rfl _).set (o:=3) Hz4.out.tag rfl _).set (o:=4) Hz4.out.tag rfl _).set (o:=5) Hz4.out.tag rfl _).set (o:=6) Hz4.out.tag rfl _).set (o:=7) Hz4.out.tag rfl _).set (o:=8) Hz4.out.tag rfl _).set (o:=9) Hz4.out.tag rfl _).set (o:=10) Hz4.out.tag rfl _).set (o:=11) Hz4.out.tag rfl _)
  have hst5:Step w τ ((((((((((((w4.setCell ⟨bz,0,none⟩ (.int .u8 (r.kind:Int))).setCell ⟨bz,1,none⟩ (.int .u32 (r.txn:Int))).setCell ⟨bz,2,none⟩ (.int .u64 (r.prev:Int))).setCell ⟨bz,3,none⟩ (.int .u64 (r.next:Int))).setCell ⟨bz,4,none⟩ (.int .u32 (r.change.page:Int))).setCell ⟨bz,5,none⟩ (.int .u16 (r.change.slot:Int))).setCell ⟨bz,6,none⟩ (.bool r.change.had)).setCell ⟨bz,7,none⟩ (.bool r.change.has)).setCell ⟨bz,8,none⟩ (.slice pb r.change.before.length cb)).setCell ⟨bz,9,none⟩ (.slice pa r.change.after.length ca)).setCell ⟨bz,10,none⟩ (.slice pt r.txns.length ct')).setCell ⟨bz,11,none⟩ (.slice pp r.pages.length cp)) τ3 ReadTag:=((((((((((((Hst4.out.setNew (b:=bz) (o:=0) (by rw[←Hbz.out];exact Nat.le_refl _) _).setNew (b:=bz) (o:=1) (by rw[←Hbz.out];exact Nat.le_refl _) _).setNew (b:=bz) (o:=2) (by rw[←Hbz.out];exact Nat.le_refl _) _).setNew (b:=bz) (o:=3) (by rw[←Hbz.out];exact Nat.le_refl _) _).setNew (b:=bz) (o:=4) (by rw[←Hbz.out];exact Nat.le_refl _) _).setNew (b:=bz) (o:=5) (by rw[←Hbz.out];exact Nat.le_refl _) _).setNew (b:=bz) (o:=6) (by rw[←Hbz.out];exact Nat.le_refl _) _).setNew (b:=bz) (o:=7) (by rw[←Hbz.out];exact Nat.le_refl _) _).setNew (b:=bz) (o:=8) (by rw[←Hbz.out];exact Nat.le_refl _) _).setNew (b:=bz) (o:=9) (by rw[←Hbz.out];exact Nat.le_refl _) _).setNew (b:=bz) (o:=10) (by rw[←Hbz.out];exact Nat.le_refl _) _).setNew (b:=bz) (o:=11) (by rw[←Hbz.out];exact Nat.le_refl _) _)
  have hs1:=Hr1.out.step hq5 (by decide)
  have hs2:=Hr2.out.step hq5 (by decide)
  have hs3:=Hr3.out.step hq5 (by decide)
  have hs4:=Hr4.out.step hq5 (by decide)
  clear hq5 c0 d0 y0 c1 d1 y1 c2 d2 y2 c3 d3 y3 c4 d4 y4 c5 d5 y5 c6 d6 y6 c7 d7 y7 c8 d8 y8 c9 d9 y9 c10 d10 y10 c11 d11 y11
  generalize ((((((((((((w4.setCell ⟨bz,0,none⟩ (.int .u8 (r.kind:Int))).setCell ⟨bz,1,none⟩ (.int .u32 (r.txn:Int))).setCell ⟨bz,2,none⟩ (.int .u64 (r.prev:Int))).setCell ⟨bz,3,none⟩ (.int .u64 (r.next:Int))).setCell ⟨bz,4,none⟩ (.int .u32 (r.change.page:Int))).setCell ⟨bz,5,none⟩ (.int .u16 (r.change.slot:Int))).setCell ⟨bz,6,none⟩ (.bool r.change.had)).setCell ⟨bz,7,none⟩ (.bool r.change.has)).setCell ⟨bz,8,none⟩ (.slice pb r.change.before.length cb)).setCell ⟨bz,9,none⟩ (.slice pa r.change.after.length ca)).setCell ⟨bz,10,none⟩ (.slice pt r.txns.length ct')).setCell ⟨bz,11,none⟩ (.slice pp r.pages.length cp))=w5 at *
  have f0:=hz5.at 0 (v:=.int .u8 (r.kind:Int)) rfl
  have f1:=hz5.at 1 (v:=.int .u32 (r.txn:Int)) rfl
  have f2:=hz5.at 2 (v:=.int .u64 (r.prev:Int)) rfl
  have f3:=hz5.at 3 (v:=.int .u64 (r.next:Int)) rfl
  have f4:=hz5.at 4 (v:=.int .u32 (r.change.page:Int)) rfl
  have f5:=hz5.at 5 (v:=.int .u16 (r.change.slot:Int)) rfl
  have f6:=hz5.at 6 (v:=.bool r.change.had) rfl
  have f7:=hz5.at 7 (v:=.bool r.change.has) rfl
  have f8:=hz5.at 8 (v:=.slice pb r.change.before.length cb) rfl
  have f9:=hz5.at 9 (v:=.slice pa r.change.after.length ca) rfl
  have f10:=hz5.at 10 (v:=.slice pt r.txns.length ct') rfl
  have f11:=hz5.at 11 (v:=.slice pp r.pages.length cp) rfl
  obtain⟨Hz5,Hst5,Hs1,Hs2,Hs3,Hs4⟩:=hid6 hz5 hst5 hs1 hs2 hs3 hs4
  clear hz5 hst5 hs1 hs2 hs3 hs4
  refine bodyPost_ret (by simp[results,Tryz.results50,go_sem,f0,f1,f2,f3,f4,f5,f6,f7,f8,f9,f10,f11];try rfl) rfl ?_
  exact⟨_,τ3,by rw[hwa2],⟨_,_,_,_,_,rfl,⟨_,_,rfl,Hs1.out⟩,⟨_,_,rfl,Hs2.out⟩,Hs3.out,Hs4.out⟩,Hst5.out⟩)
end Go.Proofs.YtjgacceifcnedaaGreat