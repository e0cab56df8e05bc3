/-
 The reference's pool: how it lies in memory (no page at hand);sectors,mend of a whole home.
-/
import Derived.Test.YtemacanaihaldaaGreatMR8
import Derived.Test.YtemacanaihaldaaGreatMStrip
import Derived.Test.YtemacanaihaldaaGreatMPoolC
import Derived.Test.YtemacanaihaldaaGreatMCkRefA
set_option maxRecDepth 100000
set_option maxHeartbeats 8000000
set_option linter.all false
namespace Go.Proofs.YtemacanaihaldaaGreat
variable {bp:Nat}{w:World}{τ:Tags}
open Go.RowKit
def Qdc:Tag:=(60,0)
def tRFr:Tag:=(61,0)
def tRClk:Tag:=(62,0)
structure RPoolH where
 bl:Nat
 n:Nat
 vf:Value
 bc:Nat
 st:Nat
def RPoolH.cells (H:RPoolH):List Value:=[.pointer (some ⟨H.bl,0,none⟩),.int .i64 (H.n:Int),H.vf,.pointer (some ⟨H.bc,0,none⟩),.int .u64 (H.st:Int)]
abbrev Qrs (w:World) (τ:Tags) (bp:Nat) (H:RPoolH):Prop:=Own w τ bp Qdc 302 H.cells
theorem Qmr {bd:Nat} {H:RPoolH} {L:LogM} {D:Dev}(h:Qrs w τ bp H) (hl:RLogAt w τ H.bl bd L) (hd:RDevAt w τ bd D) (n:Nat) (hn:4*n+4≤D.f1.length) :
 Calls Tryz.prog 180 #[.pointer (some ⟨bp,0,none⟩),.int .i64 (4*(n:Int))] w fun e w'=>∃v τ',e = .returned v∧NR w.heap.size w' τ' tOut v (lastTo D n 4)∧Step w τ w' τ' nil:=by
 have hlen:=Qgt hd 1 (by omega)
 have hf1:D.file 1=D.f1:=rfl
 rw[hf1] at hlen
 obtain⟨H_h,Hl,Hd⟩:=hid3 h hl hd
 clear h hl hd
 go_enter Tryz.func180,Tryz.ntmps180
 go_wp2_with fail
 go_loopw [5,6] (fun m v wr=>∃(i:Nat) (τr:Tags),i≤4∧v = .int .i64 (i:Int)∧NR w.heap.size wr τr tOut m (lastTo D n i)∧Step w τ wr τr nil) (fun _ v _=>4-(intOf v).toNat)
 case atStart=>exact⟨0,τ,Nat.zero_le _,rfl,NR.nil _ _ _ _,Step.refl _ _ _⟩
 case round =>
  obtain⟨i,τr,hi,rfl,hni,hst⟩:=hrel
  by_cases hlt:i<4
  ·have hp:=H_h.out.step hst (fun h=>h)
   obtain⟨vs,vt,ho,-,-⟩:=(Hl.out.step hst (fun _ _ h=>h)).is
   have c0:=hp.at 0 (v:=.pointer (some ⟨H.bl,0,none⟩)) rfl
   have d0:=ho.at 0 (v:=.pointer (some ⟨bd,0,none⟩)) rfl
   have h2:=Qr6 (Hd.out.step hst (fun _ h=>h.elim)) 1 (by omega) (4*n+i) (by rw[hf1];omega) tData
   have hx:=Qkt Hd.out 1 (4*n+i) (by omega) (by rw[hf1];omega)
   have hs:=Qlf D n i
   have hsl:=Qbe D n i
   rw[show ((4*n+i:Nat):Int)=4*(n:Int)+(i:Int) by omega] at h2
   generalize hLi:lastTo D n i=Li at *
   obtain⟨pm,cm,rfl⟩:=hni.val
   obtain⟨H2,Hx,Hs,Hni,Hst,Hsl,HLi⟩:=hid7 h2 hx hs hni hst hsl hLi
   clear h2 hx hs hni hst hsl hLi hp ho
   go_wp2_with fail
   refine H2.out.mono ?_
   rintro e w1 ⟨u,τ1,rfl,hb,hs1⟩
   have hni1:=Hni.out.step hs1 (fun h=>h) (fun h=>h)
   have hst1:=Hst.out.trans hs1
   obtain⟨pu,cu,rfl,-,-⟩:=hb.any
   rw[Hx.out.1] at hb ⊢
   obtain⟨Hb,Hni1,Hst1⟩:=hid3 hb hni1 hst1
   clear hb hni1 hst1
   go_wp2_with (at_builtin;refine Qbz Hst1.out (by decide) Hni1.out Hb.out Hx.out.1 (by rw[Hsl.out];omega) rfl rfl _ _ rfl rfl rfl ?_;intro v' w' τ' hb he hmo;obtain⟨Hb,He,Hmo⟩:=hid3 hb he hmo;clear hb he hmo)
   go_round
   case rel=>exact⟨i+1,τ',by omega,by simp,by rw[Hs.out];exact Hb.out,He.out⟩
   case measure=>simp[intOf];omega
  ·obtain rfl:i=4:=by omega
   obtain⟨Hni,Hst⟩:=hid2 hni hst
   clear hni hst
   go_wp2_with fail
   go_returns
   exact⟨_,τr,rfl,Hni.out,Hst.out⟩
theorem Qqr {bd:Nat} {H:RPoolH} {L:LogM} {D:Dev}(h:Qrs w τ bp H) (hl:RLogAt w τ H.bl bd L) (hd:RDevAt w τ bd D) (n:Nat) (hn:4*n+4≤D.f1.length) (hw:Qb3 (lastTo D n 4)=true) :
 Calls Tryz.prog 178 #[.pointer (some ⟨bp,0,none⟩),.int .i64 (n:Int)] w fun e w'=>e = .returned (.bool true)∧∃τ',Step w τ w' τ' nil:=by
 have h1:=Qmr h hl hd n hn
 have hlen:=Qgt hd 1 (by omega)
 have hf1:D.file 1=D.f1:=rfl
 rw[hf1] at hlen
 have h4:=Qbe D n 4
 generalize lastTo D n 4=ls at *
 obtain⟨H1,H4,Hw⟩:=hid3 h1 h4 hw
 clear h1 h4 hw h hl hd
 go_enter Tryz.func178,Tryz.ntmps178
 go_wp2_with fail
 refine H1.out.mono ?_
 rintro e w1 ⟨v,τ1,rfl,hr,hs1⟩
 have h2:=Qzf hr.row tData H4.out
 obtain⟨p,c,rfl⟩:=hr.val
 obtain⟨H2,Hs1⟩:=hid2 h2 hs1
 clear h2 hs1 H1 hr
 go_wp2_with fail
 refine H2.out.mono ?_
 rintro e w2 ⟨τ2,hs2,h⟩
 rcases h with ⟨-,u,rfl,-⟩|⟨hno,-⟩
 ·have Hs2:=Lib.hid hs2
  clear hs2
  go_wp2_with fail
  go_ret
  exact⟨rfl,τ2,Hs1.out.trans Hs2.out⟩
 ·rw[Hw.out] at hno;cases hno
theorem Tryz.infoRFrame:(Tryz.prog.info? 305).map (fun i=>(i.zero,i.size,i.bytes))=some (some (.agg #[.int .i64 0,.pointer none,.int .u64 0]),3,24):=by kernel_rfl
def Qc5 (k:Nat):List Value:=(List.replicate k [Value.int .i64 (-1),.pointer none,.int .u64 0]).flatten
theorem Qfj (k:Nat):Qc5 (k+1)=Qc5 k++[Value.int .i64 (-1),.pointer none,.int .u64 0]:=by
 unfold Qc5
 rw[List.replicate_succ',List.flatten_append];simp
theorem Qcm (k:Nat):(Qc5 k).length=k*3:=by
 induction k with
 | zero=>rfl
 | succ k ih=>rw[Qfj,List.length_append,ih];simp;omega
theorem Qqm (k i:Nat) (h:i<k):(Qc5 k)[i*3]?=some (.int .i64 (-1)):=by
 induction k with
 | zero=>omega
 | succ k ih =>
   rw[Qfj]
   by_cases e:i<k
   ·rw[List.getElem?_append_left (by rw[Qcm];omega)];exact ih e
   ·obtain rfl:i=k:=by omega
    rw[List.getElem?_append_right (by rw[Qcm];exact Nat.le_refl _),Qcm,Nat.sub_self];rfl
structure RPoolAt0 (w:World) (τ:Tags) (bp:Nat) (H:RPoolH) (k:Nat):Prop where
 hd:Qrs w τ bp H
 fr:Buf w τ tRFr 305 3 H.vf k (Qc5 k)
 n1:1≤H.n∧H.n≤512
 k1:k≤64
def RPoolTag (g:Tag):Prop:=g=Qdc∨g=tRFr∨g=tRClk
theorem RPoolAt0.step {w':World} {τ':Tags} {S:Tag→Prop} {k:Nat} {H:RPoolH}(h:RPoolAt0 w τ bp H k) (m:Step w τ w' τ' S) (hs:∀g,RPoolTag g→¬S g):RPoolAt0 w' τ' bp H k :=
 ⟨h.hd.step m (hs _ (.inl rfl)),h.fr.step m (hs _ (.inr (.inl rfl))),h.n1,h.k1⟩
theorem RPoolAt0.setSt {k:Nat} {H:RPoolH}(h:RPoolAt0 w τ bp H k) (n:Nat):RPoolAt0 (w.setCell ⟨bp,4,none⟩ (.int .u64 (n:Int))) τ bp {H with st:=n} k∧Step w τ (w.setCell ⟨bp,4,none⟩ (.int .u64 (n:Int))) τ (fun g=>g=Qdc):=by
 have m:Step w τ (w.setCell ⟨bp,4,none⟩ (.int .u64 (n:Int))) τ (fun g=>g=Qdc):=(Step.refl w τ (fun g=>g=Qdc)).set h.hd.tag rfl _
 exact⟨⟨h.hd.set 4 _,h.fr.step m (by decide),h.n1,h.k1⟩,m⟩
theorem RPoolAt0.setVf {w2:World} {τ2:Tags} {k k2:Nat} {H:RPoolH}(h:RPoolAt0 w τ bp H k) (m:Step w τ w2 τ2 (fun t=>t=tRFr)) {v:Value}(hb:Buf w2 τ2 tRFr 305 3 v k2 (Qc5 k2)) (hk:k2≤64) :
 RPoolAt0 (w2.setCell ⟨bp,2,none⟩ v) τ2 bp {H with vf:=v} k2∧Step w2 τ2 (w2.setCell ⟨bp,2,none⟩ v) τ2 (fun g=>g=Qdc):=by
 have ho:=h.hd.step m (by decide)
 have ms:Step w2 τ2 (w2.setCell ⟨bp,2,none⟩ v) τ2 (fun g=>g=Qdc):=(Step.refl w2 τ2 (fun g=>g=Qdc)).set ho.tag rfl _
 exact⟨⟨ho.set 2 v,hb.step ms (by decide),h.n1,hk⟩,ms⟩
theorem Qie {v:Value} {n:Nat}(hbuf:Buf w τ tRFr 305 3 v n (Qc5 n)) (hn:n≤1000) {kb:Nat} (hkb:kb=w.heap.size)
 {ops:Array Oper} {rest:List Oper} {o:Oper} {a:Act} {Q:Exit→Act→World→Prop} (hgd:o.guard=none) (s y:Operand)
 (ho:o.op = .call {callee:=.builtin .append,args:=#[s,y],argTypes:=#[300,300]}) (hs:a.eval s=v) (hy:a.eval y = .slice (some ⟨kb,0,none⟩) 1 1)
 (h:∀v' w' τ',Buf w' τ' tRFr 305 3 v' (n+1) (Qc5 (n+1))→Step w τ w' τ' (fun t=>t=tRFr)→wpList Tryz.prog ops Q rest (a.put o.dst v') w'):wpList Tryz.prog ops Q (o::rest) a (w.alloc (.cells #[.int .i64 (-1),.pointer none,.int .u64 0] 305)):=by
 subst hkb
 refine wpList_plain hgd fun K hK=>?_
 obtain⟨i0,hi,hz0,hz1,hz2⟩:=info_parts Tryz.infoRFrame
 have hal:Step w τ (w.alloc (.cells #[.int .i64 (-1),.pointer none,.int .u64 0] 305)) τ nil:=(Step.refl w τ nil).alloc' _
 have hbuf2:=hbuf.step hal (fun h=>h)
 obtain⟨v',w',τ',hr,hb',he,hm,hnw⟩:=Qap (P:=Tryz.prog) (w.alloc (.cells #[.int .i64 (-1),.pointer none,.int .u64 0] 305)) τ tRFr 300 o.type 305 i0 (.agg #[.int .i64 0,.pointer none,.int .u64 0]) 3 24 Tryz.underlying300 hi hz0 hz1 hz2 rfl (by decide) v n (Qc5 n) hbuf2
  (some ⟨w.heap.size,0,none⟩) 1 1 [.int .i64 (-1),.pointer none,.int .u64 0] rfl (fun h=>by cases h) (by
    intro ad had;cases had;exact World.news_of_block (cs:=#[.int .i64 (-1),.pointer none,.int .u64 0]) (t := 305) (fr:=(0,0)) (heap_alloc_new w _)) (by simp[Value.oneCell']) (by unfold maxLen;omega) (by omega)
 unfold Oper.wp execOp
 simp only[ho,resolve,invoke,builtin,Sem.run_bind,Sem.run_pure,Result.andThen_ok,List.map_toArray,List.map_cons,List.map_nil,hs,hy,hr]
 rw[←Qfj] at hb'
 refine hK _ _ (h v' w' τ' hb' ((hal.mono (fun _ h=>h.elim)).trans ⟨hm.mono (fun k hk hS=>(hbuf2.own k hS).1),he⟩))
theorem Qs9 {bl bd:Nat} {L:LogM} {D:Dev}(hl:RLogAt w τ bl bd L) (hd:RDevAt w τ bd D) (n k:Nat) (h1:1≤n) (h5:n≤512) (h3:3≤k) (h64:k≤64) (hn:4*(n+1)≤D.f1.length) (hw:∀i,i<n→Qb3 (lastTo D i 4)=true) (hst64:∀i,i≤n+1→stampTo D i<18446744073709551616) :
 Calls Tryz.prog 111 #[.pointer (some ⟨bl,0,none⟩),.int .i64 (n:Int),.int .i64 (k:Int)] w fun e w'=>∃bp τ' H,e = .returned (.tuple #[.pointer (some ⟨bp,0,none⟩),.int .i64 0])∧RPoolAt0 w' τ' bp H k∧H.bl=bl∧H.n=n∧H.st=stampTo D (n+1)∧w.heap.size≤bp∧Step w τ w' τ' RPoolTag:=by
 obtain⟨vs,vt,ho,-,-⟩:=hl.is
 have c0:=ho.at 0 (v:=.pointer (some ⟨bd,0,none⟩)) rfl
 have hsz:=Qkr hd 1 (by omega)
 have hf1:D.file 1=D.f1:=rfl
 have hlen:=Qgt hd 1 (by omega)
 rw[hf1] at hsz hlen
 generalize hm:D.f1.length=m at *
 have a1:decide ((m:Int)<4*((n:Int)+1))=false:=by simp;omega
 have a2:decide ((n:Int)<1)=false:=by simp;omega
 have a3:decide ((512:Int)<(n:Int))=false:=by simp;omega
 have a4:decide ((k:Int)<3)=false:=by simp;omega
 have a5:decide ((64:Int)<(k:Int))=false:=by simp;omega
 have hck:=Ck.rnew_ok w k (by omega) h64
 obtain⟨Hsz,Hl,Hd,Hck,Hw,Hst64,Hm⟩:=hid7 hsz hl hd hck hw hst64 hm
 clear hsz hl hd hck hw hst64 hm ho
 go_enter Tryz.func111,Tryz.ntmps111
 go_wp2_with fail
 refine Hsz.out.mono ?_
 rintro e w' ⟨rfl,rfl⟩
 go_wp2_with fail
 refine Hck.out.mono ?_
 rintro e wc ⟨br,bt,bu,bp0,rfl,l1,l2,l3,l4,hrc,hmc⟩
 have hsc:Step w τ wc τ RPoolTag:=⟨⟨hmc.os,hmc.tape,hmc.output,hmc.size,fun j hj _=>hmc.block j hj (by simp)⟩,Ext.refl _ _⟩
 have hcells:(RPoolH.mk bl n (.slice none 0 0) br 0).cells=[.pointer (some ⟨bl,0,none⟩),.int .i64 (n:Int),.slice none 0 0,.pointer (some ⟨br,0,none⟩),.int .u64 0]:=rfl
 have hb0:=Own.new wc τ Qdc 302 (RPoolH.mk bl n (.slice none 0 0) br 0).cells
 have hs0:=hsc.alloc (.cells ⟨(RPoolH.mk bl n (.slice none 0 0) br 0).cells⟩ 302) Qdc
 rw[hcells] at hb0 hs0
 have hp0:RPoolAt0 (wc.alloc (.cells #[.pointer (some ⟨bl,0,none⟩),.int .i64 (n:Int),.slice none 0 0,.pointer (some ⟨br,0,none⟩),.int .u64 0] 302)) (τ.put wc.heap.size Qdc) wc.heap.size ⟨bl,n,.slice none 0 0,br,0⟩ 0 :=
  ⟨hb0,Buf.nil _ _ _ _ _,⟨h1,h5⟩,by omega⟩
 have hlow:w.heap.size≤wc.heap.size:=hmc.size
 generalize τ.put wc.heap.size Qdc=τ0 at *
 obtain⟨bp,hbp⟩:∃bp,wc.heap.size=bp:=⟨_,rfl⟩
 rw[hbp] at hp0 hlow
 obtain⟨Hp0,Hs0,Hlow,Hbp⟩:=hid4 hp0 hs0 hlow hbp
 clear hp0 hs0 hlow hbp hrc hmc hsc hb0 hcells
 go_wp2_with fail
 rw[Hbp.out]
 generalize wc.alloc (.cells #[.pointer (some ⟨bl,0,none⟩),.int .i64 (n:Int),.slice none 0 0,.pointer (some ⟨br,0,none⟩),.int .u64 0] 302)=W0 at *
 go_loopw [9] (fun v wr=>∃(i:Nat) (τr:Tags),i≤n∧v = .int .i64 (i:Int)∧RPoolAt0 wr τr bp ⟨bl,n,.slice none 0 0,br,0⟩ 0∧Step w τ wr τr RPoolTag) (fun v _=>n-(intOf v).toNat)
 case atStart=>exact⟨0,_,Nat.zero_le _,rfl,Hp0.out,Hs0.out⟩
 case round =>
  clear Hp0 Hs0
  obtain⟨i,τr,hi,rfl,hp,hst⟩:=hrel
  have hlr:=Hl.out.step hst (fun g hg hS=>by rcases hg with rfl|rfl|rfl <;> simp[RPoolTag,Qdc,tRFr,tRClk,tRLog,Qee,Qef] at hS)
  have hdr:=Hd.out.step hst (fun g hg=>by rcases hg with rfl|rfl|rfl <;> simp[RDevTag,Qdc,tRFr,tRClk,tData])
  by_cases hlt:i<n
  ·have hm1:=Qqr hp.hd hlr hdr i (by rw[Hm.out];omega) (Hw.out i hlt)
   obtain⟨Hm1,Hp,Hst⟩:=hid3 hm1 hp hst
   clear hm1 hp hst hlr hdr
   go_wp2_with fail
   refine Hm1.out.mono ?_
   rintro e w2 ⟨rfl,τ2,hs2⟩
   have Hs2:=Lib.hid hs2
   clear hs2
   go_wp2_with fail
   go_round
   case rel=>exact⟨i+1,τ2,by omega,by simp,Hp.out.step Hs2.out (fun _ _ h=>h),Hst.out.trans (Hs2.out.mono (fun _ h=>h.elim))⟩
   case measure=>simp[intOf];omega
  ·obtain rfl:i=n:=by omega
   obtain⟨Hp,Hst⟩:=hid2 hp hst
   clear hp hst hlr hdr
   go_wp2_with fail
   go_loopw [11] (fun v wr=>∃(j:Nat) (τr:Tags),j≤i+1∧v = .int .i64 (j:Int)∧RPoolAt0 wr τr bp ⟨bl,i,.slice none 0 0,br,stampTo D j⟩ 0∧Step w τ wr τr RPoolTag) (fun v _=>i+1-(intOf v).toNat)
   case atStart=>exact⟨0,τr,Nat.zero_le _,rfl,Hp.out,Hst.out⟩
   case round =>
    clear Hp Hst
    obtain⟨j,τr,hj,rfl,hp,hst⟩:=hrel
    by_cases hlt:j<i+1
    ·have hstd:=hst.drew
     have hsec:=Qmr hp.hd.drew (by show RLogAt _ _ bl _ _;exact Hl.out.step hstd (fun g hg hS=>by rcases hg with rfl|rfl|rfl <;> simp[RPoolTag,Qdc,tRFr,tRClk,tRLog,Qee,Qef] at hS)) (Hd.out.step hstd (fun g hg=>by rcases hg with rfl|rfl|rfl <;> simp[RDevTag,Qdc,tRFr,tRClk,tData])) j (by rw[Hm.out];omega)
     have hmax:stampTo D (j+1)=max (stampTo D j) (greatTo (lastTo D j 4) 4):=rfl
     have hmx:=fun (W:World) (ts:Array TypeId) (t:TypeId)=>Qr4 (P:=Tryz.prog) W ts t _ _ _ hmax
     have c5:=hp.hd.at 4 (v:=.int .u64 (stampTo D j:Int)) rfl
     have hj4:IntKind.i64.wrap (4*(j:Int))=4*(j:Int):=by rw[IntKind.wrap_i64];omega
     obtain⟨Hsec,Hp,Hst⟩:=hid3 hsec hp hst
     clear hsec hp hst
     generalize hS1:stampTo D (j+1)=s1 at *
     generalize hS0:stampTo D j=s0 at *
     go_wp2_with fail
     refine Qaf (S:=fun w':World=>w'.cell? ⟨bp,4,none⟩=some (.int .u64 (s0:Int))) (by kernel_rfl) ?_
     have hSS:wr.drew.cell? ⟨bp,4,none⟩=some (.int .u64 (s0:Int)):=c5
     refine tk0 [0,1,2,3,4,5,6,7] ?_
     iterate 8
      refine tks (v:=?_) rfl (Or.inl ⟨by rfl,?_⟩) (by assumption) ?_
      rotate_left
      ·intro w hSw;(try dsimp only at hSw);go_simp
       all_goals with_reducible rfl
      try simp only[Act.put,lz1,lz2,lz3]
     refine tk9 ?_
     clear hSS
     refine tk1 8 rfl fun K hK=>?_
     go_simp
     go_at_call 180
     refine Hsec.out.mono ?_
     rintro e w2 ⟨u2,τ2,rfl,hr2,hs2⟩
     have hp2:=(Hp.out.step (Step.refl wr τr nil).drew (fun _ _ h=>h)).step hs2 (fun _ _ h=>h)
     have d5:=hp2.hd.at 4 (v:=.int .u64 (s0:Int)) rfl
     have hgr:=Qqs hr2.row
     rw[Qbe] at hgr
     obtain⟨pu,cu,rfl⟩:=hr2.val
     obtain⟨Hp2,Hs2,Hgr⟩:=hid3 hp2 hs2 hgr
     clear hp2 hs2 hgr hr2
     refine hK.out _ _ (fun _=>d5) ?_
     clear hK K
     refine tk1 9 rfl fun K hK=>?_
     go_simp
     go_at_call 179
     refine Hgr.out.mono ?_
     rintro e w3 ⟨rfl,hs3⟩
     have hp3:=Hp2.out.step hs3 (fun _ _ h=>h)
     have e5:=hp3.hd.at 4 (v:=.int .u64 (s0:Int)) rfl
     have f5:=hp3.hd.fz 4
     have hpf:=hp3.setSt (max s0 (greatTo (lastTo D j 4) 4))
     obtain⟨Hp3,Hs3,Hpf⟩:=hid3 hp3 hs3 hpf
     clear hp3 hs3 hpf
     refine hK.out _ _ (fun _=>e5) ?_
     clear hK K
     refine tk1 10 rfl fun K hK=>?_
     go_simp
     refine hK.out _ _ (fun _=>e5) ?_
     clear hK K
     refine tk1 11 rfl fun K hK=>?_
     go_simp
     refine hK.out _ _ (fun _=>e5) ?_
     clear hK K
     refine tk1 12 rfl fun K hK=>?_
     go_simp
     refine hK.out _ _ (fun _=>e5) ?_
     clear hK K
     refine tk1 13 rfl fun K hK=>?_
     go_simp
     refine hK.out _ _ (fun h=>absurd h (by decide +kernel)) ?_
     clear hK K
     refine Qad (by kernel_rfl) ?_ _
     go_wp2_with fail
     go_round
     case rel=>exact⟨j+1,τ2,by omega,by simp,by rw[hS1,hmax];exact Hpf.out.1,Hst.out.drew.trans (((Hs2.out.trans Hs3.out).mono (T:=RPoolTag) (fun _ h=>h.elim)).trans (Hpf.out.2.mono (T:=RPoolTag) (fun _ h=>.inl h)))⟩
     case measure=>simp[intOf];omega
    ·obtain rfl:j=i+1:=by omega
     generalize hS:stampTo D (i+1)=S1 at *
     obtain⟨Hp,Hst,HS⟩:=hid3 hp hst hS
     clear hp hst hS
     go_wp2_with fail
     go_loopw [12] (fun v wr=>∃(q:Nat) (τr:Tags) (vf:Value),q≤k∧v = .int .i64 (q:Int)∧RPoolAt0 wr τr bp ⟨bl,i,vf,br,S1⟩ q∧Step w τ wr τr RPoolTag) (fun v _=>k-(intOf v).toNat)
     case atStart=>exact⟨0,τr,_,Nat.zero_le _,rfl,Hp.out,Hst.out⟩
     case round =>
      clear Hp Hst
      obtain⟨q,τr,vf,hq,rfl,hp,hst⟩:=hrel
      by_cases hlt:q<k
      ·have c2:=hp.hd.at 2 (v:=vf) rfl
       have hpd:=hp.step (Step.refl wr τr nil).drew (fun _ _ h=>h)
       clear hpd
       obtain⟨Hp,Hst⟩:=hid2 hp hst
       clear hp hst
       go_wp2_with (at_builtin;refine Qie Hp.out.fr (by omega) rfl rfl _ _ rfl rfl rfl ?_;intro v3 w3 τ3 hb3 hs3
                    obtain⟨p3,n3,rfl⟩:=hb3.len
                    have hpv:=Hp.out.setVf hs3 hb3 (by omega)
                    have hd3:=Hp.out.hd.step hs3 (by decide)
                    have c3:=hd3.at 2 (v:=vf) rfl
                    have z3:=hd3.fz 2
                    obtain⟨Hpv,Hs3⟩:=hid2 hpv hs3
                    clear hpv hs3
                    clear hb3 hd3)
       go_round
       case rel =>
        have hr1:=Hpv.out.1
        have hr2:=Hst.out.trans ((Hs3.out.mono (T:=RPoolTag) (fun _ h=>.inr (.inl h))).trans (Hpv.out.2.mono (T:=RPoolTag) (fun _ h=>.inl h)))
        first
         | exact⟨q+1,τ3,_,by omega,by simp,hr1,hr2⟩
         | exact⟨q+1,by omega,by simp,τ3,⟨_,hr1⟩,hr2⟩
         | exact⟨q+1,by omega,τ3,⟨_,hr1⟩,hr2⟩
         | exact⟨q+1,by omega,⟨by simp,τ3,⟨_,hr1⟩,hr2⟩⟩
       case measure=>simp[intOf];omega
      ·obtain rfl:q=k:=by omega
       obtain⟨Hp,Hst⟩:=hid2 hp hst
       clear hp hst
       go_wp2_with fail
       go_ret2
       exact⟨bp,τr,_,rfl,Hp.out,rfl,rfl,HS.out.symm,Hlow.out,Hst.out⟩
end Go.Proofs.YtemacanaihaldaaGreat