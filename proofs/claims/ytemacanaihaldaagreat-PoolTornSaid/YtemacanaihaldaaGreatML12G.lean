/-
 made: a log and a pool over an empty device,of any number of pages;each page's first version.
-/
import Derived.Test.YtemacanaihaldaaGreatMSortM
import Derived.Test.YtemacanaihaldaaGreatMR12C
set_option maxRecDepth 100000
set_option maxHeartbeats 4000000
set_option linter.all false
namespace Go.Proofs.YtemacanaihaldaaGreat
variable {D:Dev}{L:LogM}{bd bf bp bv bws cv cx j n:Nat}{v was:Value}{w w':World}{x:List Int}{τ τ':Tags}
open Go.RowKit
def tVer (n:Nat):Tag:=(73,n)
theorem Jer (n:Nat):(tVer n).1=73:=rfl
structure Vers (w:World) (τ:Tags) (v:Value) (vs:List (List (List Int))):Prop where
 row:∃xs,Buf w τ tWas 52 1 v vs.length xs∧∀(n:Nat) (ver:List (List Int)),vs[n]?=some ver→∃u,xs[n]?=some u∧NV 0 w τ (tVer n) u ver
theorem Vers.step {S:Tag→Prop} {vs:List (List (List Int))}(h:Vers w τ v vs) (m:Step w τ w' τ' S) (h1:¬S tWas) (h2:∀n,¬S (tVer n)) (h3:¬S tData):Vers w' τ' v vs:=by
 obtain⟨xs,hb,hx⟩:=h.row
 exact⟨xs,hb.step m h1,fun n ver hn=>by
  obtain⟨u,a,b⟩:=hx n ver hn
  exact⟨u,a,b.step m (h2 n) h3⟩⟩
theorem Vers.val {vs:List (List (List Int))}(h:Vers w τ v vs):∃p c,v = .slice p vs.length c:=by
 obtain⟨xs,hb,_⟩:=h.row
 exact hb.len
theorem Jde {vs:List (List (List Int))}(hv:Vers w τ v vs) (hn:vs.length≤1000) {u:Value}{ver:List (List Int)}(hu:NV 0 w τ (tVer vs.length) u ver) {kb:Nat}(hkb:kb=w.heap.size)
 {ops:Array Oper} {o:Oper} {a:Act} {K:Act→World→Prop} {Q:Exit→Act→World→Prop} {E:Prop} (hgd:o.guard=none) (s y:Operand)
 (ho:o.op = .call {callee:=.builtin .append,args:=#[s,y],argTypes:=#[31,31]}) (hs:a.eval s=v) (hy:a.eval y = .slice (some ⟨kb,0,none⟩) 1 1)
 (h:∀v' w' τ',Vers w' τ' v' (vs++[ver])→Step w τ w' τ' (fun t=>t=tWas)→K (a.put o.dst v') w'):if Region.wanted o (yielded ops a.tmps)=true then Oper.wp Tryz.prog o a (w.alloc (.cells #[u] 52)) K Q else E:=by
 subst hkb
 obtain⟨xs,hbuf,hx⟩:=hv.row
 have hw:Region.wanted o (yielded ops a.tmps)=true:=by simp[Region.wanted,hgd]
 rw[if_pos hw]
 obtain⟨p,c,rfl⟩:=hu.val
 obtain⟨i0,hi,hz0,hz1,hz2⟩:=info_parts Tryz.infoBlocks
 have hal:Step w τ (w.alloc (.cells #[.slice p ver.length c] 52)) τ Go.Proofs.YtemacanaihaldaaGreat.nil:=(Step.refl w τ Go.Proofs.YtemacanaihaldaaGreat.nil).alloc' _
 have hbuf2:=hbuf.step hal (fun h=>h)
 obtain⟨v',w',τ',hr,hb',he,hm,hnw⟩:=Qap (P:=Tryz.prog) (w.alloc (.cells #[.slice p ver.length c] 52)) τ tWas 31 o.type 52 i0 (.slice none 0 0) 1 24 Tryz.underlying31 hi hz0 hz1 hz2 rfl (by decide) v vs.length xs hbuf2
  (some ⟨w.heap.size,0,none⟩) 1 1 [.slice p ver.length c] rfl (fun h=>by cases h) (by
    intro ad had;cases had;exact World.news_of_block (cs:=#[.slice p ver.length c]) (t := 52) (fr:=(0,0)) (heap_alloc_new w _)) (by simp[Value.oneCell']) (by unfold maxLen;omega) (by omega)
 have hstp:Step w τ w' τ' (fun t=>t=tWas):=(hal.mono (fun _ h=>h.elim)).trans ⟨hm.mono (fun k hk hS=>(hbuf2.own k hS).1),he⟩
 have hxl:xs.length=vs.length:=by have:=hbuf.1;omega
 unfold Oper.wp execOp
 simp only[ho,resolve,invoke,builtin,Sem.run_bind,Sem.run_pure,Result.andThen_ok,List.map_toArray,List.map_cons,List.map_nil,hs,hy,hr]
 refine h v' w' τ' ⟨xs++[.slice p ver.length c],by rw[List.length_append];exact hb',fun n ve hne=>?_⟩ hstp
 by_cases hlt:n<vs.length
 ·rw[List.getElem?_append_left hlt] at hne
  obtain⟨u,a1,a2⟩:=hx n ve hne
  exact⟨u,by rw[List.getElem?_append_left (by omega)];exact a1,a2.step hstp (by simp[tVer,tWas]) (by decide)⟩
 ·rw[List.getElem?_append_right (by omega)] at hne
  have hj0:n-vs.length=0:=by
   have:=(List.getElem?_eq_some_iff.1 hne).1
   simp at this;omega
  rw[hj0] at hne
  have hvv:ver=ve:=by simpa using hne
  subst hvv
  have hnn:n=vs.length:=by omega
  subst hnn
  exact⟨_,by rw[List.getElem?_append_right (by omega),show vs.length-xs.length=0 by omega];rfl,hu.step hstp (by simp[tVer,tWas]) (by decide)⟩
structure MadeV (w:World) (τ:Tags) (bw bd bl bp bf k:Nat) (was:Value) (vs:List (List (List Int))) (H:PoolH) (L:LogM) (D:Dev) (F:List Fr) (s:Ck.Clk.St):Prop where
 own:Own w τ bw Jc1 33 [.pointer (some ⟨bd,0,none⟩),.pointer (some ⟨bl,0,none⟩),.pointer (some ⟨bp,0,none⟩),.int .i64 (k:Int),was]
 was:Vers w τ was vs
 pool:PoolW w τ bp bf bd H L D F s
theorem MadeV.step {bw bl k:Nat} {vs:List (List (List Int))} {H:PoolH} {F:List Fr} {s:Ck.Clk.St}(h:MadeV w τ bw bd bl bp bf k was vs H L D F s) (m:Step w τ w' τ' Go.Proofs.YtemacanaihaldaaGreat.nil):MadeV w' τ' bw bd bl bp bf k was vs H L D F s :=
 ⟨h.own.step m (fun h=>h),h.was.step m (fun h=>h) (fun _ h=>h) (fun h=>h),h.pool.step m (fun _ h=>h.elim)⟩
def mgD0 (N:Nat):Dev:=⟨List.replicate 100 zsec,List.replicate (4*(N+1)) zsec,none,false⟩
def mgD (N:Nat):Dev:=Qbl (mgD0 N)
theorem Jgj (N:Nat):(mgD N).f1=List.replicate (4*(N+1)) zsec:=Qot (mgD0 N)
theorem Jdi (N:Nat):(mgD N).f1.length=4*(N+1):=by rw[Jgj,List.length_replicate]
theorem Jc5 (N i:Nat) (hi:i<N+1):lastTo (mgD N) i 4=blank:=Qsp (Jgj N) i (by omega)
theorem Jdh (N:Nat):(mgD0 N).f0.length=100:=List.length_replicate
theorem Jf9 (N:Nat):(mgD0 N).lim 0:=Qzq 100 _
def Jcy (i:Nat):List (List (List Int)):=(List.range i).map (fun n=>[emptyPage n])
theorem Jd9 (i:Nat):Jcy (i+1)=Jcy i++[[emptyPage i]]:=by simp[Jcy,List.range_succ]
theorem Jcw (i:Nat):(Jcy i).length=i:=by simp[Jcy]
theorem Jgb (w:World) (pg fr:Nat) (hpg:pg<256) (hfr:fr<256) {N:Nat}(hN:1+pg%8=N):Calls Tryz.prog 8 #[.int .u8 (pg:Int),.int .u8 (fr:Int)] w fun e w'=>∃(bw bd bl bp bf:Nat) (τ':Tags) (was:Value) (H:PoolH),e = .returned (.pointer (some ⟨bw,0,none⟩))∧MadeV w' τ' bw bd bl bp bf (3+fr%5) was (Jcy N) H (walNewLog 100) (mgD N) (List.replicate (3+fr%5) Fr.no) (Ck.Clk.newS (3+fr%5))∧H.n=N∧H.st=stampTo (mgD N) (N+1)∧H.bl=bl∧Step w (fun _=>tBox) w' τ' AnyTag:=by
 have hN8:1≤N∧N≤8:=by omega
 have hnd:Calls Tryz.prog 44 #[.int .i64 100,.int .i64 (4*((N:Int)+1))] w (NewD w (fun _=>tBox) 100 (4*(N+1))):=by
  have:=Qmx w (fun _=>tBox) 100 (4*(N+1)) (by omega) (by omega)
  rw[show ((4*(N+1):Nat):Int)=4*((N:Int)+1) by omega] at this
  exact this
 obtain⟨L0,hL0⟩:∃L0,walNewLog (mgD0 N).f0.length=L0:=⟨_,rfl⟩
 have hL0':walNewLog 100=L0:=by rw[←hL0,Jdh]
 rw[hL0']
 have hK:Qbl (mgD0 N)=mgD N:=rfl
 have e0:IntKind.u8.wrap ((pg:Int)%8)=(pg:Int)%8:=by
  have:IntKind.u8.wrap ((pg:Int)%8)=((pg:Int)%8)%256:=by simp[IntKind.wrap,IntKind.bits,IntKind.signed]
  rw[this];omega
 have hNI:(1:Int)+(pg:Int)%8=(N:Int):=by omega
 have e1:IntKind.u8.wrap ((fr:Int)%5)=(fr:Int)%5:=by
  have:IntKind.u8.wrap ((fr:Int)%5)=((fr:Int)%5)%256:=by simp[IntKind.wrap,IntKind.bits,IntKind.signed]
  rw[this];omega
 obtain⟨k,hk⟩:∃k,3+fr%5=k:=⟨_,rfl⟩
 have hkI:(3:Int)+(fr:Int)%5=(k:Int):=by omega
 have hk3:3≤k∧k≤7:=by omega
 rw[hk]
 obtain⟨Hnd,HL0,HK,Hk,HkI⟩:=hid5 hnd hL0 hK hk hkI
 have HL0':=Lib.hid hL0'
 clear hnd hL0 hK hk hkI hL0'
 go_enter Tryz.func8,Tryz.ntmps8
 go_wp2_with fail
 refine Hnd.out.mono ?_
 rintro e w1 ⟨bd,rfl,hlow1,τ1,he1,hm1,hd1⟩
 have hd1':DevAt w1 τ1 bd (mgD0 N):=hd1
 have hs1:Step w (fun _=>tBox) w1 τ1 AnyTag:=Step.of _ hm1 he1
 have ho2:=Own.new w1 τ1 Jc1 33 [.pointer (some ⟨bd,0,none⟩),.pointer none,.pointer none,.int .i64 (k:Int),.slice none 0 0]
 have hq2:=(Step.refl w1 τ1 nil).alloc (.cells ⟨[.pointer (some ⟨bd,0,none⟩),.pointer none,.pointer none,.int .i64 (k:Int),.slice none 0 0]⟩ 33) Jc1
 have hd2:=hd1'.step hq2 (fun _ h=>h.elim)
 have hst2:=hs1.trans (hq2.mono (T:=AnyTag) (fun _ h=>h.elim))
 generalize τ1.put w1.heap.size Jc1=τ2 at *
 obtain⟨bw,hbw⟩:∃bw,w1.heap.size=bw:=⟨_,rfl⟩
 rw[hbw] at ho2
 obtain⟨Ho2,Hd2,Hst2,Hbw⟩:=hid4 ho2 hd2 hst2 hbw
 clear ho2 hd2 hst2 hbw hd1 he1 hm1 hd1' hs1 hq2
 go_wp2_with fail
 rw[Hbw.out,HkI.out]
 generalize w1.alloc (.cells #[.pointer (some ⟨bd,0,none⟩),.pointer none,.pointer none,.int .i64 (k:Int),.slice none 0 0] 33)=w2 at *
 have hnew:=Qmj Hd2.out (by rw[(Jdh N)];omega) (Dev.lim_mono (Jf9 N) (by omega))
 rw[HL0.out,HK.out] at hnew
 have Hnew:=Lib.hid hnew
 clear hnew
 refine Hnew.out.mono ?_
 rintro e w4 ⟨bl,τ4,rfl,-,hl4,hd4,hs4⟩
 have ho4:=Ho2.out.step hs4 (fun h=>by have:=h.fst;rw[Jc0] at this;omega)
 have hst4:=Hst2.out.trans (hs4.mono (T:=AnyTag) (fun g hg=>by have:=hg.fst;show g.1≠90;omega))
 have c3:=ho4.at 3 (v:=.int .i64 (k:Int)) rfl
 have hpn:Calls Tryz.prog 14 #[.pointer (some ⟨bl,0,none⟩),.int .i64 (N:Int),.int .i64 (k:Int)] w4 fun e w'=>∃bp bf τ' H,e = .returned (.tuple #[.pointer (some ⟨bp,0,none⟩),.int .u16 0])∧PoolAt w' τ' bp bf H (List.replicate k Fr.no) (Ck.Clk.newS k)∧H.bl=bl∧H.n=N∧H.st=stampTo (mgD N) (N+1)∧w4.heap.size≤bp∧Step w4 τ4 w' τ' nil :=
  Qkv hl4 hd4 N k (by omega) (by omega) (by omega) (by omega) (by rw[(Jdi N)];omega) (fun i hi=>by rw[Jc5 N i (by omega)];exact Qj2)
 obtain⟨Ho4,Hl4,Hd4,Hst4,Hpn⟩:=hid5 ho4 hl4 hd4 hst4 hpn
 clear ho4 hl4 hd4 hst4 hpn hs4
 go_wp2_with fail
 refine Hpn.out.mono ?_
 rintro e w5 ⟨bp,bf,τ5,H,rfl,hp5,hHl,hHn,hHs,-,hs5⟩
 have ho5:=Ho4.out.step hs5 (fun h=>h)
 have hl5:=Hl4.out.step hs5 (fun _ _ h=>h)
 have hd5:=Hd4.out.step hs5 (fun _ h=>h.elim)
 have hst5:=Hst4.out.trans (hs5.mono (T:=AnyTag) (fun _ h=>h.elim))
 have c1:=ho5.at 1 (v:=.pointer none) rfl
 have z1:=ho5.fz 1
 have c2:=ho5.at 2 (v:=.pointer none) rfl
 have z2:=ho5.fz 2
 have ho6:=(ho5.set 1 (.pointer (some ⟨bl,0,none⟩))).set 2 (.pointer (some ⟨bp,0,none⟩))
 have hq6:Step w5 τ5 ((w5.setCell ⟨bw,1,none⟩ (.pointer (some ⟨bl,0,none⟩))).setCell ⟨bw,2,none⟩ (.pointer (some ⟨bp,0,none⟩))) τ5 (fun t=>t=Jc1):=((Step.refl w5 τ5 (fun t=>t=Jc1)).set (o:=1) ho5.tag rfl _).set (o:=2) (ho5.set 1 (.pointer (some ⟨bl,0,none⟩))).tag rfl _
 have hP6:PoolW ((w5.setCell ⟨bw,1,none⟩ (.pointer (some ⟨bl,0,none⟩))).setCell ⟨bw,2,none⟩ (.pointer (some ⟨bp,0,none⟩))) τ5 bp bf bd H L0 (mgD N) (List.replicate k Fr.no) (Ck.Clk.newS k) :=
  (PoolW.mk hp5 (by rw[hHl];exact hl5) hd5).step hq6 (fun g hg=>by
    subst hg
    exact⟨fun h=>by have:=h.fst;rw[Jc0] at this;omega,fun h=>by have:=h.fst;rw[Jc0] at this;omega,fun h=>by have:=h.fst;rw[Jc0] at this;omega,by decide⟩)
 have hM6:MadeV ((w5.setCell ⟨bw,1,none⟩ (.pointer (some ⟨bl,0,none⟩))).setCell ⟨bw,2,none⟩ (.pointer (some ⟨bp,0,none⟩))) τ5 bw bd bl bp bf k (.slice none 0 0) (Jcy 0) H L0 (mgD N) (List.replicate k Fr.no) (Ck.Clk.newS k) :=
  ⟨ho6,⟨[],Buf.nil _ _ _ _ _,fun n ver h=>by simp[Jcy] at h⟩,hP6⟩
 have hst6:=hst5.trans (hq6.mono (T:=AnyTag) (fun g hg=>by show g.1≠90;rw[hg];decide))
 obtain⟨HM6,HHn,Hst6,HHs⟩:=hid4 hM6 hHn hst6 hHs
 clear hM6 hHn hst6 hHs
 have HHl:=Lib.hid hHl
 clear hp5 hl5 hd5 hst5 hs5 ho5 ho6 hq6 hP6 hHl
 go_wp2_with fail
 generalize (w5.setCell ⟨bw,1,none⟩ (.pointer (some ⟨bl,0,none⟩))).setCell ⟨bw,2,none⟩ (.pointer (some ⟨bp,0,none⟩))=w6 at *
 go_loopw [11] (fun v wr=>∃(i:Nat) (τr:Tags) (was:Value),i≤N∧v = .int .i64 (i:Int)∧MadeV wr τr bw bd bl bp bf k was (Jcy i) H L0 (mgD N) (List.replicate k Fr.no) (Ck.Clk.newS k)∧Step w (fun _=>tBox) wr τr AnyTag) (fun v _=>N-(intOf v).toNat)
 case atStart=>exact⟨0,τ5,_,Nat.zero_le _,rfl,HM6.out,Hst6.out⟩
 case round =>
  clear HM6 Hst6 c1 z1 c2 z2 c3
  obtain⟨i,τr,was,hi,rfl,hM,hst⟩:=hrel
  by_cases hlt:i<N
  ·have c4:=hM.own.at 4 (v:=was) rfl
   obtain⟨pw,cw,rfl⟩:=hM.was.val
   rw[Jcw] at hM c4
   have hi8:(i:Int)<8:=by omega
   have hwu:IntKind.u32.wrap (i:Int)=(i:Int):=Qb1 i (by omega)
   have hnw:=Qk3 wr.drew τr tData i (by omega)
   have hMd:=hM.step (Step.refl wr τr nil).drew
   have hst0:=hst.drew
   obtain⟨Hnw,HMd,HM,Hst0⟩:=hid4 hnw hMd hM hst0
   clear hnw hMd hM hst0 hst
   go_wp2_with fail
   refine Qaf (S:=fun w':World=>w'.cell? ⟨bw,4,none⟩=some (.slice pw i cw)) (by kernel_rfl) ?_
   have hSS:wr.drew.cell? ⟨bw,4,none⟩=some (.slice pw i cw):=c4
   refine tk0 [0,1,2,3,4,5,6] ?_
   iterate 7
    refine tks (v:=?_) rfl (Or.inl ⟨by rfl,?_⟩) (by assumption) ?_
    rotate_left
    ·intro w hSw;(try dsimp only at hSw);go_simp
     all_goals with_reducible rfl
    try simp only[Act.put,lz1,lz2,lz3]
   refine tk9 ?_
   clear hSS
   refine tk1 7 rfl fun K hK=>?_
   go_simp
   go_at_call 46
   refine Hnw.out.mono ?_
   rintro e w7 ⟨b7,τ7,rfl,-,hpg7,hs7⟩
   have hM7:=HMd.out.step hs7
   have hby:=Qhy hpg7 tData
   have d4:=hM7.own.at 4 (v:=.slice pw i cw) rfl
   have hst7:=Hst0.out.trans (hs7.mono (T:=AnyTag) (fun _ h=>h.elim))
   obtain⟨HM7,Hby,Hst7⟩:=hid3 hM7 hby hst7
   clear hM7 hby hst7 hs7 hpg7
   refine hK.out _ _ (fun _=>d4) ?_
   clear hK K
   refine tk1 8 rfl fun K hK=>?_
   go_simp
   go_at_call 18
   refine Hby.out.mono ?_
   rintro e w8 ⟨v8,τ8,rfl,hn8,hs8⟩
   have hM8:=HM7.out.step hs8
   have e4:=hM8.own.at 4 (v:=.slice pw i cw) rfl
   obtain⟨p8,c8,rfl⟩:=hn8.val
   have hal9:=(Step.refl w8 τ8 nil).alloc (.cells #[.slice p8 (emptyPage i).length c8] 37) (tVer i)
   have hM9:=hM8.step hal9
   have hu9:NV 0 (w8.alloc (.cells #[.slice p8 (emptyPage i).length c8] 37)) (τ8.put w8.heap.size (tVer i)) (tVer i) (.slice (some ⟨w8.heap.size,0,none⟩) 1 1) [emptyPage i]:=by
    refine⟨⟨[.slice p8 (emptyPage i).length c8],⟨rfl,.inr ⟨w8.heap.size,1,[],rfl,?_,Nat.le_refl _,Nat.le_refl _,by unfold maxLen;omega⟩⟩,fun k x hx=>?_⟩,fun _ _=>Nat.zero_le _⟩
    ·exact Own.born w8 τ8 (tVer i) 37 #[.slice p8 (emptyPage i).length c8]
    ·cases k with
     | zero =>
       have:emptyPage i=x:=by simpa using hx
       subst this
       exact⟨_,rfl,hn8.bytes.step hal9 (fun h=>h)⟩
     | succ k=>simp at hx
   have e49:=hM9.own.at 4 (v:=.slice pw i cw) rfl
   have hst9:=(Hst7.out.trans (hs8.mono (T:=AnyTag) (fun _ h=>h.elim))).trans (hal9.mono (T:=AnyTag) (fun _ h=>h.elim))
   generalize (emptyPage i).length=m8 at *
   obtain⟨HM8,HM9,Hst9,Hu9⟩:=hid4 hM8 hM9 hst9 hu9
   clear hM8 hM9 hst9 hu9 hs8 hn8 hal9
   refine hK.out _ _ (fun _=>e4) ?_
   clear hK K
   refine tk1 9 rfl fun K hK=>?_
   go_simp
   refine hK.out _ _ (fun _=>e49) ?_
   clear hK K
   refine tk1 10 rfl fun K hK=>?_
   go_simp
   refine hK.out _ _ (fun _=>(HM9.out.own.alloc _).at 4 rfl) ?_
   clear hK K
   refine tk1 11 rfl fun K hK=>?_
   refine Jde HM9.out.was (by rw[Jcw];omega) (by rw[Jcw];exact Hu9.out) (by simp) rfl _ _ rfl rfl rfl ?_
   intro v3 w3 τ3 hb3 hs3
   rw[←Jd9] at hb3
   obtain⟨p3,n3,hv3⟩:=hb3.val
   rw[Jcw] at hv3
   subst hv3
   have ho3:=HM9.out.own.step hs3 (by decide)
   have g4:=ho3.at 4 (v:=.slice pw i cw) rfl
   have z4:=ho3.fz 4
   have hP3:=HM9.out.pool.step hs3 (fun g hg=>by
    subst hg
    exact⟨fun h=>by have:=h.fst;rw[Jdf] at this;omega,fun h=>by have:=h.fst;rw[Jdf] at this;omega,fun h=>by have:=h.fst;rw[Jdf] at this;omega,by decide⟩)
   have hq3:Step w3 τ3 (w3.setCell ⟨bw,4,none⟩ (.slice p3 (i+1) n3)) τ3 (fun t=>t=Jc1):=(Step.refl w3 τ3 (fun t=>t=Jc1)).set ho3.tag rfl _
   have hM3:MadeV (w3.setCell ⟨bw,4,none⟩ (.slice p3 (i+1) n3)) τ3 bw bd bl bp bf k (.slice p3 (i+1) n3) (Jcy (i+1)) H L0 (mgD N) (List.replicate k Fr.no) (Ck.Clk.newS k) :=
    ⟨ho3.set 4 _,hb3.step hq3 (by decide) (fun n=>by simp[tVer,Jc1]) (by decide),hP3.step hq3 (fun g hg=>by
     subst hg
     exact⟨fun h=>by have:=h.fst;rw[Jc0] at this;omega,fun h=>by have:=h.fst;rw[Jc0] at this;omega,fun h=>by have:=h.fst;rw[Jc0] at this;omega,by decide⟩)⟩
   have hst3:=(Hst9.out.trans (hs3.mono (T:=AnyTag) (fun g hg=>by show g.1≠90;rw[hg];decide))).trans (hq3.mono (T:=AnyTag) (fun g hg=>by show g.1≠90;rw[hg];decide))
   obtain⟨HM3,Hst3⟩:=hid2 hM3 hst3
   clear hM3 hst3 ho3 hb3 hs3 hP3 hq3
   refine hK.out _ _ (fun _=>g4) ?_
   clear hK K
   refine tk1 12 rfl fun K hK=>?_
   go_simp
   refine hK.out _ _ (fun _=>g4) ?_
   clear hK K
   refine tk1 13 rfl fun K hK=>?_
   go_simp
   refine hK.out _ _ (fun _=>g4) ?_
   clear hK K
   refine tk1 14 rfl fun K hK=>?_
   go_simp
   refine hK.out _ _ (fun h=>absurd h (by decide +kernel)) ?_
   clear hK K
   refine Qad (by kernel_rfl) ?_ _
   go_wp2_with fail
   go_round
   case rel =>
    have hr1:=HM3.out
    have hr2:=Hst3.out
    first
     | exact⟨i+1,τ3,_,by omega,by simp,hr1,hr2⟩
     | exact⟨i+1,by omega,by simp,τ3,⟨_,hr1⟩,hr2⟩
     | exact⟨i+1,by omega,τ3,⟨_,hr1⟩,hr2⟩
   case measure=>simp[intOf];omega
  ·obtain rfl:i=N:=by omega
   obtain⟨HM,Hst⟩:=hid2 hM hst
   clear hM hst
   go_wp2_with fail
   go_ret
   exact⟨bw,bd,bl,bp,bf,τr,was,H,rfl,HM.out,HHn.out,HHs.out,HHl.out,Hst.out⟩
theorem Jfj (N i:Nat) (hi:i≤100):Qa7 (mgD0 N) 0 [] i=(mgD0 N,false):=by
 induction i with
 | zero=>rfl
 | succ i ih =>
   show (if (Qa7 (mgD0 N) 0 [] i).1.last 0 (0+i)=Qck [] i then Qa7 (mgD0 N) 0 [] i else _)=_
   rw[ih (by omega),if_pos]
   show ((List.replicate 100 zsec)[0+i]?.map Sec.newest).getD []=zeros128
   rw[List.getElem?_replicate,if_pos (by omega)]
   rfl
theorem Jeu (N:Nat):mgD N=(mgD0 N).lay 0 (Qb8 (mgD0 N).f0.length).said.slot [(Qb8 (mgD0 N).f0.length).said.head]:=by
 unfold mgD Qbl
 have hm:(mgD0 N).make 0 (mgD0 N).f0.length []=mgD0 N:=by
  unfold Dev.make
  rw[Jdh,Jfj N 100 (Nat.le_refl _),if_neg (by simp)]
 rw[hm]
 unfold Qf9 Dev.lay
 rfl
theorem Jd7 (N:Nat):(mgD0 N).Calm:=by
 refine⟨rfl,fun f k s hs=>?_⟩
 unfold Dev.file at hs
 split at hs
 ·have:=List.mem_of_getElem? hs
  rw[List.eq_of_mem_replicate this];rfl
 ·split at hs
  ·have:=List.mem_of_getElem? hs
   rw[List.eq_of_mem_replicate this];rfl
  ·simp at hs
theorem Jdg (N:Nat):(mgD N).Calm:=by
 rw[Jeu]
 exact(Jd7 N).lay (by omega) _ _
theorem Jd6 (N:Nat):(mgD N).f0.length=100:=by
 rw[Jeu]
 have h:∀(E:Dev),E.file 0=E.f0:=fun E=>rfl
 rw[←h,Dev.lay_length _ _ _ (by omega),h,Jdh]
theorem mgL:(walNewLog 100).base=1∧(walNewLog 100).stream=[]∧(walNewLog 100).starts=[]∧(walNewLog 100).strips=49∧(walNewLog 100).firstS=2∧(walNewLog 100).lasts=0:=⟨rfl,rfl,rfl,rfl,rfl,rfl⟩
theorem Jgl (N k st:Nat) (hN:N≤8):Good N st (walNewLog 100) (mgD N) (List.replicate k Fr.no) emptyPage:=by
 obtain⟨e1,e2,e3,e4,e5,e6⟩:=mgL
 generalize walNewLog 100=L at *
 have hno:∀(i:Nat) (f:Fr),(List.replicate k Fr.no)[i]?=some f→f=Fr.no:=fun i f hf=>List.eq_of_mem_replicate (List.mem_of_getElem? hf)
 refine⟨Jdg N,Jdi N,by rw[Jd6,e4,e5];omega,by rw[e2];exact Nat.zero_le _,by rw[e6];exact Nat.zero_le _,⟨fun i j hij hj=>by rw[e3] at hj;simp at hj,fun s hs=>by rw[e3] at hs;simp at hs⟩,by rw[e1];omega,fun n hn=>⟨Qlq n (by omega),Qjo n (by omega),.inl ⟨emptyPage_lsn n,rfl⟩⟩,fun n hn=>⟨emptyPage n,.inl ⟨Jc5 N n (by omega),rfl⟩,fun _=>rfl⟩,fun i f b P hf hp=>?_,fun i f hf _=>hno i f hf,fun i j n f g hf _ hh _=>?_,.inl (Jc5 N N (by omega))⟩
 ·rw[hno i f hf] at hp;cases hp
 ·rw[hno i f hf] at hh;cases hh
theorem Jet (k:Nat) (h3:3≤k) (h64:k≤64):Clock (List.replicate k Fr.no) (Ck.Clk.newS k) :=
 ⟨by rw[List.length_replicate];rfl,by show 0<k;omega,h64,fun i f hf=>by
  rw[List.eq_of_mem_replicate (List.mem_of_getElem? hf)];rfl,fun _=>rfl⟩
theorem Vers.at {vs:List (List (List Int))}(h:Vers w τ v vs) {n:Nat}{ver:List (List Int)}(hn:vs[n]?=some ver):∃b cap u,v = .slice (some ⟨b,0,none⟩) vs.length cap∧τ b=tWas∧vs.length≤cap∧cap≤maxLen∧w.cell? ⟨b,n,none⟩=some u∧w.frozen? ⟨b,n,none⟩=false∧NV 0 w τ (tVer n) u ver:=by
 obtain⟨xs,⟨h1,⟨rfl,h2⟩|⟨b,cap,ys,rfl,ho,h3,h4,h5⟩⟩,hx⟩:=h.row
 ·have:=(List.getElem?_eq_some_iff.1 hn).1;omega
 ·obtain⟨u,e1,e2⟩:=hx n ver hn
  exact⟨b,cap,u,rfl,ho.tag,h4,h5,ho.at n (by rw[List.getElem?_append_left (List.getElem?_eq_some_iff.1 e1).1];exact e1),ho.fz _,e2⟩
theorem Vers.put {w1:World} {τ1:Tags} {b cap:Nat} {vs:List (List (List Int))}(h:Vers w τ (.slice (some ⟨b,0,none⟩) vs.length cap) vs) {n:Nat}(hn:n<vs.length) (m:Step w τ w1 τ1 (fun t=>t=tVer n)) {u:Value}{ver:List (List Int)}(hu:NV 0 w1 τ1 (tVer n) u ver) :
 Vers (w1.setCell ⟨b,n,none⟩ u) τ1 (.slice (some ⟨b,0,none⟩) vs.length cap) (vs.set n ver)∧Step w1 τ1 (w1.setCell ⟨b,n,none⟩ u) τ1 (fun t=>t=tWas):=by
 obtain⟨xs,⟨h1,h2⟩,hx⟩:=h.row
 rcases h2 with ⟨h2,_⟩|⟨b',cap',ys,hv,ho,h3,h4,h5⟩
 ·cases h2
 ·cases hv
  have ho1:=ho.step m (by simp[tVer,tWas])
  have m2:Step w1 τ1 (w1.setCell ⟨b,n,none⟩ u) τ1 (fun t=>t=tWas):=(Step.refl w1 τ1 (fun t=>t=tWas)).set (o:=n) ho1.tag rfl _
  have ho2:=ho1.set n u
  have hxl:xs.length=vs.length:=by omega
  rw[List.set_append_left _ _ (by omega)] at ho2
  refine⟨⟨xs.set n u,⟨by rw[List.length_set,List.length_set];exact h1,.inr ⟨b,cap,ys,by rw[List.length_set],ho2,by rw[List.length_set];exact h3,by rw[List.length_set];exact h4,h5⟩⟩,fun k ve hk=>?_⟩,m2⟩
  by_cases e:k=n
  ·subst e
   rw[List.getElem?_set_self hn] at hk
   cases hk
   exact⟨u,List.getElem?_set_self (by omega),hu.step m2 (by simp[tVer,tWas]) (by decide)⟩
  ·rw[List.getElem?_set_ne (fun q=>e q.symm)] at hk
   obtain⟨u',a1,a2⟩:=hx k ve hk
   exact⟨u',by rw[List.getElem?_set_ne (fun q=>e q.symm)];exact a1,(a2.step m (by simp[tVer];omega) (by simp[tData,tVer])).step m2 (by simp[tVer,tWas]) (by decide)⟩
theorem Jcr {g:Tag}(h:PWTag g):g≠Jc1∧g≠tWas∧(∀n,g≠tVer n)∧g.1≠90∧g≠tData:=by
 have hf:g.1≠71∧g.1≠72∧g.1≠73∧g.1≠90∧g.1≠1:=by
  rcases h with h|h|h
  ·rcases h with rfl|rfl|rfl|rfl|⟨i,rfl⟩ <;> simp[tPool,tFr,tWhere,tClk,tPg]
  ·rcases h with rfl|rfl|rfl <;> simp[tLog,Qah,Qag]
  ·rcases h with h|h|h|h <;> omega
 refine⟨fun e=>hf.1 (by rw[e];rfl),fun e=>hf.2.1 (by rw[e];rfl),fun n e=>hf.2.2.1 (by rw[e];rfl),hf.2.2.2.1,fun e=>hf.2.2.2.2 (by rw[e];rfl)⟩
theorem MadeV.turn {bw bl k:Nat} {vs:List (List (List Int))} {H H':PoolH} {L':LogM} {D':Dev} {F F':List Fr} {s s':Ck.Clk.St}(h:MadeV w τ bw bd bl bp bf k was vs H L D F s) (m:Step w τ w' τ' PWTag) (hp:PoolW w' τ' bp bf bd H' L' D' F' s'):MadeV w' τ' bw bd bl bp bf k was vs H' L' D' F' s' :=
 ⟨h.own.step m (fun hx=>(Jcr hx).1 rfl),h.was.step m (fun hx=>(Jcr hx).2.1 rfl) (fun n hx=>(Jcr hx).2.2.1 n rfl) (fun hx=>(Jcr hx).2.2.2.2 rfl),hp⟩
theorem Jc8 {g:Tag}(h:PWTag g):AnyTag g:=(Jcr h).2.2.2.1
theorem Jgr:¬PWTag tBox:=fun h=>(Jcr h).2.2.2.1 rfl
structure LastV (w:World) (τ:Tags) (bws n bv j cv:Nat) (px:Option Addr) (cx:Nat) (x:List Int):Prop where
 o1:∃xs,Own w τ bws tWas 52 xs∧xs[n]?=some (.slice (some ⟨bv,0,none⟩) (j+1) cv)
 o2:∃xs,Own w τ bv (tVer n) 37 xs∧xs[j]?=some (.slice px x.length cx)
 by_:Bytes w τ tData (.slice px x.length cx) x
 le:j+1≤cv∧cv≤maxLen
theorem LastV.step {S:Tag→Prop} {px:Option Addr}(h:LastV w τ bws n bv j cv px cx x) (m:Step w τ w' τ' S) (h1:¬S tWas) (h2:¬S (tVer n)) (h3:¬S tData):LastV w' τ' bws n bv j cv px cx x:=by
 obtain⟨xs,a1,a2⟩:=h.o1
 obtain⟨ys,b1,b2⟩:=h.o2
 exact⟨⟨xs,a1.step m h1,a2⟩,⟨ys,b1.step m h2,b2⟩,h.by_.step m h3,h.le⟩
theorem LastV.nil {px:Option Addr}(h:LastV w τ bws n bv j cv px cx x) (m:Step w τ w' τ' nil):LastV w' τ' bws n bv j cv px cx x:=h.step m (fun h=>h) (fun h=>h) (fun h=>h)
theorem LastV.pw {px:Option Addr}(h:LastV w τ bws n bv j cv px cx x) (m:Step w τ w' τ' PWTag):LastV w' τ' bws n bv j cv px cx x:=h.step m (fun hx=>(Jcr hx).2.1 rfl) (fun hx=>(Jcr hx).2.2.1 n rfl) (fun hx=>(Jcr hx).2.2.2.2 rfl)
theorem LastV.c1 {px:Option Addr}(h:LastV w τ bws n bv j cv px cx x):w.cell? ⟨bws,n,none⟩=some (.slice (some ⟨bv,0,none⟩) (j+1) cv):=by
 obtain⟨xs,a1,a2⟩:=h.o1
 exact a1.at n a2
theorem LastV.c2 {px:Option Addr}(h:LastV w τ bws n bv j cv px cx x):w.cell? ⟨bv,j,none⟩=some (.slice px x.length cx):=by
 obtain⟨xs,a1,a2⟩:=h.o2
 exact a1.at j a2
theorem Vers.latest {N m:Nat} {vs:List (List (List Int))} {cur:Nat→List Int}(h:Vers w τ was vs) (hN:vs.length=N) (hl:∀n,n<N→∃ver,vs[n]?=some ver∧0<ver.length∧ver.length≤m+1∧ver.getD (ver.length-1) []=cur n) {n:Nat}(hn:n<N) :
 ∃bws cap bv j cv px cx ver,was = .slice (some ⟨bws,0,none⟩) N cap∧N≤cap∧cap≤maxLen∧LastV w τ bws n bv j cv px cx (cur n)∧j≤m∧vs[n]?=some ver∧ver.length=j+1∧NV 0 w τ (tVer n) (.slice (some ⟨bv,0,none⟩) (j+1) cv) ver:=by
 obtain⟨ver,e1,e2,e3,e4⟩:=hl n hn
 obtain⟨xs,⟨h1,⟨rfl,h2⟩|⟨b,cap,ys,rfl,ho,h3,h4,h5⟩⟩,hx⟩:=h.row
 ·omega
 ·obtain⟨u,x1,x2⟩:=hx n ver e1
  have x2':=x2
  obtain⟨zs,⟨g1,⟨rfl,g2⟩|⟨bv,cv,yz,rfl,go,g3,g4,g5⟩⟩,gx⟩:=x2.row
  ·omega
  ·obtain⟨u',y1,y2⟩:=gx (ver.length-1) (cur n) (by rw[←e4,List.getD_eq_getElem?_getD,List.getElem?_eq_getElem (by omega)];rfl)
   obtain⟨px,cx,rfl,_,_⟩:=y2.any
   have hj:ver.length=ver.length-1+1:=by omega
   have hv:(Value.slice (some ⟨bv,0,none⟩) ver.length cv) = .slice (some ⟨bv,0,none⟩) (ver.length-1+1) cv:=by rw[←hj]
   rw[hN] at h4
   refine⟨b,cap,bv,ver.length-1,cv,px,cx,ver,by rw[hN],h4,h5,⟨⟨xs++ys,ho,?_⟩,⟨zs++yz,go,?_⟩,y2,by omega,g5⟩,by omega,e1,hj,by rw[←hv];exact x2'⟩
   ·rw[List.getElem?_append_left (List.getElem?_eq_some_iff.1 x1).1,x1,hv]
   ·rw[List.getElem?_append_left (List.getElem?_eq_some_iff.1 y1).1,y1]
theorem MadeV.latest {bw bl k N m:Nat} {vs:List (List (List Int))} {H:PoolH} {F:List Fr} {s:Ck.Clk.St} {cur:Nat→List Int}(h:MadeV w τ bw bd bl bp bf k was vs H L D F s) (hN:vs.length=N) (hl:∀n,n<N→∃ver,vs[n]?=some ver∧0<ver.length∧ver.length≤m+1∧ver.getD (ver.length-1) []=cur n) {n:Nat}(hn:n<N) :
 ∃bws cap bv j cv px cx ver,was = .slice (some ⟨bws,0,none⟩) N cap∧N≤cap∧cap≤maxLen∧LastV w τ bws n bv j cv px cx (cur n)∧j≤m∧vs[n]?=some ver∧ver.length=j+1∧NV 0 w τ (tVer n) (.slice (some ⟨bv,0,none⟩) (j+1) cv) ver :=
 h.was.latest hN hl hn
def tOp:Tag:=(74,0)
theorem pw_op:¬PWTag tOp:=by
 rintro(h|h|h)
 ·rcases h with h|h|h|h|⟨i,h⟩ <;> simp[tOp,tPool,tFr,tWhere,tClk,tPg] at h
 ·rcases h with h|h|h <;> simp[tOp,tLog,Qah,Qag] at h
 ·rcases h with h|h|h|h <;> simp[tOp] at h
theorem PoolW.append {H:PoolH} {L':LogM} {F:List Fr} {s:Ck.Clk.St}(h:PoolW w τ bp bf bd H L D F s) (hl:LogAt w' τ' H.bl bd L') (m:Step w τ w' τ' LogTag):PoolW w' τ' bp bf bd H L' D F s :=
 ⟨Quh h.pool (m.mono (fun g hg=>.inl hg)),hl,h.dev.step m (fun g hg=>⟨Qau g hg,fun e=>Qj6 (e▸.inl hg)⟩)⟩
end Go.Proofs.YtemacanaihaldaaGreat