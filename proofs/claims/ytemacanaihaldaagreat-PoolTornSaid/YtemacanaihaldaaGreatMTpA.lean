/-
 The world of the pool's laws,its device to be halted: what is known;a page got,put back.
-/
import Derived.Test.YtemacanaihaldaaGreatML12G
import Derived.Test.YtemacanaihaldaaGreatMGetT
set_option maxRecDepth 100000
set_option maxHeartbeats 4000000
set_option linter.all false
namespace Go.Proofs.YtemacanaihaldaaGreat
variable {D:Dev}{L:LogM}{N b bd bf bl bp bw i k m n:Nat}{w:World}{was:Value}{τ:Tags}
open Go.RowKit
structure AllT (w:World) (τ:Tags) (bw bd bl bp bf k N m:Nat) (was:Value) (vs:List (List (List Int))) (H:PoolH) (L:LogM) (D:Dev) (F:List Fr) (s:Ck.Clk.St) (cur:Nat→List Int):Prop where
 mv:MadeV w τ bw bd bl bp bf k was vs H L D F s
 good:GoodT vs N H.st L D F cur
 clock:Clock F s
 hn:H.n=N
 hbl:H.bl=bl
 n8:1≤N∧N≤8
 vlen:vs.length=N
 last:∀n,n<N→∃ver,vs[n]?=some ver∧0<ver.length∧ver.length≤m+1∧ver.getD (ver.length-1) []=cur n
 base:L.base=1
 strips:L.strips=49
 stream:L.stream.length≤27*m
 starts:L.starts.length≤m
theorem AllT.step {w':World} {τ':Tags} {vs:List (List (List Int))} {H:PoolH} {F:List Fr} {s:Ck.Clk.St} {cur:Nat→List Int}(h:AllT w τ bw bd bl bp bf k N m was vs H L D F s cur) (hs:Step w τ w' τ' nil):AllT w' τ' bw bd bl bp bf k N m was vs H L D F s cur :=
 ⟨h.mv.step hs,h.good,h.clock,h.hn,h.hbl,h.n8,h.vlen,h.last,h.base,h.strips,h.stream,h.starts⟩
structure InT (w:World) (τ:Tags) (bw bd bl bp bf k N m:Nat) (was:Value) (vs:List (List (List Int))) (H:PoolH) (L:LogM) (D:Dev) (F:List Fr) (s:Ck.Clk.St) (cur:Nat→List Int) (n i b:Nat) (f:Fr):Prop where
 mv:MadeV w τ bw bd bl bp bf k was vs H L D F s
 good:GoodT vs N H.st L D F cur
 held:Held F s i
 at_:F[i]?=some f
 pg:f.pg=some (b,cur n)
 fn:f.n=n
 nN:n<N
 hn:H.n=N
 hbl:H.bl=bl
 n8:1≤N∧N≤8
 vlen:vs.length=N
 last:∀n,n<N→∃ver,vs[n]?=some ver∧0<ver.length∧ver.length≤m+1∧ver.getD (ver.length-1) []=cur n
 base:L.base=1
 strips:L.strips=49
 stream:L.stream.length≤27*m
 starts:L.starts.length≤m
theorem InT.step {w':World} {τ':Tags} {vs:List (List (List Int))} {H:PoolH} {F:List Fr} {s:Ck.Clk.St} {cur:Nat→List Int} {f:Fr}(h:InT w τ bw bd bl bp bf k N m was vs H L D F s cur n i b f) (hs:Step w τ w' τ' nil):InT w' τ' bw bd bl bp bf k N m was vs H L D F s cur n i b f :=
 ⟨h.mv.step hs,h.good,h.held,h.at_,h.pg,h.fn,h.nN,h.hn,h.hbl,h.n8,h.vlen,h.last,h.base,h.strips,h.stream,h.starts⟩
theorem InT.page {vs:List (List (List Int))} {H:PoolH} {F:List Fr} {s:Ck.Clk.St} {cur:Nat→List Int} {f:Fr}(h:InT w τ bw bd bl bp bf k N m was vs H L D F s cur n i b f):PageAt w τ (tPg i) b (cur n) :=
 h.mv.pool.pool.pg i b (cur n) (by rw[h.at_];exact h.pg)
theorem Jey {vs:List (List (List Int))} {H:PoolH} {F:List Fr} {s:Ck.Clk.St} {cur:Nat→List Int}(ha:AllT w τ bw bd bl bp bf k N m was vs H L D F s cur) (hh0:D.halted=false) (hst:H.st+1<18446744073709551616) (n:Nat) (hn:n<N) :
 Calls Tryz.prog 15 #[.pointer (some ⟨bp,0,none⟩),.int .u32 (n:Int)] w fun e w'=>∃b,e = .returned (.tuple #[.pointer (some ⟨b,0,none⟩),.int .u16 0])∧∃τ' H' L' D' F' s' i f,InT w' τ' bw bd bl bp bf k N m was vs H' L' D' F' s' cur n i b f∧H.st≤H'.st∧H'.st≤H.st+1∧Step w τ w' τ' PWTag:=by
 refine(Jgf ha.mv.pool ha.good hh0 ha.clock ha.hn hst n hn).mono ?_
 rintro e w' ⟨b,rfl,τ',H',L',D',F',s',i,f,g⟩
 refine⟨b,rfl,τ',H',L',D',F',s',i,f,⟨ha.mv.turn g.step g.pool,g.good,g.held,g.at_,g.pg,g.fn,hn,g.hn,by rw[g.hl];exact ha.hbl,ha.n8,ha.vlen,ha.last,by rw[g.log.base];exact ha.base,by rw[g.log.strips];exact ha.strips,by rw[g.log.stream];exact ha.stream,by rw[g.log.starts];exact ha.starts⟩,g.st.1,g.st.2,g.step⟩
theorem InT.where_ {vs:List (List (List Int))} {H:PoolH} {F:List Fr} {s:Ck.Clk.St} {cur:Nat→List Int} {f:Fr}(h:InT w τ bw bd bl bp bf k N m was vs H L D F s cur n i b f):Qaq F n=some i :=
 (Qa6 h.mv.pool.pool.one n i).2 ⟨f,h.at_,Qd7.2 ⟨b,cur n,h.pg,h.fn⟩⟩
theorem InT.hand {vs:List (List (List Int))} {H:PoolH} {F:List Fr} {s:Ck.Clk.St} {cur:Nat→List Int} {f:Fr}(h:InT w τ bw bd bl bp bf k N m was vs H L D F s cur n i b f):s.h<s.n:=by
 obtain⟨bf,hp,_⟩:=h.mv.pool.pool.ck.is
 exact hp.hh
theorem Jd2 {vs:List (List (List Int))} {H:PoolH} {F:List Fr} {s:Ck.Clk.St} {cur:Nat→List Int} {f:Fr}(h:InT w τ bw bd bl bp bf k N m was vs H L D F s cur n i b f) :
 Calls Tryz.prog 16 #[.pointer (some ⟨bp,0,none⟩),.int .u32 (n:Int),.int .u64 0] w fun e w'=>e = .returned (.bool true)∧∃s',AllT w' τ bw bd bl bp bf k N m was vs H L D F s' cur∧Step w τ w' τ PWTag:=by
 obtain⟨h1,h2,h3,h4⟩:=h.held.put h.hand
 have hN:=h.n8
 have hnN:=h.nN
 have:=Qxd h.mv.pool.pool n (by omega) h.where_ h.held.lt h3
 rw[h2,decide_eq_true h1,if_neg h1] at this
 refine this.mono ?_
 rintro e w' ⟨rfl,hp,hs⟩
 have hsp:Step w τ w' τ PoolTag:=hs.mono (fun g hg=>.inr (.inr (.inr (.inl hg))))
 have hsw:Step w τ w' τ PWTag:=hsp.mono (fun _ hg=>.inl hg)
 exact⟨rfl,_,⟨h.mv.turn hsw (h.mv.pool.turn hp hsp),h.good,h4 F rfl (fun j f g hf hg=>by rw[hf] at hg;cases hg;rfl),h.hn,h.hbl,h.n8,h.vlen,h.last,h.base,h.strips,h.stream,h.starts⟩,hsw⟩
theorem AllT.more {vs:List (List (List Int))} {H:PoolH} {F:List Fr} {s:Ck.Clk.St} {cur:Nat→List Int}(h:AllT w τ bw bd bl bp bf k N m was vs H L D F s cur):AllT w τ bw bd bl bp bf k N (m+1) was vs H L D F s cur :=
 ⟨h.mv,h.good,h.clock,h.hn,h.hbl,h.n8,h.vlen,fun n hn=>by
  obtain⟨ver,a,b,c,d⟩:=h.last n hn
  exact⟨ver,a,b,by omega,d⟩,h.base,h.strips,by have:=h.stream;omega,by have:=h.starts;omega⟩
theorem Jf3 {vs:List (List (List Int))} {H:PoolH} {F:List Fr} {s:Ck.Clk.St} {cur:Nat→List Int} {ls:Nat} {f:Fr} {P Q rb R:List Int}(hp:PoolW w τ bp bf bd H (L.more rb) D (F.set i {f with pg:=some (b,Q)}) s) (hg:GoodT vs N H.st L D F cur) (hh:Held F s i) (hhand:s.h<s.n)
 (hf:F[i]?=some f) (hpg:f.pg=some (b,P)) (hfn:f.n=n) (hn:n<4294967296) (hQ:Sound Q) (hQn:pageNumber Q=n) (hrb:0<rb.length) (hcap:L.stream.length+rb.length≤127*L.strips) (hls:L.base+L.stream.length=ls) (h64:ls<18446744073709551616) (hR:layN Q 0 (leB ls 8)=R) {ver:List (List Int)} (hver:vs[n]?=some ver) :
 Calls Tryz.prog 16 #[.pointer (some ⟨bp,0,none⟩),.int .u32 (n:Int),.int .u64 (ls:Int)] w fun e w'=>e = .returned (.bool true)∧∃τ' F' s',PoolW w' τ' bp bf bd H (L.more rb) D F' s'∧GoodT (vs.set n (ver++[R])) N H.st (L.more rb) D F' (updC cur n R)∧Clock F' s'∧PageAt w' τ' (tPg i) b R∧Step w τ w' τ' PWTag:=by
 have hil:=(List.getElem?_eq_some_iff.1 hf).1
 obtain⟨h1,h2,h3,h4⟩:=hh.put hhand
 have hbase:=hg.base
 have hl0:0<ls:=by omega
 have hf1:(F.set i {f with pg:=some (b,Q)})[i]?=some {f with pg:=some (b,Q)}:=List.getElem?_set_self hil
 obtain⟨nv,hnv⟩:∃nv,(if f.first=0 then ls else f.first)=nv:=⟨_,rfl⟩
 have hnv0:0<nv:=by rw[←hnv];split <;> omega
 have:=Qzh hp.pool n ls hn (i:=i) ((Qa6 hp.pool.one n i).2 ⟨_,hf1,Qd7.2 ⟨b,Q,rfl,hfn⟩⟩) hf1 rfl h3 h1 hl0 h64 (nv:=nv) hnv
 rw[h2] at this
 refine this.mono ?_
 rintro e w' ⟨rfl,τ',hp',hs'⟩
 rw[List.set_set] at hp'
 have hgp:=hg.put hf hpg hQ (by rw[hQn,hfn]) rb hrb hcap (by rw[hls,show (2:Nat) ^ 64=18446744073709551616 from by decide];exact h64) hnv0 (ver:=ver) (by rw[hfn];exact hver) (R:=R) (by rw[hls];exact hR)
 rw[hR] at hp'
 have hpage:=hp'.pg i b R (by rw[List.getElem?_set_self hil];rfl)
 refine⟨rfl,τ',_,_,hp.turn hp' hs',?_,h4 _ (by rw[List.length_set]) (fun j f' g' hf' hg'=>?_),hpage,hs'.mono (fun _ h=>.inl h)⟩
 ·rw[←hfn];exact hgp
 ·rcases set_get hil hg' with ⟨rfl,rfl⟩|⟨_,hg2⟩
  ·rw[hf] at hf'
   cases hf'
   rw[hpg];rfl
  ·rw[hf'] at hg2
   cases hg2
   rfl
def SetT (w:World) (τ:Tags) (bw bd bl bp bf k N m:Nat) (H:PoolH) (e:Ending) (w':World):Prop :=
 e = .returned (.bool true)∧∃was' vs' H' L' D' F' s' cur' τ',AllT w' τ' bw bd bl bp bf k N (m+1) was' vs' H' L' D' F' s' cur'∧H.st≤H'.st∧H'.st≤H.st+1∧Step w τ w' τ' AnyTag
theorem Jfa {vs:List (List (List Int))} {H:PoolH} {F:List Fr} {s:Ck.Clk.St} {cur:Nat→List Int}(ha:AllT w τ bw bd bl bp bf k N m was vs H L D F s cur) (hm:m≤200) (hh0:D.halted=false) (hst:H.st+1<18446744073709551616) (kd pg:Nat) (hpg:pg<4294967296) (slot:Int) {v vl:Value}{data:List Int}(hb:Bytes w τ tBox v data) :
 Calls Tryz.prog 47 #[.pointer (some ⟨bw,0,none⟩),.agg #[.int .u8 (kd:Int),.int .u32 (pg:Int),.int .i64 slot,v,vl]] w (SetT w τ bw bd bl bp bf k N m H):=by
 have hN8:=ha.n8
 obtain⟨pv,cv0,rfl,_,_⟩:=hb.any
 obtain⟨dl,hdl⟩:∃dl,data.length=dl:=⟨_,rfl⟩
 rw[hdl] at hb ⊢
 have hst1:=(Step.refl w τ nil).alloc (.cells #[.int .u8 (kd:Int),.int .u32 (pg:Int),.int .i64 slot,.slice pv dl cv0,vl] 39) tOp
 have hop:=Own.born w τ tOp 39 #[.int .u8 (kd:Int),.int .u32 (pg:Int),.int .i64 slot,.slice pv dl cv0,vl]
 have ha1:=ha.step hst1
 have hb1:=hb.step hst1 (fun h=>h)
 obtain⟨n,hn⟩:∃n,pg%N=n:=⟨_,rfl⟩
 have hnN:n<N:=by rw[←hn];exact Nat.mod_lt _ (by omega)
 generalize τ.put w.heap.size tOp=τ1 at *
 generalize hbo:w.heap.size=bo at *
 obtain⟨bws,cap,bv,j,cv,px,cx,ver,rfl,hca1,hca2,hlv,hjm,hver,hvl,hnv⟩:=ha1.mv.latest ha1.vlen ha1.last hnN
 have c4:=ha1.mv.own.at 4 (v:=.slice (some ⟨bws,0,none⟩) N cap) rfl
 have q1:=hop.at 1 (v:=.int .u32 (pg:Int)) rfl
 have hNw:=Qb1 N (by omega)
 have hN0:¬(N:Int)=0:=by omega
 have hrem:(pg:Int)%(N:Int)=(n:Int):=by omega
 have hrem2:Int.tmod (pg:Int) (N:Int)=(n:Int):=by rw[Int.tmod_eq_emod_of_nonneg (by omega)];exact hrem
 have hnw:=Qb1 n (by omega)
 obtain⟨Ha1,Hb1,Hop,Hst1,Hlv,Hver,Hvl,Hn,Hnv,Hdl⟩:=hid10 ha1 hb1 hop hst1 hlv hver hvl hn hnv hdl
 clear ha1 hb1 hop hst1 hlv hver hvl hn hnv hdl ha hb
 go_enter Tryz.func47,Tryz.ntmps47
 go_wp2_with fail
 go_quiet (fail)
 generalize w.alloc (.cells #[.int .u8 (kd:Int),.int .u32 (pg:Int),.int .i64 slot,.slice pv dl cv0,vl] 39)=w1 at *
 have hsq:=(Step.refl w1 τ1 nil).drews nq
 have ha2:=Ha1.out.step hsq
 have hb2:=Hb1.out.step hsq (fun h=>h)
 have hop2:=Hop.out.step hsq (fun h=>h)
 have hlv2:=Hlv.out.nil hsq
 have hst2:=(Hst1.out.mono (T:=AnyTag) (fun _ h=>h.elim)).trans (hsq.mono (fun _ h=>h.elim))
 have hnv2:=Hnv.out.step hsq (fun h=>h) (fun h=>h)
 generalize w1.drewN nq=w2 at *
 clear Ha1 Hb1 Hop Hst1 Hlv Hnv hsq c4 q1 w1
 have d2:=ha2.mv.own.at 2 (v:=.pointer (some ⟨bp,0,none⟩)) rfl
 have hget:=Jey ha2 hh0 hst n hnN
 obtain⟨Hget,Hb2,Hop2,Hlv2,Hst2,Ha2,Hnv2⟩:=hid7 hget hb2 hop2 hlv2 hst2 ha2 hnv2
 clear hget hb2 hop2 hlv2 hst2 ha2 hnv2
 go_wp2_with fail
 refine Hget.out.mono ?_
 rintro e w3 ⟨b,rfl,τ3,H3,L3,D3,F3,s3,i,f,hI3,hs31,hs32,hs3⟩
 have hb3:=Hb2.out.step hs3 Jgr
 have hop3:=Hop2.out.step hs3 pw_op
 have hlv3:=Hlv2.out.pw hs3
 have hnv3:=Hnv2.out.step hs3 (fun hx=>(Jcr hx).2.2.1 n rfl) (fun hx=>(Jcr hx).2.2.2.2 rfl)
 have d4:=hI3.mv.own.at 4 (v:=.slice (some ⟨bws,0,none⟩) N cap) rfl
 have d5:=hlv3.c1
 have d6:=hlv3.c2
 have hlt:((n:Int)<(N:Int)):=by omega
 have hP3:=hI3.page
 have h448:=hP3.len
 have hst3:=Hst2.out.trans (hs3.mono (T:=AnyTag) (fun _ h=>Jc8 h))
 rw[h448] at d6
 have hby:=Qhy (hP3.step (Step.refl w3 τ3 nil).drew (fun h=>h)) tData
 have hlvd:=hlv3.nil (Step.refl w3 τ3 nil).drew
 have hj1:IntKind.i64.wrap ((j:Int)+1-1)=(j:Int):=by
  have:(j:Int)+1-1=(j:Int):=by omega
  rw[this];exact Qd5 _ (by omega) (by omega)
 have hj0:IntKind.i64.wrap (j:Int)=(j:Int):=Qd5 _ (by omega) (by omega)
 have hj5:IntKind.i64.wrap ((j:Int)+1)=(j:Int)+1:=Qd5 _ (by omega) (by omega)
 have hj2:(j:Int)+1-1=(j:Int):=by omega
 have hj3:(j:Int)<(j:Int)+1:=by omega
 have hj4:j<j+1:=by omega
 obtain⟨Hb3,Hop3,Hlv3,Hst3,HI3,HP3,Hby,Hlvd,Hs3,Hnv3,H448⟩:=hid11 hb3 hop3 hlv3 hst3 hI3 hP3 hby hlvd hs3 hnv3 h448
 clear hb3 hop3 hlv3 hst3 hI3 hP3 hby hlvd hs3 hnv3 h448
 go_wp2_with fail
 go_region_held3 (fun w'=>w'.cell? ⟨bv,j,none⟩=some (.slice px 448 cx)) (go_keep) (first
  | (go_at_call 18
     refine Hby.out.mono ?_
     rintro e w4 ⟨u4,τ4,rfl,hn4,hs4⟩
     have hlv4:=Hlvd.out.nil hs4
     have hsb:=Qng hn4.bytes hlv4.by_
     rw[decide_eq_true rfl,H448.out] at hsb
     obtain⟨p4,c4,hu4⟩:=hn4.val
     rw[H448.out] at hu4
     subst hu4
     have e6:=hlv4.c2
     rw[H448.out] at e6
     have hs4':=(Step.refl w3 τ3 nil).drew.trans hs4
     have Hsb:=Lib.hid hsb
     have Hs4':=Lib.hid hs4'
     clear hsb hs4'
     clear hn4 hs4 hlv4)
  | (go_at_call 17
     refine Hsb.out.mono ?_
     rintro e w5 ⟨rfl,rfl⟩))
 have hI4:=HI3.out.step Hs4'.out
 have hb4:=Hb3.out.step Hs4'.out (fun h=>h)
 have hop4:=Hop3.out.step Hs4'.out (fun h=>h)
 have hlv4:=Hlv3.out.nil Hs4'.out
 have hnv4:=Hnv3.out.step Hs4'.out (fun h=>h) (fun h=>h)
 have hst4:=Hst3.out.trans (Hs4'.out.mono (T:=AnyTag) (fun _ h=>h.elim))
 have k2:=hop4.at 2 (v:=.int .i64 slot) rfl
 have k3:=hop4.at 3 (v:=.slice pv dl cv0) rfl
 obtain⟨hsnd,hnum,-⟩:=hI4.good.page n hnN
 have hset:=Qk1 (g:=tPg i) (by simp[tPg,tOut,tData,tAll]) hI4.page hsnd slot hb4 (by simp[tPg,tBox])
 obtain⟨HI4,Hlv4,Hnv4,Hst4,Hset,Hsnd,Hnum⟩:=hid7 hI4 hlv4 hnv4 hst4 hset hsnd hnum
 clear hI4 hlv4 hnv4 hst4 hset hsnd hnum HI3 Hb3 Hop3 Hlv3 Hnv3 Hst3 Hs4' hb4 hop4 Hs3 HP3 Hby Hlvd Hsb e6 d4 d5 d6 Hb2 Hop2 Hlv2 Hst2 Ha2 Hnv2 d2 Hget
 go_wp2_with fail
 refine Hset.out.mono ?_
 rintro e w5 ⟨er,Q,τ5,rfl,hR,hP5,hs5⟩
 have hp5:=HI4.out.mv.pool.pool.setPage HI4.out.at_ HI4.out.pg hs5 hP5
 have hs5p:Step w4 τ4 w5 τ5 PoolTag:=hs5.mono (fun g hg=>hg▸Qi4 i)
 have hs5w:Step w4 τ4 w5 τ5 PWTag:=hs5p.mono (fun g hg=>.inl hg)
 have hpw5:=HI4.out.mv.pool.turn hp5 hs5p
 have hM5:=HI4.out.mv.turn hs5w hpw5
 have hlv5:=Hlv4.out.pw hs5w
 have hnv5:=Hnv4.out.step hs5w (fun hx=>(Jcr hx).2.2.1 n rfl) (fun hx=>(Jcr hx).2.2.2.2 rfl)
 have hst5:=Hst4.out.trans (hs5w.mono (T:=AnyTag) (fun _ h=>Jc8 h))
 have g2:=hM5.own.at 2 (v:=.pointer (some ⟨bp,0,none⟩)) rfl
 have g1:=hM5.own.at 1 (v:=.pointer (some ⟨bl,0,none⟩)) rfl
 clear k2 k3 Hset
 by_cases her:er=0
 ·subst her
  obtain⟨hQ,hQn,-⟩:=hR.ok rfl
  have hstr:=HI4.out.stream
  have hstt:=HI4.out.starts
  have hsps:=HI4.out.strips
  have hbas:=HI4.out.base
  have happ:=Qws hpw5.log (by omega) (by omega) n (by omega)
  have hre:Qgc n=#[.int .u8 6,.int .u32 (n:Int),.int .u64 0,.int .u64 0,.int .u32 0,.int .u16 0,.bool false,.bool false,.slice none 0 0,.slice none 0 0,.slice none 0 0,.slice none 0 0]:=rfl
  rw[hre,HI4.out.hbl] at happ
  have hrl:=Qdz n
  have hlsn:∃ls,L3.base+L3.stream.length=ls:=⟨_,rfl⟩
  obtain⟨ls,hls⟩:=hlsn
  rw[hls] at happ
  generalize recBytes n=rb at *
  have hls0:(0:Int)<(ls:Int):=by omega
  have hls1:ls<18446744073709551616:=by omega
  obtain⟨Happ,Hpw5,HM5,Hlv5,Hnv5,Hst5,Hls,Hrl,HQ,HQn⟩:=hid10 happ hpw5 hM5 hlv5 hnv5 hst5 hls hrl hQ hQn
  clear happ hpw5 hM5 hlv5 hnv5 hst5 hls hrl hQ hQn hR hP5 hs5 hp5 hs5p hs5w hre
  go_wp2_with fail
  refine Happ.out.mono ?_
  rintro e w6 ⟨rfl,τ6,hl6,hs6⟩
  have hs6w:Step w5 τ5 w6 τ6 PWTag:=hs6.mono (fun g hg=>.inr (.inl hg))
  have hpw6:=Hpw5.out.append (by rw[HI4.out.hbl];exact hl6) hs6
  have hM6:=HM5.out.turn hs6w hpw6
  have hlv6:=Hlv5.out.pw hs6w
  have hnv6:=Hnv5.out.step hs6w (fun hx=>(Jcr hx).2.2.1 n rfl) (fun hx=>(Jcr hx).2.2.2.2 rfl)
  have hst6:=Hst5.out.trans (hs6w.mono (T:=AnyTag) (fun _ h=>Jc8 h))
  have m2:=hM6.own.at 2 (v:=.pointer (some ⟨bp,0,none⟩)) rfl
  obtain⟨R,hR⟩:∃R,layN Q 0 (leB ls 8)=R:=⟨_,rfl⟩
  have hput:=Jf3 hpw6 HI4.out.good HI4.out.held HI4.out.hand HI4.out.at_ HI4.out.pg HI4.out.fn (by omega) HQ.out (by rw[HQn.out];exact Hnum.out) (by rw[Hrl.out];omega) (by rw[Hrl.out];omega) Hls.out hls1 hR Hver.out
  obtain⟨Hput,HM6,Hlv6,Hnv6,Hst6,HR⟩:=hid6 hput hM6 hlv6 hnv6 hst6 hR
  clear hput hM6 hlv6 hnv6 hst6 hR hl6 hs6 hs6w hpw6 Hpw5 HM5 Hlv5 Hnv5 Hst5 Happ g1 g2
  go_wp2_with fail
  refine Hput.out.mono ?_
  rintro e w7 ⟨rfl,τ7,F7,s7,hpw7,hg7,hc7,hP7,hs7⟩
  have hM7:=HM6.out.turn hs7 hpw7
  have hlv7:=Hlv6.out.pw hs7
  have hnv7:=Hnv6.out.step hs7 (fun hx=>(Jcr hx).2.2.1 n rfl) (fun hx=>(Jcr hx).2.2.2.2 rfl)
  have hst7:=Hst6.out.trans (hs7.mono (T:=AnyTag) (fun _ h=>Jc8 h))
  have h448R:=hP7.len
  have hby7:=Qhy hP7 tData
  obtain⟨Hby7,HM7,Hlv7,Hnv7,Hst7,Hg7,Hc7,H448R,Hs7⟩:=hid9 hby7 hM7 hlv7 hnv7 hst7 hg7 hc7 h448R hs7
  clear hby7 hM7 hlv7 hnv7 hst7 hg7 hc7 h448R hs7 HM6 Hlv6 Hnv6 Hst6 Hput m2 hpw7 hP7
  go_wp2_with fail
  refine Hby7.out.mono ?_
  rintro e w8 ⟨u8,τ8,rfl,hn8,hs8⟩
  have hM8:=HM7.out.step hs8
  have hlv8:=Hlv7.out.nil hs8
  have hnv8:=Hnv7.out.step hs8 (fun h=>h) (fun h=>h)
  have hst8:=Hst7.out.trans (hs8.mono (T:=AnyTag) (fun _ h=>h.elim))
  obtain⟨p8,c8,rfl⟩:=hn8.val
  have hby8:=hn8.bytes
  generalize hRl:R.length=rl at *
  have hz8:=Qyk w8 τ8 AnyTag
  have hsz:ver.length≤1000000000:=by rw[Hvl.out];omega
  obtain⟨HM8,Hlv8,Hnv8,Hst8,Hby8,Hz8,Hsz⟩:=hid7 hM8 hlv8 hnv8 hst8 hby8 hz8 hsz
  clear hM8 hlv8 hnv8 hst8 hby8 hz8 hsz hn8 hs8 HM7 Hlv7 Hnv7 Hst7 Hby7
  go_wp2_with (at_builtin;refine Qcv Hz8.out (by simp[tVer,tData]) Hnv8.out Hby8.out Hsz.out rfl rfl _ _ rfl rfl rfl ?_;intro v9 w9 τ9 hnv9 hz9 hs9;obtain⟨p9,c9,rfl⟩:=hnv9.val;have hM9:=HM8.out.own.step hs9 (by simp[Jc1,tVer]);have e94:=hM9.at 4 (v:=.slice (some ⟨bws,0,none⟩) N cap) rfl;have hlc9:w9.cell? ⟨bws,n,none⟩=some (.slice (some ⟨bv,0,none⟩) (j+1) cv):=(by obtain⟨xs,a1,a2⟩:=Hlv8.out.o1;exact(a1.step hs9 (by simp[tWas,tVer])).at n a2);have hlf9:w9.frozen? ⟨bws,n,none⟩=false:=(by obtain⟨xs,a1,a2⟩:=Hlv8.out.o1;exact(a1.step hs9 (by simp[tWas,tVer])).fz n);obtain⟨Hnv9,Hz9,Hs9,HM9⟩:=hid4 hnv9 hz9 hs9 hM9;clear hnv9 hz9 hs9 hM9)
  go_ret
  rw[show ver.length+1=(ver++[R]).length by rw[List.length_append];rfl]
  have hvN:=HI4.out.vlen
  have hnl:n<vs.length:=by omega
  have hwas:=HM8.out.was
  rw[←hvN] at hwas
  obtain⟨hwas9,hq9⟩:=hwas.put hnl Hs9.out Hnv9.out
  rw[hvN] at hwas9
  have hq9a:=hq9.mono (T:=AnyTag) (fun g hg=>by show g.1≠90;rw[hg];decide)
  have hpw9:=(HM8.out.pool.step Hs9.out (fun g hg=>by
   subst hg
   exact⟨fun h=>by have:=h.fst;rw[Jer] at this;omega,fun h=>by rcases h with h|h|h <;> simp[tVer,tLog,Qah,Qag] at h,fun h=>by rcases h with h|h|h|h <;> simp[tVer] at h,by simp[tVer,tData]⟩)).step hq9 (fun g hg=>by
   subst hg
   exact⟨fun h=>by have:=h.fst;rw[Jdf] at this;omega,fun h=>by rcases h with h|h|h <;> simp[tWas,tLog,Qah,Qag] at h,fun h=>by rcases h with h|h|h|h <;> simp[tWas] at h,by decide⟩)
  have hst9:=(Hst8.out.trans (Hs9.out.mono (T:=AnyTag) (fun g hg=>by show g.1≠90;rw[hg,Jer];omega))).trans hq9a
  refine⟨rfl,_,vs.set n (ver++[R]),H3,L3.more rb,D3,F7,s7,updC cur n R,τ9,⟨⟨(HM9.out.step hq9 (by decide)),hwas9,hpw9⟩,Hg7.out,Hc7.out,HI4.out.hn,HI4.out.hbl,HI4.out.n8,by rw[List.length_set];exact hvN,fun n' hn'=>?_,hbas,hsps,?_,?_⟩,hs31,hs32,hst9⟩
  ·by_cases e:n'=n
   ·subst e
    refine⟨_,List.getElem?_set_self hnl,by rw[List.length_append];simp,by rw[List.length_append,Hvl.out];simp;omega,?_⟩
    rw[List.length_append,List.length_singleton,Nat.add_sub_cancel,List.getD_eq_getElem?_getD,List.getElem?_append_right (Nat.le_refl _),Nat.sub_self]
    unfold updC
    rw[if_pos rfl];rfl
   ·obtain⟨ver',a1,a2,a3,a4⟩:=HI4.out.last n' hn'
    refine⟨ver',by rw[List.getElem?_set_ne (fun q=>e q.symm)];exact a1,a2,by omega,?_⟩
    unfold updC
    rw[if_neg e];exact a4
  ·show (L3.stream++rb).length≤_
   rw[List.length_append,Hrl.out];omega
  ·show (L3.starts++[L3.stream.length]).length≤_
   rw[List.length_append,List.length_singleton];omega
 ·have her':¬(er:Int)=0:=by omega
  have hQP:=hR.no her
  subst hQP
  have hF:F3.set i {f with pg:=some (b,cur n)}=F3:=Qnd (by rw[HI4.out.at_,←HI4.out.pg])
  rw[hF] at hM5
  have hI5:InT w5 τ5 bw bd bl bp bf k N m (.slice (some ⟨bws,0,none⟩) N cap) vs H3 L3 D3 F3 s3 cur n i b f:=⟨hM5,HI4.out.good,HI4.out.held,HI4.out.at_,HI4.out.pg,HI4.out.fn,HI4.out.nN,HI4.out.hn,HI4.out.hbl,HI4.out.n8,HI4.out.vlen,HI4.out.last,HI4.out.base,HI4.out.strips,HI4.out.stream,HI4.out.starts⟩
  have hput:=Jd2 hI5
  obtain⟨Hput,Hst5⟩:=hid2 hput hst5
  clear hput hst5 hR hP5 hs5 hp5 hs5p hs5w hpw5 hM5 hlv5 hnv5 hI5 HI4 Hst4 Hlv4 Hnv4 hF
  go_wp2_with fail
  refine Hput.out.mono ?_
  rintro e w6 ⟨rfl,s6,hA6,hs6⟩
  have hst6:=Hst5.out.trans (hs6.mono (T:=AnyTag) (fun _ h=>Jc8 h))
  obtain⟨HA6,Hst6⟩:=hid2 hA6 hst6
  clear hA6 hst6
  go_wp2_with fail
  go_ret
  exact⟨rfl,_,_,_,_,_,_,_,_,_,HA6.out.more,hs31,hs32,Hst6.out⟩
end Go.Proofs.YtemacanaihaldaaGreat