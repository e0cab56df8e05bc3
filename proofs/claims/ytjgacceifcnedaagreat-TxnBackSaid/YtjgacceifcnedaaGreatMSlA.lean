/-
 All slots of all pages (slots of the laws of transactions),two such rows compared.
-/
import Derived.Test.YtjgacceifcnedaaGreatMTxL
import Derived.Test.YtjgacceifcnedaaGreatMPageN
import Derived.Test.YtjgacceifcnedaaGreatMInts
import Derived.Test.YtjgacceifcnedaaGreatMR8
set_option maxRecDepth 100000
set_option maxHeartbeats 4000000
set_option linter.all false
namespace Go.Proofs.YtjgacceifcnedaaGreat
variable {w:World}{τ:Tags}
open Go.RowKit
def NewNB (w:World) (τ:Tags) (g:Tag) (l:List Int) (e:Ending) (w':World):Prop:=∃u τ',e = .returned u∧NB w.heap.size w' τ' g u l∧Ext w τ τ'∧Mod w w' no
theorem Qx9 {g:Tag} {v:Value} {l:List Int}(h:Bytes w τ g v l) (g':Tag) (hbig:l.length≤100000000) :
 Calls Tryz.prog 64 #[v] w (NewNB w τ g' l):=by
 have hB:=h.isB
 obtain⟨p,c,rfl,h1,h2,hc⟩:=h.is
 obtain⟨_,hnews⟩:=h.news
 cases p with
 | none =>
   have hl:l=[]:=by
    cases l with
    | nil=>rfl
    | cons x r=>obtain⟨b,o,hb,_⟩:=hc (by simp);cases hb
   subst hl
   have hnil:=fun (W:World) (a:Option Addr) (n c:Nat)=>Lib.run_eql_slice_nil (P:=Tryz.prog) W 33 5 a n c 0 0 Tryz.underlying33
   clear hbig
   go_enter Tryz.func64,Tryz.ntmps64
   go_wp2
   go_ret
   exact⟨_,τ,rfl,NB.nil _ _ _ _,Ext.refl _ _,Mod.refl _ _⟩
 | some a =>
   obtain⟨i0,hi,hz0,hz1,hz2⟩:=info_parts Tryz.infoU8
   have hbuf:Buf (w.alloc (.cells #[] 5)) (τ.put w.heap.size g') g' 5 1 (.slice (some ⟨w.heap.size,0,none⟩) 0 0) 0 [] :=
    ⟨rfl,.inr ⟨w.heap.size,0,[],rfl,Own.new w τ g' _ [],rfl,Nat.le_refl _,Nat.zero_le _⟩⟩
   have hm:Mod w (w.alloc (.cells #[] 5)) no:=(Mod.refl _ _).alloc _
   have hnews':∀ad,some a=some ad→∀j u,(u8s l)[j]?=some u→(w.alloc (.cells #[] 5)).cell? (ad.add j)=some u:=by
    intro ad had j u hu
    have hx:=hnews ad had j u hu
    have hlt:ad.block<w.heap.size:=by
     have:=World.block_lt_of_cell? w _ hx
     unfold Addr.add at this;split at this <;> exact this
    rw[←hx]
    exact World.cell?_of_block (w:=w) (Below.heap_alloc _ _ _ (by unfold Addr.add;split <;> exact hlt))
   obtain⟨Hn,HB,Hm⟩:=hid3 hnews' hbuf hm
   have hnil:=fun (W:World) (a:Option Addr) (n c:Nat)=>Lib.run_eql_slice_nil (P:=Tryz.prog) W 33 5 a n c 0 0 Tryz.underlying33
   have Hbig:=Lib.hid hbig
   clear hnews hnews' hbuf hm hc h hbig
   go_enter Tryz.func64,Tryz.ntmps64
   go_wp2_with (at_builtin;refine Qe0 _ _ g' rfl _ _ 33 rfl 5 i0 (.int .u8 0) 1 1 Tryz.underlying33 hi hz0 hz1 hz2 rfl (by decide) (.slice (some ⟨w.heap.size,0,none⟩) 0 0) 0 [] rfl HB.out (some a) l.length c (u8s l) rfl (by rw[Qac,Nat.mul_one]) (by intro hx;cases hx) Hn.out (Qkd l) (by have:=Hbig.out;unfold maxLen;omega) (by have:=Hbig.out;omega) ?_;intro v' w' τ' hb he hmo hnw;obtain⟨B1,E1,M1,N1⟩:=hid4 hb he hmo hnw;clear hb he hmo hnw)
   go_ret
   have hb:=B1.out
   rw[Nat.zero_add,List.nil_append] at hb
   refine⟨_,τ',rfl,⟨hb,hB,fun k hk=>?_⟩,Ext.trans ((Ext.refl w τ).put _ g' (Nat.le_refl _)) E1.out (by simp),Hm.out.seq M1.out (fun k hk hS=>?_)⟩
   ·rcases N1.out k hk with h|h
    ·have:w.heap.size=k:=by simpa [Value.ownBlock] using h
     omega
    ·have:(w.alloc (.cells #[] 5)).heap.size=w.heap.size+1:=World.size_alloc _ _
     omega
   ·have hx:w.heap.size=k:=by simpa [Value.ownBlock] using hS
    omega
theorem Qk0 {g:Tag} {b:Nat} {P:List Int}(h:PageAt w τ g b P) (hf:Fit P) (s:Nat) (hs:s<1000000) (g':Tag) :
 Calls Tryz.prog 31 #[.pointer (some ⟨b,0,none⟩),.int .i64 (s:Int)] w fun e w'=>∃u τ',e = .returned (.tuple #[u,.bool (decide (0<(pData P s).length))])∧NB w.heap.size w' τ' g' u (pData P s)∧Step w τ w' τ' nil:=by
 have h1:=Qbx h hf s hs
 have hlen:=Qbm hf h.len s
 have hle:=hf.ends s
 have hcl:=fun (o:Nat) (ho:0<pLen P s→o=pOff P s)=>Qx9 (h.data hf s o ho) g' (by rw[hlen];omega)
 rw[hlen]
 generalize pData P s=l at *
 generalize pLen P s=n at *
 have hdec:decide (0<(n:Int))=decide (0<n):=by by_cases hn:0<n <;> simp[hn]
 obtain⟨H1,Hcl,Hlen⟩:=hid3 h1 hcl hlen
 clear h1 hcl hlen h hf
 go_enter Tryz.func31,Tryz.ntmps31
 go_wp2_with fail
 refine H1.out.mono ?_
 rintro e w1 ⟨o,rfl,ho,rfl⟩
 have h2:=Hcl.out o ho
 have H2:=Lib.hid h2
 clear h2 ho
 go_wp2_with fail
 refine H2.out.mono ?_
 rintro e w2 ⟨u,τ2,rfl,hb,he,hm⟩
 obtain⟨Hb,He,Hm⟩:=hid3 hb he hm
 clear hb he hm
 go_wp2_with fail
 go_returns
 exact⟨u,τ2,by first|rfl|rw[hdec]|simp,Hb.out,Step.of nil Hm.out He.out⟩
theorem Jb0 {g g2:Tag} {n0 m0:Nat} {v u:Value} {l:List (List Int)}(h:NV n0 w τ g v l) (k:NV m0 w τ g2 u l) :
 Calls Tryz.prog 17 #[v,u] w fun e w'=>e = .returned (.bool true)∧∃q,w'=w.drewN q:=by
 obtain⟨p,c,rfl,h1,hr⟩:=h.read
 obtain⟨p2,d,rfl,-,kr⟩:=k.read
 generalize hn:l.length=n at *
 have hmx:n≤9223372036854775807:=by unfold maxLen at h1;omega
 obtain⟨Hr,H_kr,Hn⟩:=hid3 hr kr hn
 clear hr kr hn h1 h k
 go_enter Tryz.func17,Tryz.ntmps17
 go_wp2_with fail
 go_loopw [5] (fun v wr=>∃i q:Nat,i≤n∧v = .int .i64 (i:Int)∧wr=w.drewN q) (fun v _=>n-(intOf v).toNat)
 case atStart=>exact⟨0,0,Nat.zero_le _,rfl,rfl⟩
 case round =>
  obtain⟨i,q,hi,rfl,hwr⟩:=hrel
  by_cases hlt:i<n
  ·obtain⟨b,u1,rfl,hc,hb⟩:=Hr.out i hlt
   obtain⟨b2,u2,rfl,hc2,hb2⟩:=H_kr.out i hlt
   obtain⟨q1,e1,rfl,-,-⟩:=hb.any
   obtain⟨q2,e2,rfl,-,-⟩:=hb2.any
   have ci':wr.cell? ⟨b,i,none⟩=some (.slice q1 (l.getD i []).length e1):=by rw[hwr];exact hc
   have di':wr.cell? ⟨b2,i,none⟩=some (.slice q2 (l.getD i []).length e2):=by rw[hwr];exact hc2
   have k1:=fun n=>(hb.step (show Step w τ (wr.drewN n) τ nil by rw[hwr];exact((Step.refl w τ nil).drews q).drews n) (fun h=>h)).conv
   have k2:=fun n=>(hb2.step (show Step w τ (wr.drewN n) τ nil by rw[hwr];exact((Step.refl w τ nil).drews q).drews n) (fun h=>h)).conv
   have hin:(i:Int)<(n:Int):=by omega
   generalize hx:l.getD i []=x at *
   generalize toU8 x=xs at *
   generalize x.length=nx at *
   have Hwr:=Lib.hid hwr
   clear hwr hc hc2 hb hb2 hx
   go_wp2_with fail
   go_quiet (fail)
   go_wp2_with fail
   go_round
   case rel=>exact⟨i+1,q+nq,by omega,by simp,by rw[Hwr.out,World.drewN_drewN]⟩
   case measure=>simp[intOf];omega
  ·obtain rfl:i=n:=by omega
   have Hwr:=Lib.hid hwr
   clear hwr
   go_wp2_with fail
   go_ret
   exact⟨rfl,q,Hwr.out⟩
def Jb2 (l:List Int):List Int:=if l=[] then [] else l++[1]
def Qbi (V:SlotV) (n:Nat) (s:Nat):List (List Int):=(List.range s).map (fun t=>Jb2 (V n t))
def Qbw (V:SlotV) (i:Nat):List (List Int):=(List.range i).flatMap (fun n=>Qbi V n 12)
theorem Qnu (V:SlotV) (n s:Nat):Qbi V n (s+1)=Qbi V n s++[Jb2 (V n s)]:=by simp[Qbi,List.range_succ]
theorem Qgr (V:SlotV) (i:Nat):Qbw V (i+1)=Qbw V i++Qbi V i 12:=by simp[Qbw,List.range_succ]
theorem Qi6 (V:SlotV) (n s:Nat):(Qbi V n s).length=s:=by simp[Qbi]
theorem Qc3 (V:SlotV) (i:Nat):(Qbw V i).length=12*i:=by
 induction i with
 | zero=>rfl
 | succ i ih=>rw[Qgr,List.length_append,ih,Qi6];omega
def tSlR (j:Nat):Tag:=(320,j)
theorem Qfy (j:Nat):¬PWTag (tSlR j)∧¬Qai (tSlR j)∧tSlR j≠tData∧¬TyTag (tSlR j):=by
 have h1:¬PWTag (tSlR j):=by
  rintro(h|h|h)
  ·rcases h with h|h|h|h|⟨i,h⟩ <;> simp[tSlR,tPool,tFr,tWhere,tClk,tPg] at h
  ·rcases h with h|h|h <;> simp[tSlR,tLog,Qah,Qag] at h
  ·rcases h with h|h|h|h <;> simp[tSlR] at h
 have h2:¬Qai (tSlR j):=by simp[Qai,tSlR]
 refine⟨h1,h2,by simp[tSlR,tData],?_⟩
 rintro((h|h|h)|h)
 ·exact h1 h
 ·exact h2 h
 ·simp[tSlR] at h
 ·rcases h with h|h|h <;> simp[tSlR] at h
theorem Qkg:¬TyTag tData:=by
 rintro((h|h|h)|h)
 ·exact Qhd h
 ·simp[Qai,tData] at h
 ·simp[tData] at h
 ·rcases h with h|h|h <;> simp[tData] at h
theorem Qov (j:Nat):¬TyTag (tSlR j):=(Qfy j).2.2.2
theorem Qwv (w:World) (τ:Tags):Bytes (w.alloc (.cells #[.int .u8 1] 5)) τ (τ w.heap.size) (.slice (some ⟨w.heap.size,0,none⟩) 1 1) [1] :=
 ⟨fun x hx=>by rw[List.mem_singleton.1 hx];omega,some ⟨w.heap.size,0,none⟩,1,rfl,Nat.le_refl _,by unfold maxLen;omega,fun _=>⟨w.heap.size,0,rfl,rfl,fun i hi=>by
  have:i=0:=by simpa using hi
  subst this
  exact(Own.born w τ (τ w.heap.size) 5 #[.int .u8 1]).cell 0⟩⟩
def Ja5 (w:World) (τ:Tags) (I:Ids) (bo:Nat→Nat) (X:List OneP) (next:Nat) (R:List RecP) (V:SlotV) (st j:Nat) (e:Ending) (w':World):Prop :=
 ∃v τ',e = .returned v∧NV w.heap.size w' τ' (tSlR j) v (Qbw V I.N)∧TZ w' τ' I bo X next R V (st+I.N)∧Step w τ w' τ' TyTag
theorem Qrx {I:Ids} {bo:Nat→Nat} {X:List OneP} {next:Nat} {R:List RecP} {V:SlotV} {st:Nat}(h:TZ w τ I bo X next R V st) (hst:st+I.N≤1000000) (hN:I.N≤512) (j:Nat) :
 Calls Tryz.prog 12 #[.pointer (some ⟨I.bm,0,none⟩)] w (Ja5 w τ I bo X next R V st j):=by
 have hj:=Qfy j
 obtain⟨H_h,Hj⟩:=hid2 h hj
 clear h hj
 go_enter Tryz.func12,Tryz.ntmps12
 go_wp2_with fail
 go_loopw [3,4] (fun o v wr=>∃(i:Nat) (τr:Tags),i≤I.N∧v = .int .i64 (i:Int)∧NV w.heap.size wr τr (tSlR j) o (Qbw V i)∧TZ wr τr I bo X next R V (st+i)∧Step w τ wr τr TyTag) (fun _ v _=>I.N-(intOf v).toNat)
 case atStart=>exact⟨0,τ,Nat.zero_le _,rfl,NV.nil _ _ _ _,H_h.out,Step.refl _ _ _⟩
 case round =>
  obtain⟨i,τr,hi,rfl,hnv,hz,hs⟩:=hrel
  obtain⟨H,L,D,F,s,cur,h1,h2,h3,h4,h5⟩:=hz.is
  have hpl:=Qhg h1.mgr
  have hpg:=Qk2 h1.pool.pool
  have hHn:((H.n:Nat):Int)=(I.N:Int):=by rw[h1.hn]
  rw[hHn] at hpg
  obtain⟨p,c,rfl⟩:=hnv.val
  by_cases hlt:i<I.N
  ·have hlt':(i:Int)<(I.N:Int):=by omega
   have hconv:IntKind.u32.wrap (i:Int)=(i:Int):=by simp[IntKind.wrap,IntKind.bits,IntKind.signed];omega
   have hget:=Qr0 h1 (by omega) i hlt
   obtain⟨nr,hnr⟩:∃nr,(Qbw V i).length=nr:=⟨_,rfl⟩
   rw[hnr] at hnv ⊢
   obtain⟨Hnv,Hz,Hs,H1,H2,H3,H4,H5,Hpl,Hpg,Hget,HHn⟩:=hid12 hnv hz hs h1 h2 h3 h4 h5 hpl hpg hget hHn
   have Hnr:=Lib.hid hnr
   clear hnv hz hs h1 h2 h3 h4 h5 hpl hpg hget hHn hnr
   go_wp2_with fail
   refine Hpl.out.mono ?_
   rintro e w1 ⟨rfl,rfl⟩
   go_wp2_with fail
   refine Hpg.out.mono ?_
   rintro e w1 ⟨rfl,rfl⟩
   go_wp2_with fail
   refine Hpl.out.mono ?_
   rintro e w1 ⟨rfl,rfl⟩
   go_wp2_with fail
   refine Hget.out.mono ?_
   rintro e w1 ⟨b,rfl,τ1,H',L1,D1,F1,s1,i1,f,hg1,hst1,hsl,hs1⟩
   have hnv1:=Hnv.out.step hs1 (Qfy j).1 Qhd
   have hst1':Step w τ w1 τ1 TyTag:=Hs.out.trans (hs1.mono (fun _ h=>.inl (.inl h)))
   have Hnv1:=Lib.hid hnv1
   have Hst1':=Lib.hid hst1'
   obtain⟨Hg1,Hsl,Hs1⟩:=hid3 hg1 hsl hs1
   clear hnv1 hst1' hg1 hsl hs1
   go_wp2_with fail
   go_loopw [3,7] (fun o v wr=>∃(q:Nat) (τs:Tags),q≤12∧v = .int .i64 (q:Int)∧NV w.heap.size wr τs (tSlR j) o (Qbw V i++Qbi V i q)∧TG wr τs I.bm I.bl I.bp I.bf I.bd I.N bo X next H' L1 D1 F1 s1 cur i i1 b f∧Step w τ wr τs TyTag) (fun _ v _=>12-(intOf v).toNat)
   case atStart=>exact⟨0,τ1,Nat.zero_le _,rfl,by rw[show Qbi V i 0=[] from rfl,List.append_nil];exact Hnv1.out,Hg1.out,Hst1'.out⟩
   case round =>
    obtain⟨q,τs,hq,rfl,hnq,hgq,hsq⟩:=hrel
    obtain⟨pq,cq,rfl⟩:=hnq.val
    by_cases hlt12:q<12
    ·have hltq:(q:Int)<12:=by omega
     have hsd:=(H1.out.good.page i hlt).1
     have hgt:=Qk0 hgq.page hsd.tidy.lies.fit q (by omega) tData
     rw[(H5.out i hlt).2 q] at hgt
     obtain⟨B,hB⟩:∃B,decide (0<(V i q).length)=B:=⟨_,rfl⟩
     rw[hB] at hgt
     have hrow:Qbi V i (q+1)=Qbi V i q++[Jb2 (V i q)]:=Qnu V i q
     have hrl:(Qbw V i++Qbi V i q).length≤1000000000:=by rw[List.length_append,Qc3,Qi6];omega
     obtain⟨nq,hnq'⟩:∃nq,(Qbw V i++Qbi V i q).length=nq:=⟨_,rfl⟩
     rw[hnq'] at hnq ⊢
     obtain⟨Hnq,Hgq,Hsq,Hgt,HB,Hrow,Hrl⟩:=hid7 hnq hgq hsq hgt hB hrow hrl
     have Hnq':=Lib.hid hnq'
     have Hsd:=Lib.hid hsd
     clear hnq hgq hsq hgt hB hrow hrl hnq' hsd
     go_wp2_with fail
     refine Hgt.out.mono ?_
     rintro e w2 ⟨u,τ2,rfl,hu,hs2⟩
     cases B with
     | true =>
       have hne:V i q≠[]:=fun e=>by have:=HB.out;rw[e] at this;simp at this
       have hro:Jb2 (V i q)=V i q++[1]:=if_neg hne
       obtain⟨pu,cu,rfl⟩:=hu.val
       obtain⟨lu,hlu⟩:∃lu,(V i q).length=lu:=⟨_,rfl⟩
       have hlu4:(V i q).length≤4:=(H_h.out.slot4 hlt q).1
       rw[hlu] at hu ⊢
       obtain⟨Hu,Hs2,Hro,Hlu,Hlu4,Hne⟩:=hid6 hu hs2 hro hlu hlu4 hne
       clear hu hs2 hro hlu hlu4 hne
       go_upto_region 14 with (at_builtin;go_loud (refine Qal (Hs2.out.alloc' _) (Hu.out.alloc _) (Qwv w2 τ2) (by have:=Hlu4.out;show _+1≤_;omega) rfl _ _ rfl rfl rfl ?_;intro v3 w3 τ3 hu3 hs3 hs3';obtain⟨p3,c3,rfl⟩:=hu3.val;clear hs3';obtain⟨Hu3,Hs3⟩:=hid2 hu3 hs3;clear hu3 hs3))
       have hnq3:=Hnq.out.step Hs3.out (fun h=>h) (fun h=>h)
       have hst3:=Hsq.out.trans (Hs3.out.mono (T:=TyTag) (fun _ h=>h.elim))
       have hg3:=Hgq.out.step Hs3.out (fun g h=>h.elim)
       have hx3:Bytes w3 τ3 tData (.slice p3 (V i q++[1]).length c3) (Jb2 (V i q)):=by rw[Hro.out];exact Hu3.out.bytes
       obtain⟨l3,hl3⟩:∃l3,(V i q).length+1=l3:=⟨_,rfl⟩
       rw[List.length_append,List.length_singleton,hl3] at hx3
       rw[hl3]
       obtain⟨Hnq3,Hst3,Hg3,Hx3,Hl3⟩:=hid5 hnq3 hst3 hg3 hx3 hl3
       clear hnq3 hst3 hg3 hx3 hl3
       go_wp2_with (at_builtin;go_loud (refine Qcv Hst3.out (Qfy j).2.2.1 Hnq3.out Hx3.out Hrl.out rfl rfl _ _ rfl rfl rfl ?_;intro v4 w4 τ4 hn4 hs4 hs4';obtain⟨Hn4,Hs4⟩:=hid2 hn4 hs4;have Hs4':=Lib.hid hs4';clear hn4 hs4 hs4'))
       go_round
       case rel=>exact⟨q+1,τ4,by omega,by simp,by rw[Hrow.out,←List.append_assoc];exact Hn4.out,Hg3.out.step Hs4'.out (fun g h=>by subst h;exact⟨(Qfy j).1,(Qfy j).2.1,(Qfy j).2.2.1⟩),Hs4.out⟩
       case measure=>simp[intOf];omega
     | false =>
       have hne:V i q=[]:=by
        have:=of_decide_eq_false HB.out
        exact List.eq_nil_of_length_eq_zero (by omega)
       have hro:Jb2 (V i q)=V i q:=by rw[hne];rfl
       obtain⟨pu,cu,rfl⟩:=hu.val
       obtain⟨lu,hlu⟩:∃lu,(V i q).length=lu:=⟨_,rfl⟩
       have hnq3:=Hnq.out.step hs2 (fun h=>h) (fun h=>h)
       have hst3:=Hsq.out.trans (hs2.mono (T:=TyTag) (fun _ h=>h.elim))
       have hg3:=Hgq.out.step hs2 (fun g h=>h.elim)
       have hx3:Bytes w2 τ2 tData (.slice pu (V i q).length cu) (Jb2 (V i q)):=by rw[hro];exact hu.bytes
       rw[hlu] at hx3 ⊢
       obtain⟨Hnq3,Hst3,Hg3,Hx3,Hlu,Hro,Hu,Hs2,Hne⟩:=hid9 hnq3 hst3 hg3 hx3 hlu hro hu hs2 hne
       clear hnq3 hst3 hg3 hx3 hlu hro hu hs2 hne
       go_wp2_with (at_builtin;go_loud (refine Qcv Hst3.out (Qfy j).2.2.1 Hnq3.out Hx3.out Hrl.out rfl rfl _ _ rfl rfl rfl ?_;intro v4 w4 τ4 hn4 hs4 hs4';obtain⟨Hn4,Hs4⟩:=hid2 hn4 hs4;have Hs4':=Lib.hid hs4';clear hn4 hs4 hs4'))
       go_round
       case rel=>exact⟨q+1,τ4,by omega,by simp,by rw[Hrow.out,←List.append_assoc];exact Hn4.out,Hg3.out.step Hs4'.out (fun g h=>by subst h;exact⟨(Qfy j).1,(Qfy j).2.1,(Qfy j).2.2.1⟩),Hs4.out⟩
       case measure=>simp[intOf];omega
    ·have hq12:q=12:=by omega
     subst hq12
     have hpl2:=Qhg hgq.mgr
     have hput:=Qrz hgq (by omega)
     have hal:Qbw V (i+1)=Qbw V i++Qbi V i 12:=Qgr V i
     obtain⟨nq,hnq'⟩:∃nq,(Qbw V i++Qbi V i 12).length=nq:=⟨_,rfl⟩
     rw[hnq'] at hnq ⊢
     obtain⟨Hnq,Hgq,Hsq,Hpl2,Hput,Hal⟩:=hid6 hnq hgq hsq hpl2 hput hal
     have Hnq':=Lib.hid hnq'
     clear hnq hgq hsq hpl2 hput hal hnq'
     go_wp2_with fail
     refine Hpl2.out.mono ?_
     rintro e w' ⟨rfl,rfl⟩
     go_wp2_with fail
     refine Hput.out.mono ?_
     rintro e w5 ⟨rfl,s5,ht5,hs5⟩
     have hz5:TZ w5 τs I bo X next R V (st+(i+1)):=⟨⟨H',L1,D1,F1,s5,cur,ht5,H2.out.same Hsl.out,by rw[Hsl.out.strips];exact H3.out,by have:=H4.out;omega,H5.out⟩⟩
     have hn5:=Hnq.out.step hs5 (Qfy j).1 Qhd
     have hst5:=Hsq.out.trans (hs5.mono (T:=TyTag) (fun _ h=>.inl (.inl h)))
     obtain⟨Hz5,Hn5,Hst5⟩:=hid3 hz5 hn5 hst5
     clear hz5 hn5 hst5 hs5 ht5
     go_wp2_with fail
     go_round
     case rel=>exact⟨i+1,τs,by omega,by simp,by rw[Hal.out];exact Hn5.out,Hz5.out,Hst5.out⟩
     case measure=>simp[intOf];omega
  ·obtain rfl:i=I.N:=by omega
   obtain⟨nr,hnr⟩:∃nr,(Qbw V I.N).length=nr:=⟨_,rfl⟩
   rw[hnr] at hnv ⊢
   obtain⟨Hnv,Hz,Hs,H1,H2,H3,H4,H5,Hpl,Hpg,HHn,Hnr⟩:=hid12 hnv hz hs h1 h2 h3 h4 h5 hpl hpg hHn hnr
   clear hnv hz hs h1 h2 h3 h4 h5 hpl hpg hHn hnr
   go_wp2_with fail
   refine Hpl.out.mono ?_
   rintro e w1 ⟨rfl,rfl⟩
   go_wp2_with fail
   refine Hpg.out.mono ?_
   rintro e w1 ⟨rfl,rfl⟩
   go_wp2_with fail
   go_returns
   exact⟨_,τr,rfl,Hnv.out,Hz.out,Hs.out⟩
end Go.Proofs.YtjgacceifcnedaaGreat