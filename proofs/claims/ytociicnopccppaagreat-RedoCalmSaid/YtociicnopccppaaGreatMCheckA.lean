/-
 The log: Mark;transactions: Check.
-/
import Derived.Test.YtociicnopccppaaGreatMTxM
import Derived.Test.YtociicnopccppaaGreatMKeyB
set_option maxRecDepth 100000
set_option maxHeartbeats 4000000
set_option linter.all false
namespace Go.Proofs.YtociicnopccppaaGreat
variable {N:Nat}{w:World}{τ:qa1}
open Go.RowKit
def qac.marked (L:qac) (lsn:Nat):qac:=({L with check:=lsn}:qac).said
theorem Good.said {st:Nat} {L:qac} {D:Dev} {F:List Fr} {cur:Nat->List Int}(h:Good N st L D F cur) (lsn:Nat) (b:L.stamp+1<2 ^ 64) (k:L.base<=9223372036854775808) (l:L.qc0<2) (c:L.check<2 ^ 64) (o:lsn<2 ^ 64):Good N st (L.marked lsn) (Qf9 {L with check:=lsn} D) F cur:=by
 have d:=h.qgv.say h.calm.left (by have:=h.f0;have:=Jjh L;omega) b k h.base l rfl c o
 have g:(({L with check:=lsn}:qac).said.slot)+1<=D.f0.length:=by
  have h1:({L with check:=lsn}:qac).said.slot<=1:=by show 1-L.slot<=1;omega
  have h2:=h.f0
  have h3:2<=L.qam:=by unfold qac.qam;split <;> omega
  omega
 obtain⟨hd,e⟩:=gN (({L with check:=lsn}:qac).said.head)
 obtain⟨sl,a⟩:=gN (({L with check:=lsn}:qac).said.slot)
 have i:Qf9 {L with check:=lsn} D=D.lay 0 sl [hd]:=by unfold Qf9 Dev.lay;rw[e,a];rfl
 rw[a] at g
 have hl:∀m,qap (D.lay 0 sl [hd]) m 4=qap D m 4:=fun m=>Qq8 h.calm.left sl [hd] g m
 have q:∀E:Dev,E.file 1=E.f1:=fun _=>rfl
 have j:∀E:Dev,E.file 0=E.f0:=fun _=>rfl
 rw[i]
 refine⟨h.calm.lay oM _ _,by rw[<-q,Dev.qbg _ _ _ oM,q];exact h.f1,?_,h.cap,h.lasts,⟨h.rise.1,h.rise.2⟩,h.base,h.page,fun n hn=>?_,h.frame,h.none,h.one,?_,by rw[<-i];exact d⟩
 ·rw[<-j,Dev.qbg _ _ _ oM,j];exact h.f0
 ·obtain⟨Q,h1,h2⟩:=h.home n hn
  refine⟨Q,?_,h2⟩
  unfold qhj at h1 ⊢
  rw[hl]
  exact h1
 ·rw[hl];exact h.spare
theorem Jim {bm bl bp bf bd:Nat} {bo:Nat->Nat} {X:List qa9} {next:Nat} {H:qaq} {L:qac} {D:Dev} {F:List Fr} {s:Ck.Clk.St} {cur:Nat->List Int}(h:TW w τ bm bl bp bf bd N bo X next H L D F s cur) (lsn:Nat) (z:lsn<18446744073709551616) (B:L.stamp+1<18446744073709551616) (C:L.base<=9223372036854775808) :
 Calls Tryz.prog 88 #[.pointer (some ⟨bl,0,none⟩),.int .u64 lsn] w fun e w'=>e = .returned (.tuple #[])/\∃E k fl K D',L.AtR 18446744073709551615 k fl/\k+(if fl=true then 1 else 0)=K/\Step w τ w' E qbc/\TW w' E bm bl bp bf bd N bo X next H ((flL L K).marked lsn) D' F s cur:=by
 have q:=Jcl h 18446744073709551615 oM
 rw[show ((18446744073709551615:Nat):Int)=18446744073709551615 from rfl] at q
 have a9:=Z2 q
 clear q
 go_enter Tryz.func88,Tryz.ntmps88
 go_wp2_with fail
 refine a9.mono ?_
 rintro e y ⟨rfl,τ1,k,fl,G,I,c⟩
 have a:qaw y τ1 bl bd (flL L (k+(if fl=true then 1 else 0))):=c.hbl▸c.pool.log
 obtain⟨K,hK⟩:=gN (k+(if fl=true then 1 else 0))
 rw[hK] at c a
 obtain⟨M,J⟩:=gN (flL L K)
 rw[J] at c a
 obtain⟨vs,vt,O,hb,ht⟩:=a.is
 have c2:=O.at 2 rfl
 have z2:=O.fz 2
 have R:=O.set 2 (.int .u64 lsn)
 have d:Step y τ1 (y.setCell ⟨bl,2,none⟩ (.int .u64 lsn)) τ1 (fun t=>t=qb1):=(Step.refl y τ1 (fun t=>t=qb1)).set (o:=2) O.tag rfl _
 have b:=a.ok
 have U:M.stamp=L.stamp:=by rw[<-J];exact Jjs L K
 have Y:M.base=L.base:=by rw[<-J];exact(Qjz L K).1
 obtain⟨ab,ac⟩:=qaj U Y
 clear U Y
 have Z:=Z2 b
 have a0:qaw (y.setCell ⟨bl,2,none⟩ (.int .u64 lsn)) τ1 bl bd {M with check:=lsn}:=⟨⟨vs,vt,R,hb.step d dC,ht.step d dC⟩,a.isB,⟨b.stamp,b.base,by show lsn<2 ^ 64;rw[show (2:Nat) ^ 64=18446744073709551616 from by decide];exact z,b.qc0,b.strips,b.slot,b.stream,b.starts,b.lasts⟩⟩
 have a1:=c.pool.dev.step d (fun g hg=>by rcases hg with rfl;exact⟨Qau _ (.inl rfl),by simp[qb1,qa2]⟩)
 have hgf:=c.good.f0
 have i:=Qy5 a0 a1 (by have:2<=M.qam:=by {unfold qac.qam;split <;> omega};omega) (Dev.qbb (c.good.calm.lim 0) oM)
 have j:=I.trans (d.mono (T:=qbc) (fun _ h=>.inl (.inl h)))
 obtain⟨a3,a4,ad,ae,HM,HK,af⟩:=qdr i j c d J hK G
 clear i j c d J hK G O hb ht a a0 a1 I b R
 go_wp2_with fail
 refine a3.mono ?_
 rintro e w2 ⟨rfl,r,a5,a6,x⟩
 have h12:Step y τ1 w2 r qbc:=(ae.mono (T:=qbc) (fun _ h=>.inl (.inl h))).trans x
 have l:=a4.trans x
 have n:=ad.out
 have p:TW w2 r bm bl bp bf bd N bo X next H (M.marked lsn) (Qf9 {M with check:=lsn} (flD L D K)) F s cur :=
  ⟨⟨n.pool.pool.step h12 (fun g hg hS=>(Jco hS).1 hg),by rw[n.hbl];exact a5,a6⟩,n.mgr.step h12 (fun g hg hS=>(Jco hS).2 hg),n.good.said lsn (by rw[ab.out];exact B) (by rw[ac.out];exact C) Z.qc0 Z.check z,n.clock,n.hn,n.hbl⟩
 obtain⟨a7,a8⟩:=qaj p l
 clear p l a5 a6 x h12 n
 go_wp2_with fail
 go_returns
 exact⟨rfl,r,k,fl,K,_,af,HK,a8,by rw[HM.out];exact a7⟩
def qb6:qak:=⟨7,0,0,0,noChange,[],[]⟩
def Jgw (ts:List qdb) (ps:List (Nat×Nat)):qak:=⟨8,0,0,0,noChange,ts,ps⟩
theorem ND.ns {n0:Nat} {g:Tag} {v:Value} {l:List (Nat×Nat)}(h:ND n0 w τ g v l):NS 84 2 Qgn n0 w τ g v l:=⟨h.buf,h.low⟩
theorem Jir (X:List qa9) (hn:(qa9.ids X).Nodup):(qa9.ids X).map (fun k=>(oneOf X k).act)=X.map qa9.act:=by
 unfold qa9.ids
 rw[List.map_map]
 refine List.map_congr_left (fun x a=>?_)
 have h:=Jhi (X:=X) (k:=x.txn) (List.mem_map.2 ⟨x,a,rfl⟩)
 show (oneOf X x.txn).act=x.act
 rw[qa9.id_inj hn h.1 a h.2]
theorem Jib {X:List qa9}(hn:(qa9.ids X).Nodup) {ts:List Nat}(a:ts.Perm (qa9.ids X)):(ts.map (fun k=>(oneOf X k).act)).Perm (X.map qa9.act):=by
 rw[<-Jir X hn]
 exact a.map _
theorem Jhp {st:Nat} {L:qac} {D:Dev} {F:List Fr} {cur:Nat->List Int}(c:Good N st L D F cur):∀x∈Qyu F,x.1<N/\x.2<18446744073709551616:=fun x d=>by
 unfold Qyu Qfs at d
 rw[List.take_length] at d
 obtain⟨f,h,rfl⟩:=List.mem_map.1 d
 obtain⟨e,g⟩:=List.mem_filter.1 h
 obtain⟨i,hi,j⟩:=List.mem_iff_getElem.1 e
 have a:F[i]?=some f:=by rw[Z3 hi,j]
 have h0:0<f.first:=of_decide_eq_true g
 cases b:f.pg with
 | none =>
   have:=c.none i f a b
   rw[this] at h0
   exact absurd h0 (by show ¬0<0;omega)
 | some x=>exact⟨(c.frame i f x.1 x.2 a b).1,((c.frame i f x.1 x.2 a b).2.2 h0).2⟩
theorem Jh1 (F:List Fr):(Qyu F).length<=F.length:=by
 unfold Qyu Qfs
 rw[Y0,List.take_length]
 exact List.length_filter_le _ _
theorem Jit {ts:List qdb} {ps:List (Nat×Nat)}(h1:ts.length<=64) (h2:ps.length<=64) (b:∀x∈ts,x.txn<4294967296/\x.last<18446744073709551616/\x.undo<18446744073709551616/\x.state=1) (c:∀x∈ps,x.1<4294967296/\x.2<18446744073709551616) :
 qjy (Jgw ts ps)/\qes (Jgw ts ps)=true/\(encR (Jgw ts ps)).length=29+21*ts.length+12*ps.length:=by
 refine⟨⟨h1,h2,fun x a=>⟨(b x a).1,(b x a).2.1,(b x a).2.2.1,by rw[(b x a).2.2.2];omega⟩,c⟩,?_,?_⟩
 ·have d:Qdu ts=false:=by
   unfold Qdu
   rw[List.any_eq_false]
   intro x a
   rw[(b x a).2.2.2]
   decide
  have e:¬64<ts.length:=oM
  have g:¬64<ps.length:=oM
  show qep 8 ts.length ps.length (qef (qgb 8) 0 0 false false 0 0) (Qdu ts)=true
  rw[d]
  unfold qep
  rw[decide_eq_false e,decide_eq_false g]
  simp[qef,qgb]
 ·rw[Qbh]
  show 27+(qb2 (Jgw ts ps)).length=_
  unfold qb2
  rw[if_neg (by show ¬qgb 8=true;decide),if_pos (show (Jgw ts ps).kind=8 from rfl)]
  show 27+(qim ts ps).length=_
  unfold qim
  rw[Z6,Z6,Z6,Qaa,Qaa,Jg5 _ 21 Jhn,Jg5 _ 12 Jho]
  omega
theorem NS.weak {α:Type} {e:TypeId} {k:Nat} {enc:α->List Value} {n0:Nat} {g:Tag} {v:Value} {l:List α}(h:NS e k enc n0 w τ g v l):NS e k enc 0 w τ g v l:=⟨h.buf,fun _ _=>Z9 _⟩
theorem Jgy:(encR qb6).length=27:=by
 rw[Qbh]
 show 27+(qb2 qb6).length=27
 unfold qb2
 rw[if_neg (by show ¬qgb 7=true;decide),if_neg (by show ¬7=8;decide)]
 rfl
theorem Jhu:qb6.ok:=⟨by rfl,dC,dC,dC,dC,dC,dC⟩
theorem Jik (w:World) (τ:qa1):qh1 w τ (.agg #[.int .u8 7,.int .u32 0,.int .u64 0,.int .u64 0,.int .u32 0,.int .u16 0,.bool false,.bool false,.slice none 0 0,.slice none 0 0,.slice none 0 0,.slice none 0 0]) qb6:=⟨⟨none,0,none,0,none,0,none,0,qay,qay,0,rfl,Bytes.empty _ _ _,Bytes.empty _ _ _,NS.nil _ _ _ _ _ _ _,NS.nil _ _ _ _ _ _ _,by simp[WrT,qay,tWr,tWb],by simp[WrT,qay,tWr,tWb]⟩,dC,dC,dC,dC,dC,dC⟩
theorem tabI {n1 e nt np:Nat} {c d:Option Addr} {ct cp:Nat} {l:List qdb} {ps:List (Nat×Nat)}(a:l.length=nt) (b:ps.length=np) (h1:NS 42 4 Qct n1 w τ qfx (.slice c nt ct) l) (h2:NS 84 2 Qgn e w τ qch (.slice d np cp) ps) :
 qh1 w τ (.agg #[.int .u8 8,.int .u32 0,.int .u64 0,.int .u64 0,.int .u32 0,.int .u16 0,.bool false,.bool false,.slice none 0 0,.slice none 0 0,.slice c nt ct,.slice d np cp]) (Jgw l ps) :=
 ⟨⟨none,0,none,0,c,ct,d,cp,qfx,qch,0,by rw[show (Jgw l ps).qbm.length=nt from a,show (Jgw l ps).pages.length=np from b];rfl,Bytes.empty _ _ _,Bytes.empty _ _ _,by rw[show (Jgw l ps).qbm.length=nt from a];exact h1.weak,by rw[show (Jgw l ps).pages.length=np from b];exact h2.weak,by simp[WrT,qfx,tWr,tWb],by simp[WrT,qch,tWr,tWb]⟩,by show 8<256;omega,by show 0<4294967296;omega,by show 0<18446744073709551616;omega,by show 0<18446744073709551616;omega,by show 0<4294967296;omega,by show 0<65536;omega⟩
theorem qca.marked {cur:Nat->List Int} {L:qac} {R:List qak}(h:qca N cur L R) (n:Nat) (a:L.stamp+1<=1+R.length):qca N cur (L.marked n) R:=⟨h.stream,h.starts,h.ok,h.base,h.seen,h.ok8,Y3 (Nat.mod_le _ _) a⟩
def Jiz (w:World) (τ:qa1) (I:Ids) (bo:Nat->Nat) (X:List qa9) (next:Nat) (R:List qak) (V:qbd) (st:Nat) (e:Ending) (w':World):Prop :=
 ∃(er:Nat) (τ':qa1) (T:List qak),e = .returned (.int .u16 er)/\Step w τ w' τ' qbj/\TZ w' τ' I bo X next (R++T) V st/\(qae (R++T)).length+qci X<=I.S*127/\(T=[]\/∃ts ps,T=[qb6,Jgw ts ps]/\ts.Perm (X.map qa9.act))
theorem Jia {I:Ids} {bo:Nat->Nat} {X:List qa9} {next:Nat} {R:List qak} {V:qbd} {st:Nat}(h:TZ w τ I bo X next R V st) (hX:∀x∈X,x.state=1/\x.last<18446744073709551616/\x.undo<18446744073709551616) {B:Nat}(hB:qfo B) (g2:X.length<=B) (dw:(qae R).length+qci X<=I.S*127) :
 Calls Tryz.prog 36 #[.pointer (some ⟨I.bm,0,none⟩)] w (Jiz w τ I bo X next R V st):=by
 obtain⟨H,L,D,F,s,cur,h1,h2,h3,h4,h5⟩:=h.is
 have cw:=fun (W:World) (T:qa1) (m:Step w τ W T nil)=>Jg6 (h1.nil m).mgr hB g2
 have hF:=h1.pool.pool.k1
 have cx:=fun (W:World) (T:qa1) (m:Step w τ W T nil)=>Jaz (h1.nil m).pool.pool (Jdy F.length oM)
 obtain⟨ba,ho,-⟩:=h1.mgr.is
 have g4:w.cell? ⟨I.bm,1,none⟩=some (.pointer (some ⟨I.bp,0,none⟩)):=ho.at 1 rfl
 obtain⟨H1,H2,H3,H4,H5,b0,am,Ho⟩:=qen h1 h2 h3 h4 h5 cw cx ho
 clear h1 h2 h3 h4 h5 cw cx ho
 go_enter Tryz.func36,Tryz.ntmps36
 go_wp2_with fail
 refine Qaf (S:=fun W:World=>W.cell? ⟨I.bm,1,none⟩=some (.pointer (some ⟨I.bp,0,none⟩))) kR ?_
 refine tk0 [0,2,3,4,5] ?_
 iterate 5
  refine tkv (v:=?_) ?_ ?_
  rotate_left
  ·intro w p;(try dsimp only at p);go_simp
   all_goals with_reducible rfl
  try simp only[Act.put,lz1,lz2,lz3]
 refine tk9 ?_
 try simp only[lz4,lz5,lz6,lz1,lz2,lz3]
 have eg:=(zS w τ).drew
 generalize w.drew=w0 at *
 clear g4
 have bz:=Z2 eg
 clear eg
 refine Qss (i:=1) (j:=8) dK rfl rfl (fun K d=>?h1) (fun K d=>?h2)
 case' h1 =>
  go_simp
  go_at_call 11
  refine(b0 w0 τ bz).mono ?_
  rintro e w1 ⟨v,ts,τ1,rfl,b1,ab,cy⟩
  have ac:=bz.trans cy
  obtain⟨pt,ct,rfl⟩:=ab.val
  have ca:w1.cell? ⟨I.bm,1,none⟩=some (.pointer (some ⟨I.bp,0,none⟩)):=(Ho.step ac id).at 1 rfl
  obtain⟨eh,ad,aw⟩:=qan b1 ab ac
  clear b1 ab ac cy
  refine d.out _ _ (fun _=>ca) ?_
  clear d K
  try simp only[Act.put]
  try simp only[lz4,lz5,lz6,lz1,lz2,lz3]
  refine Qss (i:=6) (j:=8) dK rfl rfl (fun K d=>?h11) (fun K d=>?h12)
 case' h11 =>
  go_simp
  go_at_call 47
  refine(am w1 τ1 aw).mono ?_
  rintro e w2 ⟨v,a5,ps,rfl,a7,b2,Z,O⟩
  obtain⟨pp,cp,rfl⟩:=Z.ns.val
  have z:=aw.trans O
  have a8:=ad.step O id
  have af:w2.cell? ⟨I.bm,1,none⟩=some (.pointer (some ⟨I.bp,0,none⟩)):=(Ho.step z id).at 1 rfl
  have hx:=Own.born w2 a5 qbv 73 zR
  have E:Step w2 a5 (w2.alloc (.cells zR 73)) (a5.put w2.heap.size qbv) nil:=(zS w2 a5).alloc (.cells zR 73) qbv
  generalize a5.put w2.heap.size qbv=ag at *
  have C:=z.trans E
  have a0:=a8.step E id
  have a1:=Z.ns.step E id
  obtain⟨bx,a2⟩:=gN w2.heap.size
  have G:w.heap.size<=bx:=by rw[<-a2];exact z.size
  rw[a2] at hx
  have aa:=hx
  have ax:(w2.alloc (.cells zR 73)).cell? ⟨I.bm,1,none⟩=some (.pointer (some ⟨I.bp,0,none⟩)):=(Ho.step C id).at 1 rfl
  obtain⟨b4,an,cb,cc,c⟩:=qbq a7 C a0 a1 aa
  clear a7 b2 C a0 a1 aa hx Z O z a8 E ad aw
  refine d.out _ _ (fun _=>af) ?_
  clear d K
  refine tk (i:=7) (v:=?_) rfl (Or.inl ⟨by rfl,?_⟩) (by assumption) ?_
  rotate_left
  ·intro w p;(try dsimp only at p);go_simp
   all_goals with_reducible rfl
  try simp only[Act.put,lz1,lz2,lz3]
  try simp only[lz4,lz5,lz6,lz1,lz2,lz3]
  refine Qst (i:=8) dK rfl (fun K d=>?_)
  go_simp
  refine d.out _ _ (fun _=>ax) ?_
  clear d K af
  generalize (w2.alloc (.cells zR 73))=w3 at *
  try rw[a2]
 case' h12 =>
  have hx:=Own.born w1 τ1 qbv 73 zR
  have E:Step w1 τ1 (w1.alloc (.cells zR 73)) (τ1.put w1.heap.size qbv) nil:=(zS w1 τ1).alloc (.cells zR 73) qbv
  generalize τ1.put w1.heap.size qbv=a5 at *
  have z:=aw.trans E
  have a8:=ad.step E id
  have af:(w1.alloc (.cells zR 73)).cell? ⟨I.bm,1,none⟩=some (.pointer (some ⟨I.bp,0,none⟩)):=(Ho.step z id).at 1 rfl
  obtain⟨bx,a2⟩:=gN w1.heap.size
  have G:w.heap.size<=bx:=by rw[<-a2];exact aw.size
  rw[a2] at hx
  obtain⟨Hx,a3,cz⟩:=qan hx z a8
  clear hx z a8 E
  go_simp
  refine d.out _ _ (fun _=>af) ?_
  clear d K
  generalize (w1.alloc (.cells zR 73))=w2 at *
  try rw[a2]
  refine Qst (i:=6) dK rfl (fun K d=>?_)
  go_simp
  go_at_call 47
  refine(am w2 a5 a3).mono ?_
  rintro e w3 ⟨v,ag,ps,rfl,a7,b2,Z,O⟩
  obtain⟨pp,cp,rfl⟩:=Z.ns.val
  have C:=a3.trans O
  have a0:=cz.step O id
  have a1:=Z.ns
  have aa:=Hx.step O id
  have ax:w3.cell? ⟨I.bm,1,none⟩=some (.pointer (some ⟨I.bp,0,none⟩)):=(Ho.step C id).at 1 rfl
  obtain⟨b4,an,cb,cc,c⟩:=qbq a7 C a0 a1 aa
  clear a7 b2 C a0 a1 aa Z O a3 cz Hx ad aw
  refine d.out _ _ (fun _=>ax) ?_
  clear d K
  refine tk (i:=7) (v:=?_) rfl (Or.inl ⟨by rfl,?_⟩) (by assumption) ?_
  rotate_left
  ·intro w p;(try dsimp only at p);go_simp
   all_goals with_reducible rfl
  try simp only[Act.put,lz1,lz2,lz3]
  try simp only[lz4,lz5,lz6,lz1,lz2,lz3]
 case' h2 =>
  have hx:=Own.born w0 τ qbv 73 zR
  have E:Step w0 τ (w0.alloc (.cells zR 73)) (τ.put w0.heap.size qbv) nil:=(zS w0 τ).alloc (.cells zR 73) qbv
  generalize τ.put w0.heap.size qbv=τ1 at *
  have E:=bz.trans E
  have ca:(w0.alloc (.cells zR 73)).cell? ⟨I.bm,1,none⟩=some (.pointer (some ⟨I.bp,0,none⟩)):=(Ho.step E id).at 1 rfl
  obtain⟨bx,a2⟩:=gN w0.heap.size
  have G:w.heap.size<=bx:=by rw[<-a2];exact bz.size
  rw[a2] at hx
  obtain⟨Hx,dy⟩:=qaj hx E
  clear hx E
  go_simp
  refine d.out _ _ (fun _=>ca) ?_
  clear d K
  generalize (w0.alloc (.cells zR 73))=w1 at *
  try rw[a2]
  refine Qst (i:=1) dK rfl (fun K d=>?_)
  go_simp
  go_at_call 11
  refine(b0 w1 τ1 dy).mono ?_
  rintro e w2 ⟨v,ts,a5,rfl,b1,ab,ac⟩
  obtain⟨pt,ct,rfl⟩:=ab.val
  have z:=dy.trans ac
  have af:w2.cell? ⟨I.bm,1,none⟩=some (.pointer (some ⟨I.bp,0,none⟩)):=(Ho.step z id).at 1 rfl
  have ei:=Hx.step ac id
  obtain⟨eh,ad,a3,ej⟩:=qb9 b1 ab z ei
  clear b1 ab z ei ac
  refine d.out _ _ (fun _=>af) ?_
  clear d K
  try simp only[Act.put]
  try simp only[lz4,lz5,lz6,lz1,lz2,lz3]
  refine Qst (i:=6) dK rfl (fun K d=>?_)
  go_simp
  go_at_call 47
  refine(am w2 a5 a3).mono ?_
  rintro e w3 ⟨v,ag,ps,rfl,a7,b2,Z,O⟩
  obtain⟨pp,cp,rfl⟩:=Z.ns.val
  have C:=a3.trans O
  have a0:=ad.step O id
  have a1:=Z.ns
  have aa:=ej.step O id
  have ax:w3.cell? ⟨I.bm,1,none⟩=some (.pointer (some ⟨I.bp,0,none⟩)):=(Ho.step C id).at 1 rfl
  obtain⟨b4,an,cb,cc,c⟩:=qbq a7 C a0 a1 aa
  clear a7 b2 C a0 a1 aa Z O a3 ej Hx ad dy ca af
  refine d.out _ _ (fun _=>ax) ?_
  clear d K
  refine tk (i:=7) (v:=?_) rfl (Or.inl ⟨by rfl,?_⟩) (by assumption) ?_
  rotate_left
  ·intro w p;(try dsimp only at p);go_simp
   all_goals with_reducible rfl
  try simp only[Act.put,lz1,lz2,lz3]
  try simp only[lz4,lz5,lz6,lz1,lz2,lz3]
 all_goals (
  obtain⟨nt,ek⟩:=gN ts.length
  obtain⟨np,b6⟩:=gN ps.length
  try rw[Y0]
  rw[ek,b6]
  have c0:=c.at 0 rfl
  have z0:=c.fz 0
  have c1:=c.at 1 rfl
  have z1:=c.fz 1
  have c2:=c.at 2 rfl
  have z2:=c.fz 2
  have c3:=c.at 3 rfl
  have z3:=c.fz 3
  have c4:=c.at 4 rfl
  have z4:=c.fz 4
  have c5:=c.at 5 rfl
  have z5:=c.fz 5
  have c6:=c.at 6 rfl
  have z6:=c.fz 6
  have c7:=c.at 7 rfl
  have z7:=c.fz 7
  have c8:=c.at 8 rfl
  have z8:=c.fz 8
  have c9:=c.at 9 rfl
  have z9:=c.fz 9
  have b7:=c.at 10 rfl
  have g5:=c.fz 10
  have b8:=c.at 11 rfl
  have g6:=c.fz 11
  refine Qst (i:=9) dK rfl (fun K d=>?_)
  go_simp
  have ep:Own _ ag bx qbv 73 [.int .u8 8,.int .u32 0,.int .u64 0,.int .u64 0,.int .u32 0,.int .u16 0,.bool false,.bool false,.slice none 0 0,.slice none 0 0,.slice pt nt ct,.slice pp np cp]:=((((((((((((c.set 0 (.int .u8 8)).set 1 (.int .u32 0)).set 2 (.int .u64 0)).set 3 (.int .u64 0)).set 4 (.int .u32 0)).set 5 (.int .u16 0)).set 6 (.bool false)).set 7 (.bool false)).set 8 (.slice none 0 0)).set 9 (.slice none 0 0)).set 10 (.slice pt nt ct)).set 11 (.slice pp np cp))
  have d0:Step w τ ((((((((((((w3.setCell ⟨bx,0,none⟩ (.int .u8 8)).setCell ⟨bx,1,none⟩ (.int .u32 0)).setCell ⟨bx,2,none⟩ (.int .u64 0)).setCell ⟨bx,3,none⟩ (.int .u64 0)).setCell ⟨bx,4,none⟩ (.int .u32 0)).setCell ⟨bx,5,none⟩ (.int .u16 0)).setCell ⟨bx,6,none⟩ (.bool false)).setCell ⟨bx,7,none⟩ (.bool false)).setCell ⟨bx,8,none⟩ (.slice none 0 0)).setCell ⟨bx,9,none⟩ (.slice none 0 0)).setCell ⟨bx,10,none⟩ (.slice pt nt ct)).setCell ⟨bx,11,none⟩ (.slice pp np cp)) ag nil:=((((((((((((an.qa3 (b:=bx) (o:=0) G _).qa3 (b:=bx) (o:=1) G _).qa3 (b:=bx) (o:=2) G _).qa3 (b:=bx) (o:=3) G _).qa3 (b:=bx) (o:=4) G _).qa3 (b:=bx) (o:=5) G _).qa3 (b:=bx) (o:=6) G _).qa3 (b:=bx) (o:=7) G _).qa3 (b:=bx) (o:=8) G _).qa3 (b:=bx) (o:=9) G _).qa3 (b:=bx) (o:=10) G _).qa3 (b:=bx) (o:=11) G _)
  have b9:Step w3 ag ((((((((((((w3.setCell ⟨bx,0,none⟩ (.int .u8 8)).setCell ⟨bx,1,none⟩ (.int .u32 0)).setCell ⟨bx,2,none⟩ (.int .u64 0)).setCell ⟨bx,3,none⟩ (.int .u64 0)).setCell ⟨bx,4,none⟩ (.int .u32 0)).setCell ⟨bx,5,none⟩ (.int .u16 0)).setCell ⟨bx,6,none⟩ (.bool false)).setCell ⟨bx,7,none⟩ (.bool false)).setCell ⟨bx,8,none⟩ (.slice none 0 0)).setCell ⟨bx,9,none⟩ (.slice none 0 0)).setCell ⟨bx,10,none⟩ (.slice pt nt ct)).setCell ⟨bx,11,none⟩ (.slice pp np cp)) ag (fun t=>t=qbv):=(((((((((((((Step.refl w3 ag (fun t=>t=qbv)).set (o:=0) c.tag rfl _).set (o:=1) c.tag rfl _).set (o:=2) c.tag rfl _).set (o:=3) c.tag rfl _).set (o:=4) c.tag rfl _).set (o:=5) c.tag rfl _).set (o:=6) c.tag rfl _).set (o:=7) c.tag rfl _).set (o:=8) c.tag rfl _).set (o:=9) c.tag rfl _).set (o:=10) c.tag rfl _).set (o:=11) c.tag rfl _)
  have er:=cb.step b9 dC
  have et:=cc.step b9 dC
  obtain⟨J,d1,ce,cf⟩:=qb9 ep d0 er et
  clear ep d0 er et
  refine d.out _ _ (fun h=>absurd h dK) ?_
  clear d K b9 c an cb cc c0 z0 c1 z1 c2 z2 c3 z3 c4 z4 c5 z5 c6 z6 c7 z7 c8 z8 c9 z9 b7 g5 b8 g6 ax
  generalize ((((((((((((w3.setCell ⟨bx,0,none⟩ (.int .u8 8)).setCell ⟨bx,1,none⟩ (.int .u32 0)).setCell ⟨bx,2,none⟩ (.int .u64 0)).setCell ⟨bx,3,none⟩ (.int .u64 0)).setCell ⟨bx,4,none⟩ (.int .u32 0)).setCell ⟨bx,5,none⟩ (.int .u16 0)).setCell ⟨bx,6,none⟩ (.bool false)).setCell ⟨bx,7,none⟩ (.bool false)).setCell ⟨bx,8,none⟩ (.slice none 0 0)).setCell ⟨bx,9,none⟩ (.slice none 0 0)).setCell ⟨bx,10,none⟩ (.slice pt nt ct)).setCell ⟨bx,11,none⟩ (.slice pp np cp))=w4 at *
  refine Qad kR ?_ _
  have c0:=J.at 0 rfl
  have c1:=J.at 1 rfl
  have c2:=J.at 2 rfl
  have c3:=J.at 3 rfl
  have c4:=J.at 4 rfl
  have c5:=J.at 5 rfl
  have c6:=J.at 6 rfl
  have c7:=J.at 7 rfl
  have c8:=J.at 8 rfl
  have c9:=J.at 9 rfl
  have b7:=J.at 10 rfl
  have b8:=J.at 11 rfl
  obtain⟨l,hl⟩:=gN (ts.map (fun k=>(oneOf X k).act))
  have cg:l.Perm (X.map qa9.act):=hl▸Jib H1.mgr.nodup eh
  have ch:l.length=nt:=by rw[<-hl,Y0,ek]
  rw[hl,ch] at ce
  rw[b6] at cf
  have bb:=H1.mgr.many
  have hnt64:nt<=64:=by rw[<-ch,cg.length_eq,Y0];exact bb
  have hnp64:np<=64:=by rw[<-b6,b4.length_eq];exact Y3 (Jh1 F) hF.2
  have hN:=H1.pool.pool.n1.2
  rw[H1.hn] at hN
  have g7:=H1.mgr.nx
  obtain⟨tk1,dz,ci⟩:=Jit (ts:=l) (ps:=ps) oM oM (fun x hx=>by
   obtain⟨y,hy,rfl⟩:=List.mem_map.1 (cg.mem_iff.1 hx)
   have q1:=H1.mgr.low y hy
   have q2:=hX y hy
   exact⟨by show y.txn<_;omega,q2.2.1,q2.2.2,q2.1⟩) (fun x hx=>by
   have:=Jhp H1.good x (b4.mem_iff.1 hx)
   omega)
  have d2:=tabI ch b6 ce cf
  have d3:=Qiq d2 dz (by rw[ci];omega) (fun _=>Jhd tk1)
  have ev:(encR (Jgw l ps)).length<=3000:=by rw[ci];omega
  obtain⟨d4,g9,ga,bc,be,e0⟩:=qcq d3 cg ev tk1 dz ci
  clear d3 d2 cg ev tk1 dz ci hN g7 bb
  go_wp2_with fail
  refine d4.mono ?_
  rintro e w5 ⟨u5,e1,rfl,d5,bf⟩
  have d6:0<(encR (Jgw l ps)).length:=by rw[e0.out];omega
  obtain⟨b5,cap5,ys5,rfl,-,-,-,-,-⟩:=d5.row d6
  obtain⟨el,ao⟩:=gN ((encR (Jgw l ps)).length)
  have ew:=ga.out
  rw[ao] at ew ⊢
  have ap:=d1.trans bf
  have ck:Step w5 e1 w5.drew e1 nil:=(zS w5 e1).drew
  have cm:=H1.nil ap
  have bg:=Qde ((cm.nil ck).mgr)
  have e2:=Qu5 cm.mgr
  have cn:=Ho.step ap id
  have ey:=J.step bf id
  have d7:=ce.step bf id
  have d8:=cf.step bf id
  have m0:=cn.at 0 rfl
  have gb:w5.drew.cell? ⟨I.bm,0,none⟩=some (.pointer (some ⟨I.bl,0,none⟩)):=(cn.step ck id).at 0 rfl
  have ez:IntKind.u64.wrap ((qci X:Int)+(el:Int))=(qci X:Int)+(el:Int):=by
   have:=Qer (a:=qci X) (b:=el) oM
   rw[X1] at this
   exact this
  have f0:IntKind.u64.wrap (el:Int)=el:=Qam el oM
  obtain⟨f2,f3,f4,d9,da,db,ah,bh,gd⟩:=qgw cm cn ey d7 d8 ap ck bg e2
  clear cm cn ey d7 d8 ap ck bg e2 J d1 bf d5 d4 b0 am ce cf c0 c1 c2 c3 c4 c5 c6 c7 c8 c9 b7 b8
  go_wp2_with fail
  refine Qaf (S:=fun W:World=>W.cell? ⟨I.bm,0,none⟩=some (.pointer (some ⟨I.bl,0,none⟩))) kR ?_
  refine tk0 [0,1,2,3,4,5,7,8,9] ?_
  iterate 9
   refine tkv (v:=?_) ?_ ?_
   rotate_left
   ·intro w p;(try dsimp only at p);go_simp
    all_goals with_reducible rfl
   try simp only[Act.put,lz1,lz2,lz3]
  refine tk9 ?_
  try simp only[lz4,lz5,lz6,lz1,lz2,lz3]
  refine Qst (i:=6) dK rfl (fun K d=>?_)
  go_simp
  go_at_call 86
  refine bh.mono ?_
  rintro e w6 ⟨rfl,e3,ai⟩
  have dc:=db.trans (ah.trans ai)
  have co:=f2.nil (ah.trans ai)
  have e4:=f3.step (ah.trans ai) id
  have f5:=f4.step (ah.trans ai) id
  have dd:=d9.step (ah.trans ai) id
  have de:=da.step (ah.trans ai) id
  have ge:w6.cell? ⟨I.bm,0,none⟩=some (.pointer (some ⟨I.bl,0,none⟩)):=e4.at 0 rfl
  have bi:qaw w6 e3 I.bl I.bd L:=co.hbl▸co.pool.log
  obtain⟨e5,f6,df,dh,aq,e6,aj⟩:=qdr e4 f5 dd de dc co bi
  clear e4 f5 dd de dc co bi db ai f2 f3 f4 d9 da ah bh
  refine d.out _ _ (fun _=>ge) ?_
  clear d K
  refine tk (i:=10) (v:=?_) rfl (Or.inl ⟨by rfl,?_⟩) (by assumption) ?_
  rotate_left
  ·intro w p;(try dsimp only at p);go_simp
   all_goals with_reducible rfl
  try simp only[Act.put,lz1,lz2,lz3]
  try simp only[lz4,lz5,lz6,lz1,lz2,lz3]
  have di:=H2.stream
  have hln0:=h.len
  have hrl0:=Qfk R
  have dj:L.starts.length<=100000:=by rw[H2.starts,Qbc];omega
  have e2:=gd.out
  by_cases cq:L.stream.length+(encR qb6).length+(qci X+el)<=L.strips*127
  case' neg =>
   have a4:=Qg1 aj dj (Jik w6 e3) (by rfl) (by rw[Jgy];omega) (fun h=>by cases h) (qci X+el) oM cq
   rw[X1] at a4
   have ak:=Z2 a4
   clear a4
   refine Qst (i:=11) dK rfl (fun K d=>?_)
   go_simp
   go_at_call 85
   refine ak.mono ?_
   rintro e w7 ⟨rfl,bj,Y⟩
   have bk:w7.cell? ⟨I.bm,0,none⟩=some (.pointer (some ⟨I.bl,0,none⟩)):=(e5.step Y id).at 0 rfl
   refine d.out _ _ (fun _=>bk) ?_
   clear d K
   refine tk0 [12,13,14] ?_
   iterate 3
    refine tkv (v:=?_) ?_ ?_
    rotate_left
    ·intro w p;(try dsimp only at p);go_simp
     all_goals with_reducible rfl
    try simp only[Act.put,lz1,lz2,lz3]
   refine tk9 ?_
   try simp only[lz4,lz5,lz6,lz1,lz2,lz3]
   refine Qst (i:=15) dK rfl (fun K d=>?_)
   go_simp
   refine d.out _ _ (fun _=>bk) ?_
   clear d K
   refine Qst (i:=16) dK rfl (fun K d=>?_)
   go_simp
   refine d.out _ _ (fun h=>absurd h dK) ?_
   clear d K
   refine Qad kR ?_ _
   go_wp2_with fail
   go_ret
   refine⟨80,bj,[],rfl,(aq.trans Y).nz,?_,?_,.inl rfl⟩
   ·rw[List.append_nil]
    exact h.nil (aq.trans Y)
   ·rw[List.append_nil]
    exact dw
  have a4:=Qi0 aj dj (Jik w6 e3) (by rfl) (by rw[Jgy];omega) (fun h=>by cases h) (qci X+el) cq
  rw[X1] at a4
  have ak:=Z2 a4
  clear a4
  refine Qst (i:=11) dK rfl (fun K d=>?_)
  go_simp
  go_at_call 85
  refine ak.mono ?_
  rintro e w7 ⟨rfl,bj,f7,Y⟩
  obtain⟨lsn,bn⟩:=gN (L.base+L.stream.length)
  rw[bn]
  have f8:=e6.mgr.step Y (fun g hg q=>by rcases q with q|q|q <;> (subst q;simp[Qai,qb1,qa5,qa6] at hg))
  have f9:=e6.logged Y (fun g hg=>.inl hg) f7 (by rw[Jgy];omega) oM f8
  have e8:=e5.step Y (by simp[qai,qe4,qb1,qa5,qa6])
  have fa:=f6.step Y (by simp[qai,qbv,qb1,qa5,qa6])
  have bk:w7.cell? ⟨I.bm,0,none⟩=some (.pointer (some ⟨I.bl,0,none⟩)):=e8.at 0 rfl
  have dk:=(aq.nz (T:=qai)).trans Y
  have dl:=df.step Y (by simp[qai,qfx,qb1,qa5,qa6])
  have dm:=dh.step Y (by simp[qai,qch,qb1,qa5,qa6])
  obtain⟨e9,cr,ea,dn,fb,dp,dq⟩:=qdr f9 e8 fa dk bn dl dm
  clear f9 e8 fa dk bn dl dm Y e6 e5 f6 df dh aq aj ez f0 gb m0 ak f8 f7
  refine d.out _ _ (fun _=>bk) ?_
  clear d K
  refine tk0 [12,13,14] ?_
  iterate 3
   refine tkv (v:=?_) ?_ ?_
   rotate_left
   ·intro w p;(try dsimp only at p);go_simp
    all_goals with_reducible rfl
   try simp only[Act.put,lz1,lz2,lz3]
  refine tk9 ?_
  try simp only[lz4,lz5,lz6,lz1,lz2,lz3]
  refine Qst (i:=15) dK rfl (fun K d=>?_)
  go_simp
  refine d.out _ _ (fun _=>bk) ?_
  clear d K
  refine Qst (i:=16) dK rfl (fun K d=>?_)
  go_simp
  refine d.out _ _ (fun h=>absurd h dK) ?_
  clear d K
  refine Qad kR ?_ _
  have bq:Step w7 bj w7.drew bj nil:=(zS w7 bj).drew
  have bg:=Qde ((e9.nil bq).mgr)
  have m0:=cr.at 0 rfl
  have fc:=cr.step bq id
  have n:=ea.step bq id
  have c0:=n.at 0 rfl
  have c1:=n.at 1 rfl
  have c2:=n.at 2 rfl
  have c3:=n.at 3 rfl
  have c4:=n.at 4 rfl
  have c5:=n.at 5 rfl
  have c6:=n.at 6 rfl
  have c7:=n.at 7 rfl
  have c8:=n.at 8 rfl
  have c9:=n.at 9 rfl
  have b7:=n.at 10 rfl
  have b8:=n.at 11 rfl
  have cs:w7.drew.cell? ⟨I.bm,0,none⟩=some (.pointer (some ⟨I.bl,0,none⟩))/\w7.drew.cell? ⟨bx,0,none⟩=some (.int .u8 8)/\w7.drew.cell? ⟨bx,1,none⟩=some (.int .u32 0)/\w7.drew.cell? ⟨bx,2,none⟩=some (.int .u64 0)/\w7.drew.cell? ⟨bx,3,none⟩=some (.int .u64 0)/\w7.drew.cell? ⟨bx,4,none⟩=some (.int .u32 0)/\w7.drew.cell? ⟨bx,5,none⟩=some (.int .u16 0)/\w7.drew.cell? ⟨bx,6,none⟩=some (.bool false)/\w7.drew.cell? ⟨bx,7,none⟩=some (.bool false)/\w7.drew.cell? ⟨bx,8,none⟩=some (.slice none 0 0)/\w7.drew.cell? ⟨bx,9,none⟩=some (.slice none 0 0)/\w7.drew.cell? ⟨bx,10,none⟩=some (.slice pt nt ct)/\w7.drew.cell? ⟨bx,11,none⟩=some (.slice pp np cp):=⟨fc.at 0 rfl,n.at 0 rfl,n.at 1 rfl,n.at 2 rfl,n.at 3 rfl,n.at 4 rfl,n.at 5 rfl,n.at 6 rfl,n.at 7 rfl,n.at 8 rfl,n.at 9 rfl,n.at 10 rfl,n.at 11 rfl⟩
  obtain⟨fe,bh⟩:=qaj bq bg
  clear bq bg fc n
  go_wp2_with fail
  refine Qaf (S:=fun W:World=>W.cell? ⟨I.bm,0,none⟩=some (.pointer (some ⟨I.bl,0,none⟩))/\W.cell? ⟨bx,0,none⟩=some (.int .u8 8)/\W.cell? ⟨bx,1,none⟩=some (.int .u32 0)/\W.cell? ⟨bx,2,none⟩=some (.int .u64 0)/\W.cell? ⟨bx,3,none⟩=some (.int .u64 0)/\W.cell? ⟨bx,4,none⟩=some (.int .u32 0)/\W.cell? ⟨bx,5,none⟩=some (.int .u16 0)/\W.cell? ⟨bx,6,none⟩=some (.bool false)/\W.cell? ⟨bx,7,none⟩=some (.bool false)/\W.cell? ⟨bx,8,none⟩=some (.slice none 0 0)/\W.cell? ⟨bx,9,none⟩=some (.slice none 0 0)/\W.cell? ⟨bx,10,none⟩=some (.slice pt nt ct)/\W.cell? ⟨bx,11,none⟩=some (.slice pp np cp)) kR ?_
  refine tk0 [0,1,2,3,4,5] ?_
  iterate 6
   refine tkv (v:=?_) ?_ ?_
   rotate_left
   ·intro w p;(try dsimp only at p);go_simp
    all_goals with_reducible rfl
   try simp only[Act.put,lz1,lz2,lz3]
  refine tk9 ?_
  try simp only[lz4,lz5,lz6,lz1,lz2,lz3]
  clear m0 c0 c1 c2 c3 c4 c5 c6 c7 c8 c9 b7 b8 cs
  refine Qst (i:=6) dK rfl (fun K d=>?_)
  go_simp
  go_at_call 86
  refine bh.mono ?_
  rintro e w8 ⟨rfl,gf,ff⟩
  have al:=fe.trans ff
  have cv:=e9.nil al
  have eb:=cr.step al id
  have M:=ea.step al id
  have dr:=dp.step al id
  have ds:=dq.step al id
  have dt:=dn.trans (al.nz)
  have cs:w8.cell? ⟨I.bm,0,none⟩=some (.pointer (some ⟨I.bl,0,none⟩))/\w8.cell? ⟨bx,0,none⟩=some (.int .u8 8)/\w8.cell? ⟨bx,1,none⟩=some (.int .u32 0)/\w8.cell? ⟨bx,2,none⟩=some (.int .u64 0)/\w8.cell? ⟨bx,3,none⟩=some (.int .u64 0)/\w8.cell? ⟨bx,4,none⟩=some (.int .u32 0)/\w8.cell? ⟨bx,5,none⟩=some (.int .u16 0)/\w8.cell? ⟨bx,6,none⟩=some (.bool false)/\w8.cell? ⟨bx,7,none⟩=some (.bool false)/\w8.cell? ⟨bx,8,none⟩=some (.slice none 0 0)/\w8.cell? ⟨bx,9,none⟩=some (.slice none 0 0)/\w8.cell? ⟨bx,10,none⟩=some (.slice pt nt ct)/\w8.cell? ⟨bx,11,none⟩=some (.slice pp np cp):=⟨eb.at 0 rfl,M.at 0 rfl,M.at 1 rfl,M.at 2 rfl,M.at 3 rfl,M.at 4 rfl,M.at 5 rfl,M.at 6 rfl,M.at 7 rfl,M.at 8 rfl,M.at 9 rfl,M.at 10 rfl,M.at 11 rfl⟩
  have br:qaw w8 gf I.bl I.bd (L.more (encR qb6)):=cv.hbl▸cv.pool.log
  have bs:(L.more (encR qb6)).stream.length=L.stream.length+27:=by show (L.stream++encR qb6).length=_;rw[Z6,Jgy]
  have ec:(L.more (encR qb6)).starts.length<=100000:=by show (L.starts++[_]).length<=_;rw[Z6,H2.starts,Qbc];simp;omega
  have fg:(L.more (encR qb6)).strips=L.strips:=rfl
  rw[Jgy] at cq
  have fh:(L.more (encR qb6)).stream.length+(encR (Jgw l ps)).length+qci X<=(L.more (encR qb6)).strips*127:=by rw[bs,ao,fg];omega
  have a4:=Qi0 br ec (tabI ch b6 dr ds) be (by rw[ao];omega) (fun _=>Jhd bc) (qci X) fh
  obtain⟨fi,gg,gh,fj,ak⟩:=qbq cv eb M dt a4
  clear cv eb M dt a4 br bs ff al e9 cr ea dn dp dq fe dr ds bh
  refine d.out _ _ (fun _=>cs) ?_
  clear d K
  refine Qst (i:=7) dK rfl (fun K d=>?_)
  go_simp
  go_at_call 85
  refine ak.mono ?_
  rintro e w9 ⟨rfl,τ9,fk,az⟩
  obtain⟨lsn2,ed⟩:=gN ((L.more (encR qb6)).base+(L.more (encR qb6)).stream.length)
  rw[ed]
  have fm:=fi.mgr.step az (fun g hg q=>by rcases q with q|q|q <;> (subst q;simp[Qai,qb1,qa5,qa6] at hg))
  have fn:=fi.logged az (fun g hg=>.inl hg) fk d6 oM fm
  have ee:=gg.step az (by simp[qai,qe4,qb1,qa5,qa6])
  have U:=gh.step az (by simp[qai,qbv,qb1,qa5,qa6])
  have dv:=fj.trans az
  have ef:w9.cell? ⟨I.bm,0,none⟩=some (.pointer (some ⟨I.bl,0,none⟩))/\w9.cell? ⟨bx,0,none⟩=some (.int .u8 8)/\w9.cell? ⟨bx,1,none⟩=some (.int .u32 0)/\w9.cell? ⟨bx,2,none⟩=some (.int .u64 0)/\w9.cell? ⟨bx,3,none⟩=some (.int .u64 0)/\w9.cell? ⟨bx,4,none⟩=some (.int .u32 0)/\w9.cell? ⟨bx,5,none⟩=some (.int .u16 0)/\w9.cell? ⟨bx,6,none⟩=some (.bool false)/\w9.cell? ⟨bx,7,none⟩=some (.bool false)/\w9.cell? ⟨bx,8,none⟩=some (.slice none 0 0)/\w9.cell? ⟨bx,9,none⟩=some (.slice none 0 0)/\w9.cell? ⟨bx,10,none⟩=some (.slice pt nt ct)/\w9.cell? ⟨bx,11,none⟩=some (.slice pp np cp):=⟨ee.at 0 rfl,U.at 0 rfl,U.at 1 rfl,U.at 2 rfl,U.at 3 rfl,U.at 4 rfl,U.at 5 rfl,U.at 6 rfl,U.at 7 rfl,U.at 8 rfl,U.at 9 rfl,U.at 10 rfl,U.at 11 rfl⟩
  obtain⟨gi,gj,fo⟩:=qan fn ee dv
  clear fn ee dv U fm fk az ak
  refine d.out _ _ (fun _=>ef) ?_
  clear d K
  refine tk0 [8,9,10] ?_
  iterate 3
   refine tkv (v:=?_) ?_ ?_
   rotate_left
   ·intro w p;(try dsimp only at p);go_simp
    all_goals with_reducible rfl
   try simp only[Act.put,lz1,lz2,lz3]
  refine tk9 ?_
  try simp only[lz4,lz5,lz6,lz1,lz2,lz3]
  refine Qst (i:=11) dK rfl (fun K d=>?_)
  go_simp
  refine d.out _ _ (fun _=>ef) ?_
  clear d K
  refine Qst (i:=12) dK rfl (fun K d=>?_)
  go_simp
  refine d.out _ _ (fun h=>absurd h dK) ?_
  clear d K
  refine Qad kR ?_ _
  clear ef cs
  have fp:=H2.base
  have fq:lsn<18446744073709551616:=by rw[<-fb.out,fp,di];omega
  have fr:=Jim gi lsn fq (by show L.stamp+1<_;have:=H2.stamp;omega) (by show L.base<=_;rw[fp];omega)
  have m0:=gj.at 0 rfl
  have gk:=Z2 fr
  clear fr
  go_wp2_with fail
  refine gk.mono ?_
  rintro e w10 ⟨rfl,fs,k,fl,K,gl,-,-,ft,fv⟩
  go_wp2_with fail
  go_ret
  have a0:=Qb0 R qb6
  have a1:=Qb0 (R++[qb6]) (Jgw l ps)
  rw[Jgy] at a0
  rw[a0,ao,Y9] at a1
  have fw:qca I.N cur (flL ((L.more (encR qb6)).more (encR (Jgw l ps))) K) (R++[qb6]++[Jgw l ps]) :=
   ((H2.more Jhu (qas.refl _)).qju (r:=Jgw l ps) (fun h=>absurd rfl h) (fun _=>⟨rfl,be,bc,fun x hx=>(Jhp H1.good x (b4.mem_iff.1 hx)).1⟩) (qas.refl _) (fun _ _=>Z0 _) (fun q=>by rcases q with q|q <;> cases q)).same (qas.flush _ _)
  have fx:=fw.marked lsn (by
   rw[Jjs,Z6,Z6]
   show L.stamp+1<=1+(R.length+1+1)
   have:=H2.stamp
   omega)
  rw[Y9] at fx
  have gm:((flL ((L.more (encR qb6)).more (encR (Jgw l ps))) K).marked lsn).strips=I.S:=(qas.flush ((L.more (encR qb6)).more (encR (Jgw l ps))) K).strips.trans H3
  rw[H3.out,di] at cq
  refine⟨0,fs,[qb6,Jgw l ps],rfl,(fo.mono (T:=qbj) (fun g h=>.inl (.inl (.inr (.inl h))))).trans (ft.mono (T:=qbj) (fun g h=>.inl (.inl (.inr h)))),⟨⟨H,_,gl,F,s,cur,fv,fx,gm,H4,H5⟩⟩,?_,.inr ⟨l,ps,rfl,g9⟩⟩
  show (qae (R++([qb6]++[Jgw l ps]))).length+qci X<=I.S*127
  rw[a1]
  omega)
