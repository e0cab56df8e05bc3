/-
 The log: Mark;transactions: Check.
-/
import Derived.Test.YtemacanaihaldaaGreatMTxQ
import Derived.Test.YtemacanaihaldaaGreatMKeyB
set_option maxRecDepth 100000
set_option maxHeartbeats 4000000
set_option linter.all false
namespace Go.Proofs.YtemacanaihaldaaGreat
variable {w:World}{τ:Tags}
open Go.RowKit
def LogM.marked (L:LogM) (lsn:Nat):LogM:=({L with check:=lsn}:LogM).said
theorem Good.said {N st:Nat} {L:LogM} {D:Dev} {F:List Fr} {b:Nat->List Int}(h:Good N st L D F b) (lsn:Nat):Good N st (L.marked lsn) (Qf9 {L with check:=lsn} D) F b:=by
 have i:(({L with check:=lsn}:LogM).said.slot)+1<=D.f0.length:=by
  have h1:({L with check:=lsn}:LogM).said.slot<=1:=by show 1-L.slot<=1;omega
  have h2:=h.f0
  have h3:2<=L.firstS:=by unfold LogM.firstS;split <;> omega
  omega
 obtain⟨hd,e⟩:∃x,({L with check:=lsn}:LogM).said.head=x:=⟨_,rfl⟩
 obtain⟨sl,d⟩:∃x,({L with check:=lsn}:LogM).said.slot=x:=⟨_,rfl⟩
 have k:Qf9 {L with check:=lsn} D=D.lay 0 sl [hd]:=by unfold Qf9 Dev.lay;rw[e,d];rfl
 rw[d] at i
 have hl:∀m,lastTo (D.lay 0 sl [hd]) m 4=lastTo D m 4:=fun m=>Qq8 h.calm.left sl [hd] i m
 have q:∀E:Dev,E.file 1=E.f1:=fun _=>rfl
 have j:∀E:Dev,E.file 0=E.f0:=fun _=>rfl
 rw[k]
 refine⟨h.calm.lay (by omega) _ _,by rw[<-q,Dev.lay_length _ _ _ (by omega),q];exact h.f1,?_,h.cap,h.lasts,⟨h.rise.1,h.rise.2⟩,h.base,h.page,fun n hn=>?_,h.frame,h.none,h.one,?_⟩
 ·rw[<-j,Dev.lay_length _ _ _ (by omega),j];exact h.f0
 ·obtain⟨Q,h1,h2⟩:=h.home n hn
  refine⟨Q,?_,h2⟩
  unfold HomeIs at h1 ⊢
  rw[hl]
  exact h1
 ·rw[hl];exact h.spare
theorem Jim {bm bl bp bf bd N:Nat} {bo:Nat->Nat} {X:List OneP} {next:Nat} {H:PoolH} {L:LogM} {D:Dev} {F:List Fr} {s:Ck.Clk.St} {x:Nat->List Int}(h:TW w τ bm bl bp bf bd N bo X next H L D F s x) (lsn:Nat) (ad:lsn<18446744073709551616) :
 Calls Tryz.prog 87 #[.pointer (some ⟨bl,0,none⟩),.int .u64 (lsn:Int)] w fun e w'=>e = .returned (.tuple #[])/\∃G k C K D',L.AtR 18446744073709551615 k C/\k+(if C=true then 1 else 0)=K/\Step w τ w' G WalTag/\TW w' G bm bl bp bf bd N bo X next H ((flL L K).marked lsn) D' F s x:=by
 have y:=Jcl h 18446744073709551615 (by omega)
 rw[show ((18446744073709551615:Nat):Int)=18446744073709551615 from rfl] at y
 have ae:=Z2 y
 clear y
 go_enter Tryz.func87,Tryz.ntmps87
 go_wp2_with fail
 refine ae.out.mono ?_
 rintro e E ⟨rfl,τ1,k,C,I,J,d⟩
 have b:LogAt E τ1 bl bd (flL L (k+(if C=true then 1 else 0))):=d.hbl▸d.pool.log
 obtain⟨K,hK⟩:∃K,k+(if C=true then 1 else 0)=K:=⟨_,rfl⟩
 rw[hK] at d b
 obtain⟨M,hM⟩:∃M,flL L K=M:=⟨_,rfl⟩
 rw[hM] at d b
 obtain⟨vs,vt,O,hb,ht⟩:=b.is
 have c2:=O.at 2 (v:=.int .u64 (M.check:Int)) rfl
 have z2:=O.fz 2
 have R:=O.set 2 (.int .u64 (lsn:Int))
 have j:Step E τ1 (E.setCell ⟨bl,2,none⟩ (.int .u64 (lsn:Int))) τ1 (fun t=>t=tLog):=(Step.refl E τ1 (fun t=>t=tLog)).set (o:=2) O.tag rfl _
 have i:=b.ok
 have U:LogAt (E.setCell ⟨bl,2,none⟩ (.int .u64 (lsn:Int))) τ1 bl bd {M with check:=lsn}:=⟨⟨vs,vt,R,hb.step j (by decide),ht.step j (by decide)⟩,b.isB,⟨i.stamp,i.base,by show lsn<2 ^ 64;rw[show (2:Nat) ^ 64=18446744073709551616 from by decide];exact ad,i.area,i.strips,i.slot,i.stream,i.starts,i.lasts⟩⟩
 have Y:=d.pool.dev.step j (fun g Z=>by rcases Z with rfl;exact⟨Qau _ (.inl rfl),by simp[tLog,tData]⟩)
 have hgf:=d.good.f0
 have l:=Qy5 U Y (by have:2<=M.firstS:=by {unfold LogM.firstS;split <;> omega};omega) (Dev.lim_mono (d.good.calm.lim 0) (by omega))
 have m:=J.trans (j.mono (T:=WalTag) (fun _ h=>.inl (.inl h)))
 obtain⟨a1,a6,ah,ai,HM,HK,aj⟩:=hid7 l m d j hM hK I
 clear l m d j hM hK I O hb ht b U Y J i R
 go_wp2_with fail
 refine a1.out.mono ?_
 rintro e w2 ⟨rfl,z,a7,a8,B⟩
 have h12:Step E τ1 w2 z WalTag:=(ai.out.mono (T:=WalTag) (fun _ h=>.inl (.inl h))).trans B
 have p:=a6.out.trans B
 have q:=ah.out
 have r:TW w2 z bm bl bp bf bd N bo X next H (M.marked lsn) (Qf9 {M with check:=lsn} (flD L D K)) F s x :=
  ⟨⟨q.pool.pool.step h12 (fun g Z hS=>(Jco hS).1 Z),by rw[q.hbl];exact a7,a8⟩,q.mgr.step h12 (fun g Z hS=>(Jco hS).2 Z),q.good.said lsn,q.clock,q.hn,q.hbl⟩
 obtain⟨aa,ab⟩:=hid2 r p
 clear r p a7 a8 B h12 q
 go_wp2_with fail
 go_returns
 exact⟨rfl,z,k,C,K,_,aj.out,HK.out,ab.out,by rw[HM.out];exact aa.out⟩
def checkRec:RecP:=⟨7,0,0,0,noChange,[],[]⟩
def Jgw (ts:List TxnP) (ps:List (Nat×Nat)):RecP:=⟨8,0,0,0,noChange,ts,ps⟩
theorem ND.ns {n0:Nat} {g:Tag} {v:Value} {l:List (Nat×Nat)}(h:ND n0 w τ g v l):NS 195 2 Qgn n0 w τ g v l:=⟨h.buf,h.low⟩
theorem Jir (X:List OneP) (hn:(OneP.ids X).Nodup):(OneP.ids X).map (fun k=>(oneOf X k).act)=X.map OneP.act:=by
 unfold OneP.ids
 rw[List.map_map]
 refine List.map_congr_left (fun x b=>?_)
 have h:=Jhi (X:=X) (k:=x.txn) (List.mem_map.2 ⟨x,b,rfl⟩)
 show (oneOf X x.txn).act=x.act
 rw[OneP.id_inj hn h.1 b h.2]
theorem Jib {X:List OneP}(hn:(OneP.ids X).Nodup) {ts:List Nat}(b:ts.Perm (OneP.ids X)):(ts.map (fun k=>(oneOf X k).act)).Perm (X.map OneP.act):=by
 rw[<-Jir X hn]
 exact b.map _
theorem Jhp {N st:Nat} {L:LogM} {D:Dev} {F:List Fr} {e:Nat->List Int}(h:Good N st L D F e):∀x∈Qyu F,x.1<N/\x.2<18446744073709551616:=fun x j=>by
 unfold Qyu Qfs at j
 rw[List.take_length] at j
 obtain⟨f,m,rfl⟩:=List.mem_map.1 j
 obtain⟨k,l⟩:=List.mem_filter.1 m
 obtain⟨i,hi,o⟩:=List.mem_iff_getElem.1 k
 have b:F[i]?=some f:=by rw[Z3 hi,o]
 have h0:0<f.first:=of_decide_eq_true l
 cases d:f.pg with
 | none =>
   have:=h.none i f b d
   rw[this] at h0
   exact absurd h0 (by show ¬0<0;omega)
 | some x=>exact⟨(h.frame i f x.1 x.2 b d).1,((h.frame i f x.1 x.2 b d).2.2 h0).2⟩
theorem Jh1 (F:List Fr):(Qyu F).length<=F.length:=by
 unfold Qyu Qfs
 rw[Y0,List.take_length]
 exact List.length_filter_le _ _
theorem Jit {ts:List TxnP} {ps:List (Nat×Nat)}(h1:ts.length<=64) (h2:ps.length<=64) (d:∀x∈ts,x.txn<4294967296/\x.last<18446744073709551616/\x.undo<18446744073709551616/\x.state=1) (e:∀x∈ps,x.1<4294967296/\x.2<18446744073709551616) :
 TabOk (Jgw ts ps)/\mayB (Jgw ts ps)=true/\(encR (Jgw ts ps)).length=29+21*ts.length+12*ps.length:=by
 refine⟨⟨h1,h2,fun x b=>⟨(d x b).1,(d x b).2.1,(d x b).2.2.1,by rw[(d x b).2.2.2];omega⟩,e⟩,?_,?_⟩
 ·have h:Qdu ts=false:=by
   unfold Qdu
   rw[List.any_eq_false]
   intro x b
   rw[(d x b).2.2.2]
   decide
  have i:¬64<ts.length:=by omega
  have j:¬64<ps.length:=by omega
  show mayRB 8 ts.length ps.length (mayCB (chgB 8) 0 0 false false 0 0) (Qdu ts)=true
  rw[h]
  unfold mayRB
  rw[decide_eq_false i,decide_eq_false j]
  simp[mayCB,chgB]
 ·rw[Qbh]
  show 27+(encBody (Jgw ts ps)).length=_
  unfold encBody
  rw[if_neg (by show ¬chgB 8=true;decide),if_pos (show (Jgw ts ps).kind=8 from rfl)]
  show 27+(encT ts ps).length=_
  unfold encT
  rw[Z6,Z6,Z6,Qaa,Qaa,Jg5 _ 21 Jhn,Jg5 _ 12 Jho]
  omega
theorem NS.weak {α:Type} {e:TypeId} {k:Nat} {enc:α->List Value} {n0:Nat} {g:Tag} {v:Value} {l:List α}(h:NS e k enc n0 w τ g v l):NS e k enc 0 w τ g v l:=⟨h.buf,fun _ _=>Z9 _⟩
theorem Jgy:(encR checkRec).length=27:=by
 rw[Qbh]
 show 27+(encBody checkRec).length=27
 unfold encBody
 rw[if_neg (by show ¬chgB 7=true;decide),if_neg (by show ¬7=8;decide)]
 rfl
theorem Jhu:checkRec.ok:=⟨by rfl,by decide,by decide,by decide,by decide,by decide,by decide⟩
theorem Jik (w:World) (τ:Tags):RecI w τ (.agg #[.int .u8 7,.int .u32 0,.int .u64 0,.int .u64 0,.int .u32 0,.int .u16 0,.bool false,.bool false,.slice none 0 0,.slice none 0 0,.slice none 0 0,.slice none 0 0]) checkRec:=⟨⟨none,0,none,0,none,0,none,0,tBox,tBox,0,rfl,Bytes.empty _ _ _,Bytes.empty _ _ _,NS.nil _ _ _ _ _ _ _,NS.nil _ _ _ _ _ _ _,by simp[WrT,tBox,tWr,tWb],by simp[WrT,tBox,tWr,tWb]⟩,by decide,by decide,by decide,by decide,by decide,by decide⟩
theorem tabI {n1 i nt np:Nat} {e h:Option Addr} {ct cp:Nat} {l:List TxnP} {ps:List (Nat×Nat)}(b:l.length=nt) (d:ps.length=np) (h1:NS 75 4 Qct n1 w τ tAct (.slice e nt ct) l) (h2:NS 195 2 Qgn i w τ tDirt (.slice h np cp) ps) :
 RecI w τ (.agg #[.int .u8 8,.int .u32 0,.int .u64 0,.int .u64 0,.int .u32 0,.int .u16 0,.bool false,.bool false,.slice none 0 0,.slice none 0 0,.slice e nt ct,.slice h np cp]) (Jgw l ps) :=
 ⟨⟨none,0,none,0,e,ct,h,cp,tAct,tDirt,0,by rw[show (Jgw l ps).txns.length=nt from b,show (Jgw l ps).pages.length=np from d];rfl,Bytes.empty _ _ _,Bytes.empty _ _ _,by rw[show (Jgw l ps).txns.length=nt from b];exact h1.weak,by rw[show (Jgw l ps).pages.length=np from d];exact h2.weak,by simp[WrT,tAct,tWr,tWb],by simp[WrT,tDirt,tWr,tWb]⟩,by show 8<256;omega,by show 0<4294967296;omega,by show 0<18446744073709551616;omega,by show 0<18446744073709551616;omega,by show 0<4294967296;omega,by show 0<65536;omega⟩
theorem SameLog.marked (L:LogM) (n:Nat):SameLog L (L.marked n):=⟨rfl,rfl,rfl,rfl,rfl,Z0 _⟩
def Jiz (w:World) (τ:Tags) (I:Ids) (bo:Nat->Nat) (X:List OneP) (next:Nat) (R:List RecP) (V:SlotV) (st:Nat) (e:Ending) (w':World):Prop :=
 ∃(er:Nat) (τ':Tags) (T:List RecP),e = .returned (.int .u16 (er:Int))/\Step w τ w' τ' TyTag/\TZ w' τ' I bo X next (R++T) V st/\(recsB (R++T)).length+resv X<=I.S*127/\(T=[]\/∃ts ps,T=[checkRec,Jgw ts ps]/\ts.Perm (X.map OneP.act))
theorem Jia {I:Ids} {bo:Nat->Nat} {X:List OneP} {next:Nat} {R:List RecP} {V:SlotV} {st:Nat}(h:TZ w τ I bo X next R V st) (hX:∀x∈X,x.state=1/\x.last<18446744073709551616/\x.undo<18446744073709551616) {B:Nat}(hB:SortC B) (he:X.length<=B) (ec:(recsB R).length+resv X<=I.S*127) :
 Calls Tryz.prog 24 #[.pointer (some ⟨I.bm,0,none⟩)] w (Jiz w τ I bo X next R V st):=by
 obtain⟨H,L,D,F,s,hf,h1,h2,h3,h4,h5⟩:=h.is
 have dc:=fun (W:World) (T:Tags) (m:Step w τ W T nil)=>Jg6 (h1.nil m).mgr hB he
 have hF:=h1.pool.pool.k1
 have dd:=fun (W:World) (T:Tags) (m:Step w τ W T nil)=>Jaz (h1.nil m).pool.pool (Jdy F.length (by omega))
 obtain⟨ba,ho,-⟩:=h1.mgr.is
 have hi:w.cell? ⟨I.bm,1,none⟩=some (.pointer (some ⟨I.bp,0,none⟩)):=ho.at 1 rfl
 obtain⟨H1,H2,H3,H4,H5,bf,az,Ho⟩:=hid8 h1 h2 h3 h4 h5 dc dd ho
 clear h1 h2 h3 h4 h5 dc dd ho
 go_enter Tryz.func24,Tryz.ntmps24
 go_wp2_with fail
 refine Qaf (S:=fun W:World=>W.cell? ⟨I.bm,1,none⟩=some (.pointer (some ⟨I.bp,0,none⟩))) (by kernel_rfl) ?_
 refine tk0 [0,2,3,4,5] ?_
 iterate 5
  refine tks (v:=?_) rfl (Or.inl ⟨by rfl,?_⟩) (by assumption) ?_
  rotate_left
  ·intro w C;(try dsimp only at C);go_simp
   all_goals with_reducible rfl
  try simp only[Act.put,lz1,lz2,lz3]
 refine tk9 ?_
 try simp only[lz4,lz5,lz6,lz1,lz2,lz3]
 have ed:=(Step.refl w τ nil).drew
 generalize w.drew=w0 at *
 have hS00:w0.cell? ⟨I.bm,1,none⟩=some (.pointer (some ⟨I.bp,0,none⟩)):=(Ho.out.step ed (fun h=>h)).at 1 rfl
 clear hi
 have cf:=Z2 ed
 clear ed
 refine Qss (i:=1) (j:=8) (by decide +kernel) rfl rfl (fun K p=>?h1) (fun K p=>?h2)
 case' h1 =>
  go_simp
  go_at_call 31
  refine(bf.out w0 τ cf.out).mono ?_
  rintro e w1 ⟨v,ts,τ1,rfl,bg,ai,df⟩
  have aj:=cf.out.trans df
  obtain⟨pt,ct,rfl⟩:=ai.val
  have cg:w1.cell? ⟨I.bm,1,none⟩=some (.pointer (some ⟨I.bp,0,none⟩)):=(Ho.out.step aj (fun h=>h)).at 1 rfl
  obtain⟨ff,ak,b9⟩:=hid3 bg ai aj
  clear bg ai aj df
  refine p.out _ _ (fun _=>cg) ?_
  clear p K
  try simp only[Act.put]
  try simp only[lz4,lz5,lz6,lz1,lz2,lz3]
  refine Qss (i:=6) (j:=8) (by decide +kernel) rfl rfl (fun K p=>?h11) (fun K p=>?h12)
 case' h11 =>
  go_simp
  go_at_call 85
  refine(az.out w1 τ1 b9.out).mono ?_
  rintro e w2 ⟨v,ac,ps,rfl,ae,af,a1,U⟩
  obtain⟨pp,cp,rfl⟩:=a1.ns.val
  have E:=b9.out.trans U
  have ag:=ak.out.step U (fun h=>h)
  have am:w2.cell? ⟨I.bm,1,none⟩=some (.pointer (some ⟨I.bp,0,none⟩)):=(Ho.out.step E (fun h=>h)).at 1 rfl
  have hx:=Own.born w2 ac tOne 127 #[.int .u8 0,.int .u32 0,.int .u64 0,.int .u64 0,.int .u32 0,.int .u16 0,.bool false,.bool false,.slice none 0 0,.slice none 0 0,.slice none 0 0,.slice none 0 0]
  have J:Step w2 ac (w2.alloc (.cells #[.int .u8 0,.int .u32 0,.int .u64 0,.int .u64 0,.int .u32 0,.int .u16 0,.bool false,.bool false,.slice none 0 0,.slice none 0 0,.slice none 0 0,.slice none 0 0] 127)) (ac.put w2.heap.size tOne) nil:=(Step.refl w2 ac nil).alloc (.cells #[.int .u8 0,.int .u32 0,.int .u64 0,.int .u64 0,.int .u32 0,.int .u16 0,.bool false,.bool false,.slice none 0 0,.slice none 0 0,.slice none 0 0,.slice none 0 0] 127) tOne
  generalize ac.put w2.heap.size tOne=ao at *
  have G:=E.trans J
  have a6:=ag.step J (fun h=>h)
  have a7:=a1.ns.step J (fun h=>h)
  obtain⟨bx,a8⟩:∃bx,w2.heap.size=bx:=⟨_,rfl⟩
  have M:w.heap.size<=bx:=by rw[<-a8];exact E.size
  rw[a8] at hx
  have ah:=hx
  have bb:(w2.alloc (.cells #[.int .u8 0,.int .u32 0,.int .u64 0,.int .u64 0,.int .u32 0,.int .u16 0,.bool false,.bool false,.slice none 0 0,.slice none 0 0,.slice none 0 0,.slice none 0 0] 127)).cell? ⟨I.bm,1,none⟩=some (.pointer (some ⟨I.bp,0,none⟩)):=(Ho.out.step G (fun h=>h)).at 1 rfl
  obtain⟨ch,fg,b1,ci,cj,d⟩:=hid6 ae af G a6 a7 ah
  clear ae af G a6 a7 ah hx a1 U E ag J ak b9
  refine p.out _ _ (fun _=>am) ?_
  clear p K
  refine tk (i:=7) (v:=?_) rfl (Or.inl ⟨by rfl,?_⟩) (by assumption) ?_
  rotate_left
  ·intro w C;(try dsimp only at C);go_simp
   all_goals with_reducible rfl
  try simp only[Act.put,lz1,lz2,lz3]
  try simp only[lz4,lz5,lz6,lz1,lz2,lz3]
  refine tk1 8 rfl fun K p=>?_
  go_simp
  refine p.out _ _ (fun _=>bb) ?_
  clear p K am
  generalize (w2.alloc (.cells #[.int .u8 0,.int .u32 0,.int .u64 0,.int .u64 0,.int .u32 0,.int .u16 0,.bool false,.bool false,.slice none 0 0,.slice none 0 0,.slice none 0 0,.slice none 0 0] 127))=w3 at *
  try rw[a8]
 case' h12 =>
  have hx:=Own.born w1 τ1 tOne 127 #[.int .u8 0,.int .u32 0,.int .u64 0,.int .u64 0,.int .u32 0,.int .u16 0,.bool false,.bool false,.slice none 0 0,.slice none 0 0,.slice none 0 0,.slice none 0 0]
  have J:Step w1 τ1 (w1.alloc (.cells #[.int .u8 0,.int .u32 0,.int .u64 0,.int .u64 0,.int .u32 0,.int .u16 0,.bool false,.bool false,.slice none 0 0,.slice none 0 0,.slice none 0 0,.slice none 0 0] 127)) (τ1.put w1.heap.size tOne) nil:=(Step.refl w1 τ1 nil).alloc (.cells #[.int .u8 0,.int .u32 0,.int .u64 0,.int .u64 0,.int .u32 0,.int .u16 0,.bool false,.bool false,.slice none 0 0,.slice none 0 0,.slice none 0 0,.slice none 0 0] 127) tOne
  generalize τ1.put w1.heap.size tOne=ac at *
  have E:=b9.out.trans J
  have ag:=ak.out.step J (fun h=>h)
  have am:(w1.alloc (.cells #[.int .u8 0,.int .u32 0,.int .u64 0,.int .u64 0,.int .u32 0,.int .u16 0,.bool false,.bool false,.slice none 0 0,.slice none 0 0,.slice none 0 0,.slice none 0 0] 127)).cell? ⟨I.bm,1,none⟩=some (.pointer (some ⟨I.bp,0,none⟩)):=(Ho.out.step E (fun h=>h)).at 1 rfl
  obtain⟨bx,a8⟩:∃bx,w1.heap.size=bx:=⟨_,rfl⟩
  have M:w.heap.size<=bx:=by rw[<-a8];exact b9.out.size
  rw[a8] at hx
  obtain⟨Hx,aa,dh⟩:=hid3 hx E ag
  clear hx E ag J
  go_simp
  refine p.out _ _ (fun _=>am) ?_
  clear p K
  generalize (w1.alloc (.cells #[.int .u8 0,.int .u32 0,.int .u64 0,.int .u64 0,.int .u32 0,.int .u16 0,.bool false,.bool false,.slice none 0 0,.slice none 0 0,.slice none 0 0,.slice none 0 0] 127))=w2 at *
  try rw[a8]
  refine tk1 6 rfl fun K p=>?_
  go_simp
  go_at_call 85
  refine(az.out w2 ac aa.out).mono ?_
  rintro e w3 ⟨v,ao,ps,rfl,ae,af,a1,U⟩
  obtain⟨pp,cp,rfl⟩:=a1.ns.val
  have G:=aa.out.trans U
  have a6:=dh.out.step U (fun h=>h)
  have a7:=a1.ns
  have ah:=Hx.out.step U (fun h=>h)
  have bb:w3.cell? ⟨I.bm,1,none⟩=some (.pointer (some ⟨I.bp,0,none⟩)):=(Ho.out.step G (fun h=>h)).at 1 rfl
  obtain⟨ch,fg,b1,ci,cj,d⟩:=hid6 ae af G a6 a7 ah
  clear ae af G a6 a7 ah a1 U aa dh Hx ak b9
  refine p.out _ _ (fun _=>bb) ?_
  clear p K
  refine tk (i:=7) (v:=?_) rfl (Or.inl ⟨by rfl,?_⟩) (by assumption) ?_
  rotate_left
  ·intro w C;(try dsimp only at C);go_simp
   all_goals with_reducible rfl
  try simp only[Act.put,lz1,lz2,lz3]
  try simp only[lz4,lz5,lz6,lz1,lz2,lz3]
 case' h2 =>
  have hx:=Own.born w0 τ tOne 127 #[.int .u8 0,.int .u32 0,.int .u64 0,.int .u64 0,.int .u32 0,.int .u16 0,.bool false,.bool false,.slice none 0 0,.slice none 0 0,.slice none 0 0,.slice none 0 0]
  have J:Step w0 τ (w0.alloc (.cells #[.int .u8 0,.int .u32 0,.int .u64 0,.int .u64 0,.int .u32 0,.int .u16 0,.bool false,.bool false,.slice none 0 0,.slice none 0 0,.slice none 0 0,.slice none 0 0] 127)) (τ.put w0.heap.size tOne) nil:=(Step.refl w0 τ nil).alloc (.cells #[.int .u8 0,.int .u32 0,.int .u64 0,.int .u64 0,.int .u32 0,.int .u16 0,.bool false,.bool false,.slice none 0 0,.slice none 0 0,.slice none 0 0,.slice none 0 0] 127) tOne
  generalize τ.put w0.heap.size tOne=τ1 at *
  have J:=cf.out.trans J
  have cg:(w0.alloc (.cells #[.int .u8 0,.int .u32 0,.int .u64 0,.int .u64 0,.int .u32 0,.int .u16 0,.bool false,.bool false,.slice none 0 0,.slice none 0 0,.slice none 0 0,.slice none 0 0] 127)).cell? ⟨I.bm,1,none⟩=some (.pointer (some ⟨I.bp,0,none⟩)):=(Ho.out.step J (fun h=>h)).at 1 rfl
  obtain⟨bx,a8⟩:∃bx,w0.heap.size=bx:=⟨_,rfl⟩
  have M:w.heap.size<=bx:=by rw[<-a8];exact cf.out.size
  rw[a8] at hx
  obtain⟨Hx,ee⟩:=hid2 hx J
  clear hx J
  go_simp
  refine p.out _ _ (fun _=>cg) ?_
  clear p K
  generalize (w0.alloc (.cells #[.int .u8 0,.int .u32 0,.int .u64 0,.int .u64 0,.int .u32 0,.int .u16 0,.bool false,.bool false,.slice none 0 0,.slice none 0 0,.slice none 0 0,.slice none 0 0] 127))=w1 at *
  try rw[a8]
  refine tk1 1 rfl fun K p=>?_
  go_simp
  go_at_call 31
  refine(bf.out w1 τ1 ee.out).mono ?_
  rintro e w2 ⟨v,ts,ac,rfl,bg,ai,aj⟩
  obtain⟨pt,ct,rfl⟩:=ai.val
  have E:=ee.out.trans aj
  have am:w2.cell? ⟨I.bm,1,none⟩=some (.pointer (some ⟨I.bp,0,none⟩)):=(Ho.out.step E (fun h=>h)).at 1 rfl
  have fh:=Hx.out.step aj (fun h=>h)
  obtain⟨ff,ak,aa,fi⟩:=hid4 bg ai E fh
  clear bg ai E fh aj
  refine p.out _ _ (fun _=>am) ?_
  clear p K
  try simp only[Act.put]
  try simp only[lz4,lz5,lz6,lz1,lz2,lz3]
  refine tk1 6 rfl fun K p=>?_
  go_simp
  go_at_call 85
  refine(az.out w2 ac aa.out).mono ?_
  rintro e w3 ⟨v,ao,ps,rfl,ae,af,a1,U⟩
  obtain⟨pp,cp,rfl⟩:=a1.ns.val
  have G:=aa.out.trans U
  have a6:=ak.out.step U (fun h=>h)
  have a7:=a1.ns
  have ah:=fi.out.step U (fun h=>h)
  have bb:w3.cell? ⟨I.bm,1,none⟩=some (.pointer (some ⟨I.bp,0,none⟩)):=(Ho.out.step G (fun h=>h)).at 1 rfl
  obtain⟨ch,fg,b1,ci,cj,d⟩:=hid6 ae af G a6 a7 ah
  clear ae af G a6 a7 ah a1 U aa fi Hx ak ee cg am
  refine p.out _ _ (fun _=>bb) ?_
  clear p K
  refine tk (i:=7) (v:=?_) rfl (Or.inl ⟨by rfl,?_⟩) (by assumption) ?_
  rotate_left
  ·intro w C;(try dsimp only at C);go_simp
   all_goals with_reducible rfl
  try simp only[Act.put,lz1,lz2,lz3]
  try simp only[lz4,lz5,lz6,lz1,lz2,lz3]
 all_goals (
  obtain⟨nt,fj⟩:∃n,ts.length=n:=⟨_,rfl⟩
  obtain⟨np,bh⟩:∃n,ps.length=n:=⟨_,rfl⟩
  try rw[Y0]
  rw[fj,bh]
  have c0:=d.out.at 0 (v:=.int .u8 0) rfl
  have z0:=d.out.fz 0
  have c1:=d.out.at 1 (v:=.int .u32 0) rfl
  have z1:=d.out.fz 1
  have c2:=d.out.at 2 (v:=.int .u64 0) rfl
  have z2:=d.out.fz 2
  have c3:=d.out.at 3 (v:=.int .u64 0) rfl
  have z3:=d.out.fz 3
  have c4:=d.out.at 4 (v:=.int .u32 0) rfl
  have z4:=d.out.fz 4
  have c5:=d.out.at 5 (v:=.int .u16 0) rfl
  have z5:=d.out.fz 5
  have c6:=d.out.at 6 (v:=.bool false) rfl
  have z6:=d.out.fz 6
  have c7:=d.out.at 7 (v:=.bool false) rfl
  have z7:=d.out.fz 7
  have c8:=d.out.at 8 (v:=.slice none 0 0) rfl
  have z8:=d.out.fz 8
  have c9:=d.out.at 9 (v:=.slice none 0 0) rfl
  have z9:=d.out.fz 9
  have bi:=d.out.at 10 (v:=.slice none 0 0) rfl
  have hj:=d.out.fz 10
  have bj:=d.out.at 11 (v:=.slice none 0 0) rfl
  have hm:=d.out.fz 11
  refine tk1 9 rfl fun K p=>?_
  go_simp
  have fp:Own ((((((((((((w3.setCell ⟨bx,0,none⟩ (.int .u8 8)).setCell ⟨bx,1,none⟩ (.int .u32 0)).setCell ⟨bx,2,none⟩ (.int .u64 0)).setCell ⟨bx,3,none⟩ (.int .u64 0)).setCell ⟨bx,4,none⟩ (.int .u32 0)).setCell ⟨bx,5,none⟩ (.int .u16 0)).setCell ⟨bx,6,none⟩ (.bool false)).setCell ⟨bx,7,none⟩ (.bool false)).setCell ⟨bx,8,none⟩ (.slice none 0 0)).setCell ⟨bx,9,none⟩ (.slice none 0 0)).setCell ⟨bx,10,none⟩ (.slice pt nt ct)).setCell ⟨bx,11,none⟩ (.slice pp np cp)) ao bx tOne 127 [.int .u8 8,.int .u32 0,.int .u64 0,.int .u64 0,.int .u32 0,.int .u16 0,.bool false,.bool false,.slice none 0 0,.slice none 0 0,.slice pt nt ct,.slice pp np cp]:=((((((((((((d.out.set 0 (.int .u8 8)).set 1 (.int .u32 0)).set 2 (.int .u64 0)).set 3 (.int .u64 0)).set 4 (.int .u32 0)).set 5 (.int .u16 0)).set 6 (.bool false)).set 7 (.bool false)).set 8 (.slice none 0 0)).set 9 (.slice none 0 0)).set 10 (.slice pt nt ct)).set 11 (.slice pp np cp))
  have di:Step w τ ((((((((((((w3.setCell ⟨bx,0,none⟩ (.int .u8 8)).setCell ⟨bx,1,none⟩ (.int .u32 0)).setCell ⟨bx,2,none⟩ (.int .u64 0)).setCell ⟨bx,3,none⟩ (.int .u64 0)).setCell ⟨bx,4,none⟩ (.int .u32 0)).setCell ⟨bx,5,none⟩ (.int .u16 0)).setCell ⟨bx,6,none⟩ (.bool false)).setCell ⟨bx,7,none⟩ (.bool false)).setCell ⟨bx,8,none⟩ (.slice none 0 0)).setCell ⟨bx,9,none⟩ (.slice none 0 0)).setCell ⟨bx,10,none⟩ (.slice pt nt ct)).setCell ⟨bx,11,none⟩ (.slice pp np cp)) ao nil:=((((((((((((b1.out.setNew (b:=bx) (o:=0) M _).setNew (b:=bx) (o:=1) M _).setNew (b:=bx) (o:=2) M _).setNew (b:=bx) (o:=3) M _).setNew (b:=bx) (o:=4) M _).setNew (b:=bx) (o:=5) M _).setNew (b:=bx) (o:=6) M _).setNew (b:=bx) (o:=7) M _).setNew (b:=bx) (o:=8) M _).setNew (b:=bx) (o:=9) M _).setNew (b:=bx) (o:=10) M _).setNew (b:=bx) (o:=11) M _)
  have bk:Step w3 ao ((((((((((((w3.setCell ⟨bx,0,none⟩ (.int .u8 8)).setCell ⟨bx,1,none⟩ (.int .u32 0)).setCell ⟨bx,2,none⟩ (.int .u64 0)).setCell ⟨bx,3,none⟩ (.int .u64 0)).setCell ⟨bx,4,none⟩ (.int .u32 0)).setCell ⟨bx,5,none⟩ (.int .u16 0)).setCell ⟨bx,6,none⟩ (.bool false)).setCell ⟨bx,7,none⟩ (.bool false)).setCell ⟨bx,8,none⟩ (.slice none 0 0)).setCell ⟨bx,9,none⟩ (.slice none 0 0)).setCell ⟨bx,10,none⟩ (.slice pt nt ct)).setCell ⟨bx,11,none⟩ (.slice pp np cp)) ao (fun t=>t=tOne):=(((((((((((((Step.refl w3 ao (fun t=>t=tOne)).set (o:=0) d.out.tag rfl _).set (o:=1) d.out.tag rfl _).set (o:=2) d.out.tag rfl _).set (o:=3) d.out.tag rfl _).set (o:=4) d.out.tag rfl _).set (o:=5) d.out.tag rfl _).set (o:=6) d.out.tag rfl _).set (o:=7) d.out.tag rfl _).set (o:=8) d.out.tag rfl _).set (o:=9) d.out.tag rfl _).set (o:=10) d.out.tag rfl _).set (o:=11) d.out.tag rfl _)
  have fq:=ci.out.step bk (by decide)
  have fr:=cj.out.step bk (by decide)
  obtain⟨N,dj,ck,cm⟩:=hid4 fp di fq fr
  clear fp di fq fr
  refine p.out _ _ (fun h=>absurd h (by decide +kernel)) ?_
  clear p K bk d b1 ci cj c0 z0 c1 z1 c2 z2 c3 z3 c4 z4 c5 z5 c6 z6 c7 z7 c8 z8 c9 z9 bi hj bj hm bb
  generalize ((((((((((((w3.setCell ⟨bx,0,none⟩ (.int .u8 8)).setCell ⟨bx,1,none⟩ (.int .u32 0)).setCell ⟨bx,2,none⟩ (.int .u64 0)).setCell ⟨bx,3,none⟩ (.int .u64 0)).setCell ⟨bx,4,none⟩ (.int .u32 0)).setCell ⟨bx,5,none⟩ (.int .u16 0)).setCell ⟨bx,6,none⟩ (.bool false)).setCell ⟨bx,7,none⟩ (.bool false)).setCell ⟨bx,8,none⟩ (.slice none 0 0)).setCell ⟨bx,9,none⟩ (.slice none 0 0)).setCell ⟨bx,10,none⟩ (.slice pt nt ct)).setCell ⟨bx,11,none⟩ (.slice pp np cp))=w4 at *
  refine Qad (by kernel_rfl) ?_ _
  have c0:=N.out.at 0 (v:=.int .u8 8) rfl
  have c1:=N.out.at 1 (v:=.int .u32 0) rfl
  have c2:=N.out.at 2 (v:=.int .u64 0) rfl
  have c3:=N.out.at 3 (v:=.int .u64 0) rfl
  have c4:=N.out.at 4 (v:=.int .u32 0) rfl
  have c5:=N.out.at 5 (v:=.int .u16 0) rfl
  have c6:=N.out.at 6 (v:=.bool false) rfl
  have c7:=N.out.at 7 (v:=.bool false) rfl
  have c8:=N.out.at 8 (v:=.slice none 0 0) rfl
  have c9:=N.out.at 9 (v:=.slice none 0 0) rfl
  have bi:=N.out.at 10 (v:=.slice pt nt ct) rfl
  have bj:=N.out.at 11 (v:=.slice pp np cp) rfl
  obtain⟨l,hl⟩:∃l,ts.map (fun k=>(oneOf X k).act)=l:=⟨_,rfl⟩
  have cn:l.Perm (X.map OneP.act):=hl▸Jib H1.out.mgr.nodup ff.out
  have co:l.length=nt:=by rw[<-hl,Y0,fj]
  rw[hl,co] at ck
  rw[bh] at cm
  have bn:=H1.out.mgr.many
  have hnt64:nt<=64:=by rw[<-co,cn.length_eq,Y0];exact bn
  have hnp64:np<=64:=by rw[<-bh,ch.out.length_eq];exact Y3 (Jh1 F) hF.2
  have hN:=H1.out.pool.pool.n1.2
  rw[H1.out.hn] at hN
  have hp:=H1.out.mgr.nx
  obtain⟨tk1,ef,cq⟩:=Jit (ts:=l) (ps:=ps) (by omega) (by omega) (fun x hx=>by
   obtain⟨y,hy,rfl⟩:=List.mem_map.1 (cn.mem_iff.1 hx)
   have q1:=H1.out.mgr.low y hy
   have q2:=hX y hy
   exact⟨by show y.txn<_;omega,q2.2.1,q2.2.2,q2.1⟩) (fun x hx=>by
   have:=Jhp H1.out.good x (ch.out.mem_iff.1 hx)
   omega)
  have bq:=tabI co bh ck.out cm.out
  have dk:=Qiq bq ef (by rw[cq];omega) (fun _=>Jhd tk1)
  have fs:(encR (Jgw l ps)).length<=3000:=by rw[cq];omega
  obtain⟨dl,ft,hr,hs,eg,eh,ei⟩:=hid7 dk bq cn fs tk1 ef cq
  clear dk bq cn fs tk1 ef cq hN hp bn
  go_wp2_with fail
  refine dl.out.mono ?_
  rintro e w5 ⟨u5,ej,rfl,dm,br⟩
  have dn:0<(encR (Jgw l ps)).length:=by rw[ei.out];omega
  obtain⟨b5,cap5,ys5,rfl,-,-,-,-,-⟩:=dm.row dn
  obtain⟨el,b2⟩:∃n,(encR (Jgw l ps)).length=n:=⟨_,rfl⟩
  have fv:=hs.out
  rw[b2] at fv ⊢
  have b3:=dj.out.trans br
  have cs:Step w5 ej w5.drew ej nil:=(Step.refl w5 ej nil).drew
  have cv:=H1.out.nil b3
  have bs:=Qde ((cv.nil cs).mgr)
  have ek:=Qu5 cv.mgr
  have cw:=Ho.out.step b3 (fun h=>h)
  have fw:=N.out.step br (fun h=>h)
  have dp:=ck.out.step br (fun h=>h)
  have dq:=cm.out.step br (fun h=>h)
  have m0:=cw.at 0 (v:=.pointer (some ⟨I.bl,0,none⟩)) rfl
  have ht:w5.drew.cell? ⟨I.bm,0,none⟩=some (.pointer (some ⟨I.bl,0,none⟩)):=(cw.step cs (fun h=>h)).at 0 rfl
  have fx:IntKind.u64.wrap ((resv X:Int)+(el:Int))=(resv X:Int)+(el:Int):=by
   have:=Qer (a:=resv X) (b:=el) (by omega)
   rw[X3] at this
   exact this
  have fy:IntKind.u64.wrap (el:Int)=(el:Int):=Qam el (by omega)
  obtain⟨ga,gb,gd,dr,ds,dt,ap,bv,hv⟩:=hid9 cv cw fw dp dq b3 cs bs ek
  clear cv cw fw dp dq b3 cs bs ek N ft dj br dm dl bf az ck cm c0 c1 c2 c3 c4 c5 c6 c7 c8 c9 bi bj
  go_wp2_with fail
  refine Qaf (S:=fun W:World=>W.cell? ⟨I.bm,0,none⟩=some (.pointer (some ⟨I.bl,0,none⟩))) (by kernel_rfl) ?_
  refine tk0 [0,1,2,3,4,5,7,8,9] ?_
  iterate 9
   refine tks (v:=?_) rfl (Or.inl ⟨by rfl,?_⟩) (by assumption) ?_
   rotate_left
   ·intro w C;(try dsimp only at C);go_simp
    all_goals with_reducible rfl
   try simp only[Act.put,lz1,lz2,lz3]
  refine tk9 ?_
  try simp only[lz4,lz5,lz6,lz1,lz2,lz3]
  refine tk1 6 rfl fun K p=>?_
  go_simp
  go_at_call 30
  refine bv.out.mono ?_
  rintro e w6 ⟨rfl,em,aq⟩
  have dv:=dt.out.trans (ap.out.trans aq)
  have cx:=ga.out.nil (ap.out.trans aq)
  have en:=gb.out.step (ap.out.trans aq) (fun h=>h)
  have gf:=gd.out.step (ap.out.trans aq) (fun h=>h)
  have dw:=dr.out.step (ap.out.trans aq) (fun h=>h)
  have dx:=ds.out.step (ap.out.trans aq) (fun h=>h)
  have hw:w6.cell? ⟨I.bm,0,none⟩=some (.pointer (some ⟨I.bl,0,none⟩)):=en.at 0 rfl
  have bw:LogAt w6 em I.bl I.bd L:=cx.hbl▸cx.pool.log
  obtain⟨eo,gg,dy,dz,b4,ep,ar⟩:=hid7 en gf dw dx dv cx bw
  clear en gf dw dx dv cx bw dt aq ga gb gd dr ds ap bv
  refine p.out _ _ (fun _=>hw) ?_
  clear p K
  refine tk (i:=10) (v:=?_) rfl (Or.inl ⟨by rfl,?_⟩) (by assumption) ?_
  rotate_left
  ·intro w C;(try dsimp only at C);go_simp
   all_goals with_reducible rfl
  try simp only[Act.put,lz1,lz2,lz3]
  try simp only[lz4,lz5,lz6,lz1,lz2,lz3]
  have e0:=H2.out.stream
  have hln0:=h.len
  have hrl0:=Qfk R
  have e1:L.starts.length<=100000:=by rw[H2.out.starts,Qbc];omega
  have ek:=hv.out
  by_cases cy:L.stream.length+(encR checkRec).length+(resv X+el)<=L.strips*127
  case' neg =>
   have ab:=Qg1 ar.out e1 (Jik w6 em) (by rfl) (by rw[Jgy];omega) (fun h=>by cases h) (resv X+el) (by omega) cy
   rw[X3] at ab
   have av:=Z2 ab
   clear ab
   refine tk1 11 rfl fun K p=>?_
   go_simp
   go_at_call 80
   refine av.out.mono ?_
   rintro e w7 ⟨rfl,bz,Z⟩
   have ca:w7.cell? ⟨I.bm,0,none⟩=some (.pointer (some ⟨I.bl,0,none⟩)):=(eo.out.step Z (fun h=>h)).at 0 rfl
   refine p.out _ _ (fun _=>ca) ?_
   clear p K
   refine tk0 [12,13,14] ?_
   iterate 3
    refine tks (v:=?_) rfl (Or.inl ⟨by rfl,?_⟩) (by assumption) ?_
    rotate_left
    ·intro w C;(try dsimp only at C);go_simp
     all_goals with_reducible rfl
    try simp only[Act.put,lz1,lz2,lz3]
   refine tk9 ?_
   try simp only[lz4,lz5,lz6,lz1,lz2,lz3]
   refine tk1 15 rfl fun K p=>?_
   go_simp
   refine p.out _ _ (fun _=>ca) ?_
   clear p K
   refine tk1 16 rfl fun K p=>?_
   go_simp
   refine p.out _ _ (fun h=>absurd h (by decide +kernel)) ?_
   clear p K
   refine Qad (by kernel_rfl) ?_ _
   go_wp2_with fail
   go_ret
   refine⟨80,bz,[],rfl,(b4.out.trans Z).mono (fun _ h=>h.elim),?_,?_,.inl rfl⟩
   ·rw[List.append_nil]
    exact h.nil (b4.out.trans Z)
   ·rw[List.append_nil]
    exact ec
  have ab:=Qi0 ar.out e1 (Jik w6 em) (by rfl) (by rw[Jgy];omega) (fun h=>by cases h) (resv X+el) cy
  rw[X3] at ab
  have av:=Z2 ab
  clear ab
  refine tk1 11 rfl fun K p=>?_
  go_simp
  go_at_call 80
  refine av.out.mono ?_
  rintro e w7 ⟨rfl,bz,gh,Z⟩
  obtain⟨lsn,cb⟩:∃lsn,L.base+L.stream.length=lsn:=⟨_,rfl⟩
  rw[cb]
  have gi:=ep.out.mgr.step Z (fun g hg q=>by rcases q with q|q|q <;> (subst q;simp[Qai,tLog,Qah,Qag] at hg))
  have gj:=ep.out.logged Z (fun g hg=>.inl hg) gh (by rw[Jgy];omega) (by omega) gi
  have et:=eo.out.step Z (by simp[LogTag,tMgr,tLog,Qah,Qag])
  have gk:=gg.out.step Z (by simp[LogTag,tOne,tLog,Qah,Qag])
  have ca:w7.cell? ⟨I.bm,0,none⟩=some (.pointer (some ⟨I.bl,0,none⟩)):=et.at 0 rfl
  have e2:=(b4.out.mono (T:=LogTag) (fun _ h=>h.elim)).trans Z
  have e3:=dy.out.step Z (by simp[LogTag,tAct,tLog,Qah,Qag])
  have e4:=dz.out.step Z (by simp[LogTag,tDirt,tLog,Qah,Qag])
  obtain⟨ev,cz,ew,e5,gl,e6,e7⟩:=hid7 gj et gk e2 cb e3 e4
  clear gj et gk e2 cb e3 e4 Z ep eo gg dy dz b4 ar fx fy ht m0 av gi gh
  refine p.out _ _ (fun _=>ca) ?_
  clear p K
  refine tk0 [12,13,14] ?_
  iterate 3
   refine tks (v:=?_) rfl (Or.inl ⟨by rfl,?_⟩) (by assumption) ?_
   rotate_left
   ·intro w C;(try dsimp only at C);go_simp
    all_goals with_reducible rfl
   try simp only[Act.put,lz1,lz2,lz3]
  refine tk9 ?_
  try simp only[lz4,lz5,lz6,lz1,lz2,lz3]
  refine tk1 15 rfl fun K p=>?_
  go_simp
  refine p.out _ _ (fun _=>ca) ?_
  clear p K
  refine tk1 16 rfl fun K p=>?_
  go_simp
  refine p.out _ _ (fun h=>absurd h (by decide +kernel)) ?_
  clear p K
  refine Qad (by kernel_rfl) ?_ _
  have cc:Step w7 bz w7.drew bz nil:=(Step.refl w7 bz nil).drew
  have bs:=Qde ((ev.out.nil cc).mgr)
  have m0:=cz.out.at 0 (v:=.pointer (some ⟨I.bl,0,none⟩)) rfl
  have gm:=cz.out.step cc (fun h=>h)
  have z:=ew.out.step cc (fun h=>h)
  have c0:=z.at 0 (v:=.int .u8 8) rfl
  have c1:=z.at 1 (v:=.int .u32 0) rfl
  have c2:=z.at 2 (v:=.int .u64 0) rfl
  have c3:=z.at 3 (v:=.int .u64 0) rfl
  have c4:=z.at 4 (v:=.int .u32 0) rfl
  have c5:=z.at 5 (v:=.int .u16 0) rfl
  have c6:=z.at 6 (v:=.bool false) rfl
  have c7:=z.at 7 (v:=.bool false) rfl
  have c8:=z.at 8 (v:=.slice none 0 0) rfl
  have c9:=z.at 9 (v:=.slice none 0 0) rfl
  have bi:=z.at 10 (v:=.slice pt nt ct) rfl
  have bj:=z.at 11 (v:=.slice pp np cp) rfl
  have da:w7.drew.cell? ⟨I.bm,0,none⟩=some (.pointer (some ⟨I.bl,0,none⟩))/\w7.drew.cell? ⟨bx,0,none⟩=some (.int .u8 8)/\w7.drew.cell? ⟨bx,1,none⟩=some (.int .u32 0)/\w7.drew.cell? ⟨bx,2,none⟩=some (.int .u64 0)/\w7.drew.cell? ⟨bx,3,none⟩=some (.int .u64 0)/\w7.drew.cell? ⟨bx,4,none⟩=some (.int .u32 0)/\w7.drew.cell? ⟨bx,5,none⟩=some (.int .u16 0)/\w7.drew.cell? ⟨bx,6,none⟩=some (.bool false)/\w7.drew.cell? ⟨bx,7,none⟩=some (.bool false)/\w7.drew.cell? ⟨bx,8,none⟩=some (.slice none 0 0)/\w7.drew.cell? ⟨bx,9,none⟩=some (.slice none 0 0)/\w7.drew.cell? ⟨bx,10,none⟩=some (.slice pt nt ct)/\w7.drew.cell? ⟨bx,11,none⟩=some (.slice pp np cp):=⟨gm.at 0 rfl,z.at 0 rfl,z.at 1 rfl,z.at 2 rfl,z.at 3 rfl,z.at 4 rfl,z.at 5 rfl,z.at 6 rfl,z.at 7 rfl,z.at 8 rfl,z.at 9 rfl,z.at 10 rfl,z.at 11 rfl⟩
  obtain⟨gn,bv⟩:=hid2 cc bs
  clear cc bs gm z
  go_wp2_with fail
  refine Qaf (S:=fun W:World=>W.cell? ⟨I.bm,0,none⟩=some (.pointer (some ⟨I.bl,0,none⟩))/\W.cell? ⟨bx,0,none⟩=some (.int .u8 8)/\W.cell? ⟨bx,1,none⟩=some (.int .u32 0)/\W.cell? ⟨bx,2,none⟩=some (.int .u64 0)/\W.cell? ⟨bx,3,none⟩=some (.int .u64 0)/\W.cell? ⟨bx,4,none⟩=some (.int .u32 0)/\W.cell? ⟨bx,5,none⟩=some (.int .u16 0)/\W.cell? ⟨bx,6,none⟩=some (.bool false)/\W.cell? ⟨bx,7,none⟩=some (.bool false)/\W.cell? ⟨bx,8,none⟩=some (.slice none 0 0)/\W.cell? ⟨bx,9,none⟩=some (.slice none 0 0)/\W.cell? ⟨bx,10,none⟩=some (.slice pt nt ct)/\W.cell? ⟨bx,11,none⟩=some (.slice pp np cp)) (by kernel_rfl) ?_
  refine tk0 [0,1,2,3,4,5] ?_
  iterate 6
   refine tks (v:=?_) rfl (Or.inl ⟨by rfl,?_⟩) (by assumption) ?_
   rotate_left
   ·intro w C;(try dsimp only at C);go_simp
    all_goals with_reducible rfl
   try simp only[Act.put,lz1,lz2,lz3]
  refine tk9 ?_
  try simp only[lz4,lz5,lz6,lz1,lz2,lz3]
  clear m0 c0 c1 c2 c3 c4 c5 c6 c7 c8 c9 bi bj da
  refine tk1 6 rfl fun K p=>?_
  go_simp
  go_at_call 30
  refine bv.out.mono ?_
  rintro e w8 ⟨rfl,hz,gp⟩
  have aw:=gn.out.trans gp
  have db:=ev.out.nil aw
  have ey:=cz.out.step aw (fun h=>h)
  have O:=ew.out.step aw (fun h=>h)
  have e8:=e6.out.step aw (fun h=>h)
  have e9:=e7.out.step aw (fun h=>h)
  have ea:=e5.out.trans (aw.mono (fun _ h=>h.elim))
  have da:w8.cell? ⟨I.bm,0,none⟩=some (.pointer (some ⟨I.bl,0,none⟩))/\w8.cell? ⟨bx,0,none⟩=some (.int .u8 8)/\w8.cell? ⟨bx,1,none⟩=some (.int .u32 0)/\w8.cell? ⟨bx,2,none⟩=some (.int .u64 0)/\w8.cell? ⟨bx,3,none⟩=some (.int .u64 0)/\w8.cell? ⟨bx,4,none⟩=some (.int .u32 0)/\w8.cell? ⟨bx,5,none⟩=some (.int .u16 0)/\w8.cell? ⟨bx,6,none⟩=some (.bool false)/\w8.cell? ⟨bx,7,none⟩=some (.bool false)/\w8.cell? ⟨bx,8,none⟩=some (.slice none 0 0)/\w8.cell? ⟨bx,9,none⟩=some (.slice none 0 0)/\w8.cell? ⟨bx,10,none⟩=some (.slice pt nt ct)/\w8.cell? ⟨bx,11,none⟩=some (.slice pp np cp):=⟨ey.at 0 rfl,O.at 0 rfl,O.at 1 rfl,O.at 2 rfl,O.at 3 rfl,O.at 4 rfl,O.at 5 rfl,O.at 6 rfl,O.at 7 rfl,O.at 8 rfl,O.at 9 rfl,O.at 10 rfl,O.at 11 rfl⟩
  have ax:LogAt w8 hz I.bl I.bd (L.more (encR checkRec)):=db.hbl▸db.pool.log
  have ay:(L.more (encR checkRec)).stream.length=L.stream.length+27:=by show (L.stream++encR checkRec).length=_;rw[Z6,Jgy]
  have ez:(L.more (encR checkRec)).starts.length<=100000:=by show (L.starts++[_]).length<=_;rw[Z6,H2.out.starts,Qbc];simp;omega
  have gq:(L.more (encR checkRec)).strips=L.strips:=rfl
  rw[Jgy] at cy
  have gr:(L.more (encR checkRec)).stream.length+(encR (Jgw l ps)).length+resv X<=(L.more (encR checkRec)).strips*127:=by rw[ay,b2,gq];omega
  have ab:=Qi0 ax ez (tabI co bh e8 e9) eh.out (by rw[b2];omega) (fun _=>Jhd eg.out) (resv X) gr
  obtain⟨gv,ia,ib,gw,av,Hlog8,Hlen8⟩:=hid7 db ey O ea ab ax ay
  clear db ey O ea ab ax ay gp aw ev cz ew e5 e6 e7 gn e8 e9 bv
  refine p.out _ _ (fun _=>da) ?_
  clear p K
  refine tk1 7 rfl fun K p=>?_
  go_simp
  go_at_call 80
  refine av.out.mono ?_
  rintro e w9 ⟨rfl,τ9,gx,be⟩
  obtain⟨lsn2,fa⟩:∃lsn,(L.more (encR checkRec)).base+(L.more (encR checkRec)).stream.length=lsn:=⟨_,rfl⟩
  rw[fa]
  have gy:=gv.out.mgr.step be (fun g hg q=>by rcases q with q|q|q <;> (subst q;simp[Qai,tLog,Qah,Qag] at hg))
  have gz:=gv.out.logged be (fun g hg=>.inl hg) gx dn (by omega) gy
  have fb:=ia.out.step be (by simp[LogTag,tMgr,tLog,Qah,Qag])
  have Y:=ib.out.step be (by simp[LogTag,tOne,tLog,Qah,Qag])
  have eb:=gw.out.trans be
  have fc:w9.cell? ⟨I.bm,0,none⟩=some (.pointer (some ⟨I.bl,0,none⟩))/\w9.cell? ⟨bx,0,none⟩=some (.int .u8 8)/\w9.cell? ⟨bx,1,none⟩=some (.int .u32 0)/\w9.cell? ⟨bx,2,none⟩=some (.int .u64 0)/\w9.cell? ⟨bx,3,none⟩=some (.int .u64 0)/\w9.cell? ⟨bx,4,none⟩=some (.int .u32 0)/\w9.cell? ⟨bx,5,none⟩=some (.int .u16 0)/\w9.cell? ⟨bx,6,none⟩=some (.bool false)/\w9.cell? ⟨bx,7,none⟩=some (.bool false)/\w9.cell? ⟨bx,8,none⟩=some (.slice none 0 0)/\w9.cell? ⟨bx,9,none⟩=some (.slice none 0 0)/\w9.cell? ⟨bx,10,none⟩=some (.slice pt nt ct)/\w9.cell? ⟨bx,11,none⟩=some (.slice pp np cp):=⟨fb.at 0 rfl,Y.at 0 rfl,Y.at 1 rfl,Y.at 2 rfl,Y.at 3 rfl,Y.at 4 rfl,Y.at 5 rfl,Y.at 6 rfl,Y.at 7 rfl,Y.at 8 rfl,Y.at 9 rfl,Y.at 10 rfl,Y.at 11 rfl⟩
  obtain⟨ic,ie,h0⟩:=hid3 gz fb eb
  clear gz fb eb Y gy gx be av
  refine p.out _ _ (fun _=>fc) ?_
  clear p K
  refine tk0 [8,9,10] ?_
  iterate 3
   refine tks (v:=?_) rfl (Or.inl ⟨by rfl,?_⟩) (by assumption) ?_
   rotate_left
   ·intro w C;(try dsimp only at C);go_simp
    all_goals with_reducible rfl
   try simp only[Act.put,lz1,lz2,lz3]
  refine tk9 ?_
  try simp only[lz4,lz5,lz6,lz1,lz2,lz3]
  refine tk1 11 rfl fun K p=>?_
  go_simp
  refine p.out _ _ (fun _=>fc) ?_
  clear p K
  refine tk1 12 rfl fun K p=>?_
  go_simp
  refine p.out _ _ (fun h=>absurd h (by decide +kernel)) ?_
  clear p K
  refine Qad (by kernel_rfl) ?_ _
  clear fc da
  have ig:=H2.out.base
  have h6:lsn<18446744073709551616:=by rw[<-gl.out,ig,e0];omega
  have h7:=Jim ic.out lsn h6
  have m0:=ie.out.at 0 (v:=.pointer (some ⟨I.bl,0,none⟩)) rfl
  have ii:=Z2 h7
  clear h7
  go_wp2_with fail
  refine ii.out.mono ?_
  rintro e w10 ⟨rfl,h8,k,fl,K,ij,-,-,h9,ha⟩
  go_wp2_with fail
  go_ret
  have a6:=Qb0 R checkRec
  have a7:=Qb0 (R++[checkRec]) (Jgw l ps)
  rw[Jgy] at a6
  rw[a6,b2,X0] at a7
  have hb:LogIs ((flL ((L.more (encR checkRec)).more (encR (Jgw l ps))) K).marked lsn) (R++[checkRec]++[Jgw l ps]) :=
   (((H2.out.more Jhu (SameLog.refl _)).more8 (r:=Jgw l ps) (fun h=>absurd rfl h) (SameLog.refl _)).same (SameLog.flush _ _)).same (SameLog.marked _ _)
  rw[X0] at hb
  have ik:((flL ((L.more (encR checkRec)).more (encR (Jgw l ps))) K).marked lsn).strips=I.S:=((SameLog.flush _ K).trans (SameLog.marked _ lsn)).strips.trans H3.out
  rw[H3.out,e0] at cy
  refine⟨0,h8,[checkRec,Jgw l ps],rfl,(h0.out.mono (T:=TyTag) (fun g h=>.inl (.inl (.inr (.inl h))))).trans (h9.mono (T:=TyTag) (fun g h=>.inl (.inl (.inr h)))),⟨⟨H,_,ij,F,s,hf,ha,hb,ik,H4.out,H5.out⟩⟩,?_,.inr ⟨l,ps,rfl,hr.out⟩⟩
  show (recsB (R++([checkRec]++[Jgw l ps]))).length+resv X<=I.S*127
  rw[a7]
  omega)
