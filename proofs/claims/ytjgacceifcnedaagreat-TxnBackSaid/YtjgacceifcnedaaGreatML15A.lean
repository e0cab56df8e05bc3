/-
 Transactions,the laws' beginnings: New,Begin over the world of records and slots,shelf,Make.
-/
import Derived.Test.YtjgacceifcnedaaGreatMSlA
import Derived.Test.YtjgacceifcnedaaGreatMTxJ
import Derived.Test.YtjgacceifcnedaaGreatMMakeG
import Derived.Test.YtjgacceifcnedaaGreatMPageS
set_option maxRecDepth 100000
set_option maxHeartbeats 4000000
set_option linter.all false
namespace Go.Proofs.YtjgacceifcnedaaGreat
open Go.RowKit Go.Maps
theorem Qm4 (n t:Nat) (hn:n<4294967296):pData (emptyPage n) t=[] :=
 Qe7 (Qb7 (by rw[Qea n hn];exact Nat.zero_le _))
theorem TyTag.fst {g:Tag}(h:TyTag g):(2≤g.1∧g.1≤33)∨(198≤g.1∧g.1≤209)∨(300≤g.1∧g.1≤303):=by
 rcases h with (h|h|h)|h
 ·rcases h with h|h
  ·have:=h.fst;omega
  ·have:=h.fst;omega
 ·unfold Qai at h;omega
 ·rw[h];simp
 ·unfold ReadTag at h;omega
theorem Qdw {g:Tag}(h:TyTag g):AnyTag g:=by have:=h.fst;show g.1≠90;omega
theorem Qwi {n:Nat}(hn:n<4294967296):(Qic n).ok:=⟨by rfl,by show (1:Nat)≠8;omega,hn,by show 0<18446744073709551616;omega,by show 0<18446744073709551616;omega,by show 0<4294967296;omega,by show 0<65536;omega⟩
def Jbb (w:World) (τ:Tags) (I:Ids) (bo:Nat→Nat) (X:List OneP) (next:Nat) (R:List RecP) (V:SlotV) (st:Nat) (e:Ending) (w':World):Prop :=
 ∃τ',Step w τ w' τ' TyTag ∧
 ((¬(recsB R).length+27+(resv X+54)≤I.S*127∧e = .returned (.tuple #[.int .u32 0,.int .u16 80])∧TZ w' τ' I bo X next R V st) ∨
 ((recsB R).length+27+(resv X+54)≤I.S*127∧e = .returned (.tuple #[.int .u32 (next:Int),.int .u16 0])∧∃nb,TZ w' τ' I (boPut bo next nb) (X++[begOne next (1+(recsB R).length)]) (next+1) (R++[Qic next]) V st))
theorem Qry {w:World}{τ:Tags}{I:Ids}{bo:Nat→Nat}{X:List OneP}{next:Nat}{R:List RecP}{V:SlotV}{st:Nat}(h:TZ w τ I bo X next R V st) (hnx:next≤899) (hX:X.length<64) :
 Calls Tryz.prog 9 #[.pointer (some ⟨I.bm,0,none⟩)] w (Jbb w τ I bo X next R V st):=by
 obtain⟨H,L,D,F,s,cur,h1,h2,h3,h4,h5⟩:=h.is
 have hlen:=h.len
 have hrl:=Qfk R
 refine(Qwx h1 hnx hX (by rw[h2.starts,Qbc];omega) (by rw[h2.base,h2.stream];omega)).mono ?_
 rintro e w' ⟨τ',hs,hk⟩
 refine⟨τ',hs.mono (fun _ h=>.inl h),?_⟩
 rw[h2.stream,h2.base,h3] at hk
 rcases hk with ⟨a1,a2,a3⟩|⟨a1,a2,nb,a3⟩
 ·exact .inl ⟨a1,a2,⟨⟨H,L,D,F,s,cur,a3,h2,h3,h4,h5⟩⟩⟩
 ·exact .inr ⟨a1,a2,nb,⟨⟨H,_,D,F,s,cur,a3,h2.more (Qwi (by omega)) (SameLog.refl _),h3,h4,h5⟩⟩⟩
def Ja9 (w:World) (τ:Tags) (bl bp:Nat) (e:Ending) (w':World):Prop:=∃bm τ',e = .returned (.pointer (some ⟨bm,0,none⟩))∧w.heap.size≤bm∧MgrAt w' τ' bm bl bp (fun _=>0) [] 1∧Step w τ w' τ' nil
theorem Qmk (w:World) (τ:Tags) (bl bp:Nat):Calls Tryz.prog 36 #[.pointer (some ⟨bl,0,none⟩),.pointer (some ⟨bp,0,none⟩)] w (Ja9 w τ bl bp):=by
 have hp:=PMap.made w τ tAllM 1000
 have hq1:=(Step.refl w τ nil).alloc (.map #[] 0) tAllM
 obtain⟨ba,hba⟩:∃ba,w.heap.size=ba:=⟨_,rfl⟩
 have hsz:(w.alloc (.map #[] 0)).heap.size=w.heap.size+1:=World.size_alloc _ _
 generalize τ.put w.heap.size tAllM=τ1 at *
 rw[hba] at hp hsz
 generalize hW1:w.alloc (.map #[] 0)=W1 at *
 have ho:=Own.born W1 τ1 tMgr 98 #[.pointer (some ⟨bl,0,none⟩),.pointer (some ⟨bp,0,none⟩),.map (some ba),.int .u32 1]
 have hq2:=(Step.refl W1 τ1 nil).alloc (.cells #[.pointer (some ⟨bl,0,none⟩),.pointer (some ⟨bp,0,none⟩),.map (some ba),.int .u32 1] 98) tMgr
 have hp2:=hp.step hq2 (fun h=>h)
 have hst:=hq1.trans hq2
 generalize τ1.put W1.heap.size tMgr=τ2 at *
 rw[hsz] at ho
 obtain⟨Ho,Hp2,Hst,HW1,Hba,Hsz⟩:=hid6 ho hp2 hst hW1 hba hsz
 clear ho hp2 hst hW1 hba hsz hp hq1 hq2
 have hmm:=@run_makeMap Tryz.prog
 go_enter Tryz.func36,Tryz.ntmps36
 go_wp2_with fail
 try rw[HW1.out]
 try rw[Hba.out]
 go_ret
 refine⟨ba+1,τ2,by first|rfl|rw[Hsz.out],by have:=Hba.out;omega,⟨⟨ba,Ho.out,?_⟩,fun x hx=>absurd hx (by simp),by simp[OneP.ids],fun x hx=>absurd hx (by simp),by omega,by simp⟩,Hst.out⟩
 have:fOf (fun _=>0) []=fun _=>(none:Option Nat):=by
  funext k
  unfold fOf OneP.ids
  simp
 rw[this]
 exact Hp2.out
theorem Qun {w:World}{τ:Tags}{bm bl bp bf bd N S k:Nat}{H:PoolH}(hp:PoolW w τ bp bf bd H (walNewLog (2+2*S)) (nwD (2+2*S) N) (List.replicate k Fr.no) (Ck.Clk.newS k)) (hm:MgrAt w τ bm bl bp (fun _=>0) [] 1) (hn:H.n=N) (hbl:H.bl=bl) (hst:H.st=stampTo (nwD (2+2*S) N) (N+1)) (hN:N≤500) (h3:3≤k) (h64:k≤64):TZ w τ ⟨bm,bl,bp,bf,bd,N,S⟩ (fun _=>0) [] 1 [] (fun _ _=>[]) 0:=by
 obtain⟨e1,e2,e3,e4,e5,e6⟩:=nwL (2+2*S)
 have hst0:∀i,i≤N+1→stampTo (nwD (2+2*S) N) i=0:=by
  intro i
  induction i with
  | zero=>intro _;rfl
  | succ i ih =>
    intro hi
    show max (stampTo (nwD (2+2*S) N) i) (greatTo (lastTo (nwD (2+2*S) N) i 4) 4)=0
    rw[ih (by omega),Qe8 _ N i (by omega),show greatTo blank 4=0 by decide +kernel]
    rfl
 refine⟨⟨H,_,_,_,_,emptyPage,⟨hp,hm,Qzo _ N k _ (by omega) (by omega),Qxh k h3 h64,hn,hbl⟩,⟨e2,e3,fun r hr=>absurd hr (by simp),e1⟩,by rw[e4];show (2+2*S-2)/2=S;omega,by rw[hst,hst0 (N+1) (Nat.le_refl _)];exact Nat.le_refl _,fun n hn=>⟨fun t=>?_,fun t=>Qm4 n t (by have:n<N:=hn;omega)⟩⟩⟩
 rw[Qm4 n t (by have:n<N:=hn;omega)]
 exact⟨Nat.zero_le _,fun _=>rfl⟩
def Ja7 (w:World) (N S:Nat) (e:Ending) (w':World):Prop :=
 ∃(I:Ids) (τ':Tags),e = .returned (.tuple #[.pointer (some ⟨I.bm,0,none⟩),.pointer (some ⟨I.bd,0,none⟩)])∧I.N=N∧I.S=S∧TZ w' τ' I (fun _=>0) [] 1 [] (fun _ _=>[]) 0∧Step w (fun _=>tBox) w' τ' AnyTag
theorem Qu2 (w:World) (sp pg fr:Nat) (hsp:sp<256) (hpg:pg<256) (hfr:fr<256):Calls Tryz.prog 8 #[.int .u8 (sp:Int),.int .u8 (pg:Int),.int .u8 (fr:Int)] w (Ja7 w (1+pg%6) (30+sp%60)):=by
 obtain⟨N,hN⟩:∃N,1+pg%6=N:=⟨_,rfl⟩
 obtain⟨S,hS⟩:∃S,30+sp%60=S:=⟨_,rfl⟩
 obtain⟨k,hk⟩:∃k,3+fr%4=k:=⟨_,rfl⟩
 obtain⟨Z,hZ⟩:∃Z,2+2*S=Z:=⟨_,rfl⟩
 obtain⟨Y,hY⟩:∃Y,4*(N+1)=Y:=⟨_,rfl⟩
 rw[hN,hS]
 have e0:IntKind.u8.wrap ((pg:Int)%6)=(pg:Int)%6:=by
  have:IntKind.u8.wrap ((pg:Int)%6)=((pg:Int)%6)%256:=by simp[IntKind.wrap,IntKind.bits,IntKind.signed]
  rw[this];omega
 have e1:IntKind.u8.wrap ((sp:Int)%60)=(sp:Int)%60:=by
  have:IntKind.u8.wrap ((sp:Int)%60)=((sp:Int)%60)%256:=by simp[IntKind.wrap,IntKind.bits,IntKind.signed]
  rw[this];omega
 have e2:IntKind.u8.wrap ((fr:Int)%4)=(fr:Int)%4:=by
  have:IntKind.u8.wrap ((fr:Int)%4)=((fr:Int)%4)%256:=by simp[IntKind.wrap,IntKind.bits,IntKind.signed]
  rw[this];omega
 have hNI:(1:Int)+(pg:Int)%6=(N:Int):=by omega
 have hkI:(3:Int)+(fr:Int)%4=(k:Int):=by omega
 have hZI:(2:Int)+2*(30+(sp:Int)%60)=(Z:Int):=by omega
 have hYI:4*((N:Int)+1)=(Y:Int):=by omega
 have hnd:Calls Tryz.prog 33 #[.int .i64 (Z:Int),.int .i64 (Y:Int)] w (NewD w (fun _=>tBox) Z Y):=Qmx w (fun _=>tBox) Z Y (by omega) (by omega)
 have hD0:nwD0 Z N=⟨List.replicate Z zsec,List.replicate Y zsec,none,false⟩:=by unfold nwD0;rw[hY]
 obtain⟨L0,hL0⟩:∃L0,walNewLog (nwD0 Z N).f0.length=L0:=⟨_,rfl⟩
 have hLL:walNewLog (2+2*S)=L0:=by rw[←hL0,Qfo,hZ]
 have hK:Qbl (nwD0 Z N)=nwD Z N:=rfl
 have hN6:1≤N∧N≤6:=by omega
 have hk36:3≤k∧k≤6:=by omega
 have hS90:30≤S∧S≤89:=by omega
 obtain⟨Hnd,HL0,HK,HD0,HY,HLL,HZ,HN,HS,Hk⟩:=hid10 hnd hL0 hK hD0 hY hLL hZ hN hS hk
 clear hnd hL0 hK hD0 hY hLL hZ hN hS hk
 go_enter Tryz.func8,Tryz.ntmps8
 go_wp2_with fail
 refine Hnd.out.mono ?_
 rintro e w1 ⟨bd,rfl,hlow1,τ1,hex1,hm1,hd1⟩
 have hd1':DevAt w1 τ1 bd (nwD0 Z N):=by rw[HD0.out];exact hd1
 have hs1:Step w (fun _=>tBox) w1 τ1 AnyTag:=Step.of _ hm1 hex1
 have hnew:=Qmj hd1' (by rw[Qfo];have:=HZ.out;omega) (Dev.lim_mono (Qn1 Z N) (by omega))
 rw[HL0.out,HK.out] at hnew
 obtain⟨Hs1,Hnew⟩:=hid2 hs1 hnew
 clear hs1 hnew hd1 hex1 hm1 hd1'
 go_wp2_with fail
 refine Hnew.out.mono ?_
 rintro e w2 ⟨bl,τ2,rfl,-,hl2,hd2,hs2⟩
 have hst2:=Hs1.out.trans (hs2.mono (T:=AnyTag) (fun g hg=>by have:=hg.fst;show g.1≠90;omega))
 have hpn:Calls Tryz.prog 35 #[.pointer (some ⟨bl,0,none⟩),.int .i64 (N:Int),.int .i64 (k:Int)] w2 fun e w'=>∃bp bf τ' H,e = .returned (.tuple #[.pointer (some ⟨bp,0,none⟩),.int .u16 0])∧PoolAt w' τ' bp bf H (List.replicate k Fr.no) (Ck.Clk.newS k)∧H.bl=bl∧H.n=N∧H.st=stampTo (nwD Z N) (N+1)∧w2.heap.size≤bp∧Step w2 τ2 w' τ' nil :=
  Qkv hl2 hd2 N k (by omega) (by omega) (by omega) (by omega) (by rw[Qgj];exact Nat.le_refl _) (fun i hi=>by rw[Qe8 Z N i (by omega)];exact Qj2)
 obtain⟨Hl2,Hd2,Hst2,Hpn⟩:=hid4 hl2 hd2 hst2 hpn
 clear hl2 hd2 hst2 hpn hs2
 go_wp2_with fail
 refine Hpn.out.mono ?_
 rintro e w3 ⟨bp,bf,τ3,H,rfl,hp3,hHl,hHn,hHs,-,hs3⟩
 have hl3:=Hl2.out.step hs3 (fun _ _ h=>h)
 have hd3:=Hd2.out.step hs3 (fun _ h=>h.elim)
 have hst3:=Hst2.out.trans (hs3.mono (T:=AnyTag) (fun _ h=>h.elim))
 have htn:=Qmk w3 τ3 bl bp
 obtain⟨Hp3,Hl3,Hd3,Hst3,Htn,HHl,HHn,HHs⟩:=hid8 hp3 hl3 hd3 hst3 htn hHl hHn hHs
 clear hp3 hl3 hd3 hst3 htn hHl hHn hHs hs3
 go_wp2_with fail
 refine Htn.out.mono ?_
 rintro e w4 ⟨bm,τ4,rfl,-,hm4,hs4⟩
 have hp4:=Hp3.out.step hs4 (fun _ _ h=>h)
 have hl4:=Hl3.out.step hs4 (fun _ _ h=>h)
 have hd4:=Hd3.out.step hs4 (fun _ h=>h.elim)
 have hst4:=Hst3.out.trans (hs4.mono (T:=AnyTag) (fun _ h=>h.elim))
 have hz4:TZ w4 τ4 ⟨bm,bl,bp,bf,bd,N,S⟩ (fun _=>0) [] 1 [] (fun _ _=>[]) 0:=by
  refine Qun (k:=k) (H:=H) ⟨hp4,by rw[HHl.out,HLL.out];exact hl4,by rw[HZ.out];exact hd4⟩ hm4 HHn.out HHl.out (by rw[HZ.out];exact HHs.out) (by omega) (by omega) (by omega)
 obtain⟨Hst4,Hz4⟩:=hid2 hst4 hz4
 clear hst4 hz4 hp4 hl4 hd4 hm4 hs4
 go_wp2_with fail
 go_ret2
 exact⟨⟨bm,bl,bp,bf,bd,N,S⟩,τ4,rfl,rfl,rfl,Hz4.out,Hst4.out⟩
end Go.Proofs.YtjgacceifcnedaaGreat