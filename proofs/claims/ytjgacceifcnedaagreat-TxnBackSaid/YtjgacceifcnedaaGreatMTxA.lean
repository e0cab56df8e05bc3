/-
 Transactions: the manager's things in memory;how much is kept for them;who runs.
-/
import Derived.Test.YtjgacceifcnedaaGreatMNum
import Derived.Test.YtjgacceifcnedaaGreatMRdC
import Derived.Test.YtjgacceifcnedaaGreatMWalG
import Derived.Test.YtjgacceifcnedaaGreatMPoolZ
import Derived.Test.YtjgacceifcnedaaGreatMInts
set_option maxRecDepth 100000
set_option maxHeartbeats 2000000
set_option linter.all false
namespace Go.Proofs.YtjgacceifcnedaaGreat
open Go.RowKit Go.Maps
def tOneT (k:Nat):Tag:=(300,k)
def tChg (k:Nat):Tag:=(301,k)
def tMgr:Tag:=(302,0)
def tAllM:Tag:=(303,0)
def Qa0 (x:Nat×Nat):List Value:=[.int .u64 (x.1:Int),.int .u64 (x.2:Int)]
structure OneP where
 txn:Nat
 last:Nat
 undo:Nat
 state:Nat
 start:Nat
 ch:List (Nat×Nat)
def OneP.cells (x:OneP) (v:Value):List Value:=[.int .u32 (x.txn:Int),.int .u64 (x.last:Int),.int .u64 (x.undo:Int),.int .u8 (x.state:Int),.int .u64 (x.start:Int),v]
def OneP.need (x:OneP):Nat:=54+(x.ch.map Prod.snd).sum
structure OneAt (w:World) (τ:Tags) (b:Nat) (x:OneP):Prop where
 is:∃v,Own w τ b (tOneT x.txn) 103 (x.cells v)∧NS 111 2 Qa0 0 w τ (tChg x.txn) v x.ch
 len:x.ch.length≤1000
 size:∀y∈x.ch,y.2≤1000
theorem OneAt.step {w w':World}{τ τ':Tags}{S:Tag→Prop}{b:Nat}{x:OneP}(h:OneAt w τ b x) (m:Step w τ w' τ' S) (h1:¬S (tOneT x.txn)) (h2:¬S (tChg x.txn)):OneAt w' τ' b x:=by
 obtain⟨v,ho,hn⟩:=h.is
 exact⟨⟨v,ho.step m h1,hn.step m h2⟩,h.len,h.size⟩
theorem NS.done {n0:Nat}{w:World}{τ:Tags}{g:Tag}{v:Value}{l:List (Nat×Nat)}(h:NS 111 2 Qa0 n0 w τ g v l):∃p c,v = .slice p l.length c∧l.length≤maxLen∧∀(i:Nat) (x:Nat×Nat),l[i]?=some x→∃b,p=some ⟨b,0,none⟩∧w.cell? ⟨b,i*2,none⟩=some (.int .u64 (x.1:Int))∧w.cell? ⟨b,i*2+1,none⟩=some (.int .u64 (x.2:Int)):=by
 obtain⟨h1,⟨rfl,h2⟩|⟨b,cap,ys,rfl,ho,h3,h4,h5⟩⟩:=h.buf
 ·refine⟨none,0,by rw[h2],by rw[h2];exact Nat.zero_le _,fun i x hx=>?_⟩
  have:=(List.getElem?_eq_some_iff.1 hx).1
  omega
 ·refine⟨_,cap,rfl,by omega,fun i x hx=>?_⟩
  have key:∀(l:List (Nat×Nat)) (i:Nat) (x:Nat×Nat) (j:Nat),l[i]?=some x→j<2→(l.flatMap Qa0)[i*2+j]?=(Qa0 x)[j]?:=by
   intro l
   induction l with
   | nil=>intro i x j hx;simp at hx
   | cons y l ih =>
     intro i x j hx hj
     rw[List.flatMap_cons]
     have hl:(Qa0 y).length=2:=rfl
     cases i with
     | zero =>
       have:y=x:=by simpa using hx
       subst this
       rw[List.getElem?_append_left (by rw[hl];omega),Nat.zero_mul,Nat.zero_add]
     | succ i =>
       rw[List.getElem?_append_right (by rw[hl];omega),hl,show (i+1)*2+j-2=i*2+j by omega]
       exact ih i x j (by simpa using hx) hj
  have hi:=(List.getElem?_eq_some_iff.1 hx).1
  have hk:∀j,j<2→(l.flatMap Qa0++ys)[i*2+j]?=(Qa0 x)[j]?:=fun j hj=>by
   rw[List.getElem?_append_left (by rw[h1];omega)]
   exact key l i x j hx hj
  exact⟨b,rfl,ho.at (i*2) (hk 0 (by omega)),ho.at (i*2+1) (hk 1 (by omega))⟩
def Qg2 (l:List (Nat×Nat)) (i:Nat):Nat:=((l.take i).map Prod.snd).sum
theorem Qqf {l:List (Nat×Nat)}{i:Nat}{x:Nat×Nat}(h:l[i]?=some x):Qg2 l (i+1)=Qg2 l i+x.2:=by
 unfold Qg2
 rw[List.take_add_one,h,List.map_append,List.sum_append]
 simp
theorem Qoy {l:List (Nat×Nat)}(h:∀y∈l,y.2≤1000) (i:Nat):Qg2 l i≤l.length*1000:=by
 have key:∀m:List (Nat×Nat),(∀y∈m,y.2≤1000)→(m.map Prod.snd).sum≤m.length*1000:=by
  intro m
  induction m with
  | nil=>intro _;simp
  | cons a m ih =>
    intro hm
    have h1:=ih (fun y hy=>hm y (List.mem_cons_of_mem _ hy))
    have h2:=hm a (by simp)
    simp only[List.map_cons,List.sum_cons,List.length_cons];omega
 have h1:=key (l.take i) (fun y hy=>h y (List.mem_of_mem_take hy))
 have h2:(l.take i).length≤l.length:=by rw[List.length_take];omega
 exact Nat.le_trans h1 (Nat.mul_le_mul_right _ h2)
theorem OneAt.need_le {w:World}{τ:Tags}{b:Nat}{x:OneP}(h:OneAt w τ b x):x.need≤1000054:=by
 have h1:Qg2 x.ch x.ch.length≤x.ch.length*1000:=Qoy h.size x.ch.length
 have h2:=h.len
 unfold Qg2 at h1
 rw[List.take_length] at h1
 unfold OneP.need
 generalize (x.ch.map Prod.snd).sum=s at *
 omega
theorem Qxj {w:World}{τ:Tags}{b:Nat}{x:OneP}(h:OneAt w τ b x):Calls Tryz.prog 56 #[.pointer (some ⟨b,0,none⟩)] w fun e w'=>e = .returned (.int .u64 (x.need:Int))∧Step w τ w' τ nil:=by
 obtain⟨v,ho,hn⟩:=h.is
 have hle:=Qoy h.size
 have hll:=h.len
 have hned:x.need=54+Qg2 x.ch x.ch.length:=by unfold OneP.need Qg2;rw[List.take_length]
 obtain⟨p,c,rfl,hmx,hrd⟩:=hn.done
 have c5:=ho.at 5 (v:=.slice p x.ch.length c) rfl
 generalize hnl:x.ch.length=n at *
 obtain⟨Hn,Hle,Hned,Hrd,Ho,Hnl⟩:=hid6 hn hle hned hrd ho hnl
 clear hn hle hned hrd ho hnl h
 go_enter Tryz.func56,Tryz.ntmps56
 go_wp2_with fail
 go_loopw [3,11] (fun a v wr=>∃i:Nat,i≤n∧v = .int .i64 (i:Int)∧a = .int .u64 (54+(Qg2 x.ch i:Int))∧Step w τ wr τ nil) (fun _ v _=>n-(intOf v).toNat)
 case atStart=>exact⟨0,Nat.zero_le _,rfl,rfl,Step.refl _ _ _⟩
 case round =>
  obtain⟨i,hi,rfl,rfl,hst⟩:=hrel
  by_cases hlt:i<n
  ·obtain⟨y,hy⟩:∃y,x.ch[i]?=some y:=⟨_,List.getElem?_eq_getElem (by rw[Hnl.out];exact hlt)⟩
   obtain⟨bb,rfl,d0,d1⟩:=Hrd.out i y hy
   have hss:=Qqf hy
   have hll2:=Hle.out (i+1)
   obtain⟨q0,q1⟩:wr.cell? ⟨bb,i*2,none⟩=some (.int .u64 (y.1:Int))∧wr.cell? ⟨bb,i*2+1,none⟩=some (.int .u64 (y.2:Int)):=by
    have hbl:=cell_lt d0
    exact⟨by rw[hst.no.cell bb _ hbl (by simp[no])];exact d0,by rw[hst.no.cell bb _ hbl (by simp[no])];exact d1⟩
   clear d0 d1 c5
   generalize hs0:Qg2 x.ch i=s0 at *
   generalize hy2:y.2=y2 at *
   generalize hy1:y.1=y1 at *
   have hadd:IntKind.u64.wrap (54+(s0:Int)+(y2:Int))=54+(s0:Int)+(y2:Int):=by
    have:=Qer (a:=54+s0) (b:=y2) (by omega)
    simp only[Int.natCast_add] at this
    exact this
   have hst2:=hst.alloc' (.cells #[.int .u64 (y1:Int),.int .u64 (y2:Int)] 111)
   obtain⟨Hst,Hss,Hll2,Hst2⟩:=hid4 hst hss hll2 hst2
   clear hst hss hll2 hst2
   go_wp2_with fail
   go_round
   case rel=>exact⟨i+1,by omega,by simp,by rw[Hss.out,Int.natCast_add,Int.add_assoc],Hst2.out⟩
   case measure=>simp[intOf];omega
  ·have hin:i=n:=by omega
   subst hin
   have Hst:=Lib.hid hst
   clear hst
   go_wp2_with fail
   go_returns
   exact⟨by rw[Hned.out,Int.natCast_add];rfl,Hst.out⟩
def OneP.ids (X:List OneP):List Nat:=X.map OneP.txn
def fOf (bo:Nat→Nat) (X:List OneP):Nat→Option Nat:=fun k=>if k∈OneP.ids X then some (bo k) else none
structure MgrAt (w:World) (τ:Tags) (bm bl bp:Nat) (bo:Nat→Nat) (X:List OneP) (next:Nat):Prop where
 is:∃ba,Own w τ bm tMgr 98 [.pointer (some ⟨bl,0,none⟩),.pointer (some ⟨bp,0,none⟩),.map (some ba),.int .u32 (next:Int)]∧PMap w τ ba tAllM 1000 (fOf bo X)
 ones:∀x∈X,OneAt w τ (bo x.txn) x
 nodup:(OneP.ids X).Nodup
 low:∀x∈X,x.txn<next
 nx:next≤900
 many:X.length≤64
def Qai (g:Tag):Prop:=300≤g.1∧g.1≤303
theorem MgrAt.step {w w':World}{τ τ':Tags}{S:Tag→Prop}{bm bl bp:Nat}{bo:Nat→Nat}{X:List OneP}{next:Nat}(h:MgrAt w τ bm bl bp bo X next) (m:Step w τ w' τ' S) (hs:∀g,Qai g→¬S g):MgrAt w' τ' bm bl bp bo X next:=by
 obtain⟨ba,ho,hp⟩:=h.is
 exact⟨⟨ba,ho.step m (hs _ (by simp[Qai,tMgr])),hp.step m (hs _ (by simp[Qai,tAllM]))⟩,fun x hx=>(h.ones x hx).step m (hs _ (by simp[Qai,tOneT])) (hs _ (by simp[Qai,tChg])),h.nodup,h.low,h.nx,h.many⟩
theorem MgrAt.nil {w w':World}{τ τ':Tags}{bm bl bp:Nat}{bo:Nat→Nat}{X:List OneP}{next:Nat}(h:MgrAt w τ bm bl bp bo X next) (m:Step w τ w' τ' Go.Proofs.YtjgacceifcnedaaGreat.nil):MgrAt w' τ' bm bl bp bo X next:=h.step m (fun _ _ h=>h)
def resv (X:List OneP):Nat:=(X.map OneP.need).sum
theorem Qri {bo:Nat→Nat}{X:List OneP}(k:Nat):k∈OneP.ids X↔(fOf bo X k).isSome=true:=by
 unfold fOf
 by_cases h:k∈OneP.ids X
 ·rw[if_pos h];simp[h]
 ·rw[if_neg h];simp[h]
theorem Qxz {bo:Nat→Nat}{X:List OneP}{k v:Nat}(h:fOf bo X k=some v):∃x∈X,x.txn=k∧v=bo k:=by
 unfold fOf at h
 by_cases hk:k∈OneP.ids X
 ·rw[if_pos hk] at h
  obtain⟨x,hx,e⟩:=List.mem_map.1 hk
  exact⟨x,hx,e,by simpa using h.symm⟩
 ·rw[if_neg hk] at h;cases h
theorem Quw (f:Nat→Nat) {k:Nat}:∀{l:List Nat},k∈l→f k+((l.erase k).map f).sum=(l.map f).sum:=by
 intro l
 induction l with
 | nil=>intro h;cases h
 | cons a l ih =>
   intro h
   by_cases e:a=k
   ·subst e;rw[List.erase_cons_head];rfl
   ·rw[List.erase_cons_tail (by simpa using e)]
    have h2:k∈l:=by
     rcases List.mem_cons.1 h with h|h
     ·exact absurd h.symm e
     ·exact h
    have:=ih h2
    simp only[List.map_cons,List.sum_cons];omega
def Qh1 (X:List OneP) (k:Nat):Nat:=((X.find? (fun x=>x.txn==k)).map OneP.need).getD 0
theorem Qrg {X:List OneP}(hn:(OneP.ids X).Nodup) {x:OneP}(hx:x∈X):X.find? (fun y=>y.txn==x.txn)=some x:=by
 induction X with
 | nil=>cases hx
 | cons a X ih =>
   obtain⟨h1,h2⟩:=List.nodup_cons.1 (show (a.txn::OneP.ids X).Nodup from hn)
   rcases List.mem_cons.1 hx with rfl|hx
   ·simp[List.find?_cons]
   ·have hne:a.txn≠x.txn:=fun e=>h1 (by rw[e];exact List.mem_map.2 ⟨x,hx,rfl⟩)
    rw[List.find?_cons,show (a.txn==x.txn)=false by simpa using hne]
    exact ih h2 hx
theorem Qgk {X:List OneP}(hn:(OneP.ids X).Nodup) {x:OneP}(hx:x∈X):Qh1 X x.txn=x.need:=by unfold Qh1;rw[Qrg hn hx];rfl
theorem Qqn {X:List OneP}(hn:(OneP.ids X).Nodup):resv X=((OneP.ids X).map (Qh1 X)).sum:=by
 unfold resv OneP.ids
 rw[List.map_map]
 congr 1
 refine List.map_congr_left fun x hx=>?_
 exact(Qgk hn hx).symm
theorem Qki (f:Nat→Nat) (B:Nat):∀(l:List Nat),(∀k∈l,f k≤B)→(l.map f).sum≤l.length*B:=by
 intro l
 induction l with
 | nil=>intro _;simp
 | cons a l ih =>
   intro h
   have h1:=ih (fun k hk=>h k (List.mem_cons_of_mem _ hk))
   have h2:=h a (by simp)
   simp only[List.map_cons,List.sum_cons,List.length_cons,Nat.succ_mul];omega
theorem Qde {w:World}{τ:Tags}{bm bl bp:Nat}{bo:Nat→Nat}{X:List OneP}{next:Nat}(h:MgrAt w τ bm bl bp bo X next):Calls Tryz.prog 27 #[.pointer (some ⟨bm,0,none⟩)] w fun e w'=>e = .returned (.int .u64 (resv X:Int))∧∃τ',Step w τ w' τ' nil:=by
 obtain⟨ba,ho,hp⟩:=h.is
 have hnd:=h.nodup
 have hre:=Qqn hnd
 have hnb:∀k∈OneP.ids X,Qh1 X k≤1000054:=fun k hk=>by
  obtain⟨x,hx,rfl⟩:=List.mem_map.1 hk
  rw[Qgk hnd hx];exact(h.ones x hx).need_le
 have hsb:=Qki (Qh1 X) 1000054 _ hnb
 have hmn:=h.many
 have hlen:(OneP.ids X).length=X.length:=List.length_map ..
 have c2:=ho.at 2 (v:=.map (some ba)) rfl
 obtain⟨w1,cnt,hrun,hrg,hs1⟩:=hp.range (by omega) hnd (fun k=>Qri k)
 have hit:(τ.put w.heap.size tIt) w.heap.size=tIt:=Tags.put_same _ _ _
 have h1:=h.nil hs1
 have hpx:=h.ones
 generalize hR:resv X=R at *
 generalize hl:OneP.ids X=l at *
 generalize τ.put w.heap.size tIt=τ1 at *
 have hRle:R≤70000000:=by
  rw[hlen] at hsb
  have:X.length*1000054≤64*1000054:=Nat.mul_le_mul_right _ hmn
  omega
 obtain⟨Hrg,Hs1,H1,Hre,Hnd,Hnb,Hsb,Hit,Hl,Ho,Hp,Hpx⟩:=hid12 hrg hs1 h1 hre hnd hnb hsb hit hl ho hp hpx
 obtain⟨HR,Hlen⟩:=hid2 hR hlen
 clear hrg hs1 h1 hre hnd hnb hsb hit hl ho hp hpx hR hlen h
 go_enter Tryz.func27,Tryz.ntmps27
 go_wp2_with fail
 go_loopw [3] (fun a wr=>∃(m:List Nat) (τr:Tags) (c s:Nat),PRange wr τr ba w.heap.size tAllM 1000 (fOf bo X) m c∧τr w.heap.size=tIt∧a = .int .u64 (s:Int)∧s+(m.map (Qh1 X)).sum=R∧(∀k∈m,k∈l)∧MgrAt wr τr bm bl bp bo X next∧Step w τ wr τr nil) (fun _ wr=>wr.rangeLeft ba w.heap.size)
 case atStart=>exact⟨l,τ1,cnt,0,Hrg.out,Hit.out,rfl,by rw[Nat.zero_add];exact Hre.out.symm,fun k hk=>hk,H1.out,Hs1.out⟩
 case round =>
  obtain⟨m,τr,c,s,hrg,hit,rfl,hsum,hml,hm,hst⟩:=hrel
  have hlf:=hrg.left
  rcases hrg.next (by omega) hit 0 with ⟨rfl,hrun2⟩|⟨k,v,w2,c2',hk,hfk,hrun2,hrg2,hlt,hs2,hen⟩
  ·have hsR:s=R:=by simpa using hsum
   subst hsR
   have Hst:=Lib.hid hst
   clear hst hrg hm hrun
   have hrun3:=fun (ty:TypeId)=>(hrun2:_)
   go_wp2_with fail
   go_returns
   exact⟨rfl,τr,Hst.out⟩
  ·obtain⟨x,hx,rfl,rfl⟩:=Qxz hfk
   have hs2t:Step wr τr w2 τr (fun t=>t=tIt):=Step.mk' hs2 (Ext.refl _ _) (fun j _ e=>by rw[e];exact hit)
   have hm2:=hm.step hs2t (fun g hg e=>by subst e;simp[Qai,tIt] at hg)
   have hned:=Qxj (hm2.ones x hx)
   have hst2:Step w τ w2 τr nil:=⟨hst.mod.seq hs2 (fun j hj e=>by subst e;exact absurd hj (Nat.lt_irrefl _)),hst.ext⟩
   have hsx:=Quw (Qh1 X) hk
   rw[Qgk (by rw[Hl.out];exact Hnd.out) hx] at hsx
   generalize hnx:x.need=nx at *
   have hadd:IntKind.u64.wrap ((s:Int)+(nx:Int))=(s:Int)+(nx:Int):=by
    have:=Qer (a:=s) (b:=nx) (by omega)
    rw[Int.natCast_add] at this
    exact this
   obtain⟨Hned,Hst2,Hm2,Hsx,Hnx⟩:=hid5 hned hst2 hm2 hsx hnx
   clear hned hst2 hm2 hsx hnx hrg hm hrun hst hs2 hs2t
   go_wp2_with fail
   refine Hned.out.mono ?_
   rintro e w3 ⟨rfl,hs3⟩
   obtain⟨hrg3,hit3⟩:=hrg2.step hit hs3 (fun h=>h) (fun h=>h)
   have hm3:=Hm2.out.nil hs3
   have hst3:=Hst2.out.trans hs3
   have hlf3:=hrg3.left
   obtain⟨Hrg3,Hit3,Hm3,Hst3⟩:=hid4 hrg3 hit3 hm3 hst3
   clear hrg3 hit3 hm3 hst3 hs3 hrun2 hen hrg2
   go_wp2_with fail
   go_round
   case rel=>exact⟨m.erase x.txn,τr,c2',s+nx,Hrg3.out,Hit3.out,by rw[Int.natCast_add],by have:=Hsx.out;omega,fun k hk=>hml k (List.mem_of_mem_erase hk),Hm3.out,Hst3.out⟩
   case measure=>omega
theorem Qln {bo:Nat→Nat}{X:List OneP}{x:OneP}(hx:x∈X):fOf bo X x.txn=some (bo x.txn):=by
 unfold fOf;rw[if_pos (show x.txn∈OneP.ids X from List.mem_map.2 ⟨x,hx,rfl⟩)]
theorem Qvz {bo:Nat→Nat}{X:List OneP}{k:Nat}(h:∀x∈X,x.txn≠k):fOf bo X k=none:=by
 unfold fOf
 rw[if_neg (fun hm=>by
  obtain⟨x,hx,e⟩:=List.mem_map.1 hm
  exact h x hx e)]
theorem Qju {w:World}{τ:Tags}{bm bl bp:Nat}{bo:Nat→Nat}{X:List OneP}{next:Nat}(h:MgrAt w τ bm bl bp bo X next) {x:OneP}(hx:x∈X) (hs:x.state=1) (k:Nat) (hk:x.txn=k) (hk4:k<4294967296):Calls Tryz.prog 39 #[.pointer (some ⟨bm,0,none⟩),.int .u32 (k:Int)] w fun e w'=>e = .returned (.tuple #[.pointer (some ⟨bo k,0,none⟩),.int .u16 0])∧w=w':=by
 obtain⟨ba,ho,hp⟩:=h.is
 have c2:=ho.at 2 (v:=.map (some ba)) rfl
 have hlk:=hp.look k hk4
 rw[←hk,Qln hx,hk] at hlk
 obtain⟨v,hox,-⟩:=(h.ones x hx).is
 have c3:=hox.at 3 (v:=.int .u8 (x.state:Int)) rfl
 rw[hs,hk] at c3
 change _=Result.ok (Value.pointer (some ⟨bo k,0,none⟩)) w at hlk
 generalize bo k=b at *
 clear h ho hp hox
 go_enter Tryz.func39,Tryz.ntmps39
 go_wp2_with fail
 go_ret2
 exact⟨rfl,rfl⟩
theorem Qy6 {w:World}{τ:Tags}{bm bl bp:Nat}{bo:Nat→Nat}{X:List OneP}{next:Nat}(h:MgrAt w τ bm bl bp bo X next) (k:Nat) (hk4:k<4294967296) (hno:∀x∈X,x.txn≠k):Calls Tryz.prog 39 #[.pointer (some ⟨bm,0,none⟩),.int .u32 (k:Int)] w fun e w'=>e = .returned (.tuple #[.pointer none,.int .u16 150])∧w=w':=by
 obtain⟨ba,ho,hp⟩:=h.is
 have c2:=ho.at 2 (v:=.map (some ba)) rfl
 have hlk:=hp.look k hk4
 rw[Qvz hno] at hlk
 change _=Result.ok (Value.pointer none) w at hlk
 clear h ho hp hno
 go_enter Tryz.func39,Tryz.ntmps39
 go_wp2_with fail
 go_ret2
 exact⟨rfl,rfl⟩
theorem Qsd {w:World}{τ:Tags}{bm bl bp:Nat}{bo:Nat→Nat}{X:List OneP}{next:Nat}(h:MgrAt w τ bm bl bp bo X next) {x:OneP}(hx:x∈X) (hs:x.state=1) (k:Nat) (hk:x.txn=k) (hk4:k<4294967296):Calls Tryz.prog 11 #[.pointer (some ⟨bm,0,none⟩),.int .u32 (k:Int)] w fun e w'=>e = .returned (.tuple #[.int .u64 (x.undo:Int),.int .u16 0])∧w=w':=by
 have hr:=Qju h hx hs k hk hk4
 obtain⟨v,hox,-⟩:=(h.ones x hx).is
 have c2:=hox.at 2 (v:=.int .u64 (x.undo:Int)) rfl
 rw[hk] at c2
 generalize bo k=b at *
 have Hr:=Lib.hid hr
 clear hr h hox
 go_enter Tryz.func11,Tryz.ntmps11
 go_wp2_with fail
 refine Hr.out.mono ?_
 rintro e w' ⟨rfl,rfl⟩
 go_wp2_with fail
 go_ret2
 exact⟨rfl,rfl⟩
theorem Qhg {w:World}{τ:Tags}{bm bl bp:Nat}{bo:Nat→Nat}{X:List OneP}{next:Nat}(h:MgrAt w τ bm bl bp bo X next):Calls Tryz.prog 24 #[.pointer (some ⟨bm,0,none⟩)] w fun e w'=>e = .returned (.pointer (some ⟨bp,0,none⟩))∧w=w':=by
 obtain⟨ba,ho,-⟩:=h.is
 have c1:=ho.at 1 (v:=.pointer (some ⟨bp,0,none⟩)) rfl
 go_enter Tryz.func24,Tryz.ntmps24
 go_wp2_with fail
 go_ret
 exact⟨rfl,rfl⟩
theorem Jb6 {w:World}{τ:Tags}{bm bl bp:Nat}{bo:Nat→Nat}{X:List OneP}{next:Nat}(h:MgrAt w τ bm bl bp bo X next):Calls Tryz.prog 20 #[.pointer (some ⟨bm,0,none⟩)] w fun e w'=>e = .returned (.pointer (some ⟨bl,0,none⟩))∧w=w':=by
 obtain⟨ba,ho,-⟩:=h.is
 have c0:=ho.at 0 (v:=.pointer (some ⟨bl,0,none⟩)) rfl
 go_enter Tryz.func20,Tryz.ntmps20
 go_wp2_with fail
 go_ret
 exact⟨rfl,rfl⟩
end Go.Proofs.YtjgacceifcnedaaGreat
namespace Go.Proofs.YtjgacceifcnedaaGreat
open Go.RowKit
def TxTag (g:Tag):Prop:=PWTag g∨Qai g∨g=(209,0)
structure TW (w:World) (τ:Tags) (bm bl bp bf bd N:Nat) (bo:Nat→Nat) (X:List OneP) (next:Nat) (H:PoolH) (L:LogM) (D:Dev) (F:List Fr) (s:Ck.Clk.St) (cur:Nat→List Int):Prop where
 pool:PoolW w τ bp bf bd H L D F s
 mgr:MgrAt w τ bm bl bp bo X next
 good:Good N H.st L D F cur
 clock:Clock F s
 hn:H.n=N
 hbl:H.bl=bl
structure TG (w:World) (τ:Tags) (bm bl bp bf bd N:Nat) (bo:Nat→Nat) (X:List OneP) (next:Nat) (H:PoolH) (L:LogM) (D:Dev) (F:List Fr) (s:Ck.Clk.St) (cur:Nat→List Int) (n i b:Nat) (f:Fr):Prop where
 pool:PoolW w τ bp bf bd H L D F s
 mgr:MgrAt w τ bm bl bp bo X next
 good:Good N H.st L D F cur
 held:Held F s i
 hn:H.n=N
 hbl:H.bl=bl
 at_:F[i]?=some f
 pg:f.pg=some (b,cur n)
 fn:f.n=n
 nN:n<N
theorem Qi3 {g:Tag}(h:PWTag g):¬Qai g∧g≠(209,0):=by
 rcases h with h|h|h
 ·rcases h with rfl|rfl|rfl|rfl|⟨i,rfl⟩ <;> simp[Qai,tPool,tFr,tWhere,tClk,tPg]
 ·rcases h with rfl|rfl|rfl <;> simp[Qai,tLog,Qah,Qag]
 ·obtain⟨a,b⟩:=g
  unfold Qai
  rcases h with h|h|h|h
  all_goals (refine⟨by omega,fun e=>?_⟩;cases e;omega)
theorem Qhd:¬PWTag tData:=by
 rintro(h|h|h)
 ·rcases h with h|h|h|h|⟨i,h⟩ <;> simp[tData,tPool,tFr,tWhere,tClk,tPg] at h
 ·rcases h with h|h|h <;> simp[tData,tLog,Qah,Qag] at h
 ·rcases h with h|h|h|h <;> simp[tData] at h
theorem TG.page {w:World}{τ:Tags}{bm bl bp bf bd N:Nat}{bo:Nat→Nat}{X:List OneP}{next:Nat}{H:PoolH}{L:LogM}{D:Dev}{F:List Fr}{s:Ck.Clk.St}{cur:Nat→List Int}{n i b:Nat}{f:Fr}(h:TG w τ bm bl bp bf bd N bo X next H L D F s cur n i b f):PageAt w τ (tPg i) b (cur n) :=
 h.pool.pool.pg i b (cur n) (by rw[h.at_];exact h.pg)
theorem TW.nil {w w':World}{τ τ':Tags}{bm bl bp bf bd N:Nat}{bo:Nat→Nat}{X:List OneP}{next:Nat}{H:PoolH}{L:LogM}{D:Dev}{F:List Fr}{s:Ck.Clk.St}{cur:Nat→List Int}(h:TW w τ bm bl bp bf bd N bo X next H L D F s cur) (m:Step w τ w' τ' Go.Proofs.YtjgacceifcnedaaGreat.nil):TW w' τ' bm bl bp bf bd N bo X next H L D F s cur :=
 ⟨h.pool.step m (fun _ h=>h.elim),h.mgr.nil m,h.good,h.clock,h.hn,h.hbl⟩
theorem TG.step {w w':World}{τ τ':Tags}{S:Tag→Prop}{bm bl bp bf bd N:Nat}{bo:Nat→Nat}{X:List OneP}{next:Nat}{H:PoolH}{L:LogM}{D:Dev}{F:List Fr}{s:Ck.Clk.St}{cur:Nat→List Int}{n i b:Nat}{f:Fr}(h:TG w τ bm bl bp bf bd N bo X next H L D F s cur n i b f) (m:Step w τ w' τ' S) (hs:∀g,S g→¬PWTag g∧¬Qai g∧g≠tData):TG w' τ' bm bl bp bf bd N bo X next H L D F s cur n i b f :=
 ⟨h.pool.step m (fun g hg=>⟨fun k=>(hs g hg).1 (.inl k),fun k=>(hs g hg).1 (.inr (.inl k)),fun k=>(hs g hg).1 (.inr (.inr k)),(hs g hg).2.2⟩),h.mgr.step m (fun g hg hS=>(hs g hS).2.1 hg),h.good,h.held,h.hn,h.hbl,h.at_,h.pg,h.fn,h.nN⟩
theorem Qr0 {w:World}{τ:Tags}{bm bl bp bf bd N:Nat}{bo:Nat→Nat}{X:List OneP}{next:Nat}{H:PoolH}{L:LogM}{D:Dev}{F:List Fr}{s:Ck.Clk.St}{cur:Nat→List Int}(h:TW w τ bm bl bp bf bd N bo X next H L D F s cur) (hst:H.st+1<18446744073709551616) (n:Nat) (hn:n<N) :
 Calls Tryz.prog 30 #[.pointer (some ⟨bp,0,none⟩),.int .u32 (n:Int)] w fun e w'=>∃b,e = .returned (.tuple #[.pointer (some ⟨b,0,none⟩),.int .u16 0])∧∃τ' H' L' D' F' s' i f,TG w' τ' bm bl bp bf bd N bo X next H' L' D' F' s' cur n i b f∧H'.st≤H.st+1∧SameLog L L'∧Step w τ w' τ' PWTag:=by
 refine(Qxw h.pool h.good h.clock h.hn hst n hn).mono ?_
 rintro e w' ⟨b,rfl,τ',H',L',D',F',s',i,f,g⟩
 exact⟨b,rfl,τ',H',L',D',F',s',i,f,⟨g.pool,h.mgr.step g.step (fun t ht hp=>(Qi3 hp).1 ht),g.good,g.held,g.hn,g.hl.trans h.hbl,g.at_,g.pg,g.fn,hn⟩,g.st.2,g.log,g.step⟩
theorem Qrz {w:World}{τ:Tags}{bm bl bp bf bd N:Nat}{bo:Nat→Nat}{X:List OneP}{next:Nat}{H:PoolH}{L:LogM}{D:Dev}{F:List Fr}{s:Ck.Clk.St}{cur:Nat→List Int}{n i b:Nat}{f:Fr}(h:TG w τ bm bl bp bf bd N bo X next H L D F s cur n i b f) (hn4:n<4294967296) :
 Calls Tryz.prog 32 #[.pointer (some ⟨bp,0,none⟩),.int .u32 (n:Int),.int .u64 0] w fun e w'=>e = .returned (.bool true)∧∃s',TW w' τ bm bl bp bf bd N bo X next H L D F s' cur∧Step w τ w' τ PWTag:=by
 have hh:s.h<s.n:=by
  obtain⟨bf,hp,_⟩:=h.pool.pool.ck.is
  exact hp.hh
 obtain⟨h1,h2,h3,h4⟩:=h.held.put hh
 have hw:Qaq F n=some i:=(Qa6 h.pool.pool.one n i).2 ⟨f,h.at_,Qd7.2 ⟨b,cur n,h.pg,h.fn⟩⟩
 have:=Qxd h.pool.pool n hn4 hw h.held.lt h3
 rw[h2,decide_eq_true h1,if_neg h1] at this
 refine this.mono ?_
 rintro e w' ⟨rfl,hp,hs⟩
 have hsp:Step w τ w' τ PoolTag:=hs.mono (fun g hg=>.inr (.inr (.inr (.inl hg))))
 have hsw:Step w τ w' τ PWTag:=hsp.mono (fun _ hg=>.inl hg)
 exact⟨rfl,_,⟨h.pool.turn hp hsp,h.mgr.step hsw (fun t ht hq=>(Qi3 hq).1 ht),h.good,h4 F rfl (fun j f g hf hg=>by rw[hf] at hg;cases hg;rfl),h.hn,h.hbl⟩,hsw⟩
theorem PoolAt.setPageS {w w':World}{τ τ':Tags}{S:Tag→Prop}{bp bf:Nat}{H:PoolH}{F:List Fr}{s:Ck.Clk.St}(h:PoolAt w τ bp bf H F s) {i:Nat}{f:Fr}(hf:F[i]?=some f) {b:Nat}{P Q:List Int}(hpg:f.pg=some (b,P)) (m:Step w τ w' τ' S) (hS:∀g,PoolTag g→S g→g=tPg i) (hQ:PageAt w' τ' (tPg i) b Q) :
 PoolAt w' τ' bp bf H (F.set i {f with pg:=some (b,Q)}) s:=by
 obtain⟨hi,hfi⟩:=List.getElem?_eq_some_iff.1 hf
 have hget:∀(j:Nat) (g:Fr),(F.set i {f with pg:=some (b,Q)})[j]?=some g→∃g',F[j]?=some g'∧(∀n,g.has n=g'.has n)∧(j≠i→g=g'):=fun j g hg=>by
  by_cases e:i=j
  ·subst e
   rw[List.getElem?_set_self hi] at hg
   cases hg
   exact⟨f,hf,fun n=>Qoa _ _ _ _ hpg n,fun h=>absurd rfl h⟩
  ·rw[List.getElem?_set_ne e] at hg
   exact⟨g,hg,fun _=>rfl,fun _=>rfl⟩
 have no:∀g,PoolTag g→g≠tPg i→¬S g:=fun g h1 h2 h3=>h2 (hS g h1 h3)
 refine⟨h.hd.step m (no _ (.inl rfl) (by simp[tPool,tPg])),by rw[List.length_set];exact h.vf,by rw[Qjc hf hpg];exact h.fr.step m (no _ (.inr (.inl rfl)) (by simp[tFr,tPg])),?_,by rw[Qiy hf hpg];exact h.mp.step m (no _ (.inr (.inr (.inl rfl))) (by simp[tWhere,tPg])),h.ck.step m (no _ (.inr (.inr (.inr (.inl rfl)))) (by simp[tClk,tPg])),h.n1,by rw[List.length_set];exact h.k1,by rw[List.length_set];exact h.sn,h.st,?_,?_⟩
 ·intro j c R hb
  by_cases e:i=j
  ·subst e
   rw[List.getElem?_set_self hi] at hb
   cases hb
   exact hQ
  ·rw[List.getElem?_set_ne e] at hb
   exact(h.pg j c R hb).step m (no _ (.inr (.inr (.inr (.inr ⟨j,rfl⟩)))) (by intro q;apply e;simp[tPg] at q;omega))
 ·intro a c n g g2 ha hb h1 h2
  obtain⟨g',q1,q2,_⟩:=hget a g ha
  obtain⟨g2',r1,r2,_⟩:=hget c g2 hb
  exact h.one a c n g' g2' q1 r1 (by rw[←q2];exact h1) (by rw[←r2];exact h2)
 ·intro a n g ha h1
  obtain⟨g',q1,q2,_⟩:=hget a g ha
  exact h.low a n g' q1 (by rw[←q2];exact h1)
def putX (X:List OneP) (x:OneP):List OneP:=X.map (fun y=>if y.txn=x.txn then x else y)
theorem Qr8 (X:List OneP) (x:OneP):OneP.ids (putX X x)=OneP.ids X:=by
 unfold OneP.ids putX
 rw[List.map_map]
 refine List.map_congr_left (fun y _=>?_)
 show (if y.txn=x.txn then x else y).txn=y.txn
 by_cases e:y.txn=x.txn
 ·rw[if_pos e,e]
 ·rw[if_neg e]
theorem Qxe (bo:Nat→Nat) (X:List OneP) (x:OneP):fOf bo (putX X x)=fOf bo X:=by
 funext k
 unfold fOf
 rw[Qr8]
theorem putX_mem {X:List OneP}{x y:OneP}(h:y∈putX X x):(y=x)∨(y∈X∧y.txn≠x.txn):=by
 obtain⟨z,hz,rfl⟩:=List.mem_map.1 h
 by_cases e:z.txn=x.txn
 ·rw[if_pos e];exact .inl rfl
 ·rw[if_neg e];exact .inr ⟨hz,e⟩
theorem Qge {X:List OneP}{x y:OneP}(hy:y∈X) (e:y.txn=x.txn):x∈putX X x:=List.mem_map.2 ⟨y,hy,by rw[if_pos e]⟩
theorem MgrAt.setOne {w w':World}{τ τ':Tags}{S:Tag→Prop}{bm bl bp:Nat}{bo:Nat→Nat}{X:List OneP}{next:Nat}(h:MgrAt w τ bm bl bp bo X next) (m:Step w τ w' τ' S) {x y:OneP}(hy:y∈X) (e:y.txn=x.txn) (hS:∀g,Qai g→S g→g=tOneT x.txn∨g=tChg x.txn) (hx:OneAt w' τ' (bo x.txn) x):MgrAt w' τ' bm bl bp bo (putX X x) next:=by
 obtain⟨ba,ho,hp⟩:=h.is
 have no:∀g,Qai g→(g≠tOneT x.txn∧g≠tChg x.txn)→¬S g:=fun g h1 h2 h3=>(hS g h1 h3).elim h2.1 h2.2
 refine⟨⟨ba,ho.step m (no _ (by simp[Qai,tMgr]) (by simp[tMgr,tOneT,tChg])),by rw[Qxe];exact hp.step m (no _ (by simp[Qai,tAllM]) (by simp[tAllM,tOneT,tChg]))⟩,fun z hz=>?_,by rw[Qr8];exact h.nodup,fun z hz=>?_,h.nx,by unfold putX;rw[List.length_map];exact h.many⟩
 ·rcases putX_mem hz with rfl|⟨h1,h2⟩
  ·exact hx
  ·exact(h.ones z h1).step m (no _ (by simp[Qai,tOneT]) (by simp[tOneT,tChg];omega)) (no _ (by simp[Qai,tChg]) (by simp[tOneT,tChg];omega))
 ·rcases putX_mem hz with rfl|⟨h1,h2⟩
  ·rw[←e];exact h.low y hy
  ·exact h.low z h1
theorem Tryz.infoDone:(Tryz.prog.info? 111).map (fun i=>(i.zero,i.size,i.bytes))=some (some (.agg #[.int .u64 0,.int .u64 0]),2,16):=by kernel_rfl
theorem Qec {w:World}{τ:Tags}{g:Tag}{v:Value}{l:List (Nat×Nat)}(hown:NS 111 2 Qa0 0 w τ g v l) (x:Nat×Nat) (hsz:l.length≤1000000) {kb:Nat} (hkb:kb=w.heap.size)
 {ops:Array Oper} {rest:List Oper} {o:Oper} {a:Act} {Q:Exit→Act→World→Prop} (hgd:o.guard=none) (s y:Operand)
 (hop:o.op = .call {callee:=.builtin .append,args:=#[s,y],argTypes:=#[101,101]}) (hs:a.eval s=v) (hy:a.eval y = .slice (some ⟨kb,0,none⟩) 1 1)
 (h:∀v' w' τ',NS 111 2 Qa0 0 w' τ' g v' (l++[x])→Step w τ w' τ' (fun t=>t=g)→wpList Tryz.prog ops Q rest (a.put o.dst v') w'):wpList Tryz.prog ops Q (o::rest) a (w.alloc (.cells #[.int .u64 (x.1:Int),.int .u64 (x.2:Int)] 111)):=by
 subst hkb
 refine wpList_plain hgd fun K hK=>?_
 obtain⟨i0,hi,hz0,hz1,hz2⟩:=info_parts Tryz.infoDone
 have hn1:=hown.step ((Step.refl w τ Go.Proofs.YtjgacceifcnedaaGreat.nil).alloc' (.cells #[.int .u64 (x.1:Int),.int .u64 (x.2:Int)] 111)) (fun h=>h)
 obtain⟨v',w',τ',hr,hb',he,hm,hnw⟩:=Qap (P:=Tryz.prog) (w.alloc (.cells #[.int .u64 (x.1:Int),.int .u64 (x.2:Int)] 111)) τ g 101 o.type 111 i0 (.agg #[.int .u64 0,.int .u64 0]) 2 16 Tryz.underlying101 hi hz0 hz1 hz2 rfl (by decide) v l.length (l.flatMap Qa0) hn1.buf
  (some ⟨w.heap.size,0,none⟩) 1 1 (Qa0 x) rfl (fun h=>by cases h) (by
    intro ad had;cases had;exact World.news_of_block (cs:=#[.int .u64 (x.1:Int),.int .u64 (x.2:Int)]) (t := 111) (fr:=(0,0)) (heap_alloc_new w _)) (by intro u hu;simp[Qa0] at hu;rcases hu with rfl|rfl <;> rfl) (by unfold maxLen;omega) (by omega)
 unfold Oper.wp execOp
 simp only[hop,resolve,invoke,builtin,Sem.run_bind,Sem.run_pure,Result.andThen_ok,List.map_toArray,List.map_cons,List.map_nil,hs,hy,hr]
 refine hK _ _ (h v' w' τ' ⟨?_,fun _ _=>Nat.zero_le _⟩ (((Step.refl w τ _).alloc' _).trans ⟨hm.mono (fun k hk hS=>(hn1.buf.own k hS).1),he⟩))
 rw[List.length_append,List.flatMap_append,show [x].flatMap Qa0=Qa0 x by simp];exact hb'
end Go.Proofs.YtjgacceifcnedaaGreat
namespace Go.Proofs.YtjgacceifcnedaaGreat
open Go.RowKit Go.Maps
theorem Qpy (w:World) (a b:Nat):Calls Tryz.prog 84 #[.int .u64 (a:Int),.int .u64 (b:Int)] w fun e w'=>e = .returned (.int .u64 ((if a<b then a else 0:Nat):Int))∧w=w':=by
 by_cases h:a<b
 ·rw[if_pos h]
  have hi:(a:Int)<(b:Int):=by omega
  go_enter Tryz.func84,Tryz.ntmps84
  go_wp2_with fail
  go_ret
  exact⟨rfl,rfl⟩
 ·rw[if_neg h]
  have hi:¬(a:Int)<(b:Int):=by omega
  go_enter Tryz.func84,Tryz.ntmps84
  go_wp2_with fail
  go_ret
  exact⟨rfl,rfl⟩
theorem Qwg (a b:Nat):((a:Int)==(b:Int))=decide (a=b):=by
 rw[Bool.eq_iff_iff,beq_iff_eq,decide_eq_true_eq];omega
def AskD (F:Nat) (bc:Nat) (p:Nat×Nat→Bool) (W:World):Prop:=∀(y:Nat×Nat),Calls Tryz.prog F #[.agg #[.int .u64 (y.1:Int),.int .u64 (y.2:Int)],.pointer (some ⟨bc,0,none⟩)] W fun e w'=>e = .returned (.bool (p y))∧∀τ,Step W τ w' τ nil
def AskF (F:Nat):Prop:=F = 81 ∨ F = 135 ∨ F = 43
theorem Qq4 {w:World}{bc m:Nat}(hc:w.cell? ⟨bc,0,none⟩=some (.int .u64 (m:Int))):AskD 81 bc (fun y=>decide (y.1=m)) w:=by
 intro y
 have hl:=cell_lt hc
 have hn:w.heap.size≠bc:=by omega
 have hst:∀τ,Step w τ (w.alloc (.cells #[.int .u64 (y.1:Int),.int .u64 (y.2:Int)] 111)) τ nil:=fun τ=>(Step.refl w τ nil).alloc' _
 have Hst:=Lib.hid hst
 clear hst
 go_enter Tryz.func81,Tryz.ntmps81
 go_wp2_with fail
 go_ret
 exact⟨by rw[←Qwg];simp,Hst.out⟩
theorem Quk {w:World}{bc m:Nat}(hc:w.cell? ⟨bc,0,none⟩=some (.int .u64 (m:Int))):AskD 135 bc (fun y=>decide (y.1=m)) w:=by
 intro y
 have hl:=cell_lt hc
 have hn:w.heap.size≠bc:=by omega
 have hst:∀τ,Step w τ (w.alloc (.cells #[.int .u64 (y.1:Int),.int .u64 (y.2:Int)] 111)) τ nil:=fun τ=>(Step.refl w τ nil).alloc' _
 have Hst:=Lib.hid hst
 clear hst
 go_enter Tryz.func135,Tryz.ntmps135
 go_wp2_with fail
 go_ret
 exact⟨by rw[←Qwg];simp,Hst.out⟩
def Qrt (l:List (Nat×Nat)) (p:Nat×Nat→Bool) (r:Int):Prop:=(r = -1∧∀(k:Nat) y,l[k]?=some y→p y=false)∨∃(k:Nat) (y:Nat×Nat),r=(k:Int)∧l[k]?=some y∧p y=true∧∀(j:Nat) z,j<k→l[j]?=some z→p z=false
theorem Qlr {w:World}{τ:Tags}{g:Tag}{n0 F bc:Nat}{p:Nat×Nat→Bool}{v:Value}{l:List (Nat×Nat)}(h:NS 111 2 Qa0 n0 w τ g v l) (hF:AskF F) (hask:∀W,Step w τ W τ nil→AskD F bc p W) :
 Calls Tryz.prog 82 #[v,.func (.func F) #[] #[.pointer (some ⟨bc,0,none⟩)]] w fun e w'=>(∃r:Int,e = .returned (.int .i64 r)∧Qrt l p r)∧Step w τ w' τ nil:=by
 obtain⟨a,cap,rfl,hmx,hrd⟩:=h.done
 have hbig:l.length≤9223372036854775807:=by unfold maxLen at hmx;omega
 generalize hnl:l.length=len at *
 obtain⟨H_h,Hask,Hrd,Hnl⟩:=hid4 h hask hrd hnl
 clear h hask hrd hnl
 rcases hF with rfl|rfl|rfl
 all_goals (
  go_enter Tryz.func82,Tryz.ntmps82
  go_wp2_with fail
  go_loopw [8] (fun v wr=>∃k:Nat,k≤len∧v = .int .i64 (k:Int)∧Step w τ wr τ nil∧∀(j:Nat) y,j<k→l[j]?=some y→p y=false) (fun v _=>len-(intOf v).toNat)
  case atStart=>exact⟨0,Nat.zero_le _,rfl,Step.refl _ _ _,fun j y hj=>by omega⟩
  case round =>
   obtain⟨k,hk,rfl,hst,hno⟩:=hrel
   by_cases hlt:k<len
   ·obtain⟨x,hx⟩:∃x,l[k]?=some x:=⟨_,List.getElem?_eq_getElem (by rw[Hnl.out];exact hlt)⟩
    obtain⟨b,rfl,c0,c1⟩:=Hrd.out k x hx
    replace c0:=cell_kept hst c0 (fun h=>h)
    replace c1:=cell_kept hst c1 (fun h=>h)
    have hkI:(k:Int)<(len:Int):=by omega
    have hc:=Hask.out wr hst x
    cases hh:p x with
    | true =>
      rw[hh] at hc
      obtain⟨x1,x2⟩:=x
      simp only at c0 c1 hc
      obtain⟨Hc,Hst,Hx,Hno,Hh⟩:=hid5 hc hst hx hno hh
      clear hc hst hx hno hh
      go_wp2_with fail
      refine Hc.out.mono ?_
      rintro e w2 ⟨rfl,hs2⟩
      have Hs2:=Lib.hid hs2
      clear hs2
      go_wp2_with fail
      go_returns
      exact⟨⟨_,rfl,.inr ⟨k,_,rfl,Hx.out,Hh.out,Hno.out⟩⟩,Hst.out.trans (Hs2.out τ)⟩
    | false =>
      rw[hh] at hc
      have hno':∀(j:Nat) (y:Nat×Nat),j<k+1→l[j]?=some y→p y=false:=fun j y hj hy=>by
       by_cases e:j=k
       ·subst e
        rw[hx] at hy
        cases hy
        exact hh
       ·exact hno j y (by omega) hy
      obtain⟨x1,x2⟩:=x
      simp only at c0 c1 hc
      obtain⟨Hc,Hst⟩:=hid2 hc hst
      have Hno':=Lib.hid hno'
      clear hc hst hno' hno hh hx
      go_wp2_with fail
      refine Hc.out.mono ?_
      rintro e w2 ⟨rfl,hs2⟩
      have Hs2:=Lib.hid hs2
      clear hs2
      go_wp2_with fail
      go_round
      case rel=>exact⟨k+1,by omega,by simp,Hst.out.trans (Hs2.out τ),Hno'.out⟩
      case measure=>simp[intOf];omega
   ·obtain rfl:k=len:=by omega
    obtain⟨Hst,Hno⟩:=hid2 hst hno
    clear hst hno
    go_wp2_with fail
    go_returns
    exact⟨⟨_,rfl,.inl ⟨rfl,fun j y hy=>Hno.out j y (by have:=(List.getElem?_eq_some_iff.1 hy).1;have:=Hnl.out;omega) hy⟩⟩,Hst.out⟩)
theorem Qtx {w:World}{τ:Tags}{g:Tag}{n0 F bc:Nat}{p:Nat×Nat→Bool}{v:Value}{l:List (Nat×Nat)}(h:NS 111 2 Qa0 n0 w τ g v l) (hF:AskF F) (hask:∀W,Step w τ W τ nil→AskD F bc p W) :
 Calls Tryz.prog 80 #[v,.func (.func F) #[] #[.pointer (some ⟨bc,0,none⟩)]] w fun e w'=>e = .returned (.bool (l.any p))∧Step w τ w' τ nil:=by
 have hi:=Qlr h hF hask
 obtain⟨a,cap,rfl⟩:=h.val
 have Hi:=Lib.hid hi
 clear hi h
 go_enter Tryz.func80,Tryz.ntmps80
 go_wp2_with fail
 refine Hi.out.mono ?_
 rintro e w1 ⟨⟨r,rfl,hr⟩,hs⟩
 have hd:decide (0≤r)=l.any p:=by
  rcases hr with ⟨rfl,hno⟩|⟨k,y,rfl,hy,hp,_⟩
  ·rw[decide_eq_false (by omega)]
   symm
   rw[List.any_eq_false]
   intro x hx
   obtain⟨i,hi,rfl⟩:=List.mem_iff_getElem.1 hx
   rw[hno i _ (List.getElem?_eq_getElem hi)];simp
  ·rw[decide_eq_true (by omega)]
   symm
   exact List.any_eq_true.2 ⟨y,List.mem_of_getElem? hy,hp⟩
 obtain⟨Hs,Hd,Hr⟩:=hid3 hs hd hr
 clear hs hd hr
 go_wp2_with fail
 go_ret
 exact⟨by rw[←Hd.out];rfl,Hs.out⟩
theorem Qmb {w:World}{τ:Tags}{gb:Nat}{tg:Tag}{T:TypeId}{cur:List Value}(ho:Own w τ gb tg T cur) {off n c:Nat}(h0:0<n) (hfit:off+n*2≤cur.length) (ty:TypeId) :
 (Builtin.clear_ #[101] ty #[.slice (some ⟨gb,off,none⟩) n c]).run Tryz.prog w = .ok (.tuple #[]) (w.setRow gb (over cur off (List.replicate (n*2) (.int .u64 0))).toArray):=by
 have hzc:(Builtin.zeroCells (Value.agg #[.int .u64 0,.int .u64 0]).cells n).toList=List.replicate (n*2) (.int .u64 0):=by
  have hz:(Value.agg #[.int .u64 0,.int .u64 0]).cells=#[.int .u64 0,.int .u64 0]:=rfl
  rw[hz]
  simp[Builtin.zeroCells]
  apply List.ext_getElem
  ·simp
  ·intro i h1 h2
   have:i%2=0∨i%2=1:=by omega
   rcases this with h|h <;> simp[h]
 have hst:=run_storeCells_at Tryz.prog gb off T (List.replicate (n*2) (.int .u64 0)) 0 cur.toArray w ho.row (by simpa using hfit) (by intro v hv;rw[List.eq_of_mem_replicate hv];rfl)
 obtain⟨m,rfl⟩:∃m,n=m+1:=⟨n-1,by omega⟩
 simp[Builtin.clear_,run_underlying Tryz.underlying101,Tryz.zeroValue111 w,hzc,hst,over]
theorem Qjy (l:List (Nat×Nat)):(l.flatMap Qa0).length=l.length*2:=by
 induction l with
 | nil=>rfl
 | cons a l ih =>
   rw[List.flatMap_cons,List.length_append,ih,List.length_cons]
   show 2+l.length*2=_
   omega
theorem Qxg (A B Z ys:List Value) (h:B.length=Z.length):over (A++B++ys) A.length Z=A++(Z++ys):=by
 unfold over
 rw[List.append_assoc A B ys,List.take_left' rfl,←List.append_assoc A B ys,List.drop_left' (by rw[List.length_append,h]),List.append_assoc]
theorem Qvr {l1 l2:List (Nat×Nat)}{p:Nat×Nat→Bool}{r:Int}(h:Qrt (l1++l2) p r) (h1:∀y∈l1,p y=false) (h2:∀y∈l2,p y=true):(l2=[]∧r = -1)∨(0<l2.length∧r=(l1.length:Int)):=by
 rcases h with ⟨rfl,hno⟩|⟨k,y,rfl,hy,hp,hlow⟩
 ·left
  refine⟨?_,rfl⟩
  cases l2 with
  | nil=>rfl
  | cons a l2 =>
    have:=hno l1.length a (by rw[List.getElem?_append_right (Nat.le_refl _),Nat.sub_self];rfl)
    rw[h2 a (by simp)] at this;cases this
 ·right
  have hk:l1.length≤k:=by
   rcases Nat.lt_or_ge k l1.length with h|h
   ·rw[List.getElem?_append_left h] at hy
    rw[h1 y (List.mem_of_getElem? hy)] at hp;cases hp
   ·exact h
  have hkl:=(List.getElem?_eq_some_iff.1 hy).1
  rw[List.length_append] at hkl
  refine⟨by omega,?_⟩
  rcases Nat.lt_or_ge l1.length k with h|h
  ·exfalso
   have hl2:0<l2.length:=by omega
   have:=hlow l1.length (l2[0]) h (by rw[List.getElem?_append_right (Nat.le_refl _),Nat.sub_self,List.getElem?_eq_getElem hl2])
   rw[h2 _ (List.getElem_mem _)] at this;cases this
  ·have:k=l1.length:=by omega
   rw[this]
theorem Qlt {w:World}{τ:Tags}{g:Tag}{F bc:Nat}{p:Nat×Nat→Bool}{v:Value}{l1 l2:List (Nat×Nat)}(h:NS 111 2 Qa0 0 w τ g v (l1++l2)) (hF:AskF F) (hask:∀W,Step w τ W τ nil→AskD F bc p W) (h1:∀y∈l1,p y=false) (h2:∀y∈l2,p y=true) (hlen:(l1++l2).length≤1000) :
 Calls Tryz.prog 42 #[v,.func (.func F) #[] #[.pointer (some ⟨bc,0,none⟩)]] w fun e w'=>∃v',e = .returned v'∧NS 111 2 Qa0 0 w' τ g v' l1∧Step w τ w' τ (fun t=>t=g):=by
 have hi:=Qlr h hF hask
 have hsp:=fun r (hr:Qrt (l1++l2) p r)=>Qvr hr h1 h2
 obtain⟨a,cap,rfl⟩:=h.val
 by_cases hl2:l2=[]
 ·subst hl2
  rw[List.append_nil] at h hi ⊢
  generalize hnl:l1.length=n at *
  obtain⟨Hi,Hsp,H_h⟩:=hid3 hi hsp h
  clear hi hsp h
  go_enter Tryz.func42,Tryz.ntmps42
  go_wp2_with fail
  refine Hi.out.mono ?_
  rintro e w1 ⟨⟨r,rfl,hr⟩,hs⟩
  have hr1:r = -1:=by
   rcases Hsp.out r (by rw[List.append_nil];exact hr) with ⟨_,h⟩|⟨h,_⟩
   ·exact h
   ·exact absurd h (by simp)
  subst hr1
  obtain⟨Hs,Hr⟩:=hid2 hs hr
  clear hs hr
  go_wp2_with fail
  go_ret
  exact⟨_,rfl,H_h.out.step Hs.out (fun h=>h),Hs.out.mono (fun _ h=>h.elim)⟩
 ·have hl20:0<l2.length:=by
   cases l2 with
   | nil=>exact absurd rfl hl2
   | cons a l=>simp
  obtain⟨hx,⟨hv,he⟩|⟨b,cap2,ys,hv,ho,hc1,hc2,hc3⟩⟩:=h.buf
  ·rw[List.length_append] at he;omega
  cases hv
  obtain⟨_,_,hvv,hmx,hrd⟩:=h.done
  cases hvv
  have hla:(l1++l2).length=l1.length+l2.length:=List.length_append
  have hp2:∀(j:Nat) y,l1.length≤j→(l1++l2)[j]?=some y→p y=true:=fun j y hj hy=>by
   rw[List.getElem?_append_right hj] at hy
   exact h2 y (List.mem_of_getElem? hy)
  have hrun:=fun (W:World) (m:Step w τ W τ nil) (ty:TypeId)=>Qmb (ho.step m (fun h=>h)) (off:=l1.length*2) (n:=l2.length) (c:=cap-l1.length) hl20 (by rw[List.length_append,Qjy,hla];omega) ty
  have hfin:over ((l1++l2).flatMap Qa0++ys) (l1.length*2) (List.replicate (l2.length*2) (.int .u64 0))=l1.flatMap Qa0++(List.replicate (l2.length*2) (.int .u64 0)++ys):=by
   have:=Qxg (l1.flatMap Qa0) (l2.flatMap Qa0) (List.replicate (l2.length*2) (.int .u64 0)) ys (by rw[Qjy,List.length_replicate])
   rw[Qjy] at this
   rw[List.flatMap_append];exact this
  have hl1:=Qjy l1
  generalize hnn:(l1++l2).length=n at *
  generalize hk:l1.length=k at *
  generalize hm:l2.length=m at *
  have hcap:n≤cap:=hc2
  have n1:¬cap=k:=by omega
  have n2:¬k=cap:=by omega
  have n3:(k:Int)≤(n:Int):=by omega
  have n4:(n:Int)≤(cap:Int):=by omega
  have n5:k≤n:=by omega
  have n6:k≤cap:=by omega
  have n7:(k:Int)≤(cap:Int):=by omega
  have n8:n-k=m:=by omega
  have n9:((n:Int)-(k:Int))=(m:Int):=by omega
  obtain⟨Hi,Hsp,H_h,Hask,Hx,Ho,Hrd,Hp2,Hrun,Hfin,Hl1,Hnn⟩:=hid12 hi hsp h hask hx ho hrd hp2 hrun hfin hl1 hnn
  obtain⟨Hk,Hm,Hc1,Hla⟩:=hid4 hk hm hc1 hla
  clear hi hsp h hask hx ho hrd hp2 hrun hfin hl1 hnn hk hm hc1 hla
  rcases hF with rfl|rfl|rfl
  all_goals (
   go_enter Tryz.func42,Tryz.ntmps42
   go_wp2_with fail
   refine Hi.out.mono ?_
   rintro e w1 ⟨⟨r,rfl,hr⟩,hs⟩
   have hr1:r=(k:Int):=by
    rcases Hsp.out r hr with ⟨h,_⟩|⟨_,h⟩
    ·exact absurd h hl2
    ·exact h
   subst hr1
   have hk1:¬(k:Int) = -1:=by omega
   obtain⟨Hs,Hr⟩:=hid2 hs hr
   clear hs hr
   go_wp2_with fail
   go_loopw [5,6] (fun u v wr=>∃j:Nat,k+1≤j∧j≤n∧u = .int .i64 (k:Int)∧v = .int .i64 (j:Int)∧Step w τ wr τ nil) (fun _ v _=>n-(intOf v).toNat)
   case atStart=>exact⟨k+1,Nat.le_refl _,by omega,rfl,by simp,Hs.out⟩
   case round =>
    obtain⟨j,hj1,hj2,rfl,rfl,hst⟩:=hrel
    by_cases hlt:j<n
    ·obtain⟨y,hy⟩:∃y,(l1++l2)[j]?=some y:=⟨_,List.getElem?_eq_getElem (by rw[Hnn.out];exact hlt)⟩
     obtain⟨b',hb',d0,d1⟩:=Hrd.out j y hy
     cases hb'
     replace d0:=cell_kept hst d0 (fun h=>h)
     replace d1:=cell_kept hst d1 (fun h=>h)
     have hpy:=Hp2.out j y (by omega) hy
     obtain⟨y1,y2⟩:=y
     simp only at d0 d1
     have hst2:=hst.alloc' (.cells #[.int .u64 (y1:Int),.int .u64 (y2:Int)] 111)
     have hc:=Hask.out _ hst2 (y1,y2)
     rw[hpy] at hc
     simp only at hc
     obtain⟨Hc,Hst,Hst2⟩:=hid3 hc hst hst2
     clear hc hst hst2 hpy hy
     go_wp2_with fail
     refine Hc.out.mono ?_
     rintro e w2 ⟨rfl,hs2⟩
     have Hs2:=Lib.hid hs2
     clear hs2
     go_wp2_with fail
     go_round
     case rel =>
      refine⟨_,_,_,_,_,_,_,_,_,_,_,_,_,_,_,_,_,_,_,_,_,_,_,⟨j+1,?_,?_,?_,?_,Hst2.out.trans (Hs2.out τ)⟩,rfl⟩
      ·omega
      ·omega
      ·rfl
      ·simp
     case measure=>simp[intOf];omega
    ·obtain rfl:j=n:=by omega
     have hclr:=Hrun.out wr hst
     have hob:=Ho.out.step hst (fun h=>h)
     rw[Hfin.out] at hclr
     have hob2:=hob.row' (l1.flatMap Qa0++(List.replicate (m*2) (Value.int .u64 0)++ys))
     have hs3:=(hst.mono (T:=fun t=>t=g) (fun _ h=>h.elim)).row hob.tag (.inl rfl) (l1.flatMap Qa0++(List.replicate (m*2) (Value.int .u64 0)++ys)).toArray
     obtain⟨Hob2,Hs3,Hst⟩:=hid3 hob2 hs3 hst
     clear hob2 hs3 hst hob
     go_wp2_with fail
     go_ret
     exact⟨_,rfl,⟨⟨by rw[Hl1.out,Hk.out],.inr ⟨b,cap,_,by rw[Hk.out];rfl,Hob2.out,by rw[List.length_append,Hl1.out];have h7:=Hc1.out;have h8:=Hx.out;have h9:=Hla.out;rw[h8] at h7;generalize hq:ys.length=q at *;rw[List.length_replicate];omega,by rw[Hk.out];omega,hc3⟩⟩,fun q _=>Nat.zero_le _⟩,Hs3.out⟩)
end Go.Proofs.YtjgacceifcnedaaGreat