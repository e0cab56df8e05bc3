/-
 Transactions: the manager's things in memory;how much is kept for them;who runs.
-/
import Derived.Test.YtemacanaihaldaaGreatMRdC
set_option maxRecDepth 100000
set_option maxHeartbeats 2000000
set_option linter.all false
namespace Go.Proofs.YtemacanaihaldaaGreat
open Go.RowKit Go.Maps
def tOneT (k:Nat):Tag:=(300,k)
def tChg (k:Nat):Tag:=(301,k)
def tMgr:Tag:=(302,0)
def tAllM:Tag:=(303,0)
def Qa0 (x:Nat×Nat):List Value:=[.int .u64 (x.1:Int),.int .u64 (x.2:Int)]
structure OneP where
 txn:Nat
 last:Nat
 undo:Nat
 state:Nat
 start:Nat
 ch:List (Nat×Nat)
def OneP.cells (x:OneP) (v:Value):List Value:=[.int .u32 (x.txn:Int),.int .u64 (x.last:Int),.int .u64 (x.undo:Int),.int .u8 (x.state:Int),.int .u64 (x.start:Int),v]
def OneP.need (x:OneP):Nat:=54+(x.ch.map Prod.snd).sum
structure OneAt (w:World) (τ:Tags) (b:Nat) (x:OneP):Prop where
 is:∃v,Own w τ b (tOneT x.txn) 176 (x.cells v)/\NS 270 2 Qa0 0 w τ (tChg x.txn) v x.ch
 len:x.ch.length<=1000
 size:∀y∈x.ch,y.2<=1000
theorem OneAt.step {w e:World}{τ d:Tags}{S:Tag->Prop}{b:Nat}{x:OneP}(h:OneAt w τ b x) (m:Step w τ e d S) (h1:¬S (tOneT x.txn)) (h2:¬S (tChg x.txn)):OneAt e d b x:=by
 obtain⟨v,i,hn⟩:=h.is
 exact⟨⟨v,i.step m h1,hn.step m h2⟩,h.len,h.size⟩
theorem NS.done {n0:Nat}{w:World}{τ:Tags}{g:Tag}{v:Value}{l:List (Nat×Nat)}(h:NS 270 2 Qa0 n0 w τ g v l):∃p c,v = .slice p l.length c/\l.length<=maxLen/\∀(i:Nat) (x:Nat×Nat),l[i]?=some x->∃b,p=some ⟨b,0,none⟩/\w.cell? ⟨b,i*2,none⟩=some (.int .u64 (x.1:Int))/\w.cell? ⟨b,i*2+1,none⟩=some (.int .u64 (x.2:Int)):=by
 obtain⟨h1,⟨rfl,h2⟩|⟨b,cap,ys,rfl,k,h3,h4,h5⟩⟩:=h.buf
 ·refine⟨none,0,by rw[h2],by rw[h2];exact Z9 _,fun i x d=>?_⟩
  have:=(Z4 d).1
  omega
 ·refine⟨_,cap,rfl,by omega,fun i x d=>?_⟩
  have key:∀(l:List (Nat×Nat)) (i:Nat) (x:Nat×Nat) (j:Nat),l[i]?=some x->j<2->(l.flatMap Qa0)[i*2+j]?=(Qa0 x)[j]?:=by
   intro l
   induction l with
   | nil=>intro i x j d;simp at d
   | cons y l ih =>
     intro i x j d e
     rw[List.flatMap_cons]
     have hl:(Qa0 y).length=2:=rfl
     cases i with
     | zero =>
       have:y=x:=by simpa using d
       subst this
       rw[Y5 (by rw[hl];omega),Nat.zero_mul,Nat.zero_add]
     | succ i =>
       rw[Y6 (by rw[hl];omega),hl,show (i+1)*2+j-2=i*2+j by omega]
       exact ih i x j (by simpa using d) e
  have hi:=(Z4 d).1
  have hk:∀j,j<2->(l.flatMap Qa0++ys)[i*2+j]?=(Qa0 x)[j]?:=fun j e=>by
   rw[Y5 (by rw[h1];omega)]
   exact key l i x j d e
  exact⟨b,rfl,k.at (i*2) (hk 0 (by omega)),k.at (i*2+1) (hk 1 (by omega))⟩
def Qg2 (l:List (Nat×Nat)) (i:Nat):Nat:=((l.take i).map Prod.snd).sum
theorem Qqf {l:List (Nat×Nat)}{i:Nat}{x:Nat×Nat}(h:l[i]?=some x):Qg2 l (i+1)=Qg2 l i+x.2:=by
 unfold Qg2
 rw[List.take_add_one,h,List.map_append,List.sum_append]
 simp
theorem Qoy {l:List (Nat×Nat)}(h:∀y∈l,y.2<=1000) (i:Nat):Qg2 l i<=l.length*1000:=by
 have key:∀m:List (Nat×Nat),(∀y∈m,y.2<=1000)->(m.map Prod.snd).sum<=m.length*1000:=by
  intro m
  induction m with
  | nil=>intro _;simp
  | cons a m ih =>
    intro d
    have h1:=ih (fun y b=>d y (Y2 _ b))
    have h2:=d a (by simp)
    simp only[X1,List.sum_cons,Y4];omega
 have h1:=key (l.take i) (fun y b=>h y (List.mem_of_mem_take b))
 have h2:(l.take i).length<=l.length:=by rw[List.length_take];omega
 exact Y3 h1 (Y7 _ h2)
theorem OneAt.need_le {w:World}{τ:Tags}{b:Nat}{x:OneP}(h:OneAt w τ b x):x.need<=1000054:=by
 have h1:Qg2 x.ch x.ch.length<=x.ch.length*1000:=Qoy h.size x.ch.length
 have h2:=h.len
 unfold Qg2 at h1
 rw[List.take_length] at h1
 unfold OneP.need
 generalize (x.ch.map Prod.snd).sum=s at *
 omega
theorem Qxj {w:World}{τ:Tags}{b:Nat}{x:OneP}(h:OneAt w τ b x):Calls Tryz.prog 90 #[.pointer (some ⟨b,0,none⟩)] w fun e R=>e = .returned (.int .u64 (x.need:Int))/\Step w τ R τ nil:=by
 obtain⟨v,E,hn⟩:=h.is
 have m:=Qoy h.size
 have hll:=h.len
 have j:x.need=54+Qg2 x.ch x.ch.length:=by unfold OneP.need Qg2;rw[List.take_length]
 obtain⟨p,c,rfl,hmx,o⟩:=hn.done
 have c5:=E.at 5 (v:=.slice p x.ch.length c) rfl
 generalize q:x.ch.length=n at *
 obtain⟨Hn,F,r,G,Ho,I⟩:=hid6 hn m j o E q
 clear hn m j o E q h
 go_enter Tryz.func90,Tryz.ntmps90
 go_wp2_with fail
 go_loopw [3,11] (fun a v wr=>∃i:Nat,i<=n/\v = .int .i64 (i:Int)/\a = .int .u64 (54+(Qg2 x.ch i:Int))/\Step w τ wr τ nil) (fun _ v _=>n-(intOf v).toNat)
 case atStart=>exact⟨0,Z9 _,rfl,rfl,Step.refl _ _ _⟩
 case round =>
  obtain⟨i,hi,rfl,rfl,d⟩:=hrel
  by_cases J:i<n
  ·obtain⟨y,O⟩:∃y,x.ch[i]?=some y:=⟨_,Z3 (by rw[I.out];exact J)⟩
   obtain⟨C,rfl,d0,d1⟩:=G.out i y O
   have s:=Qqf O
   have k:=F.out (i+1)
   obtain⟨q0,q1⟩:wr.cell? ⟨C,i*2,none⟩=some (.int .u64 (y.1:Int))/\wr.cell? ⟨C,i*2+1,none⟩=some (.int .u64 (y.2:Int)):=by
    have hbl:=cell_lt d0
    exact⟨by rw[d.no.cell C _ hbl (by simp[no])];exact d0,by rw[d.no.cell C _ hbl (by simp[no])];exact d1⟩
   clear d0 d1 c5
   generalize hs0:Qg2 x.ch i=L at *
   generalize hy2:y.2=D at *
   generalize hy1:y.1=U at *
   have hadd:IntKind.u64.wrap (54+(L:Int)+(D:Int))=54+(L:Int)+(D:Int):=by
    have:=Qer (a:=54+L) (b:=D) (by omega)
    simp only[X3] at this
    exact this
   have l:=d.alloc' (.cells #[.int .u64 (U:Int),.int .u64 (D:Int)] 270)
   obtain⟨z,M,Hll2,B⟩:=hid4 d s k l
   clear d s k l
   go_wp2_with fail
   go_round
   case rel=>exact⟨i+1,by omega,by simp,by rw[M.out,X3,Int.add_assoc],B.out⟩
   case measure=>simp[intOf];omega
  ·have N:i=n:=by omega
   subst N
   have z:=Z2 d
   clear d
   go_wp2_with fail
   go_returns
   exact⟨by rw[r.out,X3];rfl,z.out⟩
def OneP.ids (X:List OneP):List Nat:=X.map OneP.txn
def fOf (bo:Nat->Nat) (X:List OneP):Nat->Option Nat:=fun k=>if k∈OneP.ids X then some (bo k) else none
structure MgrAt (w:World) (τ:Tags) (bm bl bp:Nat) (bo:Nat->Nat) (X:List OneP) (next:Nat):Prop where
 is:∃ba,Own w τ bm tMgr 171 [.pointer (some ⟨bl,0,none⟩),.pointer (some ⟨bp,0,none⟩),.map (some ba),.int .u32 (next:Int)]/\PMap w τ ba tAllM 1000 (fOf bo X)
 ones:∀x∈X,OneAt w τ (bo x.txn) x
 nodup:(OneP.ids X).Nodup
 low:∀x∈X,x.txn<next
 nx:next<=900
 many:X.length<=64
def Qai (g:Tag):Prop:=300<=g.1/\g.1<=303
theorem MgrAt.step {w e:World}{τ b:Tags}{S:Tag->Prop}{bm bl bp:Nat}{i:Nat->Nat}{X:List OneP}{next:Nat}(h:MgrAt w τ bm bl bp i X next) (m:Step w τ e b S) (d:∀g,Qai g->¬S g):MgrAt e b bm bl bp i X next:=by
 obtain⟨j,k,l⟩:=h.is
 exact⟨⟨j,k.step m (d _ (by simp[Qai,tMgr])),l.step m (d _ (by simp[Qai,tAllM]))⟩,fun x o=>(h.ones x o).step m (d _ (by simp[Qai,tOneT])) (d _ (by simp[Qai,tChg])),h.nodup,h.low,h.nx,h.many⟩
theorem MgrAt.nil {w d:World}{τ b:Tags}{bm bl bp:Nat}{e:Nat->Nat}{X:List OneP}{next:Nat}(h:MgrAt w τ bm bl bp e X next) (m:Step w τ d b Go.Proofs.YtemacanaihaldaaGreat.nil):MgrAt d b bm bl bp e X next:=h.step m (fun _ _ h=>h)
def resv (X:List OneP):Nat:=(X.map OneP.need).sum
theorem Qri {b:Nat->Nat}{X:List OneP}(k:Nat):k∈OneP.ids X↔(fOf b X k).isSome=true:=by
 unfold fOf
 by_cases h:k∈OneP.ids X
 ·rw[if_pos h];simp[h]
 ·rw[if_neg h];simp[h]
theorem Qxz {b:Nat->Nat}{X:List OneP}{k v:Nat}(h:fOf b X k=some v):∃x∈X,x.txn=k/\v=b k:=by
 unfold fOf at h
 by_cases hk:k∈OneP.ids X
 ·rw[if_pos hk] at h
  obtain⟨x,d,e⟩:=List.mem_map.1 hk
  exact⟨x,d,e,by simpa using h.symm⟩
 ·rw[if_neg hk] at h;cases h
theorem Quw (f:Nat->Nat) {k:Nat}:∀{l:List Nat},k∈l->f k+((l.erase k).map f).sum=(l.map f).sum:=by
 intro l
 induction l with
 | nil=>intro h;cases h
 | cons a l ih =>
   intro h
   by_cases e:a=k
   ·subst e;rw[List.erase_cons_head];rfl
   ·rw[List.erase_cons_tail (by simpa using e)]
    have h2:k∈l:=by
     rcases List.mem_cons.1 h with h|h
     ·exact absurd h.symm e
     ·exact h
    have:=ih h2
    simp only[X1,List.sum_cons];omega
def Qh1 (X:List OneP) (k:Nat):Nat:=((X.find? (fun x=>x.txn==k)).map OneP.need).getD 0
theorem Qrg {X:List OneP}(hn:(OneP.ids X).Nodup) {x:OneP}(b:x∈X):X.find? (fun y=>y.txn==x.txn)=some x:=by
 induction X with
 | nil=>cases b
 | cons a X ih =>
   obtain⟨h1,h2⟩:=List.nodup_cons.1 (show (a.txn::OneP.ids X).Nodup from hn)
   rcases List.mem_cons.1 b with rfl|b
   ·simp[List.find?_cons]
   ·have d:a.txn≠x.txn:=fun e=>h1 (by rw[e];exact List.mem_map.2 ⟨x,b,rfl⟩)
    rw[List.find?_cons,show (a.txn==x.txn)=false by simpa using d]
    exact ih h2 b
theorem Qgk {X:List OneP}(hn:(OneP.ids X).Nodup) {x:OneP}(b:x∈X):Qh1 X x.txn=x.need:=by unfold Qh1;rw[Qrg hn b];rfl
theorem Qqn {X:List OneP}(hn:(OneP.ids X).Nodup):resv X=((OneP.ids X).map (Qh1 X)).sum:=by
 unfold resv OneP.ids
 rw[List.map_map]
 congr 1
 refine List.map_congr_left fun x b=>?_
 exact(Qgk hn b).symm
theorem Qki (f:Nat->Nat) (B:Nat):∀(l:List Nat),(∀k∈l,f k<=B)->(l.map f).sum<=l.length*B:=by
 intro l
 induction l with
 | nil=>intro _;simp
 | cons a l ih =>
   intro h
   have h1:=ih (fun k hk=>h k (Y2 _ hk))
   have h2:=h a (by simp)
   simp only[X1,List.sum_cons,Y4,Nat.succ_mul];omega
theorem Qde {w:World}{τ:Tags}{bm bl bp:Nat}{bo:Nat->Nat}{X:List OneP}{next:Nat}(h:MgrAt w τ bm bl bp bo X next):Calls Tryz.prog 30 #[.pointer (some ⟨bm,0,none⟩)] w fun e w'=>e = .returned (.int .u64 (resv X:Int))/\∃ag,Step w τ w' ag nil:=by
 obtain⟨ba,ho,hp⟩:=h.is
 have p:=h.nodup
 have Y:=Qqn p
 have J:∀k∈OneP.ids X,Qh1 X k<=1000054:=fun k hk=>by
  obtain⟨x,Z,rfl⟩:=List.mem_map.1 hk
  rw[Qgk p Z];exact(h.ones x Z).need_le
 have L:=Qki (Qh1 X) 1000054 _ J
 have ak:=h.many
 have q:(OneP.ids X).length=X.length:=Y0 ..
 have c2:=ho.at 2 (v:=.map (some ba)) rfl
 obtain⟨w1,cnt,B,i,M⟩:=hp.range (by omega) p (fun k=>Qri k)
 have hit:(τ.put w.heap.size tIt) w.heap.size=tIt:=Tags.put_same _ _ _
 have h1:=h.nil M
 have a1:=h.ones
 generalize hR:resv X=R at *
 generalize hl:OneP.ids X=l at *
 generalize τ.put w.heap.size tIt=τ1 at *
 have hRle:R<=70000000:=by
  rw[q] at L
  have:X.length*1000054<=64*1000054:=Y7 _ ak
  omega
 obtain⟨al,am,H1,an,ao,Hnb,Hsb,ap,Hl,Ho,Hp,Hpx⟩:=hid12 i M h1 Y p J L hit hl ho hp a1
 obtain⟨HR,Hlen⟩:=hid2 hR q
 clear i M h1 Y p J L hit hl ho hp a1 hR q h
 go_enter Tryz.func30,Tryz.ntmps30
 go_wp2_with fail
 go_loopw [3] (fun a wr=>∃(m:List Nat) (d:Tags) (c s:Nat),PRange wr d ba w.heap.size tAllM 1000 (fOf bo X) m c/\d w.heap.size=tIt/\a = .int .u64 (s:Int)/\s+(m.map (Qh1 X)).sum=R/\(∀k∈m,k∈l)/\MgrAt wr d bm bl bp bo X next/\Step w τ wr d nil) (fun _ wr=>wr.rangeLeft ba w.heap.size)
 case atStart=>exact⟨l,τ1,cnt,0,al.out,ap.out,rfl,by rw[Nat.zero_add];exact an.out.symm,fun k hk=>hk,H1.out,am.out⟩
 case round =>
  obtain⟨m,d,c,s,i,hit,rfl,a6,aq,hm,r⟩:=hrel
  have hlf:=i.left
  rcases i.next (by omega) hit 0 with ⟨rfl,o⟩|⟨k,v,w2,c2',hk,av,o,C,hlt,N,aw⟩
  ·have ax:s=R:=by simpa using a6
   subst ax
   have ay:=Z2 r
   clear r i hm B
   have hrun3:=fun (ty:TypeId)=>(o:_)
   go_wp2_with fail
   go_returns
   exact⟨rfl,d,ay.out⟩
  ·obtain⟨x,Z,rfl,rfl⟩:=Qxz av
   have D:Step wr d w2 d (fun t=>t=tIt):=Step.mk' N (Ext.refl _ _) (fun j _ e=>by rw[e];exact hit)
   have O:=hm.step D (fun g hg e=>by subst e;simp[Qai,tIt] at hg)
   have E:=Qxj (O.ones x Z)
   have F:Step w τ w2 d nil:=⟨r.mod.seq N (fun j hj e=>by subst e;exact absurd hj (Nat.lt_irrefl _)),r.ext⟩
   have U:=Quw (Qh1 X) hk
   rw[Qgk (by rw[Hl.out];exact ao.out) Z] at U
   generalize a7:x.need=nx at *
   have hadd:IntKind.u64.wrap ((s:Int)+(nx:Int))=(s:Int)+(nx:Int):=by
    have:=Qer (a:=s) (b:=nx) (by omega)
    rw[X3] at this
    exact this
   obtain⟨a8,aa,az,b0,Hnx⟩:=hid5 E F O U a7
   clear E F O U a7 i hm B r N D
   go_wp2_with fail
   refine a8.out.mono ?_
   rintro e w3 ⟨rfl,z⟩
   obtain⟨y,G⟩:=C.step hit z (fun h=>h) (fun h=>h)
   have ab:=az.out.nil z
   have I:=aa.out.trans z
   have hlf3:=y.left
   obtain⟨ac,ad,b1,ae⟩:=hid4 y G ab I
   clear y G ab I z o aw C
   go_wp2_with fail
   go_round
   case rel=>exact⟨m.erase x.txn,d,c2',s+nx,ac.out,ad.out,by rw[X3],by have:=b0.out;omega,fun k hk=>aq k (List.mem_of_mem_erase hk),b1.out,ae.out⟩
   case measure=>omega
theorem Qln {b:Nat->Nat}{X:List OneP}{x:OneP}(d:x∈X):fOf b X x.txn=some (b x.txn):=by
 unfold fOf;rw[if_pos (show x.txn∈OneP.ids X from List.mem_map.2 ⟨x,d,rfl⟩)]
theorem Qvz {b:Nat->Nat}{X:List OneP}{k:Nat}(h:∀x∈X,x.txn≠k):fOf b X k=none:=by
 unfold fOf
 rw[if_neg (fun d=>by
  obtain⟨x,i,e⟩:=List.mem_map.1 d
  exact h x i e)]
theorem Qju {w:World}{τ:Tags}{bm bl bp:Nat}{j:Nat->Nat}{X:List OneP}{next:Nat}(h:MgrAt w τ bm bl bp j X next) {x:OneP}(m:x∈X) (q:x.state=1) (k:Nat) (hk:x.txn=k) (l:k<4294967296):Calls Tryz.prog 81 #[.pointer (some ⟨bm,0,none⟩),.int .u32 (k:Int)] w fun e r=>e = .returned (.tuple #[.pointer (some ⟨j k,0,none⟩),.int .u16 0])/\w=r:=by
 obtain⟨s,o,p⟩:=h.is
 have c2:=o.at 2 (v:=.map (some s)) rfl
 have d:=p.look k l
 rw[<-hk,Qln m,hk] at d
 obtain⟨v,i,-⟩:=(h.ones x m).is
 have c3:=i.at 3 (v:=.int .u8 (x.state:Int)) rfl
 rw[q,hk] at c3
 change _=Result.ok (Value.pointer (some ⟨j k,0,none⟩)) w at d
 generalize j k=b at *
 clear h o p i
 go_enter Tryz.func81,Tryz.ntmps81
 go_wp2_with fail
 go_ret2
 exact⟨rfl,rfl⟩
theorem Qy6 {w:World}{τ:Tags}{bm bl bp:Nat}{m:Nat->Nat}{X:List OneP}{next:Nat}(h:MgrAt w τ bm bl bp m X next) (k:Nat) (i:k<4294967296) (b:∀x∈X,x.txn≠k):Calls Tryz.prog 81 #[.pointer (some ⟨bm,0,none⟩),.int .u32 (k:Int)] w fun e o=>e = .returned (.tuple #[.pointer none,.int .u16 150])/\w=o:=by
 obtain⟨p,j,l⟩:=h.is
 have c2:=j.at 2 (v:=.map (some p)) rfl
 have d:=l.look k i
 rw[Qvz b] at d
 change _=Result.ok (Value.pointer none) w at d
 clear h j l b
 go_enter Tryz.func81,Tryz.ntmps81
 go_wp2_with fail
 go_ret2
 exact⟨rfl,rfl⟩
theorem Qsd {w:World}{τ:Tags}{bm bl bp:Nat}{j:Nat->Nat}{X:List OneP}{next:Nat}(h:MgrAt w τ bm bl bp j X next) {x:OneP}(l:x∈X) (p:x.state=1) (k:Nat) (hk:x.txn=k) (i:k<4294967296):Calls Tryz.prog 76 #[.pointer (some ⟨bm,0,none⟩),.int .u32 (k:Int)] w fun e m=>e = .returned (.tuple #[.int .u64 (x.undo:Int),.int .u16 0])/\w=m:=by
 have o:=Qju h l p k hk i
 obtain⟨v,d,-⟩:=(h.ones x l).is
 have c2:=d.at 2 (v:=.int .u64 (x.undo:Int)) rfl
 rw[hk] at c2
 generalize j k=b at *
 have q:=Z2 o
 clear o h d
 go_enter Tryz.func76,Tryz.ntmps76
 go_wp2_with fail
 refine q.out.mono ?_
 rintro e m ⟨rfl,rfl⟩
 go_wp2_with fail
 go_ret2
 exact⟨rfl,rfl⟩
theorem Qhg {w:World}{τ:Tags}{bm bl bp:Nat}{b:Nat->Nat}{X:List OneP}{next:Nat}(h:MgrAt w τ bm bl bp b X next):Calls Tryz.prog 25 #[.pointer (some ⟨bm,0,none⟩)] w fun e d=>e = .returned (.pointer (some ⟨bp,0,none⟩))/\w=d:=by
 obtain⟨ba,i,-⟩:=h.is
 have c1:=i.at 1 (v:=.pointer (some ⟨bp,0,none⟩)) rfl
 go_enter Tryz.func25,Tryz.ntmps25
 go_wp2_with fail
 go_ret
 exact⟨rfl,rfl⟩
theorem Jb6 {w:World}{τ:Tags}{bm bl bp:Nat}{b:Nat->Nat}{X:List OneP}{next:Nat}(h:MgrAt w τ bm bl bp b X next):Calls Tryz.prog 28 #[.pointer (some ⟨bm,0,none⟩)] w fun e d=>e = .returned (.pointer (some ⟨bl,0,none⟩))/\w=d:=by
 obtain⟨ba,i,-⟩:=h.is
 have c0:=i.at 0 (v:=.pointer (some ⟨bl,0,none⟩)) rfl
 go_enter Tryz.func28,Tryz.ntmps28
 go_wp2_with fail
 go_ret
 exact⟨rfl,rfl⟩
end Go.Proofs.YtemacanaihaldaaGreat
namespace Go.Proofs.YtemacanaihaldaaGreat
open Go.RowKit
theorem Tryz.infoDone:(Tryz.prog.info? 270).map (fun i=>(i.zero,i.size,i.bytes))=some (some (.agg #[.int .u64 0,.int .u64 0]),2,16):=by kernel_rfl
theorem Qec {w:World}{τ:Tags}{g:Tag}{v:Value}{l:List (Nat×Nat)}(d:NS 270 2 Qa0 0 w τ g v l) (x:Nat×Nat) (hsz:l.length<=1000000) {kb:Nat} (m:kb=w.heap.size)
 {ops:Array Oper} {rest:List Oper} {o:Oper} {a:Act} {Q:Exit->Act->World->Prop} (p:o.guard=none) (s y:Operand)
 (q:o.op = .call {callee:=.builtin .append,args:=#[s,y],argTypes:=#[174,174]}) (D:a.eval s=v) (E:a.eval y = .slice (some ⟨kb,0,none⟩) 1 1)
 (h:∀j e b,NS 270 2 Qa0 0 e b g j (l++[x])->Step w τ e b (fun t=>t=g)->wpList Tryz.prog ops Q rest (a.put o.dst j) e):wpList Tryz.prog ops Q (o::rest) a (w.alloc (.cells #[.int .u64 (x.1:Int),.int .u64 (x.2:Int)] 270)):=by
 subst m
 refine wpList_plain p fun K F=>?_
 obtain⟨i0,hi,r,z,B⟩:=info_parts Tryz.infoDone
 have i:=d.step ((Step.refl w τ Go.Proofs.YtemacanaihaldaaGreat.nil).alloc' (.cells #[.int .u64 (x.1:Int),.int .u64 (x.2:Int)] 270)) (fun h=>h)
 obtain⟨j,e,b,G,C,I,J,hnw⟩:=Qap (P:=Tryz.prog) (w.alloc (.cells #[.int .u64 (x.1:Int),.int .u64 (x.2:Int)] 270)) τ g 174 o.type 270 i0 (.agg #[.int .u64 0,.int .u64 0]) 2 16 Tryz.underlying174 hi r z B rfl (by decide) v l.length (l.flatMap Qa0) i.buf
  (some ⟨w.heap.size,0,none⟩) 1 1 (Qa0 x) rfl (fun h=>by cases h) (by
    intro ad had;cases had;exact World.news_of_block (cs:=#[.int .u64 (x.1:Int),.int .u64 (x.2:Int)]) (t := 270) (fr:=(0,0)) (heap_alloc_new w _)) (by intro u hu;simp[Qa0] at hu;rcases hu with rfl|rfl <;> rfl) (by unfold maxLen;omega) (by omega)
 unfold Oper.wp execOp
 simp only[q,resolve,invoke,builtin,Sem.run_bind,Sem.run_pure,Result.andThen_ok,List.map_toArray,X1,List.map_nil,D,E,G]
 refine F _ _ (h j e b ⟨?_,fun _ _=>Z9 _⟩ (((Step.refl w τ _).alloc' _).trans ⟨J.mono (fun k hk L=>(i.buf.own k L).1),I⟩))
 rw[Z6,List.flatMap_append,show [x].flatMap Qa0=Qa0 x by simp];exact C
end Go.Proofs.YtemacanaihaldaaGreat
namespace Go.Proofs.YtemacanaihaldaaGreat
open Go.RowKit Go.Maps
theorem Qpy (w:World) (a b:Nat):Calls Tryz.prog 145 #[.int .u64 (a:Int),.int .u64 (b:Int)] w fun e d=>e = .returned (.int .u64 ((if a<b then a else 0:Nat):Int))/\w=d:=by
 by_cases h:a<b
 ·rw[if_pos h]
  have hi:(a:Int)<(b:Int):=by omega
  go_enter Tryz.func145,Tryz.ntmps145
  go_wp2_with fail
  go_ret
  exact⟨rfl,rfl⟩
 ·rw[if_neg h]
  have hi:¬(a:Int)<(b:Int):=by omega
  go_enter Tryz.func145,Tryz.ntmps145
  go_wp2_with fail
  go_ret
  exact⟨rfl,rfl⟩
theorem Qwg (a b:Nat):((a:Int)==(b:Int))=decide (a=b):=by
 rw[Bool.eq_iff_iff,beq_iff_eq,decide_eq_true_eq];omega
def AskD (F:Nat) (bc:Nat) (p:Nat×Nat->Bool) (W:World):Prop:=∀(y:Nat×Nat),Calls Tryz.prog F #[.agg #[.int .u64 (y.1:Int),.int .u64 (y.2:Int)],.pointer (some ⟨bc,0,none⟩)] W fun e w'=>e = .returned (.bool (p y))/\∀τ,Step W τ w' τ nil
def AskF (F:Nat):Prop:=F = 218 \/ F = 222
theorem Qq4 {w:World}{bc m:Nat}(e:w.cell? ⟨bc,0,none⟩=some (.int .u64 (m:Int))):AskD 218 bc (fun y=>decide (y.1=m)) w:=by
 intro y
 have hl:=cell_lt e
 have hn:w.heap.size≠bc:=by omega
 have b:∀τ,Step w τ (w.alloc (.cells #[.int .u64 (y.1:Int),.int .u64 (y.2:Int)] 270)) τ nil:=fun τ=>(Step.refl w τ nil).alloc' _
 have d:=Z2 b
 clear b
 go_enter Tryz.func218,Tryz.ntmps218
 go_wp2_with fail
 go_ret
 exact⟨by rw[<-Qwg];simp,d.out⟩
theorem Quk {w:World}{bc m:Nat}(e:w.cell? ⟨bc,0,none⟩=some (.int .u64 (m:Int))):AskD 222 bc (fun y=>decide (y.1=m)) w:=by
 intro y
 have hl:=cell_lt e
 have hn:w.heap.size≠bc:=by omega
 have b:∀τ,Step w τ (w.alloc (.cells #[.int .u64 (y.1:Int),.int .u64 (y.2:Int)] 270)) τ nil:=fun τ=>(Step.refl w τ nil).alloc' _
 have d:=Z2 b
 clear b
 go_enter Tryz.func222,Tryz.ntmps222
 go_wp2_with fail
 go_ret
 exact⟨by rw[<-Qwg];simp,d.out⟩
def Qrt (l:List (Nat×Nat)) (p:Nat×Nat->Bool) (r:Int):Prop:=(r = -1/\∀(k:Nat) y,l[k]?=some y->p y=false)\/∃(k:Nat) (y:Nat×Nat),r=(k:Int)/\l[k]?=some y/\p y=true/\∀(j:Nat) z,j<k->l[j]?=some z->p z=false
theorem Qlr {w:World}{τ:Tags}{g:Tag}{n0 F bc:Nat}{p:Nat×Nat->Bool}{v:Value}{l:List (Nat×Nat)}(h:NS 270 2 Qa0 n0 w τ g v l) (X:AskF F) (q:∀W,Step w τ W τ nil->AskD F bc p W) :
 Calls Tryz.prog 258 #[v,.func (.func F) #[] #[.pointer (some ⟨bc,0,none⟩)]] w fun e Y=>(∃r:Int,e = .returned (.int .i64 r)/\Qrt l p r)/\Step w τ Y τ nil:=by
 obtain⟨a,cap,rfl,N,E⟩:=h.done
 have hbig:l.length<=9223372036854775807:=by unfold maxLen at N;omega
 generalize G:l.length=len at *
 obtain⟨H_h,I,O,J⟩:=hid4 h q E G
 clear h q E G
 rcases X with rfl|rfl
 all_goals (
  go_enter Tryz.func258,Tryz.ntmps258
  go_wp2_with fail
  go_loopw [8] (fun v wr=>∃k:Nat,k<=len/\v = .int .i64 (k:Int)/\Step w τ wr τ nil/\∀(j:Nat) y,j<k->l[j]?=some y->p y=false) (fun v _=>len-(intOf v).toNat)
  case atStart=>exact⟨0,Z9 _,rfl,Step.refl _ _ _,fun j y Z=>by omega⟩
  case round =>
   obtain⟨k,hk,rfl,d,i⟩:=hrel
   by_cases R:k<len
   ·obtain⟨x,L⟩:∃x,l[k]?=some x:=⟨_,Z3 (by rw[J.out];exact R)⟩
    obtain⟨b,rfl,c0,c1⟩:=O.out k x L
    replace c0:=cell_kept d c0 (fun h=>h)
    replace c1:=cell_kept d c1 (fun h=>h)
    have hkI:(k:Int)<(len:Int):=by omega
    have s:=I.out wr d x
    cases hh:p x with
    | true =>
      rw[hh] at s
      obtain⟨x1,x2⟩:=x
      simp only at c0 c1 s
      obtain⟨U,m,Hx,B,Hh⟩:=hid5 s d L i hh
      clear s d L i hh
      go_wp2_with fail
      refine U.out.mono ?_
      rintro e w2 ⟨rfl,o⟩
      have C:=Z2 o
      clear o
      go_wp2_with fail
      go_returns
      exact⟨⟨_,rfl,.inr ⟨k,_,rfl,Hx.out,Hh.out,B.out⟩⟩,m.out.trans (C.out τ)⟩
    | false =>
      rw[hh] at s
      have z:∀(j:Nat) (y:Nat×Nat),j<k+1->l[j]?=some y->p y=false:=fun j y Z D=>by
       by_cases e:j=k
       ·subst e
        rw[L] at D
        cases D
        exact hh
       ·exact i j y (by omega) D
      obtain⟨x1,x2⟩:=x
      simp only at c0 c1 s
      obtain⟨U,m⟩:=hid2 s d
      have M:=Z2 z
      clear s d z i hh L
      go_wp2_with fail
      refine U.out.mono ?_
      rintro e w2 ⟨rfl,o⟩
      have C:=Z2 o
      clear o
      go_wp2_with fail
      go_round
      case rel=>exact⟨k+1,by omega,by simp,m.out.trans (C.out τ),M.out⟩
      case measure=>simp[intOf];omega
   ·obtain rfl:k=len:=by omega
    obtain⟨m,B⟩:=hid2 d i
    clear d i
    go_wp2_with fail
    go_returns
    exact⟨⟨_,rfl,.inl ⟨rfl,fun j y D=>B.out j y (by have:=(Z4 D).1;have:=J.out;omega) D⟩⟩,m.out⟩)
theorem Qtx {w:World}{τ:Tags}{g:Tag}{n0 F bc:Nat}{p:Nat×Nat->Bool}{v:Value}{l:List (Nat×Nat)}(h:NS 270 2 Qa0 n0 w τ g v l) (o:AskF F) (b:∀W,Step w τ W τ nil->AskD F bc p W) :
 Calls Tryz.prog 217 #[v,.func (.func F) #[] #[.pointer (some ⟨bc,0,none⟩)]] w fun e q=>e = .returned (.bool (l.any p))/\Step w τ q τ nil:=by
 have hi:=Qlr h o b
 obtain⟨a,cap,rfl⟩:=h.val
 have s:=Z2 hi
 clear hi h
 go_enter Tryz.func217,Tryz.ntmps217
 go_wp2_with fail
 refine s.out.mono ?_
 rintro e w1 ⟨⟨r,rfl,d⟩,m⟩
 have hd:decide (0<=r)=l.any p:=by
  rcases d with ⟨rfl,j⟩|⟨k,y,rfl,z,B,_⟩
  ·rw[decide_eq_false (by omega)]
   symm
   rw[List.any_eq_false]
   intro x C
   obtain⟨i,hi,rfl⟩:=List.mem_iff_getElem.1 C
   rw[j i _ (Z3 hi)];simp
  ·rw[decide_eq_true (by omega)]
   symm
   exact List.any_eq_true.2 ⟨y,List.mem_of_getElem? z,B⟩
 obtain⟨D,E,Hr⟩:=hid3 m hd d
 clear m hd d
 go_wp2_with fail
 go_ret
 exact⟨by rw[<-E.out];rfl,D.out⟩
theorem Qmb {w:World}{τ:Tags}{e:Nat}{l:Tag}{T:TypeId}{b:List Value}(o:Own w τ e l T b) {off n c:Nat}(h0:0<n) (d:off+n*2<=b.length) (p:TypeId) :
 (Builtin.clear_ #[174] p #[.slice (some ⟨e,off,none⟩) n c]).run Tryz.prog w = .ok (.tuple #[]) (w.setRow e (over b off (List.replicate (n*2) (.int .u64 0))).toArray):=by
 have j:(Builtin.zeroCells (Value.agg #[.int .u64 0,.int .u64 0]).cells n).toList=List.replicate (n*2) (.int .u64 0):=by
  have q:(Value.agg #[.int .u64 0,.int .u64 0]).cells=#[.int .u64 0,.int .u64 0]:=rfl
  rw[q]
  simp[Builtin.zeroCells]
  apply List.ext_getElem
  ·simp
  ·intro i h1 h2
   have:i%2=0\/i%2=1:=by omega
   rcases this with h|h <;> simp[h]
 have k:=run_storeCells_at Tryz.prog e off T (List.replicate (n*2) (.int .u64 0)) 0 b.toArray w o.row (by simpa using d) (by intro v r;rw[List.eq_of_mem_replicate r];rfl)
 obtain⟨m,rfl⟩:∃m,n=m+1:=⟨n-1,by omega⟩
 simp[Builtin.clear_,run_underlying Tryz.underlying174,Tryz.zeroValue270 w,j,k,over]
theorem Qjy (l:List (Nat×Nat)):(l.flatMap Qa0).length=l.length*2:=by
 induction l with
 | nil=>rfl
 | cons a l ih =>
   rw[List.flatMap_cons,Z6,ih,Y4]
   show 2+l.length*2=_
   omega
theorem Qxg (A B Z ys:List Value) (h:B.length=Z.length):over (A++B++ys) A.length Z=A++(Z++ys):=by
 unfold over
 rw[X0 A B ys,List.take_left' rfl,<-X0 A B ys,List.drop_left' (by rw[Z6,h]),X0]
theorem Qvr {l1 b:List (Nat×Nat)}{p:Nat×Nat->Bool}{r:Int}(h:Qrt (l1++b) p r) (h1:∀y∈l1,p y=false) (h2:∀y∈b,p y=true):(b=[]/\r = -1)\/(0<b.length/\r=(l1.length:Int)):=by
 rcases h with ⟨rfl,e⟩|⟨k,y,rfl,i,m,d⟩
 ·left
  refine⟨?_,rfl⟩
  cases b with
  | nil=>rfl
  | cons a b =>
    have:=e l1.length a (by rw[Y6 (Z0 _),Nat.sub_self];rfl)
    rw[h2 a (by simp)] at this;cases this
 ·right
  have hk:l1.length<=k:=by
   rcases Nat.lt_or_ge k l1.length with h|h
   ·rw[Y5 h] at i
    rw[h1 y (List.mem_of_getElem? i)] at m;cases m
   ·exact h
  have j:=(Z4 i).1
  rw[Z6] at j
  refine⟨by omega,?_⟩
  rcases Nat.lt_or_ge l1.length k with h|h
  ·exfalso
   have l:0<b.length:=by omega
   have:=d l1.length (b[0]) h (by rw[Y6 (Z0 _),Nat.sub_self,Z3 l])
   rw[h2 _ (List.getElem_mem _)] at this;cases this
  ·have:k=l1.length:=by omega
   rw[this]
theorem Qlt {w:World}{τ:Tags}{g:Tag}{F bc:Nat}{p:Nat×Nat->Bool}{v:Value}{l1 i:List (Nat×Nat)}(h:NS 270 2 Qa0 0 w τ g v (l1++i)) (hF:AskF F) (o:∀W,Step w τ W τ nil->AskD F bc p W) (h1:∀y∈l1,p y=false) (h2:∀y∈i,p y=true) (hlen:(l1++i).length<=1000) :
 Calls Tryz.prog 221 #[v,.func (.func F) #[] #[.pointer (some ⟨bc,0,none⟩)]] w fun e w'=>∃v',e = .returned v'/\NS 270 2 Qa0 0 w' τ g v' l1/\Step w τ w' τ (fun t=>t=g):=by
 have hi:=Qlr h hF o
 have x:=fun r (z:Qrt (l1++i) p r)=>Qvr z h1 h2
 obtain⟨a,cap,rfl⟩:=h.val
 by_cases E:i=[]
 ·subst E
  rw[List.append_nil] at h hi ⊢
  generalize hnl:l1.length=n at *
  obtain⟨Hi,G,N⟩:=hid3 hi x h
  clear hi x h
  go_enter Tryz.func221,Tryz.ntmps221
  go_wp2_with fail
  refine Hi.out.mono ?_
  rintro e w1 ⟨⟨r,rfl,z⟩,O⟩
  have I:r = -1:=by
   rcases G.out r (by rw[List.append_nil];exact z) with ⟨_,h⟩|⟨h,_⟩
   ·exact h
   ·exact absurd h (by simp)
  subst I
  obtain⟨Hs,Hr⟩:=hid2 O z
  clear O z
  go_wp2_with fail
  go_ret
  exact⟨_,rfl,N.out.step Hs.out (fun h=>h),Hs.out.mono (fun _ h=>h.elim)⟩
 ·have R:0<i.length:=by
   cases i with
   | nil=>exact absurd rfl E
   | cons a l=>simp
  obtain⟨hx,⟨hv,he⟩|⟨b,cap2,ys,hv,ho,U,al,am⟩⟩:=h.buf
  ·rw[Z6] at he;omega
  cases hv
  obtain⟨_,_,an,hmx,X⟩:=h.done
  cases an
  have J:(l1++i).length=l1.length+i.length:=Z6
  have Y:∀(j:Nat) y,l1.length<=j->(l1++i)[j]?=some y->p y=true:=fun j y hj M=>by
   rw[Y6 hj] at M
   exact h2 y (List.mem_of_getElem? M)
  have B:=fun (W:World) (m:Step w τ W τ nil) (ty:TypeId)=>Qmb (ho.step m (fun h=>h)) (off:=l1.length*2) (n:=i.length) (c:=cap-l1.length) R (by rw[Z6,Qjy,J];omega) ty
  have C:over ((l1++i).flatMap Qa0++ys) (l1.length*2) (List.replicate (i.length*2) (.int .u64 0))=l1.flatMap Qa0++(List.replicate (i.length*2) (.int .u64 0)++ys):=by
   have:=Qxg (l1.flatMap Qa0) (i.flatMap Qa0) (List.replicate (i.length*2) (.int .u64 0)) ys (by rw[Qjy,Z7])
   rw[Qjy] at this
   rw[List.flatMap_append];exact this
  have Z:=Qjy l1
  generalize a1:(l1++i).length=n at *
  generalize hk:l1.length=k at *
  generalize hm:i.length=m at *
  have hcap:n<=cap:=al
  have n1:¬cap=k:=by omega
  have n2:¬k=cap:=by omega
  have n3:(k:Int)<=(n:Int):=by omega
  have n4:(n:Int)<=(cap:Int):=by omega
  have n5:k<=n:=by omega
  have n6:k<=cap:=by omega
  have n7:(k:Int)<=(cap:Int):=by omega
  have n8:n-k=m:=by omega
  have n9:((n:Int)-(k:Int))=(m:Int):=by omega
  obtain⟨Hi,G,N,a6,Hx,Ho,ao,ap,a7,a8,aa,aq⟩:=hid12 hi x h o hx ho X Y B C Z a1
  obtain⟨Hk,Hm,av,aw⟩:=hid4 hk hm U J
  clear hi x h o hx ho X Y B C Z a1 hk hm U J
  rcases hF with rfl|rfl
  all_goals (
   go_enter Tryz.func221,Tryz.ntmps221
   go_wp2_with fail
   refine Hi.out.mono ?_
   rintro e w1 ⟨⟨r,rfl,z⟩,O⟩
   have I:r=(k:Int):=by
    rcases G.out r z with ⟨h,_⟩|⟨_,h⟩
    ·exact absurd h E
    ·exact h
   subst I
   have hk1:¬(k:Int) = -1:=by omega
   obtain⟨Hs,Hr⟩:=hid2 O z
   clear O z
   go_wp2_with fail
   go_loopw [5,6] (fun u v wr=>∃j:Nat,k+1<=j/\j<=n/\u = .int .i64 (k:Int)/\v = .int .i64 (j:Int)/\Step w τ wr τ nil) (fun _ v _=>n-(intOf v).toNat)
   case atStart=>exact⟨k+1,Z0 _,by omega,rfl,by simp,Hs.out⟩
   case round =>
    obtain⟨j,hj1,hj2,rfl,rfl,d⟩:=hrel
    by_cases ax:j<n
    ·obtain⟨y,M⟩:∃y,(l1++i)[j]?=some y:=⟨_,Z3 (by rw[aq.out];exact ax)⟩
     obtain⟨b',ay,d0,d1⟩:=ao.out j y M
     cases ay
     replace d0:=cell_kept d d0 (fun h=>h)
     replace d1:=cell_kept d d1 (fun h=>h)
     have ab:=ap.out j y (by omega) M
     obtain⟨y1,y2⟩:=y
     simp only at d0 d1
     have s:=d.alloc' (.cells #[.int .u64 (y1:Int),.int .u64 (y2:Int)] 270)
     have hc:=a6.out _ s (y1,y2)
     rw[ab] at hc
     simp only at hc
     obtain⟨Hc,az,ac⟩:=hid3 hc d s
     clear hc d s ab M
     go_wp2_with fail
     refine Hc.out.mono ?_
     rintro e w2 ⟨rfl,ad⟩
     have b0:=Z2 ad
     clear ad
     go_wp2_with fail
     go_round
     case rel =>
      refine⟨_,_,_,_,_,_,_,_,_,_,_,_,_,_,_,_,_,_,_,_,_,_,_,⟨j+1,?_,?_,?_,?_,ac.out.trans (b0.out τ)⟩,rfl⟩
      ·omega
      ·omega
      ·rfl
      ·simp
     case measure=>simp[intOf];omega
    ·obtain rfl:j=n:=by omega
     have ae:=a7.out wr d
     have L:=Ho.out.step d (fun h=>h)
     rw[a8.out] at ae
     have D:=L.row' (l1.flatMap Qa0++(List.replicate (m*2) (Value.int .u64 0)++ys))
     have af:=(d.mono (T:=fun t=>t=g) (fun _ h=>h.elim)).row L.tag (.inl rfl) (l1.flatMap Qa0++(List.replicate (m*2) (Value.int .u64 0)++ys)).toArray
     obtain⟨ag,b1,az⟩:=hid3 D af d
     clear D af d L
     go_wp2_with fail
     go_ret
     exact⟨_,rfl,⟨⟨by rw[aa.out,Hk.out],.inr ⟨b,cap,_,by rw[Hk.out];rfl,ag.out,by rw[Z6,aa.out];have h7:=av.out;have h8:=Hx.out;have h9:=aw.out;rw[h8] at h7;generalize hq:ys.length=q at *;rw[Z7];omega,by rw[Hk.out];omega,am⟩⟩,fun q _=>Z9 _⟩,b1.out⟩)
end Go.Proofs.YtemacanaihaldaaGreat
namespace Go.Proofs.YtemacanaihaldaaGreat
open Go.RowKit Go.Maps Go.Shelf
attribute [local go_sem] Oper.semAt_some
