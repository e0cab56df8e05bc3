/-
 Keys of 32 bits in rows: the beginnings of their sort.
-/
import Derived.Test.YtemacanaihaldaaGreatMDiskE
import Derived.Test.YtemacanaihaldaaGreatMRegL
import Derived.BigGuard
import Derived.BigCall
import Derived.CellFam
import Derived.Deep.Draws
import Derived.BigRegion
import Derived.Deep.CutRange
import Derived.Deep.CutBlock
set_option maxRecDepth 100000
set_option maxHeartbeats 8000000
set_option linter.all false
namespace Go.Proofs.YtemacanaihaldaaGreat
open Go.RowKit
def Jg2 (k:Nat):List Value:=[.int .u32 (k:Int)]
def tKey:Tag:=(330,0)
theorem Jdd (w:World) (x:Int):Calls Tryz.prog 225 #[.int .u32 x] w fun e d=>e = .returned (.bool false)/\w=d:=by
 go_enter Tryz.func225,Tryz.ntmps225
 go_wp2_with fail
 go_ret
 exact⟨rfl,rfl⟩
def kvs (ss:List Nat):List Value:=ss.map (fun k:Nat=>Value.int .u32 (k:Int))
theorem Jg7 (ss:List Nat):ss.flatMap Jg2=kvs ss:=by
 unfold kvs
 induction ss with
 | nil=>rfl
 | cons x l ih=>rw[List.flatMap_cons,X1,ih];rfl
theorem Jg1 (ss:List Nat):(kvs ss).length=ss.length:=by unfold kvs;rw[Y0]
theorem Jip {ss:List Nat}{i x:Nat}(h:ss[i]?=some x) (ys:List Value):(kvs ss++ys)[i]?=some (.int .u32 (x:Int)):=by
 have hl:=(Z4 h).1
 rw[Y5 (by rw[Jg1];exact hl)]
 unfold kvs
 rw[List.getElem?_map,h]
 rfl
theorem Jio (ss:List Nat) (ys:List Value) {i:Nat}(hi:i<ss.length) (x:Nat):(kvs ss++ys).set i (.int .u32 (x:Int))=kvs (ss.set i x)++ys:=by
 rw[List.set_append_left _ _ (by rw[Jg1];exact hi)]
 unfold kvs
 rw[List.map_set]
structure KR (w:World) (τ:Tags) (b:Nat) (ys:List Value) (ss:List Nat):Prop where
 own:Own w τ b tKey 36 (kvs ss++ys)
theorem KR.at {w:World}{τ:Tags}{b:Nat}{ys:List Value}{ss:List Nat}(h:KR w τ b ys ss) {i x:Nat}(d:ss[i]?=some x):w.cell? ⟨b,i,none⟩=some (.int .u32 (x:Int)):=h.own.at i (Jip d ys)
theorem KR.set {w:World}{τ:Tags}{b:Nat}{ys:List Value}{ss:List Nat}(h:KR w τ b ys ss) {i:Nat}(hi:i<ss.length) (x:Nat):KR (w.setCell ⟨b,i,none⟩ (.int .u32 (x:Int))) τ b ys (ss.set i x):=⟨by rw[<-Jio ss ys hi x];exact h.own.set i _⟩
theorem KR.step {w e:World}{τ d:Tags}{S:Tag->Prop}{b:Nat}{ys:List Value}{ss:List Nat}(h:KR w τ b ys ss) (m:Step w τ e d S) (i:¬S tKey):KR e d b ys ss:=⟨h.own.step m i⟩
theorem Jhk {ss:List Nat}{i j x y:Nat}(d:ss[i]?=some x) (e:ss[j]?=some y):((ss.set i y).set j x).Perm ss:=by
 have hi:=(Z4 d).1
 have h:=(Z4 e).1
 have ex:ss[i]=x:=(Z4 d).2
 have k:ss[j]=y:=(Z4 e).2
 subst ex k
 exact List.set_set_perm hi h
theorem Jhz (w:World) (x y:Nat):Calls Tryz.prog 278 #[.int .u32 (x:Int),.int .u32 (y:Int)] w fun e h=>e = .returned (.bool (decide (x<y)))/\w=h:=by
 have h1:=Jdd w (x:Int)
 have i:=Z2 h1
 clear h1
 by_cases d:x<y
 ·have hi:(x:Int)<(y:Int):=by omega
  rw[decide_eq_true d]
  go_enter Tryz.func278,Tryz.ntmps278
  go_wp2_with fail
  refine i.out.mono ?_
  rintro e h ⟨rfl,rfl⟩
  go_wp2_with fail
  go_ret
  exact⟨rfl,rfl⟩
 ·have hi:¬(x:Int)<(y:Int):=by omega
  rw[decide_eq_false d]
  go_enter Tryz.func278,Tryz.ntmps278
  go_wp2_with fail
  refine i.out.mono ?_
  rintro e h ⟨rfl,rfl⟩
  go_wp2_with fail
  go_ret
  exact⟨rfl,rfl⟩
def Jgx:Tag:=(332,0)
def CntAt (w:World) (τ:Tags) (bs c:Nat):Prop:=Own w τ bs Jgx 3 [.int .i64 (c:Int)]
theorem Jhy {w:World}{τ:Tags}{b C c cap i j:Nat}{ys:List Value}{ss:List Nat}(h:KR w τ b ys ss) (G:CntAt w τ C c) (hc4:c<=1000) (hi:i<ss.length) (I:j<ss.length) (p:ss.length<=cap) :
 Calls Tryz.prog 304 #[.slice (some ⟨b,0,none⟩) ss.length cap,.int .i64 (i:Int),.int .i64 (j:Int),.pointer (some ⟨C,0,none⟩)] w fun e J=>(e = .returned (.tuple #[.int .i64 (i:Int),.int .i64 (j:Int)])\/e = .returned (.tuple #[.int .i64 (j:Int),.int .i64 (i:Int)]))/\∃q c',c'<=c+1/\CntAt J q C c'/\Step w τ J q (fun t=>t=Jgx):=by
 obtain⟨x,R⟩:∃x,ss[i]?=some x:=⟨_,Z3 hi⟩
 obtain⟨y,U⟩:∃y,ss[j]?=some y:=⟨_,Z3 I⟩
 have L:=h.at R
 have M:=h.at U
 have hl:=Jhz w.drew y x
 obtain⟨n,hn⟩:∃n,ss.length=n:=⟨_,rfl⟩
 rw[hn] at hi I p ⊢
 have hiI:(i:Int)<(n:Int):=by omega
 have hjI:(j:Int)<(n:Int):=by omega
 have hcI:(n:Int)<=(cap:Int):=by omega
 obtain⟨H_h,X,Y⟩:=hid3 h G hl
 clear h G hl
 go_enter Tryz.func304,Tryz.ntmps304
 go_wp2_with fail
 have hd:=(Step.refl w τ (fun t=>t=Jgx)).drew
 have k:w.drew.cell? ⟨b,i,none⟩=some (.int .u32 (x:Int))/\w.drew.cell? ⟨b,j,none⟩=some (.int .u32 (y:Int)):=⟨L,M⟩
 refine Qaf (S:=fun W:World=>W.cell? ⟨b,i,none⟩=some (.int .u32 (x:Int))/\W.cell? ⟨b,j,none⟩=some (.int .u32 (y:Int))) (by kernel_rfl) ?_
 refine tk0 [0,1,2,3,4,5,6,7] ?_
 iterate 8
  refine tks (v:=?_) rfl (Or.inl ⟨by rfl,?_⟩) (by assumption) ?_
  rotate_left
  ·intro w D;(try dsimp only at D);go_simp
   all_goals with_reducible rfl
  try simp only[Act.put,lz1,lz2,lz3]
 refine tk9 ?_
 try simp only[lz4,lz5,lz6,lz1,lz2,lz3]
 clear L M
 refine tk1 8 rfl fun K N=>?_
 go_simp
 go_at_call 278
 refine Y.out.mono ?_
 rintro e w1 ⟨rfl,rfl⟩
 refine N.out _ _ (fun _=>k) ?_
 clear N K
 refine Qad (by kernel_rfl) ?_ _
 have d:=X.out.drew
 have cs:=d.at 0 (v:=.int .i64 (c:Int)) rfl
 have cz:=d.fz 0
 have l:=d.set 0 (.int .i64 ((c+1:Nat):Int))
 have m:=hd.set (o:=0) d.tag rfl (.int .i64 ((c+1:Nat):Int))
 have hw:IntKind.i64.wrap ((c:Int)+1)=((c+1:Nat):Int):=by rw[IntWalk.i64_in _ (by omega)];omega
 by_cases r:y<x
 ·rw[decide_eq_true r]
  obtain⟨O,s,z,B,E⟩:=hid5 hd d l m k
  clear hd d l m k
  go_wp2_with fail
  go_ret2
  have F:((c+1:Nat):Int)=(c:Int)+1:=by omega
  refine⟨.inr rfl,τ,c+1,Z0 _,?_,?_⟩
  ·have:=z.out
   rw[F] at this
   show Own _ τ C Jgx 3 [.int .i64 ((c+1:Nat):Int)]
   rw[F]
   exact this
  ·have:=B.out
   rw[F] at this
   exact this
 ·rw[decide_eq_false r]
  obtain⟨O,s,z,B,E⟩:=hid5 hd d l m k
  clear hd d l m k
  go_wp2_with fail
  go_ret2
  exact⟨.inl rfl,τ,c,by omega,s.out,O.out⟩
theorem Jha {w:World}{τ:Tags}{b o c cap i j lo hi:Nat}{ys:List Value}{ss:List Nat}(h:KR w τ b ys ss) (z:CntAt w τ o c) (r:c<=1000) (hh:hi<=ss.length) (h1:lo<=i/\i<hi) (h2:lo<=j/\j<hi) (k:ss.length<=cap) :
 Calls Tryz.prog 304 #[.slice (some ⟨b,0,none⟩) ss.length cap,.int .i64 (i:Int),.int .i64 (j:Int),.pointer (some ⟨o,0,none⟩)] w fun e m=>∃(p q:Nat) (d:Tags) (l:Nat),e = .returned (.tuple #[.int .i64 (p:Int),.int .i64 (q:Int)])/\(lo<=p/\p<hi)/\(lo<=q/\q<hi)/\l<=c+1/\CntAt m d o l/\KR m d b ys ss/\Step w τ m d (fun t=>t=Jgx):=by
 refine(Jhy h z r (by omega) (by omega) k).mono ?_
 rintro e m ⟨B,d,l,x,y,s⟩
 have hk:=h.step s (by simp[tKey,Jgx])
 rcases B with rfl|rfl
 ·exact⟨i,j,d,l,rfl,h1,h2,x,y,hk,s⟩
 ·exact⟨j,i,d,l,rfl,h2,h1,x,y,hk,s⟩
theorem Jhb {w:World}{τ:Tags}{b y c cap i j k lo hi:Nat}{ys:List Value}{ss:List Nat}(h:KR w τ b ys ss) (G:CntAt w τ y c) (hc4:c<=900) (hh:hi<=ss.length) (h1:lo<=i/\i<hi) (h2:lo<=j/\j<hi) (I:lo<=k/\k<hi) (d:ss.length<=cap) :
 Calls Tryz.prog 300 #[.slice (some ⟨b,0,none⟩) ss.length cap,.int .i64 (i:Int),.int .i64 (j:Int),.int .i64 (k:Int),.pointer (some ⟨y,0,none⟩)] w fun e z=>∃(p:Nat) (l:Tags) (D:Nat),e = .returned (.int .i64 (p:Int))/\(lo<=p/\p<hi)/\D<=c+3/\CntAt z l y D/\KR z l b ys ss/\Step w τ z l (fun t=>t=Jgx):=by
 have c1:=Jha h G (by omega) hh h1 h2 d
 have m:=Z2 c1
 clear c1
 go_enter Tryz.func300,Tryz.ntmps300
 go_wp2_with fail
 refine m.out.mono ?_
 rintro e w1 ⟨i1,j1,τ1,n1,rfl,J,L,q3,M,N,E⟩
 have c2:=Jha N M (by omega) hh L I d
 obtain⟨o,q⟩:=hid2 c2 E
 clear c2 E
 go_wp2_with fail
 refine o.out.mono ?_
 rintro e w2 ⟨j2,k2,τ2,n2,rfl,O,r2,r3,R,U,F⟩
 have c3:=Jha U R (by omega) hh J O d
 obtain⟨r,s⟩:=hid2 c3 F
 clear c3 F
 go_wp2_with fail
 refine r.out.mono ?_
 rintro e w3 ⟨i3,X,B,Y,rfl,s1,Z,s3,s4,s5,s6⟩
 have x:=(q.out.trans s.out).trans s6
 have C:=Z2 x
 clear x
 go_wp2_with fail
 go_ret
 exact⟨X,B,Y,rfl,Z,by omega,s4,s5,C.out⟩
theorem Jg0 {w:World}{τ:Tags}{b q c cap i lo hi:Nat}{ys:List Value}{ss:List Nat}(h:KR w τ b ys ss) (C:CntAt w τ q c) (r:c<=900) (hh:hi<=ss.length) (h1:lo+1<=i/\i+1<hi) (l:ss.length<=cap) (hsz:ss.length<=1000000) :
 Calls Tryz.prog 299 #[.slice (some ⟨b,0,none⟩) ss.length cap,.int .i64 (i:Int),.pointer (some ⟨q,0,none⟩)] w fun e s=>∃(p:Nat) (d:Tags) (x:Nat),e = .returned (.int .i64 (p:Int))/\(lo<=p/\p<hi)/\x<=c+3/\CntAt s d q x/\KR s d b ys ss/\Step w τ s d (fun t=>t=Jgx):=by
 have c1:=Jhb (lo:=lo) (hi:=hi) (i:=i-1) (j:=i) (k:=i+1) h C r hh (by omega) (by omega) (by omega) l
 have y:((i-1:Nat):Int)=(i:Int)-1:=by omega
 have z:((i+1:Nat):Int)=(i:Int)+1:=by omega
 have f1:IntKind.i64.wrap ((i:Int)-1)=(i:Int)-1:=IntWalk.i64_in _ (by omega)
 have f2:IntKind.i64.wrap ((i:Int)+1)=(i:Int)+1:=IntWalk.i64_in _ (by omega)
 rw[y,z] at c1
 clear y z
 have m:=Z2 c1
 clear c1
 go_enter Tryz.func299,Tryz.ntmps299
 go_wp2_with fail
 refine m.out.mono ?_
 rintro e w1 ⟨p,τ1,n1,rfl,D,E,F,G,B⟩
 have o:=Z2 B
 clear B
 go_wp2_with fail
 go_ret
 exact⟨p,τ1,n1,rfl,D,E,F,G,o.out⟩
theorem Jh8 {w:World}{τ:Tags}{b cap lo hi:Nat}{ys:List Value}{ss:List Nat}(h:KR w τ b ys ss) (hh:hi<=ss.length) (h1:lo+12<hi) (l:ss.length<=cap) (r:ss.length<=1000000) :
 Calls Tryz.prog 275 #[.slice (some ⟨b,0,none⟩) ss.length cap,.int .i64 (lo:Int),.int .i64 (hi:Int)] w fun e w'=>∃(p:Nat) (hint:Int) (M:Tags),e = .returned (.tuple #[.int .i64 (p:Int),.int .i64 hint])/\(lo<=p/\p<hi)/\KR w' M b ys ss/\Step w τ w' M (fun t=>t=Jgx):=by
 have m:=(Step.refl w τ nil).alloc (.cells #[.int .i64 0] 3) Jgx
 have I:CntAt (w.alloc (.cells #[.int .i64 0] 3)) (τ.put w.heap.size Jgx) w.heap.size 0:=Own.born w τ Jgx 3 #[.int .i64 0]
 have hk:=h.step m (fun h=>h)
 generalize τ.put w.heap.size Jgx=τ1 at *
 obtain⟨d,hd⟩:∃d,(hi-lo)/4=d:=⟨_,rfl⟩
 have hdI:((hi:Int)-(lo:Int))/4=(d:Int):=by omega
 have hd2:4*d<=hi-lo:=by omega
 have hge:¬((hi:Int)-(lo:Int)<8):=by omega
 by_cases h50:lo+50<=hi
 ·have N:¬((hi:Int)-(lo:Int)<50):=by omega
  have s:=Jg0 (i:=lo+d) (lo:=lo) (hi:=hi) hk I (by omega) hh (by omega) l r
  push_cast at s
  obtain⟨x,Hc,Hk,y⟩:=hid4 m I hk s
  clear m I hk s
  go_enter Tryz.func275,Tryz.ntmps275
  go_wp2_with fail
  refine y.out.mono ?_
  rintro e w1 ⟨p1,τa,n1,rfl,O,q3,R,U,J⟩
  have z:=Jg0 (i:=lo+d*2) (lo:=lo) (hi:=hi) U R (by omega) hh (by omega) l r
  push_cast at z
  obtain⟨B,X⟩:=hid2 z J
  clear z J
  go_wp2_with fail
  refine B.out.mono ?_
  rintro e w2 ⟨p2,τb,n2,rfl,r2,r3,r4,r5,r6⟩
  have C:=Jg0 (i:=lo+d*3) (lo:=lo) (hi:=hi) r5 r4 (by omega) hh (by omega) l r
  push_cast at C
  obtain⟨D,Y⟩:=hid2 C r6
  clear C r6
  go_wp2_with fail
  refine D.out.mono ?_
  rintro e w3 ⟨p3,τc,n3,rfl,s2,s3,s4,s5,s6⟩
  have L:=Jhb (i:=p1) (j:=p2) (k:=p3) (lo:=lo) (hi:=hi) s5 s4 (by omega) hh O r2 s2 l
  obtain⟨o,Z⟩:=hid2 L s6
  clear L s6
  go_wp2_with fail
  refine o.out.mono ?_
  rintro e wm ⟨p,E,nm,rfl,O,q3,R,U,J⟩
  have F:=R.at 0 (v:=.int .i64 (nm:Int)) rfl
  have q:=((((x.out.mono (T:=fun t=>t=Jgx) (fun _ h=>h.elim)).trans X.out).trans Y.out).trans Z.out).trans J
  have G:=Z2 q
  clear q
  go_wp2_with fail
  all_goals (
   go_ret2
   exact⟨p,_,E,rfl,O,U,G.out⟩)
 ·have N:(hi:Int)-(lo:Int)<50:=by omega
  have L:=Jhb (i:=lo+d) (j:=lo+d*2) (k:=lo+d*3) (lo:=lo) (hi:=hi) hk I (by omega) hh (by omega) (by omega) (by omega) l
  push_cast at L
  obtain⟨x,Hc,Hk,o⟩:=hid4 m I hk L
  clear m I hk L
  go_enter Tryz.func275,Tryz.ntmps275
  go_wp2_with fail
  refine o.out.mono ?_
  rintro e wm ⟨p,E,nm,rfl,O,q3,R,U,J⟩
  have F:=R.at 0 (v:=.int .i64 (nm:Int)) rfl
  have q:=(x.out.mono (T:=fun t=>t=Jgx) (fun _ h=>h.elim)).trans J
  have G:=Z2 q
  clear q
  go_wp2_with fail
  all_goals (
   go_ret2
   exact⟨p,_,E,rfl,O,U,G.out⟩)
end Go.Proofs.YtemacanaihaldaaGreat
namespace Go.Proofs.YtemacanaihaldaaGreat
open Go.RowKit
def SrtTag (g:Tag):Prop:=g=tKey\/g=Jgx
def Srt (w:World) (τ:Tags) (b off:Nat) (ys:List Value) (ss:List Nat) (w':World):Prop:=off=0/\∃τ' ts,ts.Perm ss/\KR w' τ' b ys ts/\Step w τ w' τ' SrtTag
section
variable {w wr : World} {τ : Tags} {b off : Nat} {ys : List Value} {ss : List Nat} {n : Nat}
theorem Srt.fam (h:Srt w τ b off ys ss wr) (hn:ss.length=n):∃G:Nat->Int,(∀t,t<n->wr.cell? ⟨b,off+t,none⟩=some (.int .u32 (G t)))/\(∀t,t<n->wr.frozen? ⟨b,off+t,none⟩=false)/\(∀q,Srt w τ b off ys ss (wr.drewN q))/\(∀q i j k l,i<n->j<n->k=i->l=j->Srt w τ b off ys ss (((wr.drewN q).setCell ⟨b,off+i,none⟩ (.int .u32 (G l))).setCell ⟨b,off+j,none⟩ (.int .u32 (G k)))):=by
 obtain⟨rfl,d,ts,r,hk,z⟩:=h
 have hl:ts.length=n:=r.length_eq.trans hn
 have e:∀t,t<n->ts[t]?=some (ts.getD t 0):=fun t s=>by
  rw[Z5,Z3 (by omega)];rfl
 have m:∀q,Step wr d (wr.drewN q) d SrtTag:=fun q=>(Step.refl wr d SrtTag).drews q
 have p:∀q,Step wr d (wr.drewN q) d nil:=fun q=>(Step.refl wr d nil).drews q
 refine⟨fun t=>((ts.getD t 0:Nat):Int),fun t s=>?_,fun t s=>?_,fun q=>⟨rfl,d,ts,r,hk.step (p q) (fun h=>h),z.trans (m q)⟩,fun q i j k l hi C x y=>?_⟩
 ·rw[Nat.zero_add]
  exact hk.at (e t s)
 ·rw[Nat.zero_add]
  exact hk.own.fz t
 ·subst x y
  rw[Nat.zero_add,Nat.zero_add]
  have k1:=hk.step (p q) (fun h=>h)
  have B:=k1.set (i:=k) (by omega) (ts.getD l 0)
  have D:=B.set (i:=l) (by rw[Y1];omega) (ts.getD k 0)
  have E:=(m q).set (o:=k) k1.own.tag (.inl rfl) (.int .u32 ((ts.getD l 0:Nat):Int))
  have F:=E.set (o:=l) B.own.tag (.inl rfl) (.int .u32 ((ts.getD k 0:Nat):Int))
  exact⟨rfl,d,_,(Jhk (e k hi) (e l C)).trans r,D,z.trans F⟩
theorem Jgu (x y:Int) (w:World):Calls Tryz.prog 278 #[.int .u32 x,.int .u32 y] w fun e h=>e = .returned (.bool (decide (x<y)))/\h=w:=by
 have h1:=Jdd w x
 have i:=Z2 h1
 clear h1
 by_cases d:x<y
 ·rw[decide_eq_true d]
  go_enter Tryz.func278,Tryz.ntmps278
  go_wp2_with fail
  refine i.out.mono ?_
  rintro e h ⟨rfl,rfl⟩
  go_wp2_with fail
  go_ret
  exact⟨rfl,rfl⟩
 ·have g1:=decide_eq_false d
  rw[g1]
  go_enter Tryz.func278,Tryz.ntmps278
  go_wp2_with fail
  refine i.out.mono ?_
  rintro e h ⟨rfl,rfl⟩
  go_wp2_with fail
  go_ret
  exact⟨rfl,rfl⟩
theorem Jhr (h:Srt w τ b off ys ss wr) (hn:ss.length=n) {lo hi cap:Nat}(hh:hi<=n) (h1:lo<=hi) (hsz:n<=1000000) :
 Calls Tryz.prog 272 #[.slice (some ⟨b,off,none⟩) n cap,.int .i64 (lo:Int),.int .i64 (hi:Int)] wr fun e z=>e = .returned (.tuple #[])/\Srt w τ b off ys ss z:=by
 obtain⟨s,B⟩:=hid2 h hn
 clear h hn
 go_enter Tryz.func272,Tryz.ntmps272
 go_wp2_with fail
 go_loopw [6] (fun v wr=>∃(i:Nat),lo+1<=i/\i<=n+1/\v = .int .i64 (i:Int)/\Srt w τ b off ys ss wr) (fun v _=>hi-(intOf v).toNat)
 case atStart=>exact⟨lo+1,Z0 _,by omega,by push_cast;rfl,s.out⟩
 case round =>
  obtain⟨i,hi1,hi2,rfl,q⟩:=hrel
  by_cases hlt:i<hi
  ·have d:(i:Int)<(hi:Int):=by omega
   have hi3:i<n:=by omega
   have r:=Z2 q
   clear q
   go_wp2_with fail
   go_loopw [7] (fun v wr=>∃(j:Nat),lo<=j/\j<n/\v = .int .i64 (j:Int)/\Srt w τ b off ys ss wr) (fun v _=>(intOf v).toNat)
   case atStart=>exact⟨i,by omega,by omega,rfl,r.out⟩
   case round =>
    clear r
    obtain⟨j,hj1,x,rfl,k⟩:=hrel
    obtain⟨G,hcw,hfw,l,m⟩:=k.fam B.out
    obtain⟨o,y⟩:=hid2 l m
    clear l m k
    by_cases hja:lo<j
    ·have p:(lo:Int)<(j:Int):=by omega
     go_wp2_with fail
     go_big_quiet (first|(go_at_call 278;refine Calls.quiet_of_same (Jgu _ _ _)))
     go_wp2_with fail
     ·go_region
      all_goals go_wp2_with fail
      go_round
      case rel=>exact⟨j-1,by omega,by omega,by congr 1;omega,y.out _ j (j-1) _ _ x (by omega) rfl rfl⟩
      case measure=>simp[intOf];omega
     ·go_round
      case rel=>exact⟨i+1,by omega,by omega,by simp,o.out _⟩
      case measure=>simp[intOf];omega
    ·have p:¬(lo:Int)<(j:Int):=by omega
     go_wp2_with fail
     go_big_quiet (first|(go_at_call 278;refine Calls.quiet_of_same (Jgu _ _ _)))
     go_wp2_with fail
     go_round
     case rel=>exact⟨i+1,by omega,by omega,by simp,o.out _⟩
     case measure=>simp[intOf];omega
  ·have d:¬(i:Int)<(hi:Int):=by omega
   have r:=Z2 q
   clear q
   go_wp2_with fail
   go_returns
   exact⟨rfl,r.out⟩
theorem Jij (h:Srt w τ b off ys ss wr) (hn:ss.length=n) {lo hi first cap:Nat}(E:lo<=hi) (hb:first+hi<=n) (hsz:n<=1000000) :
 Calls Tryz.prog 298 #[.slice (some ⟨b,off,none⟩) n cap,.int .i64 (lo:Int),.int .i64 (hi:Int),.int .i64 (first:Int)] wr fun e R=>e = .returned (.tuple #[])/\Srt w τ b off ys ss R:=by
 obtain⟨F,I⟩:=hid2 h hn
 clear h hn
 go_enter Tryz.func298,Tryz.ntmps298
 go_wp2_with fail
 go_loopw [8] (fun v wr=>∃(root:Nat),root<=hi/\v = .int .i64 (root:Int)/\Srt w τ b off ys ss wr) (fun v _=>hi-(intOf v).toNat)
 case atStart=>exact⟨lo,E,rfl,F.out⟩
 case round =>
  obtain⟨root,hr,rfl,D⟩:=hrel
  by_cases h0:hi<=2*root+1
  ·have J:(hi:Int)<=2*(root:Int)+1:=by omega
   have U:=Z2 D
   clear D
   go_wp2_with fail
   go_returns
   exact⟨rfl,U.out⟩
  ·have J:¬((hi:Int)<=2*(root:Int)+1):=by omega
   obtain⟨G,L,M,q,r⟩:=D.fam I.out
   obtain⟨s,N⟩:=hid2 q r
   clear q r D
   by_cases h1:2*root+2<hi
   case' pos=>have O:2*(root:Int)+1+1<(hi:Int):=by omega
   case' neg=>have O:decide (2*(root:Int)+1+1<(hi:Int))=false:=decide_eq_false (by omega)
   all_goals (
    go_wp2_with fail
    go_big_quiet (first|(go_at_call 278;refine Calls.quiet_of_same (Jgu _ _ _)))
    go_wp2_with fail)
   all_goals (
    revert nq
    intro x
    have o:=s.out x
    clear L M N s
    generalize wr.drewN x=wr2 at o ⊢
    obtain⟨G2,y,z,j,k⟩:=o.fam I.out
    obtain⟨d,B⟩:=hid2 j k
    clear j k o
    go_big_quiet (first|(go_at_call 278;refine Calls.quiet_of_same (Jgu _ _ _)))
    go_wp2_with fail
    ·(try simp only[Exit.inBlock,Exit.then])
     refine bodyPost_ret (results_none rfl _ _ _) rfl ?_
     exact⟨rfl,d.out _⟩
    ·revert nq
     intro C
     have p:=d.out C
     clear y z B d
     generalize wr2.drewN C=wr3 at p ⊢
     obtain⟨G3,hcw3,hfw3,l,m⟩:=p.fam I.out
     obtain⟨Hdr3,i⟩:=hid2 l m
     clear l m p
     go_region
     go_wp2_with fail
     go_round
     case rel=>first
      | exact⟨2*root+1,by omega,by first|rfl|(congr 1;omega),i.out 1 (first+root) (first+(2*root+1)) (first+root) (first+2*root+1) (by omega) (by omega) rfl (by omega)⟩
      | exact⟨2*root+2,by omega,by first|rfl|(congr 1;omega),i.out 1 (first+root) (first+(2*root+1+1)) (first+root) (first+2*root+2) (by omega) (by omega) rfl (by omega)⟩
      | exact⟨2*root+2,by omega,by first|rfl|(congr 1;omega),i.out 1 (first+root) (first+(2*root+2)) (first+root) (first+2*root+2) (by omega) (by omega) rfl (by omega)⟩
     case measure=>simp[intOf];omega)
end
end Go.Proofs.YtemacanaihaldaaGreat
namespace Go.Proofs.YtemacanaihaldaaGreat
open Go.RowKit
section
variable {w wr : World} {τ : Tags} {b off : Nat} {ys : List Value} {ss : List Nat} {n : Nat}
def RetB (P:Prop) (e:Ending):Prop:=(∃v,e = .returned (.bool v))/\P
theorem Jh6 (h:Srt w τ b off ys ss wr) (hn:ss.length=n) {lo hi cap:Nat}(hh:hi<=n) (h1:lo+1<=hi) (hsz:n<=1000000) :
 Calls Tryz.prog 277 #[.slice (some ⟨b,off,none⟩) n cap,.int .i64 (lo:Int),.int .i64 (hi:Int)] wr fun e w'=>RetB (Srt w τ b off ys ss w') e:=by
 obtain⟨Y,X⟩:=hid2 h hn
 clear h hn
 go_enter Tryz.func277,Tryz.ntmps277
 go_wp2_with fail
 go_loopw [7,8] (fun D o wr=>∃(i j:Nat),lo+1<=i/\i<=hi/\j<=5/\D = .int .i64 (i:Int)/\o = .int .i64 (j:Int)/\Srt w τ b off ys ss wr) (fun _ o _=>5-(intOf o).toNat)
 case atStart=>exact⟨lo+1,0,by omega,by omega,by omega,by push_cast;rfl,rfl,Y.out⟩
 case round =>
  obtain⟨i0,z,g1,g2,g3,rfl,rfl,d⟩:=hrel
  by_cases hj5:z<5
  ·have E:(z:Int)<5:=by omega
   have m:=Z2 d
   clear d
   go_wp2_with fail
   go_loopw [7] (fun D wr=>∃(i:Nat),lo+1<=i/\i<=hi/\D = .int .i64 (i:Int)/\Srt w τ b off ys ss wr) (fun D _=>hi-(intOf D).toNat)
   case atStart=>exact⟨i0,by omega,by omega,rfl,m.out⟩
   case round =>
    clear m
    obtain⟨i,e1,e2,rfl,d⟩:=hrel
    obtain⟨G,Z,a1,F,I⟩:=d.fam X.out
    obtain⟨p,a6⟩:=hid2 F I
    clear F I d
    by_cases hib:i<hi
    ·have J:(i:Int)<(hi:Int):=by omega
     have hne:¬(i:Int)=(hi:Int):=by omega
     have hneb:((i:Int)==(hi:Int))=false:=by simp;omega
     by_cases h50:hi-lo<50
     case' pos=>have L:(hi:Int)-(lo:Int)<50:=by omega
     case' neg=>have L:¬(hi:Int)-(lo:Int)<50:=by omega
     all_goals (
      go_wp2_with fail
      go_big_quiet (first|(go_at_call 278;refine Calls.quiet_of_same (Jgu _ _ _)))
      go_wp2_with fail
      ·go_round
       case rel=>exact⟨i+1,by omega,by omega,by simp,p.out _⟩
       case measure=>simp[intOf];omega)
     ·revert nq
      intro M
      have B:=p.out M
      clear Z a1 a6 p
      generalize wr.drewN M=wr3 at B ⊢
      obtain⟨G3,hcw3,hfw3,N,y⟩:=B.fam X.out
      have O:=y 1 i (i-1) _ _ (by omega) (by omega) rfl rfl
      have C:=Z2 O
      clear O B N y
      go_region
      go_upto_if 61 with fail
      go_cut [7,8] from 13 to 132 (fun v7 v8 wx=>v7 = .int .i64 (i:Int)/\v8 = .int .i64 (z:Int)/\Srt w τ b off ys ss wx)
      case first =>
       by_cases a7:lo+2<=i
       ·have q:2<=(i:Int)-(lo:Int):=by omega
        go_wp2_with fail
        go_loopw [9] (fun o wr=>∃(j:Nat),j<i/\o = .int .i64 (j:Int)/\Srt w τ b off ys ss wr) (fun o _=>(intOf o).toNat)
        case atStart=>exact⟨i-1,by omega,by congr 1;omega,C.out⟩
        case round =>
         obtain⟨j,f1,rfl,d⟩:=hrel
         by_cases a8:1<=j
         ·have r:(1:Int)<=(j:Int):=by omega
          obtain⟨G5,R,U,k,l⟩:=d.fam X.out
          obtain⟨s,x⟩:=hid2 k l
          clear k l d
          go_wp2_with fail
          go_big_quiet (first|(go_at_call 278;refine Calls.quiet_of_same (Jgu _ _ _)))
          go_wp2_with fail
          ·go_meet
           case rel=>exact⟨rfl,rfl,s.out _⟩
          ·go_region
           go_wp2_with fail
           go_round
           case rel=>exact⟨j-1,by omega,by congr 1;omega,x.out _ j (j-1) _ _ (by omega) (by omega) rfl rfl⟩
           case measure=>simp[intOf];omega
         ·have r:¬(1:Int)<=(j:Int):=by omega
          have m:=Z2 d
          clear d
          go_wp2_with fail
          go_meet
          case rel=>exact⟨rfl,rfl,m.out⟩
       ·have q:¬2<=(i:Int)-(lo:Int):=by omega
        go_wp2_with fail
        go_meet
        case rel=>exact⟨rfl,rfl,C.out⟩
      case rest =>
       obtain⟨rfl,rfl,d⟩:=hcut
       clear C
       have m:=Z2 d
       clear d
       by_cases a7:i+2<=hi
       ·have q:2<=(hi:Int)-(i:Int):=by omega
        go_wp2_with fail
        go_loopw [10] (fun o wr=>∃(j:Nat),i+1<=j/\j<=hi/\o = .int .i64 (j:Int)/\Srt w τ b off ys ss wr) (fun o _=>hi-(intOf o).toNat)
        case atStart=>exact⟨i+1,by omega,by omega,by push_cast;rfl,m.out⟩
        case round =>
         clear m
         obtain⟨j,f1,f2,rfl,d⟩:=hrel
         by_cases a8:j<hi
         ·have r:(j:Int)<(hi:Int):=by omega
          obtain⟨G5,R,U,k,l⟩:=d.fam X.out
          obtain⟨s,x⟩:=hid2 k l
          clear k l d
          go_wp2_with fail
          go_big_quiet (first|(go_at_call 278;refine Calls.quiet_of_same (Jgu _ _ _)))
          go_wp2_with fail
          ·go_round
           case rel=>exact⟨i,z+1,by omega,by omega,by omega,rfl,by simp,s.out _⟩
           case measure=>simp[intOf];omega
          ·go_region
           go_wp2_with fail
           go_round
           case rel=>exact⟨j+1,by omega,by omega,by simp,x.out _ j (j-1) _ _ (by omega) (by omega) rfl rfl⟩
           case measure=>simp[intOf];omega
         ·have r:¬(j:Int)<(hi:Int):=by omega
          have m:=Z2 d
          clear d
          go_wp2_with fail
          go_round
          case rel=>exact⟨i,z+1,by omega,by omega,by omega,rfl,by simp,m.out⟩
          case measure=>simp[intOf];omega
       ·have q:¬2<=(hi:Int)-(i:Int):=by omega
        go_wp2_with fail
        go_round
        case rel=>exact⟨i,z+1,by omega,by omega,by omega,rfl,by simp,m.out⟩
        case measure=>simp[intOf];omega
     ·go_ret
      exact⟨⟨_,rfl⟩,p.out _⟩
    ·have J:¬(i:Int)<(hi:Int):=by omega
     obtain rfl:i=hi:=by omega
     go_wp2_with fail
     go_big_quiet (first|(go_at_call 278;refine Calls.quiet_of_same (Jgu _ _ _)))
     go_wp2_with fail
     go_ret
     exact⟨⟨_,rfl⟩,p.out _⟩
  ·have E:¬(z:Int)<5:=by omega
   have m:=Z2 d
   clear d
   go_wp2_with fail
   go_ret
   exact⟨⟨_,rfl⟩,m.out⟩
end
end Go.Proofs.YtemacanaihaldaaGreat
namespace Go.Proofs.YtemacanaihaldaaGreat
open Go.RowKit
section
variable {w wr : World} {τ : Tags} {b off : Nat} {ys : List Value} {ss : List Nat} {n : Nat}
def PartD (lo hi:Nat) (P:Prop) (e:Ending):Prop:=(∃(m:Nat) (v:Bool),e = .returned (.tuple #[.int .i64 (m:Int),.bool v])/\lo<=m/\m<hi)/\P
def PartE (lo hi:Nat) (P:Prop) (e:Ending):Prop:=(∃(m:Nat),e = .returned (.int .i64 (m:Int))/\lo<m/\m<=hi)/\P
theorem Jhq (h:Srt w τ b off ys ss wr) (hn:ss.length=n) {lo hi pv cap:Nat}(hh:hi<=n) (h1:lo<hi) (hp1:lo<=pv) (hp2:pv<hi) (hsz:n<=1000000) :
 Calls Tryz.prog 280 #[.slice (some ⟨b,off,none⟩) n cap,.int .i64 (lo:Int),.int .i64 (hi:Int),.int .i64 (pv:Int)] wr fun e Y=>PartD lo hi (Srt w τ b off ys ss Y) e:=by
 have p:=h
 clear h
 obtain⟨o,J⟩:=hid2 p hn
 clear p hn
 go_enter Tryz.func280,Tryz.ntmps280
 go_upto_region 1 with fail
 go_cut [] from 12 to 25 (fun C=>Srt w τ b off ys ss C)
 case first =>
  obtain⟨G,x,y,k,d⟩:=o.out.fam J.out
  by_cases B:lo=pv
  case' pos =>
   have l:=d 1 lo lo _ _ (by omega) (by omega) rfl rfl
   subst B
  case' neg =>
   have l:=d 1 lo pv _ _ (by omega) (by omega) rfl rfl
   have L:¬lo=pv:=B
  all_goals (
   have r:=Z2 l
   clear l k d
   go_region
   go_wp2_with fail
   go_meet
   case rel=>exact r.out)
 case rest =>
  have p:=hcut
  clear hcut o
  have o:=Z2 p
  clear p
  have U:(hi:Int)-1=((hi-1:Nat):Int):=by omega
  obtain⟨M,N⟩:∃M,hi-1=M:=⟨_,rfl⟩
  rw[N] at U
  have hj1:M+1=hi:=by omega
  clear N
  go_upto_block 0 with fail
  go_cut [10,11] from 30 to 45 (fun s z C=>∃i j:Nat,lo+1<=i/\i<=hi/\lo<=j/\j<hi/\s = .int .i64 (i:Int)/\z = .int .i64 (j:Int)/\Srt w τ b off ys ss C)
  case first =>
   go_wp2_with fail
   go_loopw [10] (fun s wr=>∃(i:Nat),lo+1<=i/\i<=hi/\s = .int .i64 (i:Int)/\Srt w τ b off ys ss wr) (fun s _=>hi-(intOf s).toNat)
   case atStart=>exact⟨_,Z0 _,by omega,rfl,o.out⟩
   case round =>
    obtain⟨i,f1,f2,rfl,D⟩:=hrel
    obtain⟨G,x,y,k,d⟩:=D.fam J.out
    have m:=Z2 k
    clear k D d
    by_cases O:i<=M
    ·have q:(i:Int)<=(M:Int):=by omega
     go_wp2_with fail
     go_big_quiet (first|(go_at_call 278;refine Calls.quiet_of_same (Jgu _ _ _)))
     go_wp2_with fail
     ·go_round
      case rel=>exact⟨i+1,by omega,by omega,by simp,m.out _⟩
      case measure=>simp[intOf] <;> omega
     ·go_meet
      case rel=>exact⟨i,M,f1,f2,by omega,by omega,rfl,rfl,m.out _⟩
    ·have q:decide ((i:Int)<=(M:Int))=false:=decide_eq_false (by omega)
     go_wp2_with fail
     go_big_quiet (first|(go_at_call 278;refine Calls.quiet_of_same (Jgu _ _ _)))
     go_wp2_with fail
     go_meet
     case rel=>exact⟨i,M,f1,f2,by omega,by omega,rfl,rfl,m.out _⟩
  case rest =>
   obtain⟨i0,j9,Z,a2,a3,a4,rfl,rfl,p⟩:=hcut
   clear o
   have o:=Z2 p
   clear p
   go_upto_block 2 with fail
   go_cut [10,11] from 46 to 62 (fun s z C=>∃i j:Nat,lo+1<=i/\i<=hi/\lo<=j/\j<hi/\s = .int .i64 (i:Int)/\z = .int .i64 (j:Int)/\Srt w τ b off ys ss C)
   case first =>
    go_wp2_with fail
    go_loopw [11] (fun z wr=>∃(j:Nat),lo<=j/\j<hi/\z = .int .i64 (j:Int)/\Srt w τ b off ys ss wr) (fun z _=>(intOf z).toNat)
    case atStart=>exact⟨_,by omega,by omega,rfl,o.out⟩
    case round =>
     obtain⟨j,f1,f2,rfl,D⟩:=hrel
     obtain⟨G,x,y,k,d⟩:=D.fam J.out
     have m:=Z2 k
     clear k D d
     by_cases O:i0<=j
     ·have q:(i0:Int)<=(j:Int):=by omega
      go_wp2_with fail
      go_big_quiet (first|(go_at_call 278;refine Calls.quiet_of_same (Jgu _ _ _)))
      go_wp2_with fail
      ·go_round
       case rel=>exact⟨j-1,by omega,by omega,by congr 1;omega,m.out _⟩
       case measure=>simp[intOf] <;> omega
      ·go_meet
       case rel=>exact⟨i0,j,by omega,by omega,f1,f2,rfl,rfl,m.out _⟩
     ·have q:decide ((i0:Int)<=(j:Int))=false:=decide_eq_false (by omega)
      go_wp2_with fail
      go_big_quiet (first|(go_at_call 278;refine Calls.quiet_of_same (Jgu _ _ _)))
      go_wp2_with fail
      go_meet
      case rel=>exact⟨i0,j,by omega,by omega,f1,f2,rfl,rfl,m.out _⟩
   case rest =>
    obtain⟨i1,F,b1,b2,b3,b4,rfl,rfl,p⟩:=hcut
    clear o
    have o:=Z2 p
    clear p
    by_cases X:F<i1
    ·have E:(F:Int)<(i1:Int):=by omega
     obtain⟨G,x,y,k,d⟩:=o.out.fam J.out
     by_cases B:lo=F
     case' pos =>
      have l:=d 1 lo lo _ _ (by omega) (by omega) rfl rfl
      subst B
     case' neg =>
      have l:=d 1 F lo _ _ (by omega) (by omega) rfl rfl
      have L:¬F=lo:=fun h=>B h.symm
     all_goals (
      have r:=Z2 l
      clear l k d
      go_wp2_with fail
      go_region
      go_wp2_with fail
      go_ret2
      exact⟨⟨_,_,rfl,by omega,by omega⟩,r.out⟩)
    ·have E:¬(F:Int)<(i1:Int):=by omega
     go_upto_region 10 with fail
     go_cut [] from 81 to 94 (fun C=>Srt w τ b off ys ss C)
     case first =>
      obtain⟨G,x,y,k,d⟩:=o.out.fam J.out
      by_cases B:i1=F
      case' pos =>
       have l:=d 1 i1 i1 _ _ (by omega) (by omega) rfl rfl
       subst B
      case' neg =>
       have l:=d 1 i1 F _ _ (by omega) (by omega) rfl rfl
       have L:¬i1=F:=B
      all_goals (
       have r:=Z2 l
       clear l k d
       go_region
       go_wp2_with fail
       go_meet
       case rel=>exact r.out)
     case rest =>
      have p:=hcut
      clear hcut o
      have o:=Z2 p
      clear p
      go_wp2_with fail
      go_loopw [10,11] (fun s z wr=>∃i j:Nat,lo+1<=i/\i<=hi/\lo<=j/\j<hi/\s = .int .i64 (i:Int)/\z = .int .i64 (j:Int)/\Srt w τ b off ys ss wr) (fun s _ _=>hi-(intOf s).toNat)
      case atStart=>exact⟨i1+1,F-1,by omega,by omega,by omega,by omega,by simp,by congr 1;omega,o.out⟩
      case round =>
       clear o
       obtain⟨i2,R,c1,c2,c3,c4,rfl,rfl,p⟩:=hrel
       have o:=Z2 p
       clear p
       go_upto_block 6 with fail
       go_cut [10,11] from 99 to 152 (fun s z C=>∃i j:Nat,i2<=i/\i<=hi/\lo<=j/\j<hi/\s = .int .i64 (i:Int)/\z = .int .i64 (j:Int)/\Srt w τ b off ys ss C)
       case first =>
        go_wp2_with fail
        go_loopw [10] (fun s wr=>∃(i:Nat),i2<=i/\i<=hi/\s = .int .i64 (i:Int)/\Srt w τ b off ys ss wr) (fun s _=>hi-(intOf s).toNat)
        case atStart=>exact⟨_,by omega,by omega,rfl,o.out⟩
        case round =>
         obtain⟨i,f1,f2,rfl,D⟩:=hrel
         obtain⟨G,x,y,k,d⟩:=D.fam J.out
         have m:=Z2 k
         clear k D d
         by_cases O:i<=R
         ·have q:(i:Int)<=(R:Int):=by omega
          go_wp2_with fail
          go_big_quiet (first|(go_at_call 278;refine Calls.quiet_of_same (Jgu _ _ _)))
          go_wp2_with fail
          ·go_round
           case rel=>exact⟨i+1,by omega,by omega,by simp,m.out _⟩
           case measure=>simp[intOf] <;> omega
          ·go_meet
           case rel=>exact⟨i,R,f1,f2,by omega,by omega,rfl,rfl,m.out _⟩
         ·have q:decide ((i:Int)<=(R:Int))=false:=decide_eq_false (by omega)
          go_wp2_with fail
          go_big_quiet (first|(go_at_call 278;refine Calls.quiet_of_same (Jgu _ _ _)))
          go_wp2_with fail
          go_meet
          case rel=>exact⟨i,R,f1,f2,by omega,by omega,rfl,rfl,m.out _⟩
       case rest =>
        obtain⟨i3,j3,Z,a2,a3,a4,rfl,rfl,p⟩:=hcut
        clear o
        have o:=Z2 p
        clear p
        go_upto_block 8 with fail
        go_cut [10,11] from 99 to 152 (fun s z C=>∃i j:Nat,i2<=i/\i<=hi/\lo<=j/\j<hi/\s = .int .i64 (i:Int)/\z = .int .i64 (j:Int)/\Srt w τ b off ys ss C)
        case first =>
         go_wp2_with fail
         go_loopw [11] (fun z wr=>∃(j:Nat),lo<=j/\j<hi/\z = .int .i64 (j:Int)/\Srt w τ b off ys ss wr) (fun z _=>(intOf z).toNat)
         case atStart=>exact⟨_,by omega,by omega,rfl,o.out⟩
         case round =>
          obtain⟨j,f1,f2,rfl,D⟩:=hrel
          obtain⟨G,x,y,k,d⟩:=D.fam J.out
          have m:=Z2 k
          clear k D d
          by_cases O:i3<=j
          ·have q:(i3:Int)<=(j:Int):=by omega
           go_wp2_with fail
           go_big_quiet (first|(go_at_call 278;refine Calls.quiet_of_same (Jgu _ _ _)))
           go_wp2_with fail
           ·go_round
            case rel=>exact⟨j-1,by omega,by omega,by congr 1;omega,m.out _⟩
            case measure=>simp[intOf] <;> omega
           ·go_meet
            case rel=>exact⟨i3,j,by omega,by omega,f1,f2,rfl,rfl,m.out _⟩
          ·have q:decide ((i3:Int)<=(j:Int))=false:=decide_eq_false (by omega)
           go_wp2_with fail
           go_big_quiet (first|(go_at_call 278;refine Calls.quiet_of_same (Jgu _ _ _)))
           go_wp2_with fail
           go_meet
           case rel=>exact⟨i3,j,by omega,by omega,f1,f2,rfl,rfl,m.out _⟩
        case rest =>
         obtain⟨i4,I,b1,b2,b3,b4,rfl,rfl,p⟩:=hcut
         clear o
         have o:=Z2 p
         clear p
         by_cases X:I<i4
         ·have E:(I:Int)<(i4:Int):=by omega
          obtain⟨G,x,y,k,d⟩:=o.out.fam J.out
          by_cases B:lo=I
          case' pos =>
           have l:=d 1 lo lo _ _ (by omega) (by omega) rfl rfl
           subst B
          case' neg =>
           have l:=d 1 I lo _ _ (by omega) (by omega) rfl rfl
           have L:¬I=lo:=fun h=>B h.symm
          all_goals (
           have r:=Z2 l
           clear l k d
           go_wp2_with fail
           go_region
           go_wp2_with fail
           go_ret2
           exact⟨⟨_,_,rfl,by omega,by omega⟩,r.out⟩)
         ·have E:¬(I:Int)<(i4:Int):=by omega
          go_upto_region 18 with fail
          go_cut [] from 99 to 152 (fun C=>Srt w τ b off ys ss C)
          case first =>
           obtain⟨G,x,y,k,d⟩:=o.out.fam J.out
           by_cases B:i4=I
           case' pos =>
            have l:=d 1 i4 i4 _ _ (by omega) (by omega) rfl rfl
            subst B
           case' neg =>
            have l:=d 1 i4 I _ _ (by omega) (by omega) rfl rfl
            have L:¬i4=I:=B
           all_goals (
            have r:=Z2 l
            clear l k d
            go_region
            go_wp2_with fail
            go_meet
            case rel=>exact r.out)
          case rest =>
           have p:=hcut
           clear hcut o
           have o:=Z2 p
           clear p
           go_wp2_with fail
           go_round
           case rel=>exact⟨i4+1,I-1,by omega,by omega,by omega,by omega,by simp,by congr 1;omega,o.out⟩
           case measure=>simp[intOf] <;> omega
end
end Go.Proofs.YtemacanaihaldaaGreat
namespace Go.Proofs.YtemacanaihaldaaGreat
open Go.RowKit
section
variable {w wr : World} {τ : Tags} {b off : Nat} {ys : List Value} {ss : List Nat} {n : Nat}
theorem Jhh (h:Srt w τ b off ys ss wr) (hn:ss.length=n) {lo hi pv cap:Nat}(hh:hi<=n) (h1:lo<hi) (hp1:lo<=pv) (hp2:pv<hi) (hsz:n<=1000000) :
 Calls Tryz.prog 279 #[.slice (some ⟨b,off,none⟩) n cap,.int .i64 (lo:Int),.int .i64 (hi:Int),.int .i64 (pv:Int)] wr fun e O=>PartE lo hi (Srt w τ b off ys ss O) e:=by
 have l:=h
 clear h
 obtain⟨m,J⟩:=hid2 l hn
 clear l hn
 go_enter Tryz.func279,Tryz.ntmps279
 go_upto_region 1 with fail
 go_cut [] from 11 to 24 (fun x=>Srt w τ b off ys ss x)
 case first =>
  obtain⟨G,y,z,k,d⟩:=m.out.fam J.out
  by_cases D:lo=pv
  case' pos =>
   have o:=d 1 lo lo _ _ (by omega) (by omega) rfl rfl
   subst D
  case' neg =>
   have o:=d 1 lo pv _ _ (by omega) (by omega) rfl rfl
   have L:¬lo=pv:=D
  all_goals (
   have B:=Z2 o
   clear o k d
   go_region
   go_wp2_with fail
   go_meet
   case rel=>exact B.out)
 case rest =>
  have l:=hcut
  clear hcut m
  have m:=Z2 l
  clear l
  have M:(hi:Int)-1=((hi-1:Nat):Int):=by omega
  go_wp2_with fail
  go_loopw [9,10] (fun q s wr=>∃i j:Nat,lo+1<=i/\i<=hi/\lo<=j/\j<hi/\q = .int .i64 (i:Int)/\s = .int .i64 (j:Int)/\Srt w τ b off ys ss wr) (fun q _ _=>hi-(intOf q).toNat)
  case atStart=>exact⟨lo+1,hi-1,by omega,by omega,by omega,by omega,by simp,by congr 1,m.out⟩
  case round =>
   clear m M
   obtain⟨i2,E,c1,c2,c3,c4,rfl,rfl,l⟩:=hrel
   have m:=Z2 l
   clear l
   go_upto_block 2 with fail
   go_cut [9,10] from 29 to 82 (fun q s x=>∃i j:Nat,i2<=i/\i<=hi/\lo<=j/\j<hi/\q = .int .i64 (i:Int)/\s = .int .i64 (j:Int)/\Srt w τ b off ys ss x)
   case first =>
    go_wp2_with fail
    go_loopw [9] (fun q wr=>∃(i:Nat),i2<=i/\i<=hi/\q = .int .i64 (i:Int)/\Srt w τ b off ys ss wr) (fun q _=>hi-(intOf q).toNat)
    case atStart=>exact⟨_,by omega,by omega,rfl,m.out⟩
    case round =>
     obtain⟨i,f1,f2,rfl,F⟩:=hrel
     obtain⟨G,y,z,k,d⟩:=F.fam J.out
     have p:=Z2 k
     clear k F d
     by_cases N:i<=E
     ·have r:(i:Int)<=(E:Int):=by omega
      go_wp2_with fail
      go_big_quiet (first|(go_at_call 278;refine Calls.quiet_of_same (Jgu _ _ _)))
      go_wp2_with fail
      ·go_round
       case rel=>exact⟨i+1,by omega,by omega,by simp,p.out _⟩
       case measure=>simp[intOf] <;> omega
      ·go_meet
       case rel=>exact⟨i,E,f1,f2,by omega,by omega,rfl,rfl,p.out _⟩
     ·have r:decide ((i:Int)<=(E:Int))=false:=decide_eq_false (by omega)
      go_wp2_with fail
      go_big_quiet (first|(go_at_call 278;refine Calls.quiet_of_same (Jgu _ _ _)))
      go_wp2_with fail
      go_meet
      case rel=>exact⟨i,E,f1,f2,by omega,by omega,rfl,rfl,p.out _⟩
   case rest =>
    obtain⟨i3,j3,a1,a2,a3,a4,rfl,rfl,l⟩:=hcut
    clear m
    have m:=Z2 l
    clear l
    go_upto_block 4 with fail
    go_cut [9,10] from 29 to 82 (fun q s x=>∃i j:Nat,i2<=i/\i<=hi/\lo<=j/\j<hi/\q = .int .i64 (i:Int)/\s = .int .i64 (j:Int)/\Srt w τ b off ys ss x)
    case first =>
     go_wp2_with fail
     go_loopw [10] (fun s wr=>∃(j:Nat),lo<=j/\j<hi/\s = .int .i64 (j:Int)/\Srt w τ b off ys ss wr) (fun s _=>(intOf s).toNat)
     case atStart=>exact⟨_,by omega,by omega,rfl,m.out⟩
     case round =>
      obtain⟨j,f1,f2,rfl,F⟩:=hrel
      obtain⟨G,y,z,k,d⟩:=F.fam J.out
      have p:=Z2 k
      clear k F d
      by_cases N:i3<=j
      ·have r:(i3:Int)<=(j:Int):=by omega
       go_wp2_with fail
       go_big_quiet (first|(go_at_call 278;refine Calls.quiet_of_same (Jgu _ _ _)))
       go_wp2_with fail
       ·go_round
        case rel=>exact⟨j-1,by omega,by omega,by congr 1;omega,p.out _⟩
        case measure=>simp[intOf] <;> omega
       ·go_meet
        case rel=>exact⟨i3,j,by omega,by omega,f1,f2,rfl,rfl,p.out _⟩
      ·have r:decide ((i3:Int)<=(j:Int))=false:=decide_eq_false (by omega)
       go_wp2_with fail
       go_big_quiet (first|(go_at_call 278;refine Calls.quiet_of_same (Jgu _ _ _)))
       go_wp2_with fail
       go_meet
       case rel=>exact⟨i3,j,by omega,by omega,f1,f2,rfl,rfl,p.out _⟩
    case rest =>
     obtain⟨i4,C,b1,b2,b3,b4,rfl,rfl,l⟩:=hcut
     clear m
     have m:=Z2 l
     clear l
     by_cases hgt:C<i4
     ·have I:(C:Int)<(i4:Int):=by omega
      go_wp2_with fail
      go_ret
      exact⟨⟨i4,rfl,by omega,by omega⟩,m.out⟩
     ·have I:¬(C:Int)<(i4:Int):=by omega
      go_upto_region 8 with fail
      go_cut [] from 29 to 82 (fun x=>Srt w τ b off ys ss x)
      case first =>
       obtain⟨G,y,z,k,d⟩:=m.out.fam J.out
       by_cases D:i4=C
       case' pos =>
        have o:=d 1 i4 i4 _ _ (by omega) (by omega) rfl rfl
        subst D
       case' neg =>
        have o:=d 1 i4 C _ _ (by omega) (by omega) rfl rfl
        have L:¬i4=C:=D
       all_goals (
        have B:=Z2 o
        clear o k d
        go_region
        go_wp2_with fail
        go_meet
        case rel=>exact B.out)
      case rest =>
       have l:=hcut
       clear hcut m
       have m:=Z2 l
       clear l
       go_wp2_with fail
       go_round
       case rel=>exact⟨i4+1,C-1,by omega,by omega,by omega,by omega,by simp,by congr 1;omega,m.out⟩
       case measure=>simp[intOf] <;> omega
end
end Go.Proofs.YtemacanaihaldaaGreat
namespace Go.Proofs.YtemacanaihaldaaGreat
open Go.RowKit
section
variable {w wr : World} {τ : Tags} {b off : Nat} {ys : List Value} {ss : List Nat} {n : Nat}
theorem Jix (h:Srt w τ b off ys ss wr) (hn:ss.length=n) {lo hi cap:Nat}(hh:hi<=n) (h1:lo+1<=hi) (r:n<=1000000) :
 Calls Tryz.prog 273 #[.slice (some ⟨b,off,none⟩) n cap,.int .i64 (lo:Int),.int .i64 (hi:Int)] wr fun e z=>e = .returned (.tuple #[])/\Srt w τ b off ys ss z:=by
 obtain⟨m,I⟩:∃m,hi=lo+m:=⟨hi-lo,by omega⟩
 have hmI:(hi:Int)-(lo:Int)=(m:Int):=by omega
 have hmn:lo+m<=n:=by omega
 have hm1:1<=m:=by omega
 clear I hh h1
 obtain⟨B,C⟩:=hid2 h hn
 clear h hn
 go_enter Tryz.func273,Tryz.ntmps273
 go_wp2_with fail
 go_loopw [9] (fun v wr=>∃i:Int,-1<=i/\i<(m:Int)/\v = .int .i64 i/\Srt w τ b off ys ss wr) (fun v _=>(intOf v+1).toNat)
 case atStart=>exact⟨_,by omega,by omega,rfl,B.out⟩
 case round =>
  obtain⟨i,hi1,hi2,rfl,d⟩:=hrel
  by_cases D:0<=i
  ·obtain⟨k,rfl⟩:=Int.eq_ofNat_of_zero_le D
   have j:=Jij d C.out (lo:=k) (hi:=m) (first:=lo) (cap:=cap) (by omega) (by omega) r
   have o:=Z2 j
   clear j d
   go_wp2_with fail
   refine o.out.mono ?_
   rintro e z ⟨rfl,d⟩
   have l:=Z2 d
   clear d
   go_wp2_with fail
   go_round
   case rel=>exact⟨(k:Int)-1,by omega,by omega,rfl,l.out⟩
   case measure=>simp[intOf] <;> omega
  ·have l:=Z2 d
   clear d
   go_wp2_with fail
   go_loopw [10] (fun v wr=>∃i:Int,-1<=i/\i<(m:Int)/\v = .int .i64 i/\Srt w τ b off ys ss wr) (fun v _=>(intOf v+1).toNat)
   case atStart=>exact⟨_,by omega,by omega,rfl,l.out⟩
   case round =>
    clear l
    obtain⟨J,hi1',hi2',rfl,d⟩:=hrel
    by_cases s:0<=J
    ·obtain⟨k,rfl⟩:=Int.eq_ofNat_of_zero_le s
     obtain⟨G,hcw,hfw,x,y⟩:=d.fam C.out
     obtain⟨E,p⟩:=hid2 x y
     clear x y d
     by_cases hke:lo+k=lo
     case' pos=>have q:=p.out 1 lo lo _ _ (by omega) (by omega) rfl rfl
     case' neg=>have q:=p.out 1 lo (lo+k) _ _ (by omega) (by omega) rfl rfl
     all_goals (
      have F:=Z2 q
      clear q p E
      go_wp2_with fail
      go_region
      have j:=Jij F.out C.out (lo:=0) (hi:=k) (first:=lo) (cap:=cap) (by omega) (by omega) r
      have o:=Z2 j
      clear j
      go_wp2_with fail
      refine o.out.mono ?_
      rintro e z ⟨rfl,d⟩
      have l:=Z2 d
      clear d
      go_wp2_with fail
      go_round
      case rel=>exact⟨(k:Int)-1,by omega,by omega,rfl,l.out⟩
      case measure=>simp[intOf] <;> omega)
    ·have l:=Z2 d
     clear d
     go_wp2_with fail
     go_returns
     exact⟨rfl,l.out⟩
theorem Jh3 (h:Srt w τ b off ys ss wr) (hn:ss.length=n) {lo hi cap:Nat}(hh:hi<=n) (h1:lo<=hi) (hsz:n<=1000000) :
 Calls Tryz.prog 276 #[.slice (some ⟨b,off,none⟩) n cap,.int .i64 (lo:Int),.int .i64 (hi:Int)] wr fun e s=>e = .returned (.tuple #[])/\Srt w τ b off ys ss s:=by
 obtain⟨o,x⟩:=hid2 h hn
 clear h hn
 go_enter Tryz.func276,Tryz.ntmps276
 go_wp2_with fail
 go_loopw [6,7] (fun p q wr=>∃(i:Nat) (j:Int),i<=n /\ -1<=j/\j<(n:Int)/\p = .int .i64 (i:Int)/\q = .int .i64 j/\Srt w τ b off ys ss wr) (fun p q _=>(intOf q-intOf p).toNat)
 case atStart=>exact⟨lo,(hi:Int)-1,by omega,by omega,by omega,rfl,rfl,o.out⟩
 case round =>
  obtain⟨i,j,g1,g2,g3,rfl,rfl,m⟩:=hrel
  by_cases hij:(i:Int)<j
  ·obtain⟨k,rfl⟩:=Int.eq_ofNat_of_zero_le (show 0<=j by omega)
   obtain⟨G,hcw,hfw,d,l⟩:=m.fam x.out
   obtain⟨Hdr,r⟩:=hid2 d l
   clear d l m
   go_wp2_with fail
   go_region
   go_wp2_with fail
   go_round
   case rel=>exact⟨i+1,(k:Int)-1,by omega,by omega,by omega,by simp,rfl,r.out 1 i k _ _ (by omega) (by omega) rfl rfl⟩
   case measure=>simp[intOf] <;> omega
  ·have y:=Z2 m
   clear m
   go_wp2_with fail
   go_returns
   exact⟨rfl,y.out⟩
end
