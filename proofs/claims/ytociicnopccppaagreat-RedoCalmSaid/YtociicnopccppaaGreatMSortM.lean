/-
 A row of dirty pages,sorted by their numbers.
-/
import Derived.Test.YtociicnopccppaaGreatMPoolT
import Derived.Test.YtociicnopccppaaGreatSortL
import Derived.Test.YtociicnopccppaaGreatMSortK
set_option linter.all false
namespace Go.Proofs.YtociicnopccppaaGreat
open Go.RowKit Go.Lib Go.Sort
theorem Jdu (w:World) (x y:Int):Calls Tryz.prog 98 #[.int .u32 x,.int .u32 y] w fun e d=>e = .returned (.int .i64 (compareInt x y))/\w=d:=by
 have h1:=Jdd w x
 have h2:=Jdd w y
 obtain⟨H1,c⟩:=qaj h1 h2
 clear h1 h2
 unfold compareInt
 by_cases a:x<y
 ·rw[if_pos a]
  go_enter Tryz.func98,Tryz.ntmps98
  go_wp2_with fail
  refine zC H1 ?_
  go_wp2_with fail
  refine zC c ?_
  go_wp2_with fail
  go_ret
  exact⟨rfl,rfl⟩
 ·rw[if_neg a]
  by_cases b:x>y
  ·rw[if_pos b]
   go_enter Tryz.func98,Tryz.ntmps98
   go_wp2_with fail
   refine zC H1 ?_
   go_wp2_with fail
   refine zC c ?_
   go_wp2_with fail
   go_ret
   exact⟨rfl,rfl⟩
  ·rw[if_neg b]
   go_enter Tryz.func98,Tryz.ntmps98
   go_wp2_with fail
   refine zC H1 ?_
   go_wp2_with fail
   refine zC c ?_
   go_wp2_with fail
   go_ret
   exact⟨rfl,rfl⟩
def dCmp (x y:Nat×Nat):Int:=compareInt (x.1:Int) (y.1:Int)
theorem Jel (x y:Nat×Nat) (W:World):Calls Tryz.prog 97 #[.agg #[.int .u32 x.1,.int .u64 x.2],.agg #[.int .u32 y.1,.int .u64 y.2]] W fun e d=>e = .returned (.int .i64 (dCmp x y))/\∃q c,d=grow (W.drewN q) c:=by
 have a:=fun g=>Jdu g (x.1:Int) (y.1:Int)
 show Calls _ _ _ _ (fun e d=>e = .returned (.int .i64 (compareInt (x.1:Int) (y.1:Int)))/\_)
 generalize compareInt (x.1:Int) (y.1:Int)=r at a ⊢
 have b:=Z2 a
 clear a
 go_enter Tryz.func97,Tryz.ntmps97
 go_wp2_with fail
 refine zC (b _) ?_
 go_wp2_with fail
 go_ret
 exact⟨rfl,0,_,by rw[alloc_eq_grow,alloc_eq_grow,grow_grow];rfl⟩
theorem Jdt (x y:Nat×Nat):ltOf dCmp x y=decide (x.1<y.1):=by
 unfold ltOf dCmp compareInt
 by_cases h:x.1<y.1
 ·rw[if_pos oM,decide_eq_true h];rfl
 ·rw[if_neg oM,decide_eq_false h]
  split <;> rfl
theorem Jgh:SWO (ltOf dCmp):=by
 refine⟨fun x=>?_,fun x y z h1 h2=>?_,fun x y z h1 h2=>?_⟩
 ·rw[Jdt];simp
 ·rw[Jdt] at *
  have:=of_decide_eq_true h1
  have:=of_decide_eq_true h2
  exact decide_eq_true oM
 ·rw[Jdt] at *
  have:=of_decide_eq_false h1
  have:=of_decide_eq_false h2
  exact decide_eq_false oM
theorem Jdm (d:Array (Nat×Nat)) (i:Nat) (h:i<d.size*2):(Qf1 d.toList)[i]?=some ((flatK qh4 2 d)[i]!):=by
 rw[get_flatK qh4 2 d i h]
 have h1:i/2<d.toList.length:=by rw[Array.length_toList];omega
 have h2:=Ja0 d.toList (i/2) (i%2) oM h1
 rw[show i/2*2+i%2=i by omega] at h2
 rw[h2]
 have b:d[i/2]! = d.toList[i/2]:=by
  rw[getElem!_pos d (i/2) oM];rfl
 rw[b]
 have a:i%2=0\/i%2=1:=oM
 rcases a with a|a <;> rw[a] <;> rfl
theorem Jdy (K:Nat) (hK:K<=1000000):SortD K:=by
 intro n0 W T v l hl o
 obtain⟨hx,⟨rfl,q⟩|⟨b,cap,ys,rfl,p,E,L,M⟩⟩:=o.buf
 ·have r:l=[]:=List.eq_nil_of_length_eq_zero q
  subst r
  refine(Qw4 W _).mono ?_
  rintro e O ⟨q,rfl⟩
  exact⟨q,[],List.Perm.refl _,List.Pairwise.nil,o,Mod.refl _ _⟩
 ·have R:∀args w,(callFunc 97 args).run Tryz.prog w = .ok (.enter 97 args) w:=enters_of Tryz.func97 kR rfl
  have U:HoldsK qh4 2 W b 0 l.toArray:=by
   intro j g
   rw[size_flatK] at g
   rw[Nat.zero_add]
   have X:=Jdm l.toArray j g
   refine⟨?_,p.fz _⟩
   rw[p.cell,Y5 (by rw[Qx5];simpa using g)]
   exact X
  have n:=AnyQ.slices_SortFunc Tryz.sortD 2 Tryz.isAgg84 Tryz.sizeOf84 qh4 (fun _=>rfl) (fun x u F=>by simp[qh4] at F;rcases F with rfl|rfl <;> rfl) dCmp Jgh 97 #[] b 0 cap l.toArray W R (fun _ _ _ _ x y=>Jel x y _) U p.lt (by simp;omega)
  rw[show l.toArray.size=l.length by simp] at n
  refine n.mono ?_
  rintro e O ⟨q,c,m,os,G,Y,rfl⟩
  have h:c.size=l.length:=by rw[G.1];simp
  have d:(sortWorldK qh4 2 W b 0 m c os).heap=(W.heap.modify b (onCells (putCells id 0 (flatK qh4 2 c))))++os:=rfl
  have C:=p.lt
  have a:c.toList.length=l.length:=by rw[Array.length_toList,h]
  have s:(putCells id 0 (flatK qh4 2 c) ⟨Qf1 l++ys⟩)=⟨Qf1 c.toList++ys⟩:=by
   apply Array.ext_getElem?
   intro j
   unfold putCells
   rw[Array.getElem?_mapIdx]
   simp only[List.getElem?_toArray,size_flatK,Nat.zero_add,Z9,true_and,Nat.sub_zero,h,id]
   by_cases g:j<l.length*2
   ·rw[Y5 (by rw[Qx5];exact g),Y5 (by rw[Qx5,a];exact g),Jdm c j (by rw[h];exact g),Z3 (by rw[Qx5];exact g)]
    simp[g]
   ·rw[Y6 (by rw[Qx5];omega),Y6 (by rw[Qx5,a];omega),Qx5,Qx5,a]
    cases ys[j-l.length*2]? with
    | none=>rfl
    | some u=>simp[g]
  have z:Own (sortWorldK qh4 2 W b 0 m c os) T b qch 84 (Qf1 c.toList++ys):=by
   refine⟨?_,p.tag⟩
   rw[d,Array.getElem?_append_left (by simpa using C),Array.getElem?_modify,if_pos rfl,p.row]
   show some (Obj.cells _ _ _)=_
   rw[s]
  have B:Mod W (sortWorldK qh4 2 W b 0 m c os) (fun k=>(Value.slice (some ⟨b,0,none⟩) l.length cap).ownBlock=some k):=by
   refine⟨rfl,rfl,rfl,?_,fun k Z hn=>?_⟩
   ·rw[d,Array.size_append,Array.size_modify];omega
   ·rw[d,Array.getElem?_append_left (by simpa using Z),Array.getElem?_modify,if_neg (fun e=>hn (by rw[e];rfl))]
  refine⟨q,c.toList,?_,?_,⟨⟨by rw[Qx5,a],.inr ⟨b,cap,ys,by rw[a],z,?_,by rw[a];exact L,M⟩⟩,o.low⟩,B⟩
  ·have I:=G.2.2
   have e1:(c.extract 0 l.length).toList=c.toList:=by rw[<-h];simp
   have e2:(l.toArray.extract 0 l.length).toList=l:=sM
   rw[e1,e2] at I
   exact I
  ·rw[List.pairwise_iff_getElem]
   intro i j hi g D
   have J:=Y i j (Z9 _) D (by rw[<-a];exact g)
   rw[Jdt] at J
   have h8:=of_decide_eq_false J
   rw[Array.length_toList] at hi g
   rw[getElem!_pos c i hi,getElem!_pos c j g] at h8
   simp only[Array.getElem_toList]
   omega
  ·rw[Qx5,a]
   rw[Qx5] at E
   exact E
end Go.Proofs.YtociicnopccppaaGreat
namespace Go.Proofs.YtociicnopccppaaGreat
open Go.RowKit
structure qas (L M:qac):Prop where
 base:M.base=L.base
 stream:M.stream=L.stream
 starts:M.starts=L.starts
 strips:M.strips=L.strips
 qam:M.qam=L.qam
 lasts:L.lasts<=M.lasts
 stamp:M.stamp=L.stamp
theorem qas.refl (L:qac):qas L L:=⟨rfl,rfl,rfl,rfl,rfl,Z0 _,rfl⟩
theorem qas.flush (L:qac) (k:Nat):qas L (flL L k):=by
 obtain⟨a,b,c,d,e⟩:=Qjz L k
 exact⟨a,b,c,d,e,(Qlm L k).1,Jjs L k⟩
theorem qas.trans {L M K:qac}(h:qas L M) (k:qas M K):qas L K:=⟨k.base.trans h.base,k.stream.trans h.stream,k.starts.trans h.starts,k.strips.trans h.strips,k.qam.trans h.qam,Y3 h.lasts k.lasts,k.stamp.trans h.stamp⟩
theorem Qtd {P:List Int}(h:Sound P):qaa P<18446744073709551616:=by
 have h2:=Qjw h.tidy.isB 0 8
 have a:(2:Nat) ^ (8*8)=18446744073709551616:=dC
 rw[a] at h2;exact h2
structure Got (w:World) (τ:qa1) (bp bf bd:Nat) (N:Nat) (H:qaq) (L:qac) (cur:Nat->List Int) (n b:Nat) (w':World) (τ':qa1) (H':qaq) (L':qac) (D':Dev) (F':List Fr) (s':Ck.Clk.St) (i:Nat) (f:Fr):Prop where
 pool:qbz w' τ' bp bf bd H' L' D' F' s'
 good:Good N H'.st L' D' F' cur
 held:Held F' s' i
 at_:F'[i]?=some f
 pg:f.pg=some (b,cur n)
 fn:f.n=n
 hn:H'.n=N
 hl:H'.bl=H.bl
 st:H.st<=H'.st/\H'.st<=H.st+1
 log:qas L L'
 step:Step w τ w' τ' qbe
def GetE (N:Nat) (cur:Nat->List Int) (H:qaq) (L:qac) (F:List Fr) (s:Ck.Clk.St) (i:Nat) (f:Fr) (H1:qaq) (L1:qac) (D1:Dev) (s1:Ck.Clk.St):Prop :=
 s1=qfr (Ck.Clk.qbt s) i f.pg.isSome/\Good N H1.st L1 D1 (F.set i Fr.no) cur/\H1.n=N/\H1.bl=H.bl/\(H.st<=H1.st/\H1.st<=H.st+1)/\qas L L1
theorem Qxw {w:World}{τ:qa1}{bp bf bd N:Nat}{H:qaq}{L:qac}{D:Dev}{F:List Fr}{s:Ck.Clk.St}{cur:Nat->List Int}(h:qbz w τ bp bf bd H L D F s) (q:Good N H.st L D F cur) (Z:Clock F s) (hN:H.n=N) (ab:H.st+1<18446744073709551616) (n:Nat) (hn:n<N) :
 Calls Tryz.prog 54 #[.pointer (some ⟨bp,0,none⟩),.int .u32 n] w fun e Y=>∃b,e = .returned (.tuple #[.pointer (some ⟨b,0,none⟩),.int .u16 0])/\∃M H' L' D' F' s' i f,Got w τ bp bf bd N H L cur n b Y M H' L' D' F' s' i f:=by
 subst hN
 have hn512:=h.pool.n1
 cases hw:Qaq F n with
 | some i =>
   obtain⟨f,l,hh⟩:=(Qa6 h.pool.one n i).1 hw
   obtain⟨b,P,c,r⟩:=Qd7.1 hh
   obtain⟨_,hP,_⟩:=q.frame i f b P l c
   have:=Qzy h.pool n oM hw l (fun k=>by rw[Z.p];omega)
   refine this.mono ?_
   rintro e Y ⟨rfl,hp,hs⟩
   have a0:Step w τ Y τ qb3:=hs.mono (fun g h=>.inr (.inr (.inr (.inl h))))
   exact⟨b,by rw[c];rfl,τ,H,L,D,F,_,i,f,⟨h.turn hp a0,q,Z.hit l (by rw[c];rfl),l,by rw[c,hP,r],r,rfl,rfl,⟨Z0 _,Nat.le_succ _⟩,qas.refl L,a0.mono (fun _ h=>.inl h)⟩⟩
 | none =>
   obtain⟨ad,d⟩:=Z.pick
   generalize hi:Ck.Clk.qfl s=i at *
   obtain⟨f,l⟩:∃f,F[i]?=some f:=⟨_,Z3 d⟩
   have a1:∀(j:Nat) (g:Fr),F[j]?=some g->g.has n=false:=fun j g o=>by
    cases hx:g.has n with
    | false=>rfl
    | true =>
      have:=(Qa6 h.pool.one n j).2 ⟨g,o,hx⟩
      rw[hw] at this;cases this
   have O:qcn (F.set i Fr.no):=qcn.set h.pool.one i Fr.no (fun j n g _ _ _=>Qk8 n)
   have a2:Qaq (F.set i Fr.no) n=none:=by
    cases hx:Qaq (F.set i Fr.no) n with
    | none=>rfl
    | some j =>
      obtain⟨g,o,hh⟩:=(Qa6 O n j).1 hx
      rcases qce d o with ⟨_,rfl⟩|⟨_,R⟩
      ·cases hh
      ·rw[a1 j g R] at hh;cases hh
   have I:∀(j:Nat) (g:Fr),(F.set i Fr.no)[j]?=some g->g.has n=false:=fun j g o=>by
    rcases qce d o with ⟨_,rfl⟩|⟨_,R⟩
    ·rfl
    ·exact a1 j g R
   obtain⟨y,U⟩:=Z.fill l (0,[]) n 0
   have C:=Qwf h n oM ad hi d (Q:=cur n) (GetE H.n cur H L F s i f) (fun w1 τ1 a=>by
    cases c:f.pg with
    | none =>
      have a3:=q.none i f l c
      refine zC (Qm3 a.pool i l c) ?_
      have z:F.set i Fr.no=F:=Qnd (by rw[l,a3])
      refine⟨rfl,H,L,D,Ck.Clk.qbt s,τ1,⟨?_,by rw[z];exact q,rfl,rfl,⟨Z0 _,Nat.le_succ _⟩,qas.refl L⟩,rfl,by rw[z];exact a,Step.refl _ _ _⟩
      rw[c];rfl
    | some x =>
      obtain⟨b,P⟩:=x
      obtain⟨r,hP,_⟩:=q.frame i f b P l c
      have E:Ck.Clk.qc9 (Ck.Clk.qbt s) (i:Int)=qfr (Ck.Clk.qbt s) i f.pg.isSome:=by rw[c];rfl
      by_cases h0:f.first=0
      ·refine(Qlp a.pool i l c h0 oM).mono ?_
       rintro e Y ⟨rfl,X,G⟩
       exact⟨rfl,H,L,D,_,τ1,⟨E,q.drop l h0,rfl,rfl,⟨Z0 _,Nat.le_succ _⟩,qas.refl L⟩,rfl,a.turn X G,G.mono (fun _ h=>.inl h)⟩
      ·have a4:0<f.first:=oM
       have a5:Sound P:=by rw[hP];exact(q.page f.n r).1
       refine(Qrk a q.rise q.cap q.f0 (by rw[q.f1];omega) (q.calm.lim _) ab l c r a4 rfl (Qtd a5)).mono ?_
       rintro e Y ⟨rfl,k,fl,af,ag,X,G⟩
       obtain⟨ah,-,-⟩:=q.write l c a4 ag
       have ai:=(Z4 l).1
       have a6:=ah.drop (i:=i) (f:={f with first:=0}) (List.getElem?_set_self ai) rfl
       rw[List.set_set] at a6
       exact⟨rfl,{H with st:=H.st+1},_,_,_,af,⟨E,a6,rfl,rfl,⟨Nat.le_succ _,Z0 _⟩,qas.flush L _⟩,rfl,X,G⟩) (fun w1 τ1 H1 L1 D1 s1 hE a=>by
    obtain⟨_,B,a7,_,J,_⟩:=hE
    obtain⟨Q,hQ,hq⟩:=B.home n hn
    have am:Q=cur n:=hq (fun j g o hh=>by rw[I j g o] at hh;cases hh)
    subst am
    rcases hQ with ⟨h1,h2⟩|⟨s',h1,h2,h3,h4,h5⟩
    ·have:=Qld a.pool.hd a.log a.dev n (by rw[B.f1];omega) h1 (tPg i)
     rw[<-h2] at this
     exact this
    ·exact Qvk a.pool.hd a.log a.dev n (by rw[B.f1];omega) (st:=s') (by rw[show (2:Nat) ^ 64=18446744073709551616 from by decide];omega) h3 h4 h2 (tPg i)) a2
   refine(Qzz h n oM hw d (GetE H.n cur H L F s i f) C (fun H1 L1 D1 s1 hE k=>by rw[hE.1];exact U k)).mono ?_
   rintro e Y ⟨H1,L1,D1,s1,b,M,rfl,⟨e1,B,a7,an,J,a8⟩,a,E⟩
   subst e1
   have a9:=B.fill (i:=i) (n:=n) (by rw[Y1];exact d) hn I b (List.getElem?_set_self d)
   rw[List.set_set] at a9
   obtain⟨y,-⟩:=Z.fill l (b,cur n) n 0
   exact⟨b,rfl,M,H1,L1,D1,_,_,i,_,⟨a,a9,y,List.getElem?_set_self d,rfl,rfl,a7,an,J,a8,E⟩⟩
