/-
 A row of dirty pages,sorted by their numbers.
-/
import Derived.Test.YtemacanaihaldaaGreatMPoolZ
import Derived.Test.YtemacanaihaldaaGreatSortL
import Derived.Test.YtemacanaihaldaaGreatMSortK
set_option linter.all false
namespace Go.Proofs.YtemacanaihaldaaGreat
open Go.RowKit Go.Lib Go.Sort
theorem Jdu (w:World) (x y:Int):Calls Tryz.prog 148 #[.int .u32 x,.int .u32 y] w fun e b=>e = .returned (.int .i64 (compareInt x y))/\w=b:=by
 have h1:=Jdd w x
 have h2:=Jdd w y
 obtain⟨i,j⟩:=hid2 h1 h2
 clear h1 h2
 unfold compareInt
 by_cases d:x<y
 ·rw[if_pos d]
  go_enter Tryz.func148,Tryz.ntmps148
  go_wp2_with fail
  refine i.out.mono ?_
  rintro e b ⟨rfl,rfl⟩
  go_wp2_with fail
  refine j.out.mono ?_
  rintro e b ⟨rfl,rfl⟩
  go_wp2_with fail
  go_ret
  exact⟨rfl,rfl⟩
 ·rw[if_neg d]
  by_cases h:x>y
  ·rw[if_pos h]
   go_enter Tryz.func148,Tryz.ntmps148
   go_wp2_with fail
   refine i.out.mono ?_
   rintro e b ⟨rfl,rfl⟩
   go_wp2_with fail
   refine j.out.mono ?_
   rintro e b ⟨rfl,rfl⟩
   go_wp2_with fail
   go_ret
   exact⟨rfl,rfl⟩
  ·rw[if_neg h]
   go_enter Tryz.func148,Tryz.ntmps148
   go_wp2_with fail
   refine i.out.mono ?_
   rintro e b ⟨rfl,rfl⟩
   go_wp2_with fail
   refine j.out.mono ?_
   rintro e b ⟨rfl,rfl⟩
   go_wp2_with fail
   go_ret
   exact⟨rfl,rfl⟩
def dCmp (x y:Nat×Nat):Int:=compareInt (x.1:Int) (y.1:Int)
theorem Jel (x y:Nat×Nat) (W:World):Calls Tryz.prog 147 #[.agg #[.int .u32 (x.1:Int),.int .u64 (x.2:Int)],.agg #[.int .u32 (y.1:Int),.int .u64 (y.2:Int)]] W fun e h=>e = .returned (.int .i64 (dCmp x y))/\∃q i,h=grow (W.drewN q) i:=by
 have b:=fun j=>Jdu j (x.1:Int) (y.1:Int)
 show Calls _ _ _ _ (fun e h=>e = .returned (.int .i64 (compareInt (x.1:Int) (y.1:Int)))/\_)
 generalize compareInt (x.1:Int) (y.1:Int)=r at b ⊢
 have d:=Z2 b
 clear b
 go_enter Tryz.func147,Tryz.ntmps147
 go_wp2_with fail
 refine(d.out _).mono ?_
 rintro e h ⟨rfl,rfl⟩
 go_wp2_with fail
 go_ret
 exact⟨rfl,0,_,by rw[alloc_eq_grow,alloc_eq_grow,grow_grow];rfl⟩
theorem Jdt (x y:Nat×Nat):ltOf dCmp x y=decide (x.1<y.1):=by
 unfold ltOf dCmp compareInt
 by_cases h:x.1<y.1
 ·rw[if_pos (by omega),decide_eq_true h];rfl
 ·rw[if_neg (by omega),decide_eq_false h]
  split <;> rfl
theorem Jgh:SWO (ltOf dCmp):=by
 refine⟨fun x=>?_,fun x y z h1 h2=>?_,fun x y z h1 h2=>?_⟩
 ·rw[Jdt];simp
 ·rw[Jdt] at *
  have:=of_decide_eq_true h1
  have:=of_decide_eq_true h2
  exact decide_eq_true (by omega)
 ·rw[Jdt] at *
  have:=of_decide_eq_false h1
  have:=of_decide_eq_false h2
  exact decide_eq_false (by omega)
theorem Jdm (d:Array (Nat×Nat)) (i:Nat) (h:i<d.size*2):(Qf1 d.toList)[i]?=some ((flatK dOne 2 d)[i]!):=by
 rw[get_flatK dOne 2 d i h]
 have h1:i/2<d.toList.length:=by rw[Array.length_toList];omega
 have h2:=Ja0 d.toList (i/2) (i%2) (by omega) h1
 rw[show i/2*2+i%2=i by omega] at h2
 rw[h2]
 have e:d[i/2]! = d.toList[i/2]:=by
  rw[getElem!_pos d (i/2) (by omega)];rfl
 rw[e]
 have b:i%2=0\/i%2=1:=by omega
 rcases b with b|b <;> rw[b] <;> rfl
theorem Jdy (K:Nat) (hK:K<=1000000):SortD K:=by
 intro n0 W T v l hl s
 obtain⟨hx,⟨rfl,B⟩|⟨b,cap,ys,rfl,z,J,O,R⟩⟩:=s.buf
 ·have C:l=[]:=List.eq_nil_of_length_eq_zero B
  subst C
  refine(Qw4 W _).mono ?_
  rintro e U ⟨B,rfl⟩
  exact⟨B,[],List.Perm.refl _,List.Pairwise.nil,s,Mod.refl _ _⟩
 ·have X:∀args w,(callFunc 147 args).run Tryz.prog w = .ok (.enter 147 args) w:=enters_of Tryz.func147 (by kernel_rfl) rfl
  have hH:HoldsK dOne 2 W b 0 l.toArray:=by
   intro j p
   rw[size_flatK] at p
   rw[Nat.zero_add]
   have Y:=Jdm l.toArray j p
   refine⟨?_,z.fz _⟩
   rw[z.cell,Y5 (by rw[Qx5];simpa using p)]
   exact Y
  have r:=AnyQ.slices_SortFunc Tryz.sortD 2 Tryz.isAgg195 Tryz.sizeOf195 dOne (fun _=>rfl) (fun x u hu=>by simp[dOne] at hu;rcases hu with rfl|rfl <;> rfl) dCmp Jgh 147 #[] b 0 cap l.toArray W X (fun _ _ _ _ x y=>Jel x y _) hH z.lt (by simp;omega)
  rw[show l.toArray.size=l.length by simp] at r
  refine r.mono ?_
  rintro e U ⟨B,h,m,os,L,Z,rfl⟩
  have q:h.size=l.length:=by rw[L.1];simp
  have o:(sortWorldK dOne 2 W b 0 m h os).heap=(W.heap.modify b (onCells (putCells id 0 (flatK dOne 2 h))))++os:=rfl
  have G:=z.lt
  have d:h.toList.length=l.length:=by rw[Array.length_toList,q]
  have D:(putCells id 0 (flatK dOne 2 h) ⟨Qf1 l++ys⟩)=⟨Qf1 h.toList++ys⟩:=by
   apply Array.ext_getElem?
   intro j
   unfold putCells
   rw[Array.getElem?_mapIdx]
   simp only[List.getElem?_toArray,size_flatK,Nat.zero_add,Z9,true_and,Nat.sub_zero,q,id]
   by_cases p:j<l.length*2
   ·rw[Y5 (by rw[Qx5];exact p),Y5 (by rw[Qx5,d];exact p),Jdm h j (by rw[q];exact p),Z3 (by rw[Qx5];exact p)]
    simp[p]
   ·rw[Y6 (by rw[Qx5];omega),Y6 (by rw[Qx5,d];omega),Qx5,Qx5,d]
    cases ys[j-l.length*2]? with
    | none=>rfl
    | some u=>simp[p]
  have E:Own (sortWorldK dOne 2 W b 0 m h os) T b tDirt 195 (Qf1 h.toList++ys):=by
   refine⟨?_,z.tag⟩
   rw[o,Array.getElem?_append_left (by simpa using G),Array.getElem?_modify,if_pos rfl,z.row]
   show some (Obj.cells _ _ _)=_
   rw[D]
  have F:Mod W (sortWorldK dOne 2 W b 0 m h os) (fun k=>(Value.slice (some ⟨b,0,none⟩) l.length cap).ownBlock=some k):=by
   refine⟨rfl,rfl,rfl,?_,fun k hk hn=>?_⟩
   ·rw[o,Array.size_append,Array.size_modify];omega
   ·rw[o,Array.getElem?_append_left (by simpa using hk),Array.getElem?_modify,if_neg (fun e=>hn (by rw[e];rfl))]
  refine⟨B,h.toList,?_,?_,⟨⟨by rw[Qx5,d],.inr ⟨b,cap,ys,by rw[d],E,?_,by rw[d];exact O,R⟩⟩,s.low⟩,F⟩
  ·have M:=L.2.2
   have e1:(h.extract 0 l.length).toList=h.toList:=by rw[<-q];simp
   have e2:(l.toArray.extract 0 l.length).toList=l:=by simp
   rw[e1,e2] at M
   exact M
  ·rw[List.pairwise_iff_getElem]
   intro i j hi p I
   have N:=Z i j (Z9 _) I (by rw[<-d];exact p)
   rw[Jdt] at N
   have h8:=of_decide_eq_false N
   rw[Array.length_toList] at hi p
   rw[getElem!_pos h i hi,getElem!_pos h j p] at h8
   simp only[Array.getElem_toList]
   omega
  ·rw[Qx5,d]
   rw[Qx5] at J
   exact J
end Go.Proofs.YtemacanaihaldaaGreat
namespace Go.Proofs.YtemacanaihaldaaGreat
open Go.RowKit
structure SameLog (L M:LogM):Prop where
 base:M.base=L.base
 stream:M.stream=L.stream
 starts:M.starts=L.starts
 strips:M.strips=L.strips
 firstS:M.firstS=L.firstS
 lasts:L.lasts<=M.lasts
theorem SameLog.refl (L:LogM):SameLog L L:=⟨rfl,rfl,rfl,rfl,rfl,Z0 _⟩
theorem SameLog.flush (L:LogM) (k:Nat):SameLog L (flL L k):=by
 obtain⟨b,d,e,h,i⟩:=Qjz L k
 exact⟨b,d,e,h,i,(Qlm L k).1⟩
theorem SameLog.trans {L M K:LogM}(h:SameLog L M) (k:SameLog M K):SameLog L K:=⟨k.base.trans h.base,k.stream.trans h.stream,k.starts.trans h.starts,k.strips.trans h.strips,k.firstS.trans h.firstS,Y3 h.lasts k.lasts⟩
theorem Qtd {P:List Int}(h:Sound P):pageLSN P<18446744073709551616:=by
 have h2:=Qjw h.tidy.isB 0 8
 have b:(2:Nat) ^ (8*8)=18446744073709551616:=by decide
 rw[b] at h2;exact h2
structure Got (w:World) (τ:Tags) (bp bf bd:Nat) (N:Nat) (H:PoolH) (L:LogM) (cur:Nat->List Int) (n b:Nat) (w':World) (τ':Tags) (H':PoolH) (L':LogM) (D':Dev) (F':List Fr) (s':Ck.Clk.St) (i:Nat) (f:Fr):Prop where
 pool:PoolW w' τ' bp bf bd H' L' D' F' s'
 good:Good N H'.st L' D' F' cur
 held:Held F' s' i
 at_:F'[i]?=some f
 pg:f.pg=some (b,cur n)
 fn:f.n=n
 hn:H'.n=N
 hl:H'.bl=H.bl
 st:H.st<=H'.st/\H'.st<=H.st+1
 log:SameLog L L'
 step:Step w τ w' τ' PWTag
def GetE (N:Nat) (cur:Nat->List Int) (H:PoolH) (L:LogM) (F:List Fr) (s:Ck.Clk.St) (i:Nat) (f:Fr) (H1:PoolH) (L1:LogM) (D1:Dev) (s1:Ck.Clk.St):Prop :=
 s1=leftS (Ck.Clk.pickS s) i f.pg.isSome/\Good N H1.st L1 D1 (F.set i Fr.no) cur/\H1.n=N/\H1.bl=H.bl/\(H.st<=H1.st/\H1.st<=H.st+1)/\SameLog L L1
theorem Qxw {w:World}{τ:Tags}{bp bf bd N:Nat}{H:PoolH}{L:LogM}{D:Dev}{F:List Fr}{s:Ck.Clk.St}{q:Nat->List Int}(h:PoolW w τ bp bf bd H L D F s) (y:Good N H.st L D F q) (hc:Clock F s) (hN:H.n=N) (aj:H.st+1<18446744073709551616) (n:Nat) (hn:n<N) :
 Calls Tryz.prog 15 #[.pointer (some ⟨bp,0,none⟩),.int .u32 (n:Int)] w fun e R=>∃b,e = .returned (.tuple #[.pointer (some ⟨b,0,none⟩),.int .u16 0])/\∃U H' L' D' F' s' i f,Got w τ bp bf bd N H L q n b R U H' L' D' F' s' i f:=by
 subst hN
 have hn512:=h.pool.n1
 cases hw:Qaq F n with
 | some i =>
   obtain⟨f,o,hh⟩:=(Qa6 h.pool.one n i).1 hw
   obtain⟨b,P,l,z⟩:=Qd7.1 hh
   obtain⟨_,hP,_⟩:=y.frame i f b P o l
   have:=Qzy h.pool n (by omega) hw o (fun k=>by rw[hc.p];omega)
   refine this.mono ?_
   rintro e R ⟨rfl,hp,hs⟩
   have a7:Step w τ R τ PoolTag:=hs.mono (fun g h=>.inr (.inr (.inr (.inl h))))
   exact⟨b,by rw[l];rfl,τ,H,L,D,F,_,i,f,⟨h.turn hp a7,y,hc.hit o (by rw[l];rfl),o,by rw[l,hP,z],z,rfl,rfl,⟨Z0 _,Nat.le_succ _⟩,SameLog.refl L,a7.mono (fun _ h=>.inl h)⟩⟩
 | none =>
   obtain⟨al,m⟩:=hc.pick
   generalize hi:Ck.Clk.pickI s=i at *
   obtain⟨f,o⟩:∃f,F[i]?=some f:=⟨_,Z3 m⟩
   have a8:∀(j:Nat) (g:Fr),F[j]?=some g->g.has n=false:=fun j g r=>by
    cases hx:g.has n with
    | false=>rfl
    | true =>
      have:=(Qa6 h.pool.one n j).2 ⟨g,r,hx⟩
      rw[hw] at this;cases this
   have X:OneHas (F.set i Fr.no):=OneHas.set h.pool.one i Fr.no (fun j n g _ _ _=>Qk8 n)
   have aa:Qaq (F.set i Fr.no) n=none:=by
    cases hx:Qaq (F.set i Fr.no) n with
    | none=>rfl
    | some j =>
      obtain⟨g,r,hh⟩:=(Qa6 X n j).1 hx
      rcases set_get m r with ⟨_,rfl⟩|⟨_,Y⟩
      ·cases hh
      ·rw[a8 j g Y] at hh;cases hh
   have M:∀(j:Nat) (g:Fr),(F.set i Fr.no)[j]?=some g->g.has n=false:=fun j g r=>by
    rcases set_get m r with ⟨_,rfl⟩|⟨_,Y⟩
    ·rfl
    ·exact a8 j g Y
   obtain⟨B,Z⟩:=hc.fill o (0,[]) n 0
   have G:=Qwf h n (by omega) al hi m (Q:=q n) (GetE H.n q H L F s i f) (fun w1 τ1 d=>by
    cases l:f.pg with
    | none =>
      have ab:=y.none i f o l
      refine(Qm3 d.pool i o l).mono ?_
      rintro e R ⟨rfl,rfl⟩
      have C:F.set i Fr.no=F:=Qnd (by rw[o,ab])
      refine⟨rfl,H,L,D,Ck.Clk.pickS s,τ1,⟨?_,by rw[C];exact y,rfl,rfl,⟨Z0 _,Nat.le_succ _⟩,SameLog.refl L⟩,rfl,by rw[C];exact d,Step.refl _ _ _⟩
      rw[l];rfl
    | some x =>
      obtain⟨b,P⟩:=x
      obtain⟨z,hP,_⟩:=y.frame i f b P o l
      have I:Ck.Clk.leaveS (Ck.Clk.pickS s) (i:Int)=leftS (Ck.Clk.pickS s) i f.pg.isSome:=by rw[l];rfl
      by_cases h0:f.first=0
      ·refine(Qlp d.pool i o l h0 (by omega)).mono ?_
       rintro e R ⟨rfl,a1,J⟩
       exact⟨rfl,H,L,D,_,τ1,⟨I,y.drop o h0,rfl,rfl,⟨Z0 _,Nat.le_succ _⟩,SameLog.refl L⟩,rfl,d.turn a1 J,J.mono (fun _ h=>.inl h)⟩
      ·have ac:0<f.first:=by omega
       have ad:Sound P:=by rw[hP];exact(y.page f.n z).1
       refine(Qrk d y.rise y.cap y.f0 (by rw[y.f1];omega) (y.calm.lim _) aj o l z ac rfl (Qtd ad)).mono ?_
       rintro e R ⟨rfl,k,fl,an,ao,a1,J⟩
       obtain⟨ap,-,-⟩:=y.write o l ac ao
       have aq:=(Z4 o).1
       have ae:=ap.drop (i:=i) (f:={f with first:=0}) (List.getElem?_set_self aq) rfl
       rw[List.set_set] at ae
       exact⟨rfl,{H with st:=H.st+1},_,_,_,an,⟨I,ae,rfl,rfl,⟨Nat.le_succ _,Z0 _⟩,SameLog.flush L _⟩,rfl,a1,J⟩) (fun w1 τ1 H1 L1 D1 s1 hE d=>by
    obtain⟨_,E,af,_,O,_⟩:=hE
    obtain⟨Q,hQ,hq⟩:=E.home n hn
    have ay:Q=q n:=hq (fun j g r hh=>by rw[M j g r] at hh;cases hh)
    subst ay
    rcases hQ with ⟨h1,h2⟩|⟨s',h1,h2,h3,h4,h5⟩
    ·have:=Qld d.pool.hd d.log d.dev n (by rw[E.f1];omega) h1 (tPg i)
     rw[<-h2] at this
     exact this
    ·exact Qvk d.pool.hd d.log d.dev n (by rw[E.f1];omega) (st:=s') (by rw[show (2:Nat) ^ 64=18446744073709551616 from by decide];omega) h3 h4 h2 (tPg i)) aa
   refine(Qzz h n (by omega) hw m (GetE H.n q H L F s i f) G (fun H1 L1 D1 s1 hE k=>by rw[hE.1];exact Z k)).mono ?_
   rintro e R ⟨H1,L1,D1,s1,b,U,rfl,⟨e1,E,af,az,O,ag⟩,d,I⟩
   subst e1
   have ah:=E.fill (i:=i) (n:=n) (by rw[Y1];exact m) hn M b (List.getElem?_set_self m)
   rw[List.set_set] at ah
   obtain⟨B,-⟩:=hc.fill o (b,q n) n 0
   exact⟨b,rfl,U,H1,L1,D1,_,_,i,_,⟨d,ah,B,List.getElem?_set_self m,rfl,rfl,af,az,O,ag,I⟩⟩
