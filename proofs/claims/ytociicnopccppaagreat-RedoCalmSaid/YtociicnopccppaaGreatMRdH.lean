/-
 Records: Decode.
-/
import Derived.Test.YtociicnopccppaaGreatMRdF
import Derived.Deep.OwnRows
set_option maxRecDepth 100000
set_option maxHeartbeats 40000000
set_option linter.all false
namespace Go.Proofs.YtociicnopccppaaGreat
variable {g:Tag}{l:List Int}{w:World}{τ:qa1}
open Go.RowKit
def Qd1 (l:List Int):Option (qak×Nat):=if l.length<27 then none else if leN (l.take 2) 2=0\/l.length<leN (l.take 2) 2 then none else (qct (l.take (leN (l.take 2) 2))).map (fun r=>(r,leN (l.take 2) 2))
theorem Qtf {r:qak} {n:Nat}(h:Qd1 l=some (r,n)):0<n/\n<=l.length:=by
 unfold Qd1 at h
 split at h
 ·cases h
 ·split at h
  ·cases h
  ·cases a:qct (l.take (leN (l.take 2) 2)) with
   | none=>rw[a] at h;cases h
   | some x =>
     rw[a] at h
     simp only[Option.map_some,Option.some.injEq,Prod.mk.injEq] at h
     obtain⟨-,rfl⟩:=h
     omega
def Qz6 (w:World) (τ:qa1) (r:Option (qak×Nat)) (e:Ending) (w':World):Prop :=
 ∃τ',Step w τ w' τ' qa4/\((r=none/\∃er:Nat,(er=60\/er=61)/\e = .returned (.tuple #[.agg Qdj,.int .i64 0,.int .u16 er]))\/∃x n v,r=some (x,n)/\e = .returned (.tuple #[v,.int .i64 n,.int .u16 0])/\qjn w' τ' v x)
theorem Qt0 {v:Value}(h:Bytes w τ g v l) (hll:l.length<=1000000) (hg:¬qa4 g) (bl:g≠qh3) (bm:g≠qbv) :
 Calls Tryz.prog 70 #[v] w (Qz6 w τ (Qd1 l)):=by
 have hq:=(zS w τ).alloc (.cells Qdj 73) qbv
 have i:=Own.born w τ qbv 73 Qdj
 have a4:=h.step hq id
 have y:=hq.nz (T:=qa4)
 obtain⟨bx,a5⟩:=gN w.heap.size
 rw[a5] at i a4 y hq
 generalize τ.put bx qbv=τ1 at *
 unfold Qdj at i a4 y hq
 obtain⟨w1,a1⟩:=gN (w.alloc (.cells zR 73))
 rw[a1] at i a4 y
 have d:w.heap.size<=bx:=oM
 have af:Step w τ w1 τ1 nil:=by rw[<-a1];exact hq
 by_cases b8:l.length<27
 ·obtain⟨p,c,rfl,-,-⟩:=h.any
  have av:(l.length:Int)<27:=oM
  have b9:Qd1 l=none:=by unfold Qd1;rw[if_pos b8]
  obtain⟨n,hn⟩:=gN l.length
  rw[hn] at av ⊢
  have k0:=i.at 0 rfl
  have f0:=i.fz 0
  have k1:=i.at 1 rfl
  have f1:=i.fz 1
  have k2:=i.at 2 rfl
  have f2:=i.fz 2
  have k3:=i.at 3 rfl
  have f3:=i.fz 3
  have k4:=i.at 4 rfl
  have f4:=i.fz 4
  have k5:=i.at 5 rfl
  have f5:=i.fz 5
  have k6:=i.at 6 rfl
  have f6:=i.fz 6
  have k7:=i.at 7 rfl
  have f7:=i.fz 7
  have k8:=i.at 8 rfl
  have f8:=i.fz 8
  have k9:=i.at 9 rfl
  have f9:=i.fz 9
  have aw:=i.at 10 rfl
  have ax:=i.fz 10
  have ay:=i.at 11 rfl
  have az:=i.fz 11
  have B:=(i.set 0 (.int .u8 0)).at 0 rfl
  have C:=((i.set 0 (.int .u8 0)).set 1 (.int .u32 0)).at 1 rfl
  have D:=(((i.set 0 (.int .u8 0)).set 1 (.int .u32 0)).set 2 (.int .u64 0)).at 2 rfl
  have E:=((((i.set 0 (.int .u8 0)).set 1 (.int .u32 0)).set 2 (.int .u64 0)).set 3 (.int .u64 0)).at 3 rfl
  have F:=(((((i.set 0 (.int .u8 0)).set 1 (.int .u32 0)).set 2 (.int .u64 0)).set 3 (.int .u64 0)).set 4 (.int .u32 0)).at 4 rfl
  have G:=((((((i.set 0 (.int .u8 0)).set 1 (.int .u32 0)).set 2 (.int .u64 0)).set 3 (.int .u64 0)).set 4 (.int .u32 0)).set 5 (.int .u16 0)).at 5 rfl
  have I:=(((((((i.set 0 (.int .u8 0)).set 1 (.int .u32 0)).set 2 (.int .u64 0)).set 3 (.int .u64 0)).set 4 (.int .u32 0)).set 5 (.int .u16 0)).set 6 (.bool false)).at 6 rfl
  have J:=((((((((i.set 0 (.int .u8 0)).set 1 (.int .u32 0)).set 2 (.int .u64 0)).set 3 (.int .u64 0)).set 4 (.int .u32 0)).set 5 (.int .u16 0)).set 6 (.bool false)).set 7 (.bool false)).at 7 rfl
  have L:=(((((((((i.set 0 (.int .u8 0)).set 1 (.int .u32 0)).set 2 (.int .u64 0)).set 3 (.int .u64 0)).set 4 (.int .u32 0)).set 5 (.int .u16 0)).set 6 (.bool false)).set 7 (.bool false)).set 8 (.slice none 0 0)).at 8 rfl
  have M:=((((((((((i.set 0 (.int .u8 0)).set 1 (.int .u32 0)).set 2 (.int .u64 0)).set 3 (.int .u64 0)).set 4 (.int .u32 0)).set 5 (.int .u16 0)).set 6 (.bool false)).set 7 (.bool false)).set 8 (.slice none 0 0)).set 9 (.slice none 0 0)).at 9 rfl
  have j:=(((((((((((i.set 0 (.int .u8 0)).set 1 (.int .u32 0)).set 2 (.int .u64 0)).set 3 (.int .u64 0)).set 4 (.int .u32 0)).set 5 (.int .u16 0)).set 6 (.bool false)).set 7 (.bool false)).set 8 (.slice none 0 0)).set 9 (.slice none 0 0)).set 10 (.slice none 0 0)).at 10 rfl
  have k:=((((((((((((i.set 0 (.int .u8 0)).set 1 (.int .u32 0)).set 2 (.int .u64 0)).set 3 (.int .u64 0)).set 4 (.int .u32 0)).set 5 (.int .u16 0)).set 6 (.bool false)).set 7 (.bool false)).set 8 (.slice none 0 0)).set 9 (.slice none 0 0)).set 10 (.slice none 0 0)).set 11 (.slice none 0 0)).at 11 rfl
  have HY:=Z2 (And.intro B (And.intro C (And.intro D (And.intro E (And.intro F (And.intro G (And.intro I (And.intro J (And.intro L (And.intro M (And.intro j k)))))))))))
  clear B C D E F G I J L M j k
  have z:=((((((((((((y.qa3 (b:=bx) (o:=0) d (.int .u8 0)).qa3 (b:=bx) (o:=1) d (.int .u32 0)).qa3 (b:=bx) (o:=2) d (.int .u64 0)).qa3 (b:=bx) (o:=3) d (.int .u64 0)).qa3 (b:=bx) (o:=4) d (.int .u32 0)).qa3 (b:=bx) (o:=5) d (.int .u16 0)).qa3 (b:=bx) (o:=6) d (.bool false)).qa3 (b:=bx) (o:=7) d (.bool false)).qa3 (b:=bx) (o:=8) d (.slice none 0 0)).qa3 (b:=bx) (o:=9) d (.slice none 0 0)).qa3 (b:=bx) (o:=10) d (.slice none 0 0)).qa3 (b:=bx) (o:=11) d (.slice none 0 0))
  obtain⟨ab,ac⟩:=qaj a1 a5
  obtain⟨Hx,a6,R,ci,Hn⟩:=qbq i y z b9 hn
  clear i a4 y z b9 hn h hq af a1 a5
  go_enter Tryz.func70,Tryz.ntmps70
  go_upto_if 10 with fail
  rw[ac.out,ab.out]
  go_wp2_with fail
  obtain⟨B,C,D,E,F,G,I,J,L,M,j,k⟩:=HY.out
  try simp only[Exit.inBlock,Exit.then]
  refine bodyPost_ret (by simp[results,Tryz.results70,go_sem,B,C,D,E,F,G,I,J,L,M,j,k];try rfl) rfl ?_
  exact⟨τ1,R,.inl ⟨ci,60,.inl rfl,rfl⟩⟩
 obtain⟨b,o,c,rfl,hl⟩:=h.lies oM
 have ba:=hl.le;have al:=hl.cap
 have ag:=hl.step af id
 have bb:(l.take 2).length=2:=by rw[List.length_take];omega
 have hB:=h.isB
 have am:=Qle (l:=l.take 2) (fun x i=>hB x (List.mem_of_mem_take i)) 2
 rw[show (2:Nat) ^ (8*2)=65536 from by decide] at am
 have a7:=Qip (ag.take 2).bytes oM oM
 rw[bb] at a7
 obtain⟨n,hn⟩:=gN (leN (l.take 2) 2)
 rw[hn] at a7 am
 have hnw:IntKind.i64.wrap (n:Int)=n:=Qd5 _ oM oM
 have av:¬(l.length:Int)<27:=oM
 have h2c:(2:Int)<=c:=oM
 obtain⟨m,hm⟩:=gN l.length
 have O:Qd1 l=if n=0\/m<n then none else (qct (l.take n)).map (fun r=>(r,n)):=by unfold Qd1;rw[if_neg b8,hn,hm]
 rw[hm] at av ⊢
 obtain⟨ab,ac⟩:=qaj a1 a5
 by_cases a2:n=0\/m<n
 ·rw[if_pos a2] at O
  have k0:=i.at 0 rfl
  have f0:=i.fz 0
  have k1:=i.at 1 rfl
  have f1:=i.fz 1
  have k2:=i.at 2 rfl
  have f2:=i.fz 2
  have k3:=i.at 3 rfl
  have f3:=i.fz 3
  have k4:=i.at 4 rfl
  have f4:=i.fz 4
  have k5:=i.at 5 rfl
  have f5:=i.fz 5
  have k6:=i.at 6 rfl
  have f6:=i.fz 6
  have k7:=i.at 7 rfl
  have f7:=i.fz 7
  have k8:=i.at 8 rfl
  have f8:=i.fz 8
  have k9:=i.at 9 rfl
  have f9:=i.fz 9
  have aw:=i.at 10 rfl
  have ax:=i.fz 10
  have ay:=i.at 11 rfl
  have az:=i.fz 11
  have B:=(i.set 0 (.int .u8 0)).at 0 rfl
  have C:=((i.set 0 (.int .u8 0)).set 1 (.int .u32 0)).at 1 rfl
  have D:=(((i.set 0 (.int .u8 0)).set 1 (.int .u32 0)).set 2 (.int .u64 0)).at 2 rfl
  have E:=((((i.set 0 (.int .u8 0)).set 1 (.int .u32 0)).set 2 (.int .u64 0)).set 3 (.int .u64 0)).at 3 rfl
  have F:=(((((i.set 0 (.int .u8 0)).set 1 (.int .u32 0)).set 2 (.int .u64 0)).set 3 (.int .u64 0)).set 4 (.int .u32 0)).at 4 rfl
  have G:=((((((i.set 0 (.int .u8 0)).set 1 (.int .u32 0)).set 2 (.int .u64 0)).set 3 (.int .u64 0)).set 4 (.int .u32 0)).set 5 (.int .u16 0)).at 5 rfl
  have I:=(((((((i.set 0 (.int .u8 0)).set 1 (.int .u32 0)).set 2 (.int .u64 0)).set 3 (.int .u64 0)).set 4 (.int .u32 0)).set 5 (.int .u16 0)).set 6 (.bool false)).at 6 rfl
  have J:=((((((((i.set 0 (.int .u8 0)).set 1 (.int .u32 0)).set 2 (.int .u64 0)).set 3 (.int .u64 0)).set 4 (.int .u32 0)).set 5 (.int .u16 0)).set 6 (.bool false)).set 7 (.bool false)).at 7 rfl
  have L:=(((((((((i.set 0 (.int .u8 0)).set 1 (.int .u32 0)).set 2 (.int .u64 0)).set 3 (.int .u64 0)).set 4 (.int .u32 0)).set 5 (.int .u16 0)).set 6 (.bool false)).set 7 (.bool false)).set 8 (.slice none 0 0)).at 8 rfl
  have M:=((((((((((i.set 0 (.int .u8 0)).set 1 (.int .u32 0)).set 2 (.int .u64 0)).set 3 (.int .u64 0)).set 4 (.int .u32 0)).set 5 (.int .u16 0)).set 6 (.bool false)).set 7 (.bool false)).set 8 (.slice none 0 0)).set 9 (.slice none 0 0)).at 9 rfl
  have j:=(((((((((((i.set 0 (.int .u8 0)).set 1 (.int .u32 0)).set 2 (.int .u64 0)).set 3 (.int .u64 0)).set 4 (.int .u32 0)).set 5 (.int .u16 0)).set 6 (.bool false)).set 7 (.bool false)).set 8 (.slice none 0 0)).set 9 (.slice none 0 0)).set 10 (.slice none 0 0)).at 10 rfl
  have k:=((((((((((((i.set 0 (.int .u8 0)).set 1 (.int .u32 0)).set 2 (.int .u64 0)).set 3 (.int .u64 0)).set 4 (.int .u32 0)).set 5 (.int .u16 0)).set 6 (.bool false)).set 7 (.bool false)).set 8 (.slice none 0 0)).set 9 (.slice none 0 0)).set 10 (.slice none 0 0)).set 11 (.slice none 0 0)).at 11 rfl
  have HY:=Z2 (And.intro B (And.intro C (And.intro D (And.intro E (And.intro F (And.intro G (And.intro I (And.intro J (And.intro L (And.intro M (And.intro j k)))))))))))
  clear B C D E F G I J L M j k
  have z:=((((((((((((y.qa3 (b:=bx) (o:=0) d (.int .u8 0)).qa3 (b:=bx) (o:=1) d (.int .u32 0)).qa3 (b:=bx) (o:=2) d (.int .u64 0)).qa3 (b:=bx) (o:=3) d (.int .u64 0)).qa3 (b:=bx) (o:=4) d (.int .u32 0)).qa3 (b:=bx) (o:=5) d (.int .u16 0)).qa3 (b:=bx) (o:=6) d (.bool false)).qa3 (b:=bx) (o:=7) d (.bool false)).qa3 (b:=bx) (o:=8) d (.slice none 0 0)).qa3 (b:=bx) (o:=9) d (.slice none 0 0)).qa3 (b:=bx) (o:=10) d (.slice none 0 0)).qa3 (b:=bx) (o:=11) d (.slice none 0 0))
  obtain⟨Hx,a6,R,U,Hn,ah⟩:=qcq i y z O hn a7
  clear i a4 y z O hn hm a7 h hq af a1 a5 hl ag ba al
  rcases a2 with rfl|a2
  ·go_enter Tryz.func70,Tryz.ntmps70
   go_upto_if 10 with fail
   rw[ac.out,ab.out]
   go_wp2_with fail
   refine ah.mono ?_
   rintro e w2 ⟨rfl,rfl⟩
   go_wp2_with fail
   obtain⟨B,C,D,E,F,G,I,J,L,M,j,k⟩:=HY.out
   try simp only[Exit.inBlock,Exit.then]
   refine bodyPost_ret (by simp[results,Tryz.results70,go_sem,B,C,D,E,F,G,I,J,L,M,j,k];try rfl) rfl ?_
   exact⟨τ1,R,.inl ⟨U,60,.inl rfl,rfl⟩⟩
  ·have cj:¬(n:Int)=0:=oM
   have ck:(m:Int)<n:=oM
   go_enter Tryz.func70,Tryz.ntmps70
   go_upto_if 10 with fail
   rw[ac.out,ab.out]
   go_wp2_with fail
   refine ah.mono ?_
   rintro e w2 ⟨rfl,rfl⟩
   go_wp2_with fail
   obtain⟨B,C,D,E,F,G,I,J,L,M,j,k⟩:=HY.out
   try simp only[Exit.inBlock,Exit.then]
   refine bodyPost_ret (by simp[results,Tryz.results70,go_sem,B,C,D,E,F,G,I,J,L,M,j,k];try rfl) rfl ?_
   exact⟨τ1,R,.inl ⟨U,60,.inl rfl,rfl⟩⟩
 rw[if_neg a2] at O
 have cj:¬(n:Int)=0:=oM
 have ck:¬(m:Int)<n:=oM
 have hn0':¬n=0:=oM
 have hd3:((n:Int)==0)=false:=by simp;omega
 have hd4:decide (m<n)=false:=by simp;omega
 have hnc:(n:Int)<=c:=oM
 have bc:(l.take n).length=n:=by rw[List.length_take];omega
 have b0:=Qqo (w:=w1) (τ:=τ1) (g:=g) (b:=b) (o:=o) (c:=c) (l:=l.take n) (ag.take n) (by rw[bc];omega) hg bl bm
 rw[bc] at b0
 obtain⟨Hx,a6,U,Hn,ah,b1⟩:=qcq i y O hn a7 b0
 clear i a4 y O hn hm a7 b0 h hq af a1 a5 hl ag ba al
 go_enter Tryz.func70,Tryz.ntmps70
 go_upto_if 10 with fail
 rw[ac.out,ab.out]
 go_wp2_with fail
 refine ah.mono ?_
 rintro e w2 ⟨rfl,rfl⟩
 go_wp2_with fail
 refine b1.mono ?_
 rintro e w3 ⟨a8,a9,⟨hr,rfl⟩|⟨x,v,hr,rfl,hv⟩⟩
 ·unfold Qdj
  have ad:=Hx.step a9 (by unfold qa4;decide)
  have X:=a6.trans a9
  have Y:=(zS w3 a8).alloc (.cells zR 73) qh3
  have q:=Own.born w3 a8 qh3 73 zR
  have a:=ad.step Y id
  have s:=X.trans Y.nz
  obtain⟨bt,Z⟩:=gN w3.heap.size
  rw[Z] at q a s
  generalize a3:a8.put bt qh3=ai at *
  obtain⟨w4,a0⟩:=gN (w3.alloc (.cells zR 73))
  rw[a0] at q a s
  have k0:=a.at 0 rfl
  have f0:=a.fz 0
  have k1:=a.at 1 rfl
  have f1:=a.fz 1
  have k2:=a.at 2 rfl
  have f2:=a.fz 2
  have k3:=a.at 3 rfl
  have f3:=a.fz 3
  have k4:=a.at 4 rfl
  have f4:=a.fz 4
  have k5:=a.at 5 rfl
  have f5:=a.fz 5
  have k6:=a.at 6 rfl
  have f6:=a.fz 6
  have k7:=a.at 7 rfl
  have f7:=a.fz 7
  have k8:=a.at 8 rfl
  have f8:=a.fz 8
  have k9:=a.at 9 rfl
  have f9:=a.fz 9
  have aw:=a.at 10 rfl
  have ax:=a.fz 10
  have ay:=a.at 11 rfl
  have az:=a.fz 11
  have B:=(a.set 0 (.int .u8 0)).at 0 rfl
  have C:=((a.set 0 (.int .u8 0)).set 1 (.int .u32 0)).at 1 rfl
  have D:=(((a.set 0 (.int .u8 0)).set 1 (.int .u32 0)).set 2 (.int .u64 0)).at 2 rfl
  have E:=((((a.set 0 (.int .u8 0)).set 1 (.int .u32 0)).set 2 (.int .u64 0)).set 3 (.int .u64 0)).at 3 rfl
  have F:=(((((a.set 0 (.int .u8 0)).set 1 (.int .u32 0)).set 2 (.int .u64 0)).set 3 (.int .u64 0)).set 4 (.int .u32 0)).at 4 rfl
  have G:=((((((a.set 0 (.int .u8 0)).set 1 (.int .u32 0)).set 2 (.int .u64 0)).set 3 (.int .u64 0)).set 4 (.int .u32 0)).set 5 (.int .u16 0)).at 5 rfl
  have I:=(((((((a.set 0 (.int .u8 0)).set 1 (.int .u32 0)).set 2 (.int .u64 0)).set 3 (.int .u64 0)).set 4 (.int .u32 0)).set 5 (.int .u16 0)).set 6 (.bool false)).at 6 rfl
  have J:=((((((((a.set 0 (.int .u8 0)).set 1 (.int .u32 0)).set 2 (.int .u64 0)).set 3 (.int .u64 0)).set 4 (.int .u32 0)).set 5 (.int .u16 0)).set 6 (.bool false)).set 7 (.bool false)).at 7 rfl
  have L:=(((((((((a.set 0 (.int .u8 0)).set 1 (.int .u32 0)).set 2 (.int .u64 0)).set 3 (.int .u64 0)).set 4 (.int .u32 0)).set 5 (.int .u16 0)).set 6 (.bool false)).set 7 (.bool false)).set 8 (.slice none 0 0)).at 8 rfl
  have M:=((((((((((a.set 0 (.int .u8 0)).set 1 (.int .u32 0)).set 2 (.int .u64 0)).set 3 (.int .u64 0)).set 4 (.int .u32 0)).set 5 (.int .u16 0)).set 6 (.bool false)).set 7 (.bool false)).set 8 (.slice none 0 0)).set 9 (.slice none 0 0)).at 9 rfl
  have j:=(((((((((((a.set 0 (.int .u8 0)).set 1 (.int .u32 0)).set 2 (.int .u64 0)).set 3 (.int .u64 0)).set 4 (.int .u32 0)).set 5 (.int .u16 0)).set 6 (.bool false)).set 7 (.bool false)).set 8 (.slice none 0 0)).set 9 (.slice none 0 0)).set 10 (.slice none 0 0)).at 10 rfl
  have k:=((((((((((((a.set 0 (.int .u8 0)).set 1 (.int .u32 0)).set 2 (.int .u64 0)).set 3 (.int .u64 0)).set 4 (.int .u32 0)).set 5 (.int .u16 0)).set 6 (.bool false)).set 7 (.bool false)).set 8 (.slice none 0 0)).set 9 (.slice none 0 0)).set 10 (.slice none 0 0)).set 11 (.slice none 0 0)).at 11 rfl
  have HY:=Z2 (And.intro B (And.intro C (And.intro D (And.intro E (And.intro F (And.intro G (And.intro I (And.intro J (And.intro L (And.intro M (And.intro j k)))))))))))
  clear B C D E F G I J L M j k
  have z:=((((((((((((s.qa3 (b:=bx) (o:=0) d (.int .u8 0)).qa3 (b:=bx) (o:=1) d (.int .u32 0)).qa3 (b:=bx) (o:=2) d (.int .u64 0)).qa3 (b:=bx) (o:=3) d (.int .u64 0)).qa3 (b:=bx) (o:=4) d (.int .u32 0)).qa3 (b:=bx) (o:=5) d (.int .u16 0)).qa3 (b:=bx) (o:=6) d (.bool false)).qa3 (b:=bx) (o:=7) d (.bool false)).qa3 (b:=bx) (o:=8) d (.slice none 0 0)).qa3 (b:=bx) (o:=9) d (.slice none 0 0)).qa3 (b:=bx) (o:=10) d (.slice none 0 0)).qa3 (b:=bx) (o:=11) d (.slice none 0 0))
  obtain⟨b2,b3⟩:=qaj a0 Z
  obtain⟨R,Hr⟩:=qaj z hr
  clear a s z hr ad X Y q a0 Z a9 Hx a6 b1 a3
  go_upto_if 33 with fail
  rw[b3.out,b2.out]
  go_wp2_with fail
  obtain⟨B,C,D,E,F,G,I,J,L,M,j,k⟩:=HY.out
  try simp only[Exit.inBlock,Exit.then]
  refine bodyPost_ret (by simp[results,Tryz.results70,go_sem,B,C,D,E,F,G,I,J,L,M,j,k];try rfl) rfl ?_
  exact⟨ai,R,.inl ⟨by rw[U.out,Hr.out];rfl,61,.inr rfl,rfl⟩⟩
 ·obtain⟨vb,va,vt,vp,n0,rfl,cn,co,b4,b5⟩:=hv
  obtain⟨pb,cb,rfl,be⟩:=cn
  obtain⟨pa,ca,rfl,bf⟩:=co
  obtain⟨pt,ct,rfl⟩:=b4.val
  obtain⟨pp,cp,rfl⟩:=b5.val
  have ad:=Hx.step a9 (by unfold qa4;decide)
  have X:=a6.trans a9
  have Y:=(zS w3 a8).alloc (.cells (rR x.kind x.txn x.prev x.next x.change.page x.change.slot x.change.had x.change.has (.slice pb x.change.before.length cb) (.slice pa x.change.after.length ca) (.slice pt x.qbm.length ct) (.slice pp x.pages.length cp)) 73) qh3
  have q:=Own.born w3 a8 qh3 73 (rR x.kind x.txn x.prev x.next x.change.page x.change.slot x.change.had x.change.has (.slice pb x.change.before.length cb) (.slice pa x.change.after.length ca) (.slice pt x.qbm.length ct) (.slice pp x.pages.length cp))
  have a:=ad.step Y id
  have s:=X.trans Y.nz
  obtain⟨bt,Z⟩:=gN w3.heap.size
  rw[Z] at q a s
  generalize a3:a8.put bt qh3=ai at *
  obtain⟨w4,a0⟩:=gN (w3.alloc (.cells (rR x.kind x.txn x.prev x.next x.change.page x.change.slot x.change.had x.change.has (.slice pb x.change.before.length cb) (.slice pa x.change.after.length ca) (.slice pt x.qbm.length ct) (.slice pp x.pages.length cp)) 73))
  rw[a0] at q a s
  have c0:=q.at 0 rfl
  have c1:=q.at 1 rfl
  have c2:=q.at 2 rfl
  have c3:=q.at 3 rfl
  have c4:=q.at 4 rfl
  have c5:=q.at 5 rfl
  have c6:=q.at 6 rfl
  have c7:=q.at 7 rfl
  have c8:=q.at 8 rfl
  have c9:=q.at 9 rfl
  have c10:=q.at 10 rfl
  have c11:=q.at 11 rfl
  have k0:=a.at 0 rfl
  have f0:=a.fz 0
  have k1:=a.at 1 rfl
  have f1:=a.fz 1
  have k2:=a.at 2 rfl
  have f2:=a.fz 2
  have k3:=a.at 3 rfl
  have f3:=a.fz 3
  have k4:=a.at 4 rfl
  have f4:=a.fz 4
  have k5:=a.at 5 rfl
  have f5:=a.fz 5
  have k6:=a.at 6 rfl
  have f6:=a.fz 6
  have k7:=a.at 7 rfl
  have f7:=a.fz 7
  have k8:=a.at 8 rfl
  have f8:=a.fz 8
  have k9:=a.at 9 rfl
  have f9:=a.fz 9
  have aw:=a.at 10 rfl
  have ax:=a.fz 10
  have ay:=a.at 11 rfl
  have az:=a.fz 11
  have B:=(a.set 0 (.int .u8 x.kind)).at 0 rfl
  have C:=((a.set 0 (.int .u8 x.kind)).set 1 (.int .u32 x.txn)).at 1 rfl
  have D:=(((a.set 0 (.int .u8 x.kind)).set 1 (.int .u32 x.txn)).set 2 (.int .u64 x.prev)).at 2 rfl
  have E:=((((a.set 0 (.int .u8 x.kind)).set 1 (.int .u32 x.txn)).set 2 (.int .u64 x.prev)).set 3 (.int .u64 x.next)).at 3 rfl
  have F:=(((((a.set 0 (.int .u8 x.kind)).set 1 (.int .u32 x.txn)).set 2 (.int .u64 x.prev)).set 3 (.int .u64 x.next)).set 4 (.int .u32 x.change.page)).at 4 rfl
  have G:=((((((a.set 0 (.int .u8 x.kind)).set 1 (.int .u32 x.txn)).set 2 (.int .u64 x.prev)).set 3 (.int .u64 x.next)).set 4 (.int .u32 x.change.page)).set 5 (.int .u16 x.change.slot)).at 5 rfl
  have I:=(((((((a.set 0 (.int .u8 x.kind)).set 1 (.int .u32 x.txn)).set 2 (.int .u64 x.prev)).set 3 (.int .u64 x.next)).set 4 (.int .u32 x.change.page)).set 5 (.int .u16 x.change.slot)).set 6 (.bool x.change.had)).at 6 rfl
  have J:=((((((((a.set 0 (.int .u8 x.kind)).set 1 (.int .u32 x.txn)).set 2 (.int .u64 x.prev)).set 3 (.int .u64 x.next)).set 4 (.int .u32 x.change.page)).set 5 (.int .u16 x.change.slot)).set 6 (.bool x.change.had)).set 7 (.bool x.change.has)).at 7 rfl
  have L:=(((((((((a.set 0 (.int .u8 x.kind)).set 1 (.int .u32 x.txn)).set 2 (.int .u64 x.prev)).set 3 (.int .u64 x.next)).set 4 (.int .u32 x.change.page)).set 5 (.int .u16 x.change.slot)).set 6 (.bool x.change.had)).set 7 (.bool x.change.has)).set 8 (.slice pb x.change.before.length cb)).at 8 rfl
  have M:=((((((((((a.set 0 (.int .u8 x.kind)).set 1 (.int .u32 x.txn)).set 2 (.int .u64 x.prev)).set 3 (.int .u64 x.next)).set 4 (.int .u32 x.change.page)).set 5 (.int .u16 x.change.slot)).set 6 (.bool x.change.had)).set 7 (.bool x.change.has)).set 8 (.slice pb x.change.before.length cb)).set 9 (.slice pa x.change.after.length ca)).at 9 rfl
  have j:=(((((((((((a.set 0 (.int .u8 x.kind)).set 1 (.int .u32 x.txn)).set 2 (.int .u64 x.prev)).set 3 (.int .u64 x.next)).set 4 (.int .u32 x.change.page)).set 5 (.int .u16 x.change.slot)).set 6 (.bool x.change.had)).set 7 (.bool x.change.has)).set 8 (.slice pb x.change.before.length cb)).set 9 (.slice pa x.change.after.length ca)).set 10 (.slice pt x.qbm.length ct)).at 10 rfl
  have k:=((((((((((((a.set 0 (.int .u8 x.kind)).set 1 (.int .u32 x.txn)).set 2 (.int .u64 x.prev)).set 3 (.int .u64 x.next)).set 4 (.int .u32 x.change.page)).set 5 (.int .u16 x.change.slot)).set 6 (.bool x.change.had)).set 7 (.bool x.change.has)).set 8 (.slice pb x.change.before.length cb)).set 9 (.slice pa x.change.after.length ca)).set 10 (.slice pt x.qbm.length ct)).set 11 (.slice pp x.pages.length cp)).at 11 rfl
  have HY:=Z2 (And.intro B (And.intro C (And.intro D (And.intro E (And.intro F (And.intro G (And.intro I (And.intro J (And.intro L (And.intro M (And.intro j k)))))))))))
  clear B C D E F G I J L M j k
  have z:=((((((((((((s.qa3 (b:=bx) (o:=0) d (.int .u8 x.kind)).qa3 (b:=bx) (o:=1) d (.int .u32 x.txn)).qa3 (b:=bx) (o:=2) d (.int .u64 x.prev)).qa3 (b:=bx) (o:=3) d (.int .u64 x.next)).qa3 (b:=bx) (o:=4) d (.int .u32 x.change.page)).qa3 (b:=bx) (o:=5) d (.int .u16 x.change.slot)).qa3 (b:=bx) (o:=6) d (.bool x.change.had)).qa3 (b:=bx) (o:=7) d (.bool x.change.has)).qa3 (b:=bx) (o:=8) d (.slice pb x.change.before.length cb)).qa3 (b:=bx) (o:=9) d (.slice pa x.change.after.length ca)).qa3 (b:=bx) (o:=10) d (.slice pt x.qbm.length ct)).qa3 (b:=bx) (o:=11) d (.slice pp x.pages.length cp))
  have aa:=(Y.trans (Step.refl _ _ _))
  rw[Z,a3,a0] at aa
  have ae:=(((((((((((((Step.refl w4 ai (fun t=>t=qbv)).set (b:=bx) (o:=0) a.tag rfl (.int .u8 x.kind)).set (b:=bx) (o:=1) a.tag rfl (.int .u32 x.txn)).set (b:=bx) (o:=2) a.tag rfl (.int .u64 x.prev)).set (b:=bx) (o:=3) a.tag rfl (.int .u64 x.next)).set (b:=bx) (o:=4) a.tag rfl (.int .u32 x.change.page)).set (b:=bx) (o:=5) a.tag rfl (.int .u16 x.change.slot)).set (b:=bx) (o:=6) a.tag rfl (.bool x.change.had)).set (b:=bx) (o:=7) a.tag rfl (.bool x.change.has)).set (b:=bx) (o:=8) a.tag rfl (.slice pb x.change.before.length cb)).set (b:=bx) (o:=9) a.tag rfl (.slice pa x.change.after.length ca)).set (b:=bx) (o:=10) a.tag rfl (.slice pt x.qbm.length ct)).set (b:=bx) (o:=11) a.tag rfl (.slice pp x.pages.length cp))
  have ao:=(be.step aa id).step ae dC
  have ap:=(bf.step aa id).step ae dC
  have aq:=(b4.step aa id).step ae dC
  have ar:=(b5.step aa id).step ae dC
  obtain⟨b2,b3⟩:=qaj a0 Z
  obtain⟨R,Hr,bg,bh,bi,bj⟩:=qcq z hr ao ap aq ar
  clear z hr ao ap aq ar ad X Y a0 Z a9 Hx a6 b1 a3 aa ae be bf b4 b5 a s q
  go_upto_if 33 with fail
  rw[b3.out,b2.out]
  go_wp2_with fail
  obtain⟨B,C,D,E,F,G,I,J,L,M,j,k⟩:=HY.out
  try simp only[Exit.inBlock,Exit.then]
  refine bodyPost_ret (by simp[results,Tryz.results70,go_sem,B,C,D,E,F,G,I,J,L,M,j,k];try rfl) rfl ?_
  exact⟨ai,R,.inr ⟨x,n,_,by rw[U.out,Hr.out];rfl,rfl,_,_,_,_,_,rfl,⟨_,_,rfl,bg⟩,⟨_,_,rfl,bh⟩,bi,bj⟩⟩
def WrT (t:Tag):Prop:=t=tWr\/t=tWb
theorem Qmi {w0:World} {E:qa1} {F:Nat}(G:Step w0 E w τ nil) (h:qh5 w0.heap.size w τ F l) (hsz:l.length<=50000) {p:Option Addr}{c:Nat}{m:List Int}(hb:Bytes w τ qa2 (.slice p m.length c) m) (hm:m.length<=255) :
 Calls Tryz.prog 186 #[.pointer (some ⟨F,0,none⟩),.slice p m.length c] w fun e w'=>e = .returned (.tuple #[])/\∃s,qh5 w0.heap.size w' s F (l++leB m.length 1++m)/\Step w0 E w' s nil/\Step w τ w' s WrT:=by
 have hn:=Qa4 G h oM m.length 1 oM oM oM
 have I:(l++leB m.length 1).length=l.length+1:=by rw[Z6,Qaa]
 generalize hk:m.length=k at *
 have hkw:=Qam k oM
 obtain⟨Hn,Hb,Hk,a2⟩:=qb9 hn hb hk I
 clear hn G hb h hk I
 go_enter Tryz.func186,Tryz.ntmps186
 go_wp2_with fail
 refine Hn.mono ?_
 rintro e w1 ⟨rfl,τ1,x,j,y⟩
 obtain⟨v1,z,B⟩:=x.is
 obtain⟨p1,c1,rfl⟩:=B.val
 have n:=x.low
 have q:=Hb.step y (by simp[qa2,tWr,tWb])
 have r:(l++leB k 1).length+m.length<=100000000000:=by rw[a2.out,Hk.out];omega
 have c0:=z.at 0 rfl
 obtain⟨J,M,a3,O,a4,a5⟩:=qcq q r B j y z
 clear q r B j y z x
 generalize a6:l++leB k 1=L at *
 generalize hL:L.length=n1 at *
 go_wp2_with (at_builtin;refine Qal O a3 J (by rw[hL];exact M) rfl _ _ rfl rfl rfl ?_;intro v5 w5 i C R a;obtain⟨p5,c5,rfl⟩:=C.val;generalize hnl:(L++m).length=nl at *;have d:=a5.step a dC;have z0:=d.fz 0;have c5':=d.at 0 rfl;have D:Step w5 i (w5.setCell ⟨F,0,none⟩ (.slice p5 nl c5)) i (fun t=>t=tWr):=(Step.refl w5 i (fun t=>t=tWr)).set (o:=0) d.tag rfl _;have U:=d.set 0 (.slice p5 nl c5);have X:=C.step D dC;have Y:=R.qa3 (b:=F) (o:=0) n (.slice p5 nl c5);have Z:=(a4.trans (a.mono (T:=WrT) (fun _ h=>.inr h))).trans (D.mono (T:=WrT) (fun _ h=>.inl h));obtain⟨a9,aa,ab,ac⟩:=qb9 U X Y Z;clear U X Y Z;clear d D a R C)
 go_returns
 refine⟨rfl,i,⟨⟨_,a9,?_⟩,n⟩,ab,ac⟩
 rw[a6];exact aa
def qhx (hd hs:Bool):Nat:=(if hd=true then 1 else 0)+(if hs=true then 2 else 0)
theorem Qvy (w:World) (τ:qa1) (pg sl:Nat) (hd a:Bool) (pb pa:Option Addr) (nb cb c ca:Nat):Calls Tryz.prog 185 #[.agg #[.int .u32 pg,.int .u16 sl,.bool hd,.bool a,.slice pb nb cb,.slice pa c ca]] w fun e i=>e = .returned (.int .u64 (qhx hd a:Int))/\Step w τ i τ nil:=by
 have b:=(zS w τ).alloc' (.cells #[.int .u32 pg,.int .u16 sl,.bool hd,.bool a,.slice pb nb cb,.slice pa c ca] 70)
 have d:=Own.born w τ qa2 70 #[.int .u32 pg,.int .u16 sl,.bool hd,.bool a,.slice pb nb cb,.slice pa c ca]
 have c2:=d.at 2 rfl
 have c3:=d.at 3 rfl
 have h:=Z2 b
 clear b d
 cases hd <;> cases a
 all_goals
  go_enter Tryz.func185,Tryz.ntmps185
  go_wp2_with fail
  go_ret
  exact⟨rfl,h⟩
def qj4 (c:qa7):List Int:=leB c.page 4++leB c.slot 2++leB (qhx c.had c.has) 1++leB c.before.length 1++c.before++leB c.after.length 1++c.after
theorem Qhi (c:qa7):(qj4 c).length=9+c.before.length+c.after.length:=by simp only[qj4,Z6,Qaa];omega
theorem Qoc (hd a:Bool):qhx hd a<4:=by cases hd <;> cases a <;> decide
theorem Qp4 {w0:World} {a0:qa1} {bw:Nat}(a1:Step w0 a0 w τ nil) (h:qh5 w0.heap.size w τ bw l) (hsz:l.length<=10000) {pb pa:Option Addr}{cb ca:Nat}(c:qa7) (hb:Bytes w τ qa2 (.slice pb c.before.length cb) c.before) (ha:Bytes w τ qa2 (.slice pa c.after.length ca) c.after) (hpg:c.page<4294967296) (hsl:c.slot<65536) (hbl:c.before.length<=255) (b5:c.after.length<=255) :
 Calls Tryz.prog 145 #[.pointer (some ⟨bw,0,none⟩),.agg #[.int .u32 c.page,.int .u16 c.slot,.bool c.had,.bool c.has,.slice pb c.before.length cb,.slice pa c.after.length ca]] w fun e w'=>e = .returned (.tuple #[])/\∃J,qh5 w0.heap.size w' J bw (l++qj4 c)/\Step w0 a0 w' J nil/\Step w τ w' J WrT:=by
 have he:qj4 c=leB c.page 4++leB c.slot 2++leB (qhx c.had c.has) 1++leB c.before.length 1++c.before++leB c.after.length 1++c.after:=rfl
 generalize qj4 c=E at *
 obtain⟨pg,sl,hd,L,be,af⟩:=c
 dsimp only at *
 have a2:=fun (W:World) (T:qa1)=>Qvy W T pg sl hd L pb pa be.length cb af.length ca
 have hflt:=Qoc hd L
 have ho:=Own.born w τ qa2 70 #[.int .u32 pg,.int .u16 sl,.bool hd,.bool L,.slice pb be.length cb,.slice pa af.length ca]
 have a:=(zS w τ).alloc (.cells #[.int .u32 pg,.int .u16 sl,.bool hd,.bool L,.slice pb be.length cb,.slice pa af.length ca] 70) qa2
 have q:=a1.trans a
 have h0:=h.step a id id
 have a3:=hb.step a id
 have a4:=ha.step a id
 generalize τ.put w.heap.size qa2=τ1 at *
 have e1:=Qam pg oM
 have e2:=Qam sl oM
 generalize a5:be.length=nb at *
 generalize a6:af.length=na at *
 have c0:=ho.at 0 rfl
 have a7:=Qa4 q h0 oM pg 4 oM oM oM
 obtain⟨b8,b9,Ho,ba,bb,a8,He,n,M⟩:=qgw a3 a4 ho a2 a7 a he a5 a6
 clear q h0 a3 a4 ho a2 a7 a he a5 a6 a1 h hb ha
 go_enter Tryz.func145,Tryz.ntmps145
 go_wp2_with fail
 generalize w.alloc (.cells #[.int .u32 pg,.int .u16 sl,.bool hd,.bool L,.slice pb nb cb,.slice pa na ca] 70)=W1 at *
 refine bb.mono ?_
 rintro e w2 ⟨rfl,bc,a9,r,i⟩
 have O:=Ho.step i (by simp[qa2,tWr,tWb])
 have s:Step W1 τ1 w2 bc WrT:=i
 have aa:=b8.step i (by simp[qa2,tWr,tWb])
 have ab:=b9.step i (by simp[qa2,tWr,tWb])
 clear c0
 have c1:=O.at 1 rfl
 have ac:=Qa4 r a9 (by rw[Z6,Qaa];omega) sl 2 oM oM oM
 obtain⟨bd,bf,bg,bh⟩:=qb9 ac O aa ab
 have ad:=Z2 s
 clear ac O aa ab s i a9 r
 go_wp2_with fail
 refine bd.mono ?_
 rintro e w3 ⟨rfl,o,ae,x,j⟩
 have b:=bf.step j (by simp[qa2,tWr,tWb])
 have y:Step W1 τ1 w3 o WrT:=ad.trans j
 have ag:=bg.step j (by simp[qa2,tWr,tWb])
 have ah:=bh.step j (by simp[qa2,tWr,tWb])
 clear c1
 have d0:=b.at 0 rfl
 have d1:=b.at 1 rfl
 have d2:=b.at 2 rfl
 have d3:=b.at 3 rfl
 have d4:=b.at 4 rfl
 have d5:=b.at 5 rfl
 obtain⟨bi,bj,bk⟩:=qan b ag ah
 have ai:=Z2 y
 obtain⟨bl,aj⟩:=qaj ae x
 clear b ag ah y ae x j
 go_wp2_with fail
 refine(ba _ o).mono ?_
 rintro e w4 ⟨rfl,d⟩
 have ak:=bl.step d id id
 have z:=aj.trans d
 have B:Step w3 o w4 o WrT:=d.nz
 have al:=Qa4 z ak (by simp only[Z6,Qaa];omega) (qhx hd L) 1 oM oM oM
 have am:=bi.step d id
 have an:=bj.step d id
 have ao:=bk.step d id
 generalize bm:qhx hd L=fg at *
 obtain⟨bn,bo,bp,bq⟩:=qb9 al am an ao
 have ap:=Z2 B
 clear al am an ao B bm d0 d1 d2 d3 d4 d5 d ak z
 go_wp2_with fail
 refine bn.mono ?_
 rintro e w5 ⟨rfl,br,aq,C,k⟩
 have R:=bo.step k (by simp[qa2,tWr,tWb])
 have D:Step W1 τ1 w5 br WrT:=(ai.trans ap).trans k
 have U:=bp.step k (by simp[qa2,tWr,tWb])
 have ar:=bq.step k (by simp[qa2,tWr,tWb])
 have c4:=R.at 4 rfl
 rw[<-n.out] at U
 have X:=Qmi C aq (by simp only[Z6,Qaa];omega) U (by rw[n.out];exact hbl)
 rw[n.out] at X
 obtain⟨bs,bv,bz⟩:=qan X R ar
 have av:=Z2 D
 clear X R ar D k aq C U
 go_wp2_with fail
 refine bs.mono ?_
 rintro e w6 ⟨rfl,c3,aw,F,p⟩
 have ax:=bv.step p (by simp[WrT,qa2,tWr,tWb])
 have G:Step W1 τ1 w6 c3 WrT:=av.trans p
 have Y:=bz.step p (by simp[WrT,qa2,tWr,tWb])
 have c5:=ax.at 5 rfl
 rw[<-M.out] at Y
 have Z:=Qmi F aw (by simp only[Z6,Qaa,n.out];omega) Y (by rw[M.out];exact b5)
 rw[M.out] at Z
 have c6:=Z2 Z
 have ay:=Z2 G
 clear Z G p aw F Y c4 ax
 go_wp2_with fail
 refine c6.mono ?_
 rintro e w7 ⟨rfl,c7,az,I,b0⟩
 obtain⟨c8,b1,c9⟩:=qan az I b0
 clear az I b0
 go_wp2_with fail
 go_returns
 refine⟨rfl,c7,?_,b1,((a8.nz (T:=WrT)).trans ay).trans c9⟩
 have:=c8.out
 rw[He.out]
 simp only[Y9] at this ⊢
 exact this
theorem Bytes.tailA {b o c n:Nat}(h:Bytes w τ g (.slice (some ⟨b,o,none⟩) n c) l) (k:Nat) (hk:k<l.length):Bytes w τ g (.slice (some ⟨b,o+k,none⟩) (l.length-k) (c-k)) (l.drop k):=by
 obtain⟨p',c',hv,h1,h2,d⟩:=h.is
 simp only[Value.slice.injEq] at hv
 obtain⟨rfl,rfl,rfl⟩:=hv
 obtain⟨b',o',e,j,a⟩:=d oM
 cases e
 refine⟨fun x p=>h.isB x (List.mem_of_mem_drop p),_,_,by rw[List.length_drop],by rw[List.length_drop];omega,oM,fun _=>⟨b,o+k,rfl,j,fun i hi=>?_⟩⟩
 rw[List.length_drop] at hi
 have:=a (k+i) oM
 rw[show o+k+i=o+(k+i) by omega,this,Z5,Z5,List.getElem?_drop]
def qfw:Tag:=(323,0)
theorem Jgi(h:qa4 g):¬qah g/\g≠qa2:=by
 obtain⟨a,b⟩:=g
 unfold qa4 at h
 dsimp only at h
 exact⟨fun q=>by unfold qah at q;dsimp only at q;omega,fun q=>by simp only[qa2,Prod.mk.injEq] at q;omega⟩
theorem Ck.qjw:(Tryz.prog.info? 58).map (fun i=>(i.zero,i.size,i.bytes))=some (some (.slice none 0 0),1,24):=kR
theorem Jf1 (n:Nat) (hn:n<=4096) (W:World):(Instr.makeSlice 31 (.int .i64 n) (.int .i64 n)).run Tryz.prog W =
 .ok (.slice (some ⟨W.heap.size,0,none⟩) n n) (W.alloc (.cells (List.replicate n (Value.slice none 0 0)).toArray 58)):=by
 have:=run_make_row' (P:=Tryz.prog) 31 58 (.slice none 0 0) 24 Tryz.underlying31 Ck.qjw rfl .i64 .i64 n oM oM W
 rw[this]
 congr 3
 apply Array.ext_getElem?
 intro j
 by_cases a:j<n
 ·have h1:=Ck.qda #[Value.slice none 0 0] n j a
  rw[h1]
  simp[a,Nat.mod_one]
 ·have l:(madeCells #[Value.slice none 0 0] n)[j]?=none:=by
   unfold madeCells
   rw[Array.getElem?_map,Array.getElem?_range,if_neg a];rfl
  rw[l]
  simp[a]
inductive Scan (A:List Int):Nat->List Nat->Prop
 | nil:Scan A 0 []
 | next {la n:Nat} {st:List Nat} {r:qak}:Scan A la st->Qd1 (A.drop la)=some (r,n)->Scan A (la+n) (st++[la])
theorem Scan.le {A:List Int} {la:Nat} {st:List Nat}(h:Scan A la st):la<=A.length/\st.length<=la:=by
 induction h with
 | nil=>exact⟨Z9 _,Z0 _⟩
 | next h hd ih =>
   have:=Qtf hd
   rw[List.length_drop] at this
   rw[Z6,List.length_singleton]
   omega
theorem Buf.front {p:Option Addr} {c n:Nat}(h:Buf w τ g 5 1 (.slice p n c) n (u8s l)) (k:Nat) (hk:k<=n):Buf w τ g 5 1 (.slice p k k) k (u8s (l.take k)):=by
 obtain⟨h1,⟨hv,h0⟩|⟨b,cap,ys,hv,a,h3,h4,h5⟩⟩:=h
 ·cases hv
  have:k=0:=oM
  subst this
  exact⟨by simp[u8s],.inl ⟨rfl,rfl⟩⟩
 ·cases hv
  rw[Qac] at h1
  refine⟨by rw[Qac,List.length_take];omega,.inr ⟨b,k,u8s (l.drop k)++ys,rfl,?_,?_,Z0 _,oM⟩⟩
  ·rw[<-Y9,<-Qig,List.take_append_drop];exact a
  ·rw[Qac,List.length_take];omega
def Jcz (D:Dev) (L:qac):List (List Int):=(List.range L.strips).map (fun k=>D.last 0 (L.qam+k))
def qac.opened (L:qac) (A:List Int) (la:Nat) (st:List Nat):qac:={L with stream:=A.take la,starts:=st,lasts:=la}
def qf2 (g:Tag):Prop:=qai g\/qa4 g\/qah g
def OpenR (w:World) (τ:qa1) (bd:Nat) (D:Dev) (L:qac) (e:Ending) (w':World):Prop :=
 ∃bl τ' la st,Scan (Jcu (Jcz D L)) la st/\Qd1 ((Jcu (Jcz D L)).drop la)=none /\
   e = .returned (.tuple #[.pointer (some ⟨bl,0,none⟩),.int .u16 0])/\w.heap.size<=bl /\
   qaw w' τ' bl bd (L.opened (Jcu (Jcz D L)) la st)/\qax w' τ' bd (D.make L.qam L.strips (Qeg ((Jcu (Jcz D L)).take la)))/\Step w τ w' τ' qf2
theorem Jfb {bd:Nat} {D:Dev}(hd:qax w τ bd D) (i9:18<=D.f0.length) (cr:D.lim 800000) (hk:∀i,i<2->(Jct (D.last 0 i)).stamp=0\/Jc3 (D.last 0 i)=true) (hs:0<(qbo D 2).1.stamp) :
 Calls Tryz.prog 24 #[.pointer (some ⟨bd,0,none⟩)] w (OpenR w τ bd D ((qby D.f0.length).qbw (qbo D 2))):=by
 have fa:=Jar hd i9
 have de:D.file 0=D.f0:=rfl
 obtain⟨L,hL⟩:=gN ((qby D.f0.length).qbw (qbo D 2))
 have cs:L.strips=(D.f0.length-2)/2:=by rw[<-hL];rfl
 have fc:L.lasts=0/\L.starts=[]/\L.stream=[]:=by rw[<-hL];exact⟨rfl,rfl,rfl⟩
 have cv:decide (0<(qbo D 2).1.stamp)=true:=by simpa using hs
 rw[hL]
 obtain⟨ia,Hd,fe,Hk,HL,ib,ff,fg⟩:=qen fa hd cr hk hL fc cs cv
 clear fa hd cr hk hL fc cs cv hs
 go_enter Tryz.func24,Tryz.ntmps24
 go_wp2_with fail
 refine ia.mono ?_
 rintro e w1 ⟨bl,τ1,rfl,cw,fh,df⟩
 have fi:=Hd.step df zE
 have dh:=Jgg fh fi oM Hk
 rw[fg.out,HL.out] at dh
 obtain⟨ic,fj,fk⟩:=qan dh df cw
 clear dh df cw fh fi
 go_wp2_with fail
 refine ic.mono ?_
 rintro e w2 ⟨rfl,fm,c6,di⟩
 have fn:=(Hd.step fj zE).step di (fun g hg=>by subst hg;exact⟨Qau _ (.inl rfl),by simp[qb1,qa2]⟩)
 have b2:=(fj.mono (T:=fun g=>g=qb1) (fun _ h=>h.elim)).trans di
 obtain⟨vs,vt,fq,-,-⟩:=c6.is
 have c5:=fq.at 5 rfl
 have ie:=c6.ok.strips
 obtain⟨n,hn⟩:=gN L.strips
 rw[hn] at c5 ie
 have hms:=Jf1 n oM
 obtain⟨F,hF⟩:=gN L.qam
 have fr:F+n<=D.f0.length:=by
  have h1:=ff.out
  rw[<-hF,<-hn];unfold qac.qam;split <;> omega
 have c7:=Own.born w2 fm qfw 58 (List.replicate n (Value.slice none 0 0)).toArray
 have a:=(zS w2 fm).alloc (.cells (List.replicate n (Value.slice none 0 0)).toArray 58) qfw
 have dj:=c6.step a zN
 have dk:=fn.step a zE
 have b3:=b2.trans (a.mono (T:=fun g=>g=qb1) (fun _ h=>h.elim))
 have b4:w.heap.size<=w2.heap.size:=b2.size
 obtain⟨bs,dl⟩:=gN w2.heap.size
 rw[dl] at c7 a dj dk b3 b4
 rw[List.toList_toArray] at c7
 have fs:=Z2 dl
 obtain⟨ii,ij,ft,ik,Hn,HF⟩:=qcq dj dk b3 c7 hn hF
 clear dj dk b3 c7 hn hF c6 fn b2 di fq a dl
 go_wp2_with fail
 rw[fs.out]
 go_loopw [30] (fun v wr=>∃(i:Nat) (p:qa1) (xs:List Value),i<=n/\v = .int .i64 i/\qaw wr p bl bd L/\qax wr p bd D/\Own wr p bs qfw 58 xs/\xs.length=n/\(∀k,k<i->∃u,xs[k]?=some u/\Bytes wr p qa2 u (D.last 0 (F+k)))/\Step w τ wr p (fun g=>g=qb1)) (fun v _=>n-(intOf v).toNat)
 case atStart=>exact⟨0,_,_,Z9 _,rfl,ii,ij,ik,Z7 ..,fun k hk=>oM,ft⟩
 case round =>
  obtain⟨i,p,xs,hi,rfl,ak,E,al,b5,cc,cd⟩:=hrel
  by_cases fv:i<n
  ·have dm:=Qiz ak
   rw[HF.out] at dm
   have dn:=Qnm E 0 oM (F+i) (by rw[de];omega) qa2
   have il:((F+i:Nat):Int)=(F:Int)+i:=oM
   rw[il] at dn
   obtain⟨vs,vt,ho,-,-⟩:=ak.is
   have c3:=ho.at 3 rfl
   have hF4:F+i<=4096:=by have:=Hd.length 0;rw[de] at this;omega
   have hltI:(i:Int)<n:=oM
   obtain⟨dp,a4,im,dq,io,dr,ip,iq⟩:=qen ak E al b5 cc cd dm dn
   clear ak E al b5 cc cd dm dn ho
   go_wp2_with fail
   refine ip.mono ?_
   rintro e w3 ⟨rfl,rfl⟩
   go_wp2_with fail
   refine iq.mono ?_
   rintro e w4 ⟨u,b6,rfl,hb,am⟩
   have fx:=dp.step am zN
   have G:=a4.step am zE
   have c:=im.step am id
   have fy:∀k,k<i->∃u,xs[k]?=some u/\Bytes w4 b6 qa2 u (D.last 0 (F+k)):=fun k hk=>by
    obtain⟨u,h1,h2⟩:=io k hk
    exact⟨u,h1,h2.step am id⟩
   have j:=dr.trans (am.mono (T:=fun g=>g=qb1) (fun _ h=>h.elim))
   have cx:=c.at i (v:=xs[i]'(by rw[dq.out];exact fv)) (Z3 _)
   have zx:=c.fz i
   obtain⟨pu,cu,rfl,-,-⟩:=hb.any
   generalize hnu:(D.last 0 (F+i)).length=nu at *
   have g0:=c.set i (.slice pu nu cu)
   have g4:Step w4 b6 (w4.setCell ⟨bs,i,none⟩ (.slice pu nu cu)) b6 (fun g=>g=qfw):=(Step.refl w4 b6 (fun g=>g=qfw)).set (b:=bs) (o:=i) c.tag rfl _
   obtain⟨ce,it,iv,cf,ds,iw,af,Hb⟩:=qen g4 g0 fx G c fy j hb
   clear g4 g0 fx G c fy j hb am
   go_wp2_with fail
   go_round
   case rel =>
    refine⟨i+1,b6,xs.set i (.slice pu nu cu),oM,sM,iv.step ce (by rintro g (rfl|rfl|rfl) <;> simp[qfw,qb1,qa5,qa6]),cf.step ce (fun g hg=>by subst hg;exact⟨by simp[qah,qfw,qd0,qcj,qco,qbl],by simp[qfw,qa2]⟩),it,by rw[Y1];exact dq,fun k hk=>?_,af.qa3 (b:=bs) (o:=i) b4 _⟩
    by_cases cg:k=i
    ·subst cg
     exact⟨_,List.getElem?_set_self (by rw[dq.out];exact fv),Hb.step ce (by simp[qfw,qa2])⟩
    ·obtain⟨u,h1,h2⟩:=iw k oM
     exact⟨u,by rw[List.getElem?_set_ne oM];exact h1,h2.step ce (by simp[qfw,qa2])⟩
   case measure=>simp[intOf];omega
  ·have ix:i=n:=oM
   subst ix
   have a:(Jcz D L).length=i:=by unfold Jcz;rw[Y0,List.length_range];exact Hn
   have hw:qcv wr p qfw (.slice (some ⟨bs,0,none⟩) i i) (Jcz D L):=by
    refine .inr ⟨bs,i,xs,[],by rw[a],by simpa using al,by rw[b5,a],by rw[a,b5];exact⟨Z0 _,Nat.le_add_right _ _⟩,by unfold maxLen;omega,fun k x hx=>?_⟩
    have cg:k<i:=by rw[<-a];exact(Z4 hx).1
    have g5:x=D.last 0 (F+k):=by
     unfold Jcz at hx
     rw[List.getElem?_map,List.getElem?_range (by rw[Hn.out];exact cg),HF.out] at hx
     simpa using hx.symm
    obtain⟨u,h1,h2⟩:=cc k cg
    exact⟨by rw[g5];exact(Hd.qg5 0 (F+k) (by rw[de];omega)).1,u,h1,by rw[g5];exact h2⟩
   have dt:=Jds hw qa5 (by rw[a];omega)
   obtain⟨A,hA⟩:=gN (Jcu (Jcz D L))
   rw[hA] at dt
   have dv:=Jc4 (Jcz D L)
   rw[hA,a] at dv
   obtain⟨dp,a4,dr,iy,HA⟩:=qbq ak E cd dt hA
   clear ak E cd dt hA a al b5 cc hw
   go_wp2_with fail
   refine iy.mono ?_
   rintro e w5 ⟨u,iz,rfl,ch,ci⟩
   have dw:=dp.step ci zN
   have b7:=a4.step ci zE
   have U:=dr.trans (ci.mono (T:=fun g=>g=qb1) (fun _ h=>h.elim))
   obtain⟨pa,ca,rfl⟩:=ch.val
   obtain⟨m,hm⟩:=gN A.length
   rw[hm] at ch ⊢
   have g6:=dw.ok
   have an:=Z2 g6
   clear g6
   obtain⟨b8,d,j1,dx,b9⟩:=qbq ch hm dw b7 U
   clear dw b7 U ch ci hm
   go_wp2_with fail
   go_loopw [10] (fun v wr=>∃(la:Nat) (st:List Nat) (p:qa1) (vs vt:Value),Scan A la st/\Own wr p bl qb1 123 (Qa8 {L with lasts:=la,starts:=st} bd vs vt)/\Ints wr p qa6 vt st/\Bytes wr p qa5 (.slice pa m ca) A/\NB 0 wr p qa5 (.slice pa m ca) A/\qax wr p bd D/\Step w τ wr p (fun g=>g=qb1\/g=qa6\/qa4 g)) (fun v w=>m-(intOf ((w.cell? ⟨bl,9,none⟩).getD undef)).toNat)
   case atStart =>
    obtain⟨j2,j3,ao,hz5,ba⟩:=j1.is
    obtain⟨e9,e8,e7⟩:=ib.out
    rw[e8] at ba
    refine⟨0,[],iz,j2,j3,.nil,?_,ba,b8.out.bytes,⟨b8.out.buf,b8.out.isB,fun _ _=>Z9 _⟩,dx,b9.mono (fun _ h=>.inl h)⟩
    unfold Qa8 at ao ⊢
    rw[e9] at ao
    exact ao
   case round =>
    obtain⟨la,st,bb,vs,vt,bc,ho,ap,aq,J,E,R⟩:=hrel
    have g7:=bc.le
    rw[d.out] at g7
    have c9:=ho.at 9 rfl
    have j4:m<=ca/\ca<=maxLen:=by
     obtain⟨-,p',c',hv,h1,h2,-⟩:=aq
     cases hv
     rw[d.out] at h1
     exact⟨h1,h2⟩
    have g9:=j4.2
    have hmb:m<=300000:=by have:=d.out;omega
    unfold maxLen at g9
    cases a5:Qd1 (A.drop la) with
    | some xn =>
      obtain⟨x,n1⟩:=xn
      have j5:=Qtf a5
      rw[List.length_drop,d.out] at j5
      obtain⟨b,rfl⟩:∃b,pa=some ⟨b,0,none⟩:=by
       rcases J.buf.2 with ⟨hv,-⟩|⟨b,_,_,hv,-⟩
       ·cases hv;omega
       ·cases hv;exact⟨b,rfl⟩
      have g1:¬ca=la:=oM
      have g2:(0:Int)<=la:=oM
      have g3:(la:Int)<=m:=oM
      have dy:=aq.tailA la (by rw[d.out];omega)
      rw[d.out,Nat.zero_add] at dy
      have s:=Qt0 dy (by rw[List.length_drop,d.out];rw[d.out] at dv;omega) (by simp[qa4,qa5]) (by simp[qa5,qh3]) (by simp[qa5,qbv])
      rw[a5] at s
      obtain⟨pt,ct,rfl,-,-⟩:=ap.read
      obtain⟨Ho,e0,e4,be,a4,a6,bf,ar,e6⟩:=qgw ho ap aq J E R bc s a5
      clear ho ap aq J E R bc s a5 dy
      go_wp2_with fail
      refine ar.mono ?_
      rintro e w6 ⟨bg,bh,⟨j6,-⟩|⟨x',n',v,bi,rfl,j7⟩⟩
      ·cases j6
      ·cases bi
       obtain⟨vb,va,vt',vp,n0,rfl,⟨pb,cb,rfl,-⟩,⟨ga,gb,rfl,-⟩,gd,ge⟩:=j7
       obtain⟨gf,gg,rfl⟩:=gd.val
       obtain⟨pp,cp,rfl⟩:=ge.val
       have a:=(zS w6 bg).alloc (.cells (rR x.kind x.txn x.prev x.next x.change.page x.change.slot x.change.had x.change.has (.slice pb x.change.before.length cb) (.slice ga x.change.after.length gb) (.slice gf x.qbm.length gg) (.slice pp x.pages.length cp)) 73) qbv
       have y:=bh.trans a.nz
       generalize bg.put w6.heap.size qbv=I at *
       obtain⟨w7,a7⟩:=gN (w6.alloc (.cells (rR x.kind x.txn x.prev x.next x.change.page x.change.slot x.change.had x.change.has (.slice pb x.change.before.length cb) (.slice ga x.change.after.length gb) (.slice gf x.qbm.length gg) (.slice pp x.pages.length cp)) 73))
       rw[a7] at y
       have gh:=Ho.step y (by simp[qa4,qb1])
       have gi:=e0.step y (by simp[qa4,qa6])
       have gj:=e4.step y (by simp[qa4,qa5])
       have gk:=be.step y (by simp[qa4,qa5])
       have gl:=a4.step y (fun g hg=>Jgi hg)
       have d1:=a6.trans (y.mono (T:=fun g=>g=qb1\/g=qa6\/qa4 g) (fun _ h=>.inr (.inr h)))
       obtain⟨eb,gm,gn,gp,gq,gr,d2⟩:=qdr a7 gh gi gj gk gl d1
       clear gh gi gj gk gl d1 bh a y a7 gd ge
       go_wp2_with fail
       rw[eb.out]
       obtain⟨nt,av⟩:=gN st.length
       have X:=bf.le
       rw[d.out,av] at X
       have r:=(zS w7 I).drew
       have z:=gm.drew
       have a8:=gn.step r id
       have ec:=gp.step r id
       have aw:=gq.step r id
       have ax:=gr.step r zE
       have M:=d2.drew
       obtain⟨w8,a9⟩:=gN w7.drew
       rw[a9] at z a8 ec aw ax M
       have c8:=z.at 8 (v:=.slice pt nt ct) (by rw[<-av];rfl)
       have aa:=z.at 9 rfl
       have ed:=z.alloc (.cells #[.int .i64 la] 3)
       have j8:=ed.at 8 (v:=.slice pt nt ct) (by rw[<-av];rfl)
       have j9:=ed.at 9 rfl
       have ee:w8.cell? ⟨bl,8,none⟩=some (.slice pt nt ct)/\w8.cell? ⟨bl,9,none⟩=some (.int .i64 la):=⟨c8,aa⟩
       have ef:IntKind.i64.wrap ((la:Int)+n1)=(la:Int)+n1:=Qd6 oM oM
       rw[av] at a8
       obtain⟨gs,ja,bj,cj,jb,bk,ck,ag⟩:=qen av ef z a8 ec aw ax M
       clear ef z a8 ec aw ax M c8 aa ed c9 av r gm gn gp gq gr d2
       refine Qaf (S:=fun w':World=>w'.cell? ⟨bl,8,none⟩=some (.slice pt nt ct)/\w'.cell? ⟨bl,9,none⟩=some (.int .i64 la)) kR ?_
       rw[a9]
       clear a9
       refine tk0 [0,1,2,3,4,5,6,7,8] ?_
       iterate 9
        refine tkv (v:=?_) ?_ ?_
        rotate_left
        ·intro w eg;(try dsimp only at eg);go_simp
         all_goals with_reducible rfl
        try simp only[Act.put,lz1,lz2,lz3]
       refine tk9 ?_
       clear ee
       refine Qst (i:=9) dK rfl (fun K B=>?_)
       go_simp
       refine B.out _ _ (fun _=>⟨j8,j9⟩) ?_
       clear B K
       refine Qst (i:=10) dK rfl (fun K B=>?_)
       refine Qfx cj la rfl (by rw[gs.out];omega) rfl rfl _ _ rfl rfl rfl ?_
       intro v3 w3 Y eh ei
       obtain⟨p3,c3,rfl,-,-⟩:=eh.read
       have ay:=bj.step ei dC
       have d8:=ay.at 8 (v:=.slice pt nt ct) (by rw[<-gs.out];rfl)
       have d9:=ay.at 9 rfl
       have z8:=ay.fz 8
       have c:=ay.set 8 (.slice p3 (st++[la]).length c3)
       have ej:Step w3 Y (w3.setCell ⟨bl,8,none⟩ (.slice p3 (st++[la]).length c3)) Y (fun t=>t=qb1):=(Step.refl w3 Y (fun t=>t=qb1)).set (o:=8) ay.tag rfl _
       have ab:=eh.step ej dC
       have Z:Step w8 I (w3.setCell ⟨bl,8,none⟩ (.slice p3 (st++[la]).length c3)) Y (fun g=>g=qb1\/g=qa6):=(ei.mono (fun _ h=>.inr h)).trans (ej.mono (fun _ h=>.inl h))
       have ac:=jb.step Z dC
       have ad:=bk.step Z dC
       have G:=ck.step Z (fun g hg=>by rcases hg with rfl|rfl <;> exact⟨Qau _ (by simp[qai]),by simp[qb1,qa6,qa2]⟩)
       have j:=ag.trans (Z.mono (T:=fun g=>g=qb1\/g=qa6\/qa4 g) (fun _ h=>by rcases h with h|h;exact .inl h;exact .inr (.inl h)))
       clear ei eh ay ej Z
       obtain⟨jc,d4⟩:=gN ((st++[la]).length)
       rw[d4] at c ab ac ad G j ⊢
       obtain⟨ds,gt,gv,gw,cf,af⟩:=qcq c ab ac ad G j
       clear c ab ac ad G j d4
       refine B.out _ _ (fun _=>⟨d8,d9⟩) ?_
       clear B K
       refine Qst (i:=11) dK rfl (fun K B=>?_)
       go_simp
       refine B.out _ _ (fun _=>⟨d8,d9⟩) ?_
       clear B K
       refine Qst (i:=12) dK rfl (fun K B=>?_)
       go_simp
       refine B.out _ _ (fun _=>⟨d8,d9⟩) ?_
       clear B K
       refine Qst (i:=13) dK rfl (fun K B=>?_)
       go_simp
       refine B.out _ _ (fun h=>absurd h dK) ?_
       clear B K
       refine Qad kR ?_ _
       have c:=ds.out
       have ab:=gt.out
       have ac:=gv.out
       have ad:=gw.out
       have G:=cf.out
       have j:=af.out
       obtain⟨w4,gx⟩:=gN (w3.setCell ⟨bl,8,none⟩ (.slice p3 jc c3))
       rw[gx] at c ab ac ad G j ⊢
       have e9:=c.at 9 rfl
       have z9:=c.fz 9
       have ao:=c.set 9 (.int .i64 ((la:Int)+n1))
       have az:Step w4 Y (w4.setCell ⟨bl,9,none⟩ (.int .i64 ((la:Int)+n1))) Y (fun t=>t=qb1):=(Step.refl w4 Y (fun t=>t=qb1)).set (o:=9) c.tag rfl _
       have ba:=ab.step az dC
       have gy:=ac.step az dC
       have gz:=ad.step az dC
       have b7:=G.step az (fun g hg=>by rcases hg with rfl;exact⟨Qau _ (.inl rfl),by simp[qb1,qa2]⟩)
       have U:=j.trans (az.mono (T:=fun g=>g=qb1\/g=qa6\/qa4 g) (fun _ h=>.inl h))
       have ef:=ja.out
       obtain⟨h3,jd,je,jf,dx,b9⟩:=qcq ao ba gy gz b7 U
       clear ao ba gy gz b7 U d8 d9 z8 ds gt gv gw cf af c ab ac ad G j az gx
       go_wp2_with fail
       go_round
       case rel=>exact⟨la+n1,st++[la],Y,vs,_,.next bf e6,h3,jd,je,jf,dx,b9⟩
       case measure =>
        rw[h3.at 9 rfl,Ho.at 9 rfl]
        simp[intOf]
        omega
    | none =>
      have hcal:la<=ca:=oM
      have hcalI:(la:Int)<=ca:=oM
      have hlaI:(0:Int)<=la:=oM
      have h4:∀W T,NB 0 W T qa5 (.slice pa m ca) A->Buf W T qa5 5 1 (.slice pa la la) la (u8s (A.take la)):=fun W T h=>by
       have:=h.buf
       rw[d.out] at this
       exact this.front la g7.1
      have key:∀(q:Option Addr) (n2 c2:Nat),n2=m-la->(0<n2->Bytes wr bb qa5 (.slice q n2 c2) (A.drop la))->n2<=c2->c2<=maxLen->Calls Tryz.prog 70 #[.slice q n2 c2] wr (Qz6 wr bb none):=fun q n2 c2 e1 hb e2 e3=>by
       have jg:Bytes wr bb qa5 (.slice q n2 c2) (A.drop la):=by
        by_cases h0:0<n2
        ·exact hb h0
        ·have e:A.drop la=[]:=List.drop_eq_nil_of_le (by rw[d.out];omega)
         rw[e]
         exact⟨fun x hx=>by simp at hx,q,c2,by rw[show n2=0 by omega];rfl,Z9 _,e3,fun hx=>by simp at hx⟩
       have:=Qt0 jg (by rw[List.length_drop,d.out];rw[d.out] at dv;omega) (by simp[qa4,qa5]) (by simp[qa5,qh3]) (by simp[qa5,qbv])
       rw[a5] at this
       exact this
      obtain⟨pt,ct,rfl,-,-⟩:=ap.read
      have g2:(0:Int)<=la:=oM
      have g3:(la:Int)<=m:=oM
      have h5:(la<ca/\∃b,pa=some ⟨b,0,none⟩)\/(la=ca/\la=m/\∃b,pa=some ⟨b,0,none⟩)\/(la=ca/\la=m/\pa=none):=by
       rcases J.buf.2 with ⟨hv,-⟩|⟨b,_,_,hv,-⟩
       ·cases hv;exact .inr (.inr ⟨oM,oM,rfl⟩)
       ·cases hv
        by_cases h6:la<ca
        ·exact .inl ⟨h6,b,rfl⟩
        ·exact .inr (.inl ⟨oM,oM,b,rfl⟩)
      obtain⟨Ho,e0,e4,be,a4,a6,bf,e6,ek⟩:=qgw ho ap aq J E R bc a5 h4
      clear ho ap aq J E R bc a5 h4 c9
      rcases h5 with ⟨h6,b,rfl⟩|⟨rfl,rfl,b,rfl⟩|⟨rfl,rfl,rfl⟩
      case' inl =>
       have g1:¬ca=la:=oM
       have s:=key (some ⟨b,la,none⟩) (m-la) (ca-la) rfl (fun h=>by have:=e4.tailA la (by rw[d.out];omega);rw[d.out,Nat.zero_add] at this;exact this) oM oM
       have c9:=Ho.at 9 rfl
       obtain⟨vS,C⟩:∃v,v=Value.slice (some ⟨b,0,none⟩) la la:=⟨_,rfl⟩
       have a0:∀W T,NB 0 W T qa5 (.slice (some ⟨b,0,none⟩) m ca) A->Buf W T qa5 5 1 vS la (u8s (A.take la)):=fun W T h=>by rw[C];exact ek W T h
       obtain⟨ar,em,en⟩:=qan s a0 C
       clear s a0 C key
       go_wp2_with fail
      case' inr.inl =>
       have s:=key (some ⟨b,0,none⟩) 0 0 oM (fun h=>oM) oM oM
       have c9:=Ho.at 9 rfl
       obtain⟨vS,C⟩:∃v,v=Value.slice (some ⟨b,0,none⟩) la la:=⟨_,rfl⟩
       have a0:∀W T,NB 0 W T qa5 (.slice (some ⟨b,0,none⟩) la la) A->Buf W T qa5 5 1 vS la (u8s (A.take la)):=fun W T h=>by rw[C];exact ek W T h
       obtain⟨ar,em,en⟩:=qan s a0 C
       clear s a0 C key
       go_wp2_with fail
      case' inr.inr =>
       have s:=key none 0 0 oM (fun h=>oM) oM oM
       have c9:=Ho.at 9 rfl
       obtain⟨vS,C⟩:∃v,v=Value.slice (none) la la:=⟨_,rfl⟩
       have a0:∀W T,NB 0 W T qa5 (.slice (none) la la) A->Buf W T qa5 5 1 vS la (u8s (A.take la)):=fun W T h=>by rw[C];exact ek W T h
       obtain⟨ar,em,en⟩:=qan s a0 C
       clear s a0 C key
       go_wp2_with fail
      all_goals (
       refine ar.mono ?_
       rintro e w6 ⟨bg,bh,al⟩
       rcases al with ⟨-,er,her,rfl⟩|⟨x,n',v,bi,-,-⟩
       rotate_left
       ·cases bi
       rw[show Qdj=zR from rfl]
       have here:¬(er:Int)=0:=oM
       have a:=(zS w6 bg).alloc (.cells zR 73) qbv
       have y:=bh.trans a.nz
       generalize bg.put w6.heap.size qbv=I at *
       obtain⟨w7,a7⟩:=gN (w6.alloc (.cells zR 73))
       rw[a7] at y
       have r:=y.drew
       obtain⟨w8,a9⟩:=gN w7.drew
       rw[a9] at r
       have z:=Ho.step r (by simp[qa4,qb1])
       have a8:=e0.step r (by simp[qa4,qa6])
       have aw:=be.step r (by simp[qa4,qa5])
       have ax:=a4.step r (fun g hg=>Jgi hg)
       have M:=a6.trans (r.mono (T:=fun g=>g=qb1\/g=qa6\/qa4 g) (fun _ h=>.inr (.inr h)))
       have aa:=z.at 9 rfl
       have jh:=z.at 7 rfl
       have z7:=z.fz 7
       obtain⟨eb,bj,cj,bk,ck,ag⟩:=qcq a7 z a8 aw ax M
       clear z a8 aw ax M bh a y a7 r
       go_wp2_with fail
       rw[eb.out]
       have ee:w8.cell? ⟨bl,9,none⟩=some (.int .i64 la):=aa
       refine Qaf (S:=fun w':World=>w'.cell? ⟨bl,9,none⟩=some (.int .i64 la)) kR ?_
       rw[a9]
       clear a9
       refine tk0 [0,1,2,3,4,5,6,7,8,9,10] ?_
       iterate 11
        refine tkv (v:=?_) ?_ ?_
        rotate_left
        ·intro w eg;(try dsimp only at eg);go_simp
         all_goals with_reducible rfl
        try simp only[Act.put,lz1,lz2,lz3]
       refine tk9 ?_
       clear ee
       refine Qst (i:=11) dK rfl (fun K B=>?_)
       go_simp
       refine B.out _ _ (fun _=>aa) ?_
       clear B K
       refine Qst (i:=12) dK rfl (fun K B=>?_)
       go_simp
       refine B.out _ _ (fun _=>aa) ?_
       clear B K
       refine Qst (i:=13) dK rfl (fun K B=>?_)
       go_simp
       refine B.out _ _ (fun h=>absurd h dK) ?_
       clear B K
       refine Qad kR ?_ _
       rw[<-en.out]
       have ae:=bj.set 7 vS
       have bn:Step w8 I (w8.setCell ⟨bl,7,none⟩ vS) I (fun t=>t=qb1):=(Step.refl w8 I (fun t=>t=qb1)).set (o:=7) bj.tag rfl _
       have h8:=bk.step bn dC
       have eo:(A.take la).length=la:=by rw[List.length_take,d.out];omega
       have d6:(L.opened A la st).ok:=⟨an.stamp,an.base,an.check,an.qc0,an.strips,an.slot,by show (A.take la).length<=_;omega,by show st.length<=_;have:=bf.le.2;omega,by show la<=(A.take la).length;omega⟩
       have cn:qaw (w8.setCell ⟨bl,7,none⟩ vS) I bl bd (L.opened A la st):=⟨⟨_,_,ae,by show Buf _ _ _ _ 1 vS (A.take la).length _;rw[eo];exact em _ _ h8,cj.step bn dC⟩,fun x hx=>bk.isB x (List.mem_of_mem_take hx),d6⟩
       have ep:=ck.step bn (fun g hg=>by rcases hg with rfl;exact⟨Qau _ (.inl rfl),by simp[qb1,qa2]⟩)
       have X:=ag.trans (bn.mono (T:=fun g=>g=qb1\/g=qa6\/qa4 g) (fun _ h=>.inl h))
       obtain⟨LL,b0⟩:=gN (L.opened A la st)
       have h9:LL.qam=F:=by rw[<-b0,<-HF.out];rfl
       have ha:LL.qc0=L.qc0:=by rw[<-b0];rfl
       have hc:LL.stream=A.take la:=by rw[<-b0];rfl
       rw[b0] at cn
       obtain⟨w9,et⟩:=gN (w8.setCell ⟨bl,7,none⟩ vS)
       rw[et] at cn ep X ae
       have jj:=Z2 et
       have d3:=ae.at 3 rfl
       have d5:=ae.at 5 (v:=.int .i64 i) (by rw[<-Hn.out];rfl)
       have d7:=ae.at 7 rfl
       obtain⟨jk,jl,jm,co,jn,he,jo,jp,hf⟩:=qgw b0 eo ae cn ep X h9 ha hc
       clear cn ep X h9 ha hc ae bn h8 d6 b0 eo et aa jh z7 bj cj bk ck ag ar
       rw[jj.out]
       have cq:=(zS w9 I).drew
       have bo:=Qiz (co.step cq zN)
       rw[jp.out,jo.out] at bo
       obtain⟨vx,vy,hh,hj,-⟩:=(co.step cq zN).is
       have da:∀v,(w9.drew.cell? ⟨bl,7,none⟩=some v)->Calls Tryz.prog 50 #[v] w9.drew fun e w'=>∃u hl,e = .returned u/\NR w9.drew.heap.size w' hl qe3 u (Qeg (A.take la))/\Step w9.drew I w' hl nil:=fun v hv=>by
        have h7:=hh.at 7 rfl
        rw[hv] at h7
        cases h7
        have:=Qvl (Buf.bytes hj (co.step cq zN).isB) (by rw[hf.out,jl.out];omega)
        rw[hf.out] at this
        exact this
       have bp:=da vS (by exact d7)
       obtain⟨hp,ev⟩:=qaj bo bp
       clear bo bp da hh hj cq
       go_wp2_with fail
       go_region_held3 (fun w'=>w'.cell? ⟨bl,3,none⟩=some (.int .i64 L.qc0)/\w'.cell? ⟨bl,5,none⟩=some (.int .i64 i)/\w'.cell? ⟨bl,7,none⟩=some vS) (go_keep) (first
        | (go_at_call 52
           refine hp.mono ?_
           rintro e jq ⟨rfl,rfl⟩)
        | (go_at_call 50
           refine ev.mono ?_
           rintro e jq ⟨u10,τ10,rfl,bq,db⟩
           have a1:=(zS w9 I).drew.trans db
           have br:=co.step a1 zN
           have dc:=jn.step a1 zE
           have bv:=he.trans (a1.mono (T:=fun g=>g=qb1\/g=qa6\/qa4 g) (fun _ h=>h.elim))
           have hq:=Qxm br dc bq.row (by simp[qah,qe3]) F i fr fe
           have a2:=jm.step a1 id
           have e3:=a2.at 3 rfl
           have e5:=a2.at 5 (v:=.int .i64 i) (by rw[<-Hn.out];rfl)
           have e7:=a2.at 7 rfl
           obtain⟨hr,ht,ew,jr⟩:=qb9 a2 br bv hq
           clear br dc bv hq
           clear db a1 bq a2)
        | (go_at_call 71
           refine jr.mono ?_
           rintro e js ⟨rfl,dd,a3,ah⟩
           have O:=ht.step ah Qau
           have bw:Step w τ js dd qf2:=(ew.mono (T:=qf2) (fun _ h=>by rcases h with h|h|h;exact .inl (.inl h);exact .inl (.inr (.inr h));exact .inr (.inl h))).trans (ah.mono (T:=qf2) (fun _ h=>.inr (.inr h)))
           have ai:=hr.step ah (Qau _ (.inl rfl))
           have f3:=ai.at 3 rfl
           have f5:=ai.at 5 (v:=.int .i64 i) (by rw[<-Hn.out];rfl)
           have f7:=ai.at 7 rfl
           obtain⟨hy,hz,ey⟩:=qan O a3 bw
           clear O a3 bw
           clear ah ai))
       go_wp2_with fail
       go_ret2
       have O:=hy.out
       have a3:=hz.out
       rw[<-jk.out] at O
       rw[<-HF.out,<-Hn.out,<-HA.out] at a3
       rw[<-HA.out] at O
       exact⟨bl,dd,la,st,by rw[HA.out];exact bf,by rw[HA.out];exact e6,rfl,fk,O,a3,ey⟩)
