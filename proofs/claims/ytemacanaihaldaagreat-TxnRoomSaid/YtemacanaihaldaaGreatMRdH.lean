/-
 Records: Decode.
-/
import Derived.Test.YtemacanaihaldaaGreatMRdF
set_option maxRecDepth 100000
set_option maxHeartbeats 40000000
set_option linter.all false
namespace Go.Proofs.YtemacanaihaldaaGreat
variable {l:List Int}
open Go.RowKit
def Qd1 (l:List Int):Option (RecP×Nat):=if l.length<27 then none else if leN (l.take 2) 2=0\/l.length<leN (l.take 2) 2 then none else (pRead (l.take (leN (l.take 2) 2))).map (fun r=>(r,leN (l.take 2) 2))
theorem Qtf {r:RecP} {n:Nat}(h:Qd1 l=some (r,n)):0<n/\n<=l.length:=by
 unfold Qd1 at h
 split at h
 ·cases h
 ·split at h
  ·cases h
  ·cases b:pRead (l.take (leN (l.take 2) 2)) with
   | none=>rw[b] at h;cases h
   | some x =>
     rw[b] at h
     simp only[Option.map_some,Option.some.injEq,Prod.mk.injEq] at h
     obtain⟨-,rfl⟩:=h
     omega
def Qz6 (w:World) (τ:Tags) (r:Option (RecP×Nat)) (e:Ending) (w':World):Prop :=
 ∃τ',Step w τ w' τ' ReadTag/\((r=none/\∃er:Nat,(er=60\/er=61)/\e = .returned (.tuple #[.agg Qdj,.int .i64 0,.int .u16 (er:Int)]))\/∃x n v,r=some (x,n)/\e = .returned (.tuple #[v,.int .i64 (n:Int),.int .u16 0])/\RecV w' τ' v x)
theorem Qt0 {w:World} {τ:Tags} {g:Tag} {v:Value}(h:Bytes w τ g v l) (hll:l.length<=1000000) (hg:¬ReadTag g) (bv:g≠tTwo) (bw:g≠tOne) :
 Calls Tryz.prog 56 #[v] w (Qz6 w τ (Qd1 l)):=by
 have hq:=(Step.refl w τ nil).alloc (.cells Qdj 127) tOne
 have j:=Own.born w τ tOne 127 Qdj
 have R:=h.step hq (fun h=>h)
 have z:=hq.mono (T:=ReadTag) (fun _ h=>h.elim)
 obtain⟨bx,ab⟩:∃bx,w.heap.size=bx:=⟨_,rfl⟩
 rw[ab] at j R z hq
 generalize τ.put bx tOne=τ1 at *
 unfold Qdj at j R z hq
 obtain⟨w1,a7⟩:∃w1,w.alloc (.cells #[.int .u8 0,.int .u32 0,.int .u64 0,.int .u64 0,.int .u32 0,.int .u16 0,.bool false,.bool false,.slice none 0 0,.slice none 0 0,.slice none 0 0,.slice none 0 0] 127)=w1:=⟨_,rfl⟩
 rw[a7] at j R z
 have i:w.heap.size<=bx:=by omega
 have am:Step w τ w1 τ1 nil:=by rw[<-a7];exact hq
 by_cases be:l.length<27
 ·obtain⟨p,c,rfl,-,-⟩:=h.any
  have i27:(l.length:Int)<27:=by omega
  have bf:Qd1 l=none:=by unfold Qd1;rw[if_pos be]
  obtain⟨n,hn⟩:∃n,l.length=n:=⟨_,rfl⟩
  rw[hn] at i27 ⊢
  have k0:=j.at 0 (v:=.int .u8 0) rfl
  have f0:=j.fz 0
  have k1:=j.at 1 (v:=.int .u32 0) rfl
  have f1:=j.fz 1
  have k2:=j.at 2 (v:=.int .u64 0) rfl
  have f2:=j.fz 2
  have k3:=j.at 3 (v:=.int .u64 0) rfl
  have f3:=j.fz 3
  have k4:=j.at 4 (v:=.int .u32 0) rfl
  have f4:=j.fz 4
  have k5:=j.at 5 (v:=.int .u16 0) rfl
  have f5:=j.fz 5
  have k6:=j.at 6 (v:=.bool false) rfl
  have f6:=j.fz 6
  have k7:=j.at 7 (v:=.bool false) rfl
  have f7:=j.fz 7
  have k8:=j.at 8 (v:=.slice none 0 0) rfl
  have f8:=j.fz 8
  have k9:=j.at 9 (v:=.slice none 0 0) rfl
  have f9:=j.fz 9
  have b4:=j.at 10 (v:=.slice none 0 0) rfl
  have f10:=j.fz 10
  have b5:=j.at 11 (v:=.slice none 0 0) rfl
  have f11:=j.fz 11
  have C:=(j.set 0 (.int .u8 0)).at 0 (v:=.int .u8 0) rfl
  have D:=((j.set 0 (.int .u8 0)).set 1 (.int .u32 0)).at 1 (v:=.int .u32 0) rfl
  have E:=(((j.set 0 (.int .u8 0)).set 1 (.int .u32 0)).set 2 (.int .u64 0)).at 2 (v:=.int .u64 0) rfl
  have F:=((((j.set 0 (.int .u8 0)).set 1 (.int .u32 0)).set 2 (.int .u64 0)).set 3 (.int .u64 0)).at 3 (v:=.int .u64 0) rfl
  have G:=(((((j.set 0 (.int .u8 0)).set 1 (.int .u32 0)).set 2 (.int .u64 0)).set 3 (.int .u64 0)).set 4 (.int .u32 0)).at 4 (v:=.int .u32 0) rfl
  have I:=((((((j.set 0 (.int .u8 0)).set 1 (.int .u32 0)).set 2 (.int .u64 0)).set 3 (.int .u64 0)).set 4 (.int .u32 0)).set 5 (.int .u16 0)).at 5 (v:=.int .u16 0) rfl
  have J:=(((((((j.set 0 (.int .u8 0)).set 1 (.int .u32 0)).set 2 (.int .u64 0)).set 3 (.int .u64 0)).set 4 (.int .u32 0)).set 5 (.int .u16 0)).set 6 (.bool false)).at 6 (v:=.bool false) rfl
  have L:=((((((((j.set 0 (.int .u8 0)).set 1 (.int .u32 0)).set 2 (.int .u64 0)).set 3 (.int .u64 0)).set 4 (.int .u32 0)).set 5 (.int .u16 0)).set 6 (.bool false)).set 7 (.bool false)).at 7 (v:=.bool false) rfl
  have M:=(((((((((j.set 0 (.int .u8 0)).set 1 (.int .u32 0)).set 2 (.int .u64 0)).set 3 (.int .u64 0)).set 4 (.int .u32 0)).set 5 (.int .u16 0)).set 6 (.bool false)).set 7 (.bool false)).set 8 (.slice none 0 0)).at 8 (v:=.slice none 0 0) rfl
  have N:=((((((((((j.set 0 (.int .u8 0)).set 1 (.int .u32 0)).set 2 (.int .u64 0)).set 3 (.int .u64 0)).set 4 (.int .u32 0)).set 5 (.int .u16 0)).set 6 (.bool false)).set 7 (.bool false)).set 8 (.slice none 0 0)).set 9 (.slice none 0 0)).at 9 (v:=.slice none 0 0) rfl
  have k:=(((((((((((j.set 0 (.int .u8 0)).set 1 (.int .u32 0)).set 2 (.int .u64 0)).set 3 (.int .u64 0)).set 4 (.int .u32 0)).set 5 (.int .u16 0)).set 6 (.bool false)).set 7 (.bool false)).set 8 (.slice none 0 0)).set 9 (.slice none 0 0)).set 10 (.slice none 0 0)).at 10 (v:=.slice none 0 0) rfl
  have q:=((((((((((((j.set 0 (.int .u8 0)).set 1 (.int .u32 0)).set 2 (.int .u64 0)).set 3 (.int .u64 0)).set 4 (.int .u32 0)).set 5 (.int .u16 0)).set 6 (.bool false)).set 7 (.bool false)).set 8 (.slice none 0 0)).set 9 (.slice none 0 0)).set 10 (.slice none 0 0)).set 11 (.slice none 0 0)).at 11 (v:=.slice none 0 0) rfl
  have HY:=Z2 (And.intro C (And.intro D (And.intro E (And.intro F (And.intro G (And.intro I (And.intro J (And.intro L (And.intro M (And.intro N (And.intro k q)))))))))))
  clear C D E F G I J L M N k q
  have B:=((((((((((((z.setNew (b:=bx) (o:=0) i (.int .u8 0)).setNew (b:=bx) (o:=1) i (.int .u32 0)).setNew (b:=bx) (o:=2) i (.int .u64 0)).setNew (b:=bx) (o:=3) i (.int .u64 0)).setNew (b:=bx) (o:=4) i (.int .u32 0)).setNew (b:=bx) (o:=5) i (.int .u16 0)).setNew (b:=bx) (o:=6) i (.bool false)).setNew (b:=bx) (o:=7) i (.bool false)).setNew (b:=bx) (o:=8) i (.slice none 0 0)).setNew (b:=bx) (o:=9) i (.slice none 0 0)).setNew (b:=bx) (o:=10) i (.slice none 0 0)).setNew (b:=bx) (o:=11) i (.slice none 0 0))
  obtain⟨ah,ai⟩:=hid2 a7 ab
  obtain⟨Hx,bg,ac,U,ci,Hn⟩:=hid6 j R z B bf hn
  clear j R z B bf hn h hq am a7 ab
  go_enter Tryz.func56,Tryz.ntmps56
  go_upto_if 10 with fail
  rw[ai.out,ah.out]
  go_wp2_with fail
  obtain⟨C,D,E,F,G,I,J,L,M,N,k,q⟩:=HY.out
  try simp only[Exit.inBlock,Exit.then]
  refine bodyPost_ret (by simp[results,Tryz.results56,go_sem,C,D,E,F,G,I,J,L,M,N,k,q];try rfl) rfl ?_
  exact⟨τ1,U.out,.inl ⟨ci.out,60,.inl rfl,rfl⟩⟩
 obtain⟨b,o,c,rfl,hl⟩:=h.lies (by omega)
 have bh:=hl.le;have aw:=hl.cap
 have an:=hl.step am (fun h=>h)
 have bi:(l.take 2).length=2:=by rw[List.length_take];omega
 have hB:=h.isB
 have ax:=Qle (l:=l.take 2) (fun x j=>hB x (List.mem_of_mem_take j)) 2
 rw[show (2:Nat) ^ (8*2)=65536 from by decide] at ax
 have ad:=Qip (an.take 2).bytes (by omega) (by omega)
 rw[bi] at ad
 obtain⟨n,hn⟩:∃n,leN (l.take 2) 2=n:=⟨_,rfl⟩
 rw[hn] at ad ax
 have hnw:IntKind.i64.wrap (n:Int)=(n:Int):=Qd5 _ (by omega) (by omega)
 have i27:¬(l.length:Int)<27:=by omega
 have h2c:(2:Int)<=(c:Int):=by omega
 obtain⟨m,hm⟩:∃m,l.length=m:=⟨_,rfl⟩
 have O:Qd1 l=if n=0\/m<n then none else (pRead (l.take n)).map (fun r=>(r,n)):=by unfold Qd1;rw[if_neg be,hn,hm]
 have hmI:(m:Int)<=(c:Int):=by omega
 rw[hm] at i27 ⊢
 obtain⟨ah,ai⟩:=hid2 a7 ab
 by_cases a8:n=0\/m<n
 ·rw[if_pos a8] at O
  have k0:=j.at 0 (v:=.int .u8 0) rfl
  have f0:=j.fz 0
  have k1:=j.at 1 (v:=.int .u32 0) rfl
  have f1:=j.fz 1
  have k2:=j.at 2 (v:=.int .u64 0) rfl
  have f2:=j.fz 2
  have k3:=j.at 3 (v:=.int .u64 0) rfl
  have f3:=j.fz 3
  have k4:=j.at 4 (v:=.int .u32 0) rfl
  have f4:=j.fz 4
  have k5:=j.at 5 (v:=.int .u16 0) rfl
  have f5:=j.fz 5
  have k6:=j.at 6 (v:=.bool false) rfl
  have f6:=j.fz 6
  have k7:=j.at 7 (v:=.bool false) rfl
  have f7:=j.fz 7
  have k8:=j.at 8 (v:=.slice none 0 0) rfl
  have f8:=j.fz 8
  have k9:=j.at 9 (v:=.slice none 0 0) rfl
  have f9:=j.fz 9
  have b4:=j.at 10 (v:=.slice none 0 0) rfl
  have f10:=j.fz 10
  have b5:=j.at 11 (v:=.slice none 0 0) rfl
  have f11:=j.fz 11
  have C:=(j.set 0 (.int .u8 0)).at 0 (v:=.int .u8 0) rfl
  have D:=((j.set 0 (.int .u8 0)).set 1 (.int .u32 0)).at 1 (v:=.int .u32 0) rfl
  have E:=(((j.set 0 (.int .u8 0)).set 1 (.int .u32 0)).set 2 (.int .u64 0)).at 2 (v:=.int .u64 0) rfl
  have F:=((((j.set 0 (.int .u8 0)).set 1 (.int .u32 0)).set 2 (.int .u64 0)).set 3 (.int .u64 0)).at 3 (v:=.int .u64 0) rfl
  have G:=(((((j.set 0 (.int .u8 0)).set 1 (.int .u32 0)).set 2 (.int .u64 0)).set 3 (.int .u64 0)).set 4 (.int .u32 0)).at 4 (v:=.int .u32 0) rfl
  have I:=((((((j.set 0 (.int .u8 0)).set 1 (.int .u32 0)).set 2 (.int .u64 0)).set 3 (.int .u64 0)).set 4 (.int .u32 0)).set 5 (.int .u16 0)).at 5 (v:=.int .u16 0) rfl
  have J:=(((((((j.set 0 (.int .u8 0)).set 1 (.int .u32 0)).set 2 (.int .u64 0)).set 3 (.int .u64 0)).set 4 (.int .u32 0)).set 5 (.int .u16 0)).set 6 (.bool false)).at 6 (v:=.bool false) rfl
  have L:=((((((((j.set 0 (.int .u8 0)).set 1 (.int .u32 0)).set 2 (.int .u64 0)).set 3 (.int .u64 0)).set 4 (.int .u32 0)).set 5 (.int .u16 0)).set 6 (.bool false)).set 7 (.bool false)).at 7 (v:=.bool false) rfl
  have M:=(((((((((j.set 0 (.int .u8 0)).set 1 (.int .u32 0)).set 2 (.int .u64 0)).set 3 (.int .u64 0)).set 4 (.int .u32 0)).set 5 (.int .u16 0)).set 6 (.bool false)).set 7 (.bool false)).set 8 (.slice none 0 0)).at 8 (v:=.slice none 0 0) rfl
  have N:=((((((((((j.set 0 (.int .u8 0)).set 1 (.int .u32 0)).set 2 (.int .u64 0)).set 3 (.int .u64 0)).set 4 (.int .u32 0)).set 5 (.int .u16 0)).set 6 (.bool false)).set 7 (.bool false)).set 8 (.slice none 0 0)).set 9 (.slice none 0 0)).at 9 (v:=.slice none 0 0) rfl
  have k:=(((((((((((j.set 0 (.int .u8 0)).set 1 (.int .u32 0)).set 2 (.int .u64 0)).set 3 (.int .u64 0)).set 4 (.int .u32 0)).set 5 (.int .u16 0)).set 6 (.bool false)).set 7 (.bool false)).set 8 (.slice none 0 0)).set 9 (.slice none 0 0)).set 10 (.slice none 0 0)).at 10 (v:=.slice none 0 0) rfl
  have q:=((((((((((((j.set 0 (.int .u8 0)).set 1 (.int .u32 0)).set 2 (.int .u64 0)).set 3 (.int .u64 0)).set 4 (.int .u32 0)).set 5 (.int .u16 0)).set 6 (.bool false)).set 7 (.bool false)).set 8 (.slice none 0 0)).set 9 (.slice none 0 0)).set 10 (.slice none 0 0)).set 11 (.slice none 0 0)).at 11 (v:=.slice none 0 0) rfl
  have HY:=Z2 (And.intro C (And.intro D (And.intro E (And.intro F (And.intro G (And.intro I (And.intro J (And.intro L (And.intro M (And.intro N (And.intro k q)))))))))))
  clear C D E F G I J L M N k q
  have B:=((((((((((((z.setNew (b:=bx) (o:=0) i (.int .u8 0)).setNew (b:=bx) (o:=1) i (.int .u32 0)).setNew (b:=bx) (o:=2) i (.int .u64 0)).setNew (b:=bx) (o:=3) i (.int .u64 0)).setNew (b:=bx) (o:=4) i (.int .u32 0)).setNew (b:=bx) (o:=5) i (.int .u16 0)).setNew (b:=bx) (o:=6) i (.bool false)).setNew (b:=bx) (o:=7) i (.bool false)).setNew (b:=bx) (o:=8) i (.slice none 0 0)).setNew (b:=bx) (o:=9) i (.slice none 0 0)).setNew (b:=bx) (o:=10) i (.slice none 0 0)).setNew (b:=bx) (o:=11) i (.slice none 0 0))
  obtain⟨Hx,bg,ac,U,X,Hn,Hm,ao⟩:=hid8 j R z B O hn hm ad
  clear j R z B O hn hm ad h hq am a7 ab hl an bh aw
  rcases a8 with rfl|a8
  ·go_enter Tryz.func56,Tryz.ntmps56
   go_upto_if 10 with fail
   rw[ai.out,ah.out]
   go_wp2_with fail
   refine ao.out.mono ?_
   rintro e w2 ⟨rfl,rfl⟩
   go_wp2_with fail
   obtain⟨C,D,E,F,G,I,J,L,M,N,k,q⟩:=HY.out
   try simp only[Exit.inBlock,Exit.then]
   refine bodyPost_ret (by simp[results,Tryz.results56,go_sem,C,D,E,F,G,I,J,L,M,N,k,q];try rfl) rfl ?_
   exact⟨τ1,U.out,.inl ⟨X.out,60,.inl rfl,rfl⟩⟩
  ·have cj:¬(n:Int)=0:=by omega
   have ck:(m:Int)<(n:Int):=by omega
   go_enter Tryz.func56,Tryz.ntmps56
   go_upto_if 10 with fail
   rw[ai.out,ah.out]
   go_wp2_with fail
   refine ao.out.mono ?_
   rintro e w2 ⟨rfl,rfl⟩
   go_wp2_with fail
   obtain⟨C,D,E,F,G,I,J,L,M,N,k,q⟩:=HY.out
   try simp only[Exit.inBlock,Exit.then]
   refine bodyPost_ret (by simp[results,Tryz.results56,go_sem,C,D,E,F,G,I,J,L,M,N,k,q];try rfl) rfl ?_
   exact⟨τ1,U.out,.inl ⟨X.out,60,.inl rfl,rfl⟩⟩
 rw[if_neg a8] at O
 have cj:¬(n:Int)=0:=by omega
 have ck:¬(m:Int)<(n:Int):=by omega
 have hn0':¬n=0:=by omega
 have hd1:decide ((n:Int)=0)=false:=by simp;omega
 have hd2:decide ((m:Int)<(n:Int))=false:=by simp;omega
 have hd3:((n:Int)==0)=false:=by simp;omega
 have hd4:decide (m<n)=false:=by simp;omega
 have hnc:(n:Int)<=(c:Int):=by omega
 have bj:(l.take n).length=n:=by rw[List.length_take];omega
 have b6:=Qqo (w:=w1) (τ:=τ1) (g:=g) (b:=b) (o:=o) (c:=c) (l:=l.take n) (an.take n) (by rw[bj];omega) hg bv bw
 rw[bj] at b6
 obtain⟨Hx,bg,ac,X,Hn,Hm,ao,b7⟩:=hid8 j R z O hn hm ad b6
 clear j R z O hn hm ad b6 h hq am a7 ab hl an bh aw
 go_enter Tryz.func56,Tryz.ntmps56
 go_upto_if 10 with fail
 rw[ai.out,ah.out]
 go_wp2_with fail
 refine ao.out.mono ?_
 rintro e w2 ⟨rfl,rfl⟩
 go_wp2_with fail
 refine b7.out.mono ?_
 rintro e w3 ⟨ae,af,⟨hr,rfl⟩|⟨x,v,hr,rfl,hv⟩⟩
 ·unfold Qdj
  have aj:=Hx.out.step af (by unfold ReadTag;decide)
  have Y:=ac.out.trans af
  have Z:=(Step.refl w3 ae nil).alloc (.cells #[.int .u8 0,.int .u32 0,.int .u64 0,.int .u64 0,.int .u32 0,.int .u16 0,.bool false,.bool false,.slice none 0 0,.slice none 0 0,.slice none 0 0,.slice none 0 0] 127) tTwo
  have s:=Own.born w3 ae tTwo 127 #[.int .u8 0,.int .u32 0,.int .u64 0,.int .u64 0,.int .u32 0,.int .u16 0,.bool false,.bool false,.slice none 0 0,.slice none 0 0,.slice none 0 0,.slice none 0 0]
  have d:=aj.step Z (fun h=>h)
  have y:=Y.trans (Z.mono (T:=ReadTag) (fun _ h=>h.elim))
  obtain⟨bt,a1⟩:∃bt,w3.heap.size=bt:=⟨_,rfl⟩
  rw[a1] at s d y
  generalize aa:ae.put bt tTwo=ap at *
  obtain⟨w4,a6⟩:∃w4,w3.alloc (.cells #[.int .u8 0,.int .u32 0,.int .u64 0,.int .u64 0,.int .u32 0,.int .u16 0,.bool false,.bool false,.slice none 0 0,.slice none 0 0,.slice none 0 0,.slice none 0 0] 127)=w4:=⟨_,rfl⟩
  rw[a6] at s d y
  have ak:bx≠bt:=d.ne s (by decide)
  have bl:bt≠bx:=fun e=>ak e.symm
  have k0:=d.at 0 (v:=.int .u8 0) rfl
  have f0:=d.fz 0
  have k1:=d.at 1 (v:=.int .u32 0) rfl
  have f1:=d.fz 1
  have k2:=d.at 2 (v:=.int .u64 0) rfl
  have f2:=d.fz 2
  have k3:=d.at 3 (v:=.int .u64 0) rfl
  have f3:=d.fz 3
  have k4:=d.at 4 (v:=.int .u32 0) rfl
  have f4:=d.fz 4
  have k5:=d.at 5 (v:=.int .u16 0) rfl
  have f5:=d.fz 5
  have k6:=d.at 6 (v:=.bool false) rfl
  have f6:=d.fz 6
  have k7:=d.at 7 (v:=.bool false) rfl
  have f7:=d.fz 7
  have k8:=d.at 8 (v:=.slice none 0 0) rfl
  have f8:=d.fz 8
  have k9:=d.at 9 (v:=.slice none 0 0) rfl
  have f9:=d.fz 9
  have b4:=d.at 10 (v:=.slice none 0 0) rfl
  have f10:=d.fz 10
  have b5:=d.at 11 (v:=.slice none 0 0) rfl
  have f11:=d.fz 11
  have C:=(d.set 0 (.int .u8 0)).at 0 (v:=.int .u8 0) rfl
  have D:=((d.set 0 (.int .u8 0)).set 1 (.int .u32 0)).at 1 (v:=.int .u32 0) rfl
  have E:=(((d.set 0 (.int .u8 0)).set 1 (.int .u32 0)).set 2 (.int .u64 0)).at 2 (v:=.int .u64 0) rfl
  have F:=((((d.set 0 (.int .u8 0)).set 1 (.int .u32 0)).set 2 (.int .u64 0)).set 3 (.int .u64 0)).at 3 (v:=.int .u64 0) rfl
  have G:=(((((d.set 0 (.int .u8 0)).set 1 (.int .u32 0)).set 2 (.int .u64 0)).set 3 (.int .u64 0)).set 4 (.int .u32 0)).at 4 (v:=.int .u32 0) rfl
  have I:=((((((d.set 0 (.int .u8 0)).set 1 (.int .u32 0)).set 2 (.int .u64 0)).set 3 (.int .u64 0)).set 4 (.int .u32 0)).set 5 (.int .u16 0)).at 5 (v:=.int .u16 0) rfl
  have J:=(((((((d.set 0 (.int .u8 0)).set 1 (.int .u32 0)).set 2 (.int .u64 0)).set 3 (.int .u64 0)).set 4 (.int .u32 0)).set 5 (.int .u16 0)).set 6 (.bool false)).at 6 (v:=.bool false) rfl
  have L:=((((((((d.set 0 (.int .u8 0)).set 1 (.int .u32 0)).set 2 (.int .u64 0)).set 3 (.int .u64 0)).set 4 (.int .u32 0)).set 5 (.int .u16 0)).set 6 (.bool false)).set 7 (.bool false)).at 7 (v:=.bool false) rfl
  have M:=(((((((((d.set 0 (.int .u8 0)).set 1 (.int .u32 0)).set 2 (.int .u64 0)).set 3 (.int .u64 0)).set 4 (.int .u32 0)).set 5 (.int .u16 0)).set 6 (.bool false)).set 7 (.bool false)).set 8 (.slice none 0 0)).at 8 (v:=.slice none 0 0) rfl
  have N:=((((((((((d.set 0 (.int .u8 0)).set 1 (.int .u32 0)).set 2 (.int .u64 0)).set 3 (.int .u64 0)).set 4 (.int .u32 0)).set 5 (.int .u16 0)).set 6 (.bool false)).set 7 (.bool false)).set 8 (.slice none 0 0)).set 9 (.slice none 0 0)).at 9 (v:=.slice none 0 0) rfl
  have k:=(((((((((((d.set 0 (.int .u8 0)).set 1 (.int .u32 0)).set 2 (.int .u64 0)).set 3 (.int .u64 0)).set 4 (.int .u32 0)).set 5 (.int .u16 0)).set 6 (.bool false)).set 7 (.bool false)).set 8 (.slice none 0 0)).set 9 (.slice none 0 0)).set 10 (.slice none 0 0)).at 10 (v:=.slice none 0 0) rfl
  have q:=((((((((((((d.set 0 (.int .u8 0)).set 1 (.int .u32 0)).set 2 (.int .u64 0)).set 3 (.int .u64 0)).set 4 (.int .u32 0)).set 5 (.int .u16 0)).set 6 (.bool false)).set 7 (.bool false)).set 8 (.slice none 0 0)).set 9 (.slice none 0 0)).set 10 (.slice none 0 0)).set 11 (.slice none 0 0)).at 11 (v:=.slice none 0 0) rfl
  have HY:=Z2 (And.intro C (And.intro D (And.intro E (And.intro F (And.intro G (And.intro I (And.intro J (And.intro L (And.intro M (And.intro N (And.intro k q)))))))))))
  clear C D E F G I J L M N k q
  have B:=((((((((((((y.setNew (b:=bx) (o:=0) i (.int .u8 0)).setNew (b:=bx) (o:=1) i (.int .u32 0)).setNew (b:=bx) (o:=2) i (.int .u64 0)).setNew (b:=bx) (o:=3) i (.int .u64 0)).setNew (b:=bx) (o:=4) i (.int .u32 0)).setNew (b:=bx) (o:=5) i (.int .u16 0)).setNew (b:=bx) (o:=6) i (.bool false)).setNew (b:=bx) (o:=7) i (.bool false)).setNew (b:=bx) (o:=8) i (.slice none 0 0)).setNew (b:=bx) (o:=9) i (.slice none 0 0)).setNew (b:=bx) (o:=10) i (.slice none 0 0)).setNew (b:=bx) (o:=11) i (.slice none 0 0))
  obtain⟨b8,b9⟩:=hid2 a6 a1
  obtain⟨Hx4,Hst4,U,Hr⟩:=hid4 d y B hr
  clear d y B hr aj Y Z s a6 a1 af Hx ac b7 aa
  go_upto_if 33 with fail
  rw[b9.out,b8.out]
  go_wp2_with fail
  obtain⟨C,D,E,F,G,I,J,L,M,N,k,q⟩:=HY.out
  try simp only[Exit.inBlock,Exit.then]
  refine bodyPost_ret (by simp[results,Tryz.results56,go_sem,C,D,E,F,G,I,J,L,M,N,k,q];try rfl) rfl ?_
  exact⟨ap,U.out,.inl ⟨by rw[X.out,Hr.out];rfl,61,.inr rfl,rfl⟩⟩
 ·obtain⟨vb,va,vt,vp,n0,rfl,cn,co,ba,bb⟩:=hv
  obtain⟨pb,cb,rfl,bm⟩:=cn
  obtain⟨pa,ca,rfl,bn⟩:=co
  obtain⟨pt,ct,rfl⟩:=ba.val
  obtain⟨pp,cp,rfl⟩:=bb.val
  have aj:=Hx.out.step af (by unfold ReadTag;decide)
  have Y:=ac.out.trans af
  have Z:=(Step.refl w3 ae nil).alloc (.cells #[.int .u8 (x.kind:Int),.int .u32 (x.txn:Int),.int .u64 (x.prev:Int),.int .u64 (x.next:Int),.int .u32 (x.change.page:Int),.int .u16 (x.change.slot:Int),.bool x.change.had,.bool x.change.has,.slice pb x.change.before.length cb,.slice pa x.change.after.length ca,.slice pt x.txns.length ct,.slice pp x.pages.length cp] 127) tTwo
  have s:=Own.born w3 ae tTwo 127 #[.int .u8 (x.kind:Int),.int .u32 (x.txn:Int),.int .u64 (x.prev:Int),.int .u64 (x.next:Int),.int .u32 (x.change.page:Int),.int .u16 (x.change.slot:Int),.bool x.change.had,.bool x.change.has,.slice pb x.change.before.length cb,.slice pa x.change.after.length ca,.slice pt x.txns.length ct,.slice pp x.pages.length cp]
  have d:=aj.step Z (fun h=>h)
  have y:=Y.trans (Z.mono (T:=ReadTag) (fun _ h=>h.elim))
  obtain⟨bt,a1⟩:∃bt,w3.heap.size=bt:=⟨_,rfl⟩
  rw[a1] at s d y
  generalize aa:ae.put bt tTwo=ap at *
  obtain⟨w4,a6⟩:∃w4,w3.alloc (.cells #[.int .u8 (x.kind:Int),.int .u32 (x.txn:Int),.int .u64 (x.prev:Int),.int .u64 (x.next:Int),.int .u32 (x.change.page:Int),.int .u16 (x.change.slot:Int),.bool x.change.had,.bool x.change.has,.slice pb x.change.before.length cb,.slice pa x.change.after.length ca,.slice pt x.txns.length ct,.slice pp x.pages.length cp] 127)=w4:=⟨_,rfl⟩
  rw[a6] at s d y
  have ak:bx≠bt:=d.ne s (by decide)
  have bl:bt≠bx:=fun e=>ak e.symm
  have c0:=s.at 0 (v:=.int .u8 (x.kind:Int)) rfl
  have c1:=s.at 1 (v:=.int .u32 (x.txn:Int)) rfl
  have c2:=s.at 2 (v:=.int .u64 (x.prev:Int)) rfl
  have c3:=s.at 3 (v:=.int .u64 (x.next:Int)) rfl
  have c4:=s.at 4 (v:=.int .u32 (x.change.page:Int)) rfl
  have c5:=s.at 5 (v:=.int .u16 (x.change.slot:Int)) rfl
  have c6:=s.at 6 (v:=.bool x.change.had) rfl
  have c7:=s.at 7 (v:=.bool x.change.has) rfl
  have c8:=s.at 8 (v:=.slice pb x.change.before.length cb) rfl
  have c9:=s.at 9 (v:=.slice pa x.change.after.length ca) rfl
  have c10:=s.at 10 (v:=.slice pt x.txns.length ct) rfl
  have c11:=s.at 11 (v:=.slice pp x.pages.length cp) rfl
  have k0:=d.at 0 (v:=.int .u8 0) rfl
  have f0:=d.fz 0
  have k1:=d.at 1 (v:=.int .u32 0) rfl
  have f1:=d.fz 1
  have k2:=d.at 2 (v:=.int .u64 0) rfl
  have f2:=d.fz 2
  have k3:=d.at 3 (v:=.int .u64 0) rfl
  have f3:=d.fz 3
  have k4:=d.at 4 (v:=.int .u32 0) rfl
  have f4:=d.fz 4
  have k5:=d.at 5 (v:=.int .u16 0) rfl
  have f5:=d.fz 5
  have k6:=d.at 6 (v:=.bool false) rfl
  have f6:=d.fz 6
  have k7:=d.at 7 (v:=.bool false) rfl
  have f7:=d.fz 7
  have k8:=d.at 8 (v:=.slice none 0 0) rfl
  have f8:=d.fz 8
  have k9:=d.at 9 (v:=.slice none 0 0) rfl
  have f9:=d.fz 9
  have b4:=d.at 10 (v:=.slice none 0 0) rfl
  have f10:=d.fz 10
  have b5:=d.at 11 (v:=.slice none 0 0) rfl
  have f11:=d.fz 11
  have C:=(d.set 0 (.int .u8 (x.kind:Int))).at 0 (v:=.int .u8 (x.kind:Int)) rfl
  have D:=((d.set 0 (.int .u8 (x.kind:Int))).set 1 (.int .u32 (x.txn:Int))).at 1 (v:=.int .u32 (x.txn:Int)) rfl
  have E:=(((d.set 0 (.int .u8 (x.kind:Int))).set 1 (.int .u32 (x.txn:Int))).set 2 (.int .u64 (x.prev:Int))).at 2 (v:=.int .u64 (x.prev:Int)) rfl
  have F:=((((d.set 0 (.int .u8 (x.kind:Int))).set 1 (.int .u32 (x.txn:Int))).set 2 (.int .u64 (x.prev:Int))).set 3 (.int .u64 (x.next:Int))).at 3 (v:=.int .u64 (x.next:Int)) rfl
  have G:=(((((d.set 0 (.int .u8 (x.kind:Int))).set 1 (.int .u32 (x.txn:Int))).set 2 (.int .u64 (x.prev:Int))).set 3 (.int .u64 (x.next:Int))).set 4 (.int .u32 (x.change.page:Int))).at 4 (v:=.int .u32 (x.change.page:Int)) rfl
  have I:=((((((d.set 0 (.int .u8 (x.kind:Int))).set 1 (.int .u32 (x.txn:Int))).set 2 (.int .u64 (x.prev:Int))).set 3 (.int .u64 (x.next:Int))).set 4 (.int .u32 (x.change.page:Int))).set 5 (.int .u16 (x.change.slot:Int))).at 5 (v:=.int .u16 (x.change.slot:Int)) rfl
  have J:=(((((((d.set 0 (.int .u8 (x.kind:Int))).set 1 (.int .u32 (x.txn:Int))).set 2 (.int .u64 (x.prev:Int))).set 3 (.int .u64 (x.next:Int))).set 4 (.int .u32 (x.change.page:Int))).set 5 (.int .u16 (x.change.slot:Int))).set 6 (.bool x.change.had)).at 6 (v:=.bool x.change.had) rfl
  have L:=((((((((d.set 0 (.int .u8 (x.kind:Int))).set 1 (.int .u32 (x.txn:Int))).set 2 (.int .u64 (x.prev:Int))).set 3 (.int .u64 (x.next:Int))).set 4 (.int .u32 (x.change.page:Int))).set 5 (.int .u16 (x.change.slot:Int))).set 6 (.bool x.change.had)).set 7 (.bool x.change.has)).at 7 (v:=.bool x.change.has) rfl
  have M:=(((((((((d.set 0 (.int .u8 (x.kind:Int))).set 1 (.int .u32 (x.txn:Int))).set 2 (.int .u64 (x.prev:Int))).set 3 (.int .u64 (x.next:Int))).set 4 (.int .u32 (x.change.page:Int))).set 5 (.int .u16 (x.change.slot:Int))).set 6 (.bool x.change.had)).set 7 (.bool x.change.has)).set 8 (.slice pb x.change.before.length cb)).at 8 (v:=.slice pb x.change.before.length cb) rfl
  have N:=((((((((((d.set 0 (.int .u8 (x.kind:Int))).set 1 (.int .u32 (x.txn:Int))).set 2 (.int .u64 (x.prev:Int))).set 3 (.int .u64 (x.next:Int))).set 4 (.int .u32 (x.change.page:Int))).set 5 (.int .u16 (x.change.slot:Int))).set 6 (.bool x.change.had)).set 7 (.bool x.change.has)).set 8 (.slice pb x.change.before.length cb)).set 9 (.slice pa x.change.after.length ca)).at 9 (v:=.slice pa x.change.after.length ca) rfl
  have k:=(((((((((((d.set 0 (.int .u8 (x.kind:Int))).set 1 (.int .u32 (x.txn:Int))).set 2 (.int .u64 (x.prev:Int))).set 3 (.int .u64 (x.next:Int))).set 4 (.int .u32 (x.change.page:Int))).set 5 (.int .u16 (x.change.slot:Int))).set 6 (.bool x.change.had)).set 7 (.bool x.change.has)).set 8 (.slice pb x.change.before.length cb)).set 9 (.slice pa x.change.after.length ca)).set 10 (.slice pt x.txns.length ct)).at 10 (v:=.slice pt x.txns.length ct) rfl
  have q:=((((((((((((d.set 0 (.int .u8 (x.kind:Int))).set 1 (.int .u32 (x.txn:Int))).set 2 (.int .u64 (x.prev:Int))).set 3 (.int .u64 (x.next:Int))).set 4 (.int .u32 (x.change.page:Int))).set 5 (.int .u16 (x.change.slot:Int))).set 6 (.bool x.change.had)).set 7 (.bool x.change.has)).set 8 (.slice pb x.change.before.length cb)).set 9 (.slice pa x.change.after.length ca)).set 10 (.slice pt x.txns.length ct)).set 11 (.slice pp x.pages.length cp)).at 11 (v:=.slice pp x.pages.length cp) rfl
  have HY:=Z2 (And.intro C (And.intro D (And.intro E (And.intro F (And.intro G (And.intro I (And.intro J (And.intro L (And.intro M (And.intro N (And.intro k q)))))))))))
  clear C D E F G I J L M N k q
  have B:=((((((((((((y.setNew (b:=bx) (o:=0) i (.int .u8 (x.kind:Int))).setNew (b:=bx) (o:=1) i (.int .u32 (x.txn:Int))).setNew (b:=bx) (o:=2) i (.int .u64 (x.prev:Int))).setNew (b:=bx) (o:=3) i (.int .u64 (x.next:Int))).setNew (b:=bx) (o:=4) i (.int .u32 (x.change.page:Int))).setNew (b:=bx) (o:=5) i (.int .u16 (x.change.slot:Int))).setNew (b:=bx) (o:=6) i (.bool x.change.had)).setNew (b:=bx) (o:=7) i (.bool x.change.has)).setNew (b:=bx) (o:=8) i (.slice pb x.change.before.length cb)).setNew (b:=bx) (o:=9) i (.slice pa x.change.after.length ca)).setNew (b:=bx) (o:=10) i (.slice pt x.txns.length ct)).setNew (b:=bx) (o:=11) i (.slice pp x.pages.length cp))
  have ag:=(Z.trans (Step.refl _ _ _))
  rw[a1,aa,a6] at ag
  have al:=(((((((((((((Step.refl w4 ap (fun t=>t=tOne)).set (b:=bx) (o:=0) d.tag rfl (.int .u8 (x.kind:Int))).set (b:=bx) (o:=1) d.tag rfl (.int .u32 (x.txn:Int))).set (b:=bx) (o:=2) d.tag rfl (.int .u64 (x.prev:Int))).set (b:=bx) (o:=3) d.tag rfl (.int .u64 (x.next:Int))).set (b:=bx) (o:=4) d.tag rfl (.int .u32 (x.change.page:Int))).set (b:=bx) (o:=5) d.tag rfl (.int .u16 (x.change.slot:Int))).set (b:=bx) (o:=6) d.tag rfl (.bool x.change.had)).set (b:=bx) (o:=7) d.tag rfl (.bool x.change.has)).set (b:=bx) (o:=8) d.tag rfl (.slice pb x.change.before.length cb)).set (b:=bx) (o:=9) d.tag rfl (.slice pa x.change.after.length ca)).set (b:=bx) (o:=10) d.tag rfl (.slice pt x.txns.length ct)).set (b:=bx) (o:=11) d.tag rfl (.slice pp x.pages.length cp))
  have b0:=(bm.step ag (fun h=>h)).step al (by decide)
  have b1:=(bn.step ag (fun h=>h)).step al (by decide)
  have b2:=(ba.step ag (fun h=>h)).step al (by decide)
  have b3:=(bb.step ag (fun h=>h)).step al (by decide)
  obtain⟨b8,b9⟩:=hid2 a6 a1
  obtain⟨U,Hr,bo,bp,bq,br⟩:=hid6 B hr b0 b1 b2 b3
  clear B hr b0 b1 b2 b3 aj Y Z a6 a1 af Hx ac b7 aa ag al bm bn ba bb d y s
  go_upto_if 33 with fail
  rw[b9.out,b8.out]
  go_wp2_with fail
  obtain⟨C,D,E,F,G,I,J,L,M,N,k,q⟩:=HY.out
  try simp only[Exit.inBlock,Exit.then]
  refine bodyPost_ret (by simp[results,Tryz.results56,go_sem,C,D,E,F,G,I,J,L,M,N,k,q];try rfl) rfl ?_
  exact⟨ap,U.out,.inr ⟨x,n,_,by rw[X.out,Hr.out];rfl,rfl,_,_,_,_,_,rfl,⟨_,_,rfl,bo.out⟩,⟨_,_,rfl,bp.out⟩,bq.out,br.out⟩⟩
def WrT (t:Tag):Prop:=t=tWr\/t=tWb
theorem Qmi {w0 w:World} {I τ:Tags} {J:Nat}(z:Step w0 I w τ nil) (h:WrAt w0.heap.size w τ J l) (hsz:l.length<=50000) {p:Option Addr}{c:Nat}{m:List Int}(hb:Bytes w τ tData (.slice p m.length c) m) (hm:m.length<=255) :
 Calls Tryz.prog 230 #[.pointer (some ⟨J,0,none⟩),.slice p m.length c] w fun e w'=>e = .returned (.tuple #[])/\∃B,WrAt w0.heap.size w' B J (l++leB m.length 1++m)/\Step w0 I w' B nil/\Step w τ w' B WrT:=by
 have hn:=Qa4 z h (by omega) m.length 1 (by omega) (by omega) (by omega)
 have M:(l++leB m.length 1).length=l.length+1:=by rw[Z6,Qaa]
 generalize hk:m.length=k at *
 have hkw:=Qam k (by omega)
 obtain⟨Hn,Hst,Hb,H_h,Hk,a8⟩:=hid6 hn z hb h hk M
 clear hn z hb h hk M
 go_enter Tryz.func230,Tryz.ntmps230
 go_wp2_with fail
 refine Hn.out.mono ?_
 rintro e w1 ⟨rfl,τ1,C,r,D⟩
 obtain⟨v1,j,E⟩:=C.is
 obtain⟨p1,c1,rfl⟩:=E.val
 have s:=C.low
 have x:=Hb.out.step D (by simp[tData,tWr,tWb])
 have y:(l++leB k 1).length+m.length<=100000000000:=by rw[a8.out,Hk.out];omega
 have aa:=fun v=>j.set 0 v
 have c0:=j.at 0 (v:=.slice p1 (l++leB k 1).length c1) rfl
 obtain⟨N,O,ab,R,ac,ad⟩:=hid6 x y E r D j
 clear x y E r D j C aa
 generalize ae:l++leB k 1=L at *
 generalize hL:L.length=n1 at *
 go_wp2_with (at_builtin;refine Qal R.out ab.out N.out (by rw[hL];exact O.out) rfl _ _ rfl rfl rfl ?_;intro v5 w5 q F U d;obtain⟨p5,c5,rfl⟩:=F.val;generalize hnl:(L++m).length=nl at *;have i:=ad.out.step d (by decide);have z0:=i.fz 0;have c5':=i.at 0 rfl;have G:Step w5 q (w5.setCell ⟨J,0,none⟩ (.slice p5 nl c5)) q (fun t=>t=tWr):=(Step.refl w5 q (fun t=>t=tWr)).set (o:=0) i.tag rfl _;have X:=i.set 0 (.slice p5 nl c5);have Y:=F.step G (by decide);have Z:=U.setNew (b:=J) (o:=0) s (.slice p5 nl c5);have a1:=(ac.out.trans (d.mono (T:=WrT) (fun _ h=>.inr h))).trans (G.mono (T:=WrT) (fun _ h=>.inl h));obtain⟨ah,ai,aj,ak⟩:=hid4 X Y Z a1;clear X Y Z a1;clear i G d U F)
 go_returns
 refine⟨rfl,q,⟨⟨_,ah.out,?_⟩,s⟩,aj.out,ak.out⟩
 rw[ae];exact ai.out
def flagN (hd hs:Bool):Nat:=(if hd=true then 1 else 0)+(if hs=true then 2 else 0)
theorem Qvy (w:World) (τ:Tags) (pg sl:Nat) (hd b:Bool) (pb pa:Option Addr) (nb cb h ca:Nat):Calls Tryz.prog 229 #[.agg #[.int .u32 (pg:Int),.int .u16 (sl:Int),.bool hd,.bool b,.slice pb nb cb,.slice pa h ca]] w fun e k=>e = .returned (.int .u64 (flagN hd b:Int))/\Step w τ k τ nil:=by
 have d:=(Step.refl w τ nil).alloc' (.cells #[.int .u32 (pg:Int),.int .u16 (sl:Int),.bool hd,.bool b,.slice pb nb cb,.slice pa h ca] 124)
 have i:=Own.born w τ tData 124 #[.int .u32 (pg:Int),.int .u16 (sl:Int),.bool hd,.bool b,.slice pb nb cb,.slice pa h ca]
 have c2:=i.at 2 (v:=.bool hd) rfl
 have c3:=i.at 3 (v:=.bool b) rfl
 have j:=Z2 d
 clear d i
 cases hd <;> cases b
 all_goals
  go_enter Tryz.func229,Tryz.ntmps229
  go_wp2_with fail
  go_ret
  exact⟨rfl,j.out⟩
def encC (c:ChangeP):List Int:=leB c.page 4++leB c.slot 2++leB (flagN c.had c.has) 1++leB c.before.length 1++c.before++leB c.after.length 1++c.after
theorem Qhi (c:ChangeP):(encC c).length=9+c.before.length+c.after.length:=by simp only[encC,Z6,Qaa];omega
theorem Qoc (hd b:Bool):flagN hd b<4:=by cases hd <;> cases b <;> decide
theorem Qp4 {w0 w:World} {a1 τ:Tags} {bw:Nat}(a6:Step w0 a1 w τ nil) (h:WrAt w0.heap.size w τ bw l) (hsz:l.length<=10000) {pb pa:Option Addr}{cb ca:Nat}(c:ChangeP) (hb:Bytes w τ tData (.slice pb c.before.length cb) c.before) (ha:Bytes w τ tData (.slice pa c.after.length ca) c.after) (hpg:c.page<4294967296) (hsl:c.slot<65536) (hbl:c.before.length<=255) (bc:c.after.length<=255) :
 Calls Tryz.prog 152 #[.pointer (some ⟨bw,0,none⟩),.agg #[.int .u32 (c.page:Int),.int .u16 (c.slot:Int),.bool c.had,.bool c.has,.slice pb c.before.length cb,.slice pa c.after.length ca]] w fun e w'=>e = .returned (.tuple #[])/\∃M,WrAt w0.heap.size w' M bw (l++encC c)/\Step w0 a1 w' M nil/\Step w τ w' M WrT:=by
 have he:encC c=leB c.page 4++leB c.slot 2++leB (flagN c.had c.has) 1++leB c.before.length 1++c.before++leB c.after.length 1++c.after:=rfl
 generalize encC c=E at *
 obtain⟨pg,sl,hd,s,be,af⟩:=c
 dsimp only at *
 have a7:=fun (W:World) (T:Tags)=>Qvy W T pg sl hd s pb pa be.length cb af.length ca
 have hflt:=Qoc hd s
 have ho:=Own.born w τ tData 124 #[.int .u32 (pg:Int),.int .u16 (sl:Int),.bool hd,.bool s,.slice pb be.length cb,.slice pa af.length ca]
 have b:=(Step.refl w τ nil).alloc (.cells #[.int .u32 (pg:Int),.int .u16 (sl:Int),.bool hd,.bool s,.slice pb be.length cb,.slice pa af.length ca] 124) tData
 have j:=a6.trans b
 have h0:=h.step b (fun h=>h) (fun h=>h)
 have a8:=hb.step b (fun h=>h)
 have aa:=ha.step b (fun h=>h)
 generalize τ.put w.heap.size tData=τ1 at *
 have e1:=Qam pg (by omega)
 have e2:=Qam sl (by omega)
 generalize ab:be.length=nb at *
 generalize ac:af.length=na at *
 have c0:=ho.at 0 (v:=.int .u32 (pg:Int)) rfl
 have ad:=Qa4 j h0 (by omega) pg 4 (by omega) (by omega) (by omega)
 obtain⟨Hst0,H0,bg,bh,Ho,bi,bj,ae,He,p,N⟩:=hid11 j h0 a8 aa ho a7 ad b he ab ac
 clear j h0 a8 aa ho a7 ad b he ab ac a6 h hb ha
 go_enter Tryz.func152,Tryz.ntmps152
 go_wp2_with fail
 generalize w.alloc (.cells #[.int .u32 (pg:Int),.int .u16 (sl:Int),.bool hd,.bool s,.slice pb nb cb,.slice pa na ca] 124)=W1 at *
 refine bj.out.mono ?_
 rintro e w2 ⟨rfl,bk,ag,x,k⟩
 have O:=Ho.out.step k (by simp[tData,tWr,tWb])
 have y:Step W1 τ1 w2 bk WrT:=k
 have ah:=bg.out.step k (by simp[tData,tWr,tWb])
 have ai:=bh.out.step k (by simp[tData,tWr,tWb])
 clear c0
 have c1:=O.at 1 (v:=.int .u16 (sl:Int)) rfl
 have aj:=Qa4 x ag (by rw[Z6,Qaa];omega) sl 2 (by omega) (by omega) (by omega)
 obtain⟨bl,bm,bn,bo⟩:=hid4 aj O ah ai
 have ak:=Z2 y
 clear aj O ah ai y k ag x
 go_wp2_with fail
 refine bl.out.mono ?_
 rintro e w3 ⟨rfl,q,al,z,m⟩
 have d:=bm.out.step m (by simp[tData,tWr,tWb])
 have B:Step W1 τ1 w3 q WrT:=ak.out.trans m
 have am:=bn.out.step m (by simp[tData,tWr,tWb])
 have an:=bo.out.step m (by simp[tData,tWr,tWb])
 clear c1
 have d0:=d.at 0 (v:=.int .u32 (pg:Int)) rfl
 have d1:=d.at 1 (v:=.int .u16 (sl:Int)) rfl
 have d2:=d.at 2 (v:=.bool hd) rfl
 have d3:=d.at 3 (v:=.bool s) rfl
 have d4:=d.at 4 (v:=.slice pb nb cb) rfl
 have d5:=d.at 5 (v:=.slice pa na ca) rfl
 obtain⟨bp,bq,br⟩:=hid3 d am an
 have ao:=Z2 B
 obtain⟨bs,ap⟩:=hid2 al z
 clear d am an B al z m
 go_wp2_with fail
 refine(bi.out _ q).mono ?_
 rintro e w4 ⟨rfl,i⟩
 have aq:=bs.out.step i (fun h=>h) (fun h=>h)
 have C:=ap.out.trans i
 have D:Step w3 q w4 q WrT:=i.mono (fun _ h=>h.elim)
 have ar:=Qa4 C aq (by simp only[Z6,Qaa];omega) (flagN hd s) 1 (by omega) (by omega) (by omega)
 have av:=bp.out.step i (fun h=>h)
 have aw:=bq.out.step i (fun h=>h)
 have ax:=br.out.step i (fun h=>h)
 generalize ay:flagN hd s=fg at *
 obtain⟨bv,bz,c3,c6⟩:=hid4 ar av aw ax
 have az:=Z2 D
 have Hfg:=Z2 ay
 clear ar av aw ax D ay d0 d1 d2 d3 d4 d5 i aq C
 go_wp2_with fail
 refine bv.out.mono ?_
 rintro e w5 ⟨rfl,c7,b0,F,o⟩
 have R:=bz.out.step o (by simp[tData,tWr,tWb])
 have G:Step W1 τ1 w5 c7 WrT:=(ao.out.trans az.out).trans o
 have U:=c3.out.step o (by simp[tData,tWr,tWb])
 have b1:=c6.out.step o (by simp[tData,tWr,tWb])
 have c4:=R.at 4 (v:=.slice pb nb cb) rfl
 rw[<-p.out] at U
 have X:=Qmi F b0 (by simp only[Z6,Qaa];omega) U (by rw[p.out];exact hbl)
 rw[p.out] at X
 obtain⟨c8,c9,cc⟩:=hid3 X R b1
 have b2:=Z2 G
 clear X R b1 G o b0 F U
 go_wp2_with fail
 refine c8.out.mono ?_
 rintro e w6 ⟨rfl,cd,b3,I,r⟩
 have b4:=c9.out.step r (by simp[WrT,tData,tWr,tWb])
 have J:Step W1 τ1 w6 cd WrT:=b2.out.trans r
 have Y:=cc.out.step r (by simp[WrT,tData,tWr,tWb])
 have c5:=b4.at 5 (v:=.slice pa na ca) rfl
 rw[<-N.out] at Y
 have Z:=Qmi I b3 (by simp only[Z6,Qaa,p.out];omega) Y (by rw[N.out];exact bc)
 rw[N.out] at Z
 have ce:=Z2 Z
 have b5:=Z2 J
 clear Z J r b3 I Y c4 b4
 go_wp2_with fail
 refine ce.out.mono ?_
 rintro e w7 ⟨rfl,cf,b6,L,b7⟩
 obtain⟨cg,b8,ch⟩:=hid3 b6 L b7
 clear b6 L b7
 go_wp2_with fail
 go_returns
 refine⟨rfl,cf,?_,b8.out,((ae.out.mono (T:=WrT) (fun _ h=>h.elim)).trans b5.out).trans ch.out⟩
 have:=cg.out
 rw[He.out]
 simp only[X0] at this ⊢
 exact this
