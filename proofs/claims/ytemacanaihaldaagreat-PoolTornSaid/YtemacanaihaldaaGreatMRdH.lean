/-
 Records: Decode.
-/
import Derived.Test.YtemacanaihaldaaGreatMRdF
set_option maxRecDepth 100000
set_option maxHeartbeats 40000000
set_option linter.all false
namespace Go.Proofs.YtemacanaihaldaaGreat
open Go.RowKit
def Qd1 (l:List Int):Option (RecP×Nat):=if l.length<27 then none else if leN (l.take 2) 2=0∨l.length<leN (l.take 2) 2 then none else (pRead (l.take (leN (l.take 2) 2))).map (fun r=>(r,leN (l.take 2) 2))
theorem Qtf {l:List Int}{r:RecP}{n:Nat}(h:Qd1 l=some (r,n)):0<n∧n≤l.length:=by
 unfold Qd1 at h
 split at h
 ·cases h
 ·split at h
  ·cases h
  ·cases hr:pRead (l.take (leN (l.take 2) 2)) with
   | none=>rw[hr] at h;cases h
   | some x =>
     rw[hr] at h
     simp only[Option.map_some,Option.some.injEq,Prod.mk.injEq] at h
     obtain⟨-,rfl⟩:=h
     omega
def Qz6 (w:World) (τ:Tags) (r:Option (RecP×Nat)) (e:Ending) (w':World):Prop :=
 ∃τ',Step w τ w' τ' Jcp∧((r=none∧∃er:Nat,(er=60∨er=61)∧e = .returned (.tuple #[.agg Qdj,.int .i64 0,.int .u16 (er:Int)]))∨∃x n v,r=some (x,n)∧e = .returned (.tuple #[v,.int .i64 (n:Int),.int .u16 0])∧RecV w' τ' v x)
theorem Qt0 {w:World}{τ:Tags}{g:Tag}{v:Value}{l:List Int}(h:Bytes w τ g v l) (hll:l.length≤1000000) (hg:¬Jcp g) (hg2:g≠tTwo) (hg3:g≠tOne) :
 Calls Tryz.prog 56 #[v] w (Qz6 w τ (Qd1 l)):=by
 have hq:=(Step.refl w τ nil).alloc (.cells Qdj 127) tOne
 have hx:=Own.born w τ tOne 127 Qdj
 have hb1:=h.step hq (fun h=>h)
 have hst:=hq.mono (T:=Jcp) (fun _ h=>h.elim)
 obtain⟨bx,hbx⟩:∃bx,w.heap.size=bx:=⟨_,rfl⟩
 rw[hbx] at hx hb1 hst hq
 generalize τ.put bx tOne=τ1 at *
 unfold Qdj at hx hb1 hst hq
 obtain⟨w1,hw1⟩:∃w1,w.alloc (.cells #[.int .u8 0,.int .u32 0,.int .u64 0,.int .u64 0,.int .u32 0,.int .u16 0,.bool false,.bool false,.slice none 0 0,.slice none 0 0,.slice none 0 0,.slice none 0 0] 127)=w1:=⟨_,rfl⟩
 rw[hw1] at hx hb1 hst
 have hlow:w.heap.size≤bx:=by omega
 have hq1:Step w τ w1 τ1 nil:=by rw[←hw1];exact hq
 by_cases h27:l.length<27
 ·obtain⟨p,c,rfl,-,-⟩:=h.any
  have i27:(l.length:Int)<27:=by omega
  have hpd:Qd1 l=none:=by unfold Qd1;rw[if_pos h27]
  obtain⟨n,hn⟩:∃n,l.length=n:=⟨_,rfl⟩
  rw[hn] at i27 ⊢
  have k0:=hx.at 0 (v:=.int .u8 0) rfl
  have f0:=hx.fz 0
  have k1:=hx.at 1 (v:=.int .u32 0) rfl
  have f1:=hx.fz 1
  have k2:=hx.at 2 (v:=.int .u64 0) rfl
  have f2:=hx.fz 2
  have k3:=hx.at 3 (v:=.int .u64 0) rfl
  have f3:=hx.fz 3
  have k4:=hx.at 4 (v:=.int .u32 0) rfl
  have f4:=hx.fz 4
  have k5:=hx.at 5 (v:=.int .u16 0) rfl
  have f5:=hx.fz 5
  have k6:=hx.at 6 (v:=.bool false) rfl
  have f6:=hx.fz 6
  have k7:=hx.at 7 (v:=.bool false) rfl
  have f7:=hx.fz 7
  have k8:=hx.at 8 (v:=.slice none 0 0) rfl
  have f8:=hx.fz 8
  have k9:=hx.at 9 (v:=.slice none 0 0) rfl
  have f9:=hx.fz 9
  have k10:=hx.at 10 (v:=.slice none 0 0) rfl
  have f10:=hx.fz 10
  have k11:=hx.at 11 (v:=.slice none 0 0) rfl
  have f11:=hx.fz 11
  have y0:=(hx.set 0 (.int .u8 0)).at 0 (v:=.int .u8 0) rfl
  have y1:=((hx.set 0 (.int .u8 0)).set 1 (.int .u32 0)).at 1 (v:=.int .u32 0) rfl
  have y2:=(((hx.set 0 (.int .u8 0)).set 1 (.int .u32 0)).set 2 (.int .u64 0)).at 2 (v:=.int .u64 0) rfl
  have y3:=((((hx.set 0 (.int .u8 0)).set 1 (.int .u32 0)).set 2 (.int .u64 0)).set 3 (.int .u64 0)).at 3 (v:=.int .u64 0) rfl
  have y4:=(((((hx.set 0 (.int .u8 0)).set 1 (.int .u32 0)).set 2 (.int .u64 0)).set 3 (.int .u64 0)).set 4 (.int .u32 0)).at 4 (v:=.int .u32 0) rfl
  have y5:=((((((hx.set 0 (.int .u8 0)).set 1 (.int .u32 0)).set 2 (.int .u64 0)).set 3 (.int .u64 0)).set 4 (.int .u32 0)).set 5 (.int .u16 0)).at 5 (v:=.int .u16 0) rfl
  have y6:=(((((((hx.set 0 (.int .u8 0)).set 1 (.int .u32 0)).set 2 (.int .u64 0)).set 3 (.int .u64 0)).set 4 (.int .u32 0)).set 5 (.int .u16 0)).set 6 (.bool false)).at 6 (v:=.bool false) rfl
  have y7:=((((((((hx.set 0 (.int .u8 0)).set 1 (.int .u32 0)).set 2 (.int .u64 0)).set 3 (.int .u64 0)).set 4 (.int .u32 0)).set 5 (.int .u16 0)).set 6 (.bool false)).set 7 (.bool false)).at 7 (v:=.bool false) rfl
  have y8:=(((((((((hx.set 0 (.int .u8 0)).set 1 (.int .u32 0)).set 2 (.int .u64 0)).set 3 (.int .u64 0)).set 4 (.int .u32 0)).set 5 (.int .u16 0)).set 6 (.bool false)).set 7 (.bool false)).set 8 (.slice none 0 0)).at 8 (v:=.slice none 0 0) rfl
  have y9:=((((((((((hx.set 0 (.int .u8 0)).set 1 (.int .u32 0)).set 2 (.int .u64 0)).set 3 (.int .u64 0)).set 4 (.int .u32 0)).set 5 (.int .u16 0)).set 6 (.bool false)).set 7 (.bool false)).set 8 (.slice none 0 0)).set 9 (.slice none 0 0)).at 9 (v:=.slice none 0 0) rfl
  have y10:=(((((((((((hx.set 0 (.int .u8 0)).set 1 (.int .u32 0)).set 2 (.int .u64 0)).set 3 (.int .u64 0)).set 4 (.int .u32 0)).set 5 (.int .u16 0)).set 6 (.bool false)).set 7 (.bool false)).set 8 (.slice none 0 0)).set 9 (.slice none 0 0)).set 10 (.slice none 0 0)).at 10 (v:=.slice none 0 0) rfl
  have y11:=((((((((((((hx.set 0 (.int .u8 0)).set 1 (.int .u32 0)).set 2 (.int .u64 0)).set 3 (.int .u64 0)).set 4 (.int .u32 0)).set 5 (.int .u16 0)).set 6 (.bool false)).set 7 (.bool false)).set 8 (.slice none 0 0)).set 9 (.slice none 0 0)).set 10 (.slice none 0 0)).set 11 (.slice none 0 0)).at 11 (v:=.slice none 0 0) rfl
  have HY:=Lib.hid (And.intro y0 (And.intro y1 (And.intro y2 (And.intro y3 (And.intro y4 (And.intro y5 (And.intro y6 (And.intro y7 (And.intro y8 (And.intro y9 (And.intro y10 y11)))))))))))
  clear y0 y1 y2 y3 y4 y5 y6 y7 y8 y9 y10 y11
  have hsF:=((((((((((((hst.setNew (b:=bx) (o:=0) hlow (.int .u8 0)).setNew (b:=bx) (o:=1) hlow (.int .u32 0)).setNew (b:=bx) (o:=2) hlow (.int .u64 0)).setNew (b:=bx) (o:=3) hlow (.int .u64 0)).setNew (b:=bx) (o:=4) hlow (.int .u32 0)).setNew (b:=bx) (o:=5) hlow (.int .u16 0)).setNew (b:=bx) (o:=6) hlow (.bool false)).setNew (b:=bx) (o:=7) hlow (.bool false)).setNew (b:=bx) (o:=8) hlow (.slice none 0 0)).setNew (b:=bx) (o:=9) hlow (.slice none 0 0)).setNew (b:=bx) (o:=10) hlow (.slice none 0 0)).setNew (b:=bx) (o:=11) hlow (.slice none 0 0))
  obtain⟨HW1,HBX⟩:=hid2 hw1 hbx
  obtain⟨Hx,Hb1,Hst,HsF,Hpd,Hn⟩:=hid6 hx hb1 hst hsF hpd hn
  clear hx hb1 hst hsF hpd hn h hq hq1 hw1 hbx
  go_enter Tryz.func56,Tryz.ntmps56
  go_upto_if 10 with fail
  rw[HBX.out,HW1.out]
  go_wp2_with fail
  obtain⟨y0,y1,y2,y3,y4,y5,y6,y7,y8,y9,y10,y11⟩:=HY.out
  try simp only[Exit.inBlock,Exit.then]
  refine bodyPost_ret (by simp[results,Tryz.results56,go_sem,y0,y1,y2,y3,y4,y5,y6,y7,y8,y9,y10,y11];try rfl) rfl ?_
  exact⟨τ1,HsF.out,.inl ⟨Hpd.out,60,.inl rfl,rfl⟩⟩
 obtain⟨b,o,c,rfl,hl⟩:=h.lies (by omega)
 have hle:=hl.le;have hcap:=hl.cap
 have hl1:=hl.step hq1 (fun h=>h)
 have hlt2:(l.take 2).length=2:=by rw[List.length_take];omega
 have hB:=h.isB
 have hn65:=Qle (l:=l.take 2) (fun x hx=>hB x (List.mem_of_mem_take hx)) 2
 rw[show (2:Nat) ^ (8*2)=65536 from by decide] at hn65
 have hgt:=Qip (hl1.take 2).bytes (by omega) (by omega)
 rw[hlt2] at hgt
 obtain⟨n,hn⟩:∃n,leN (l.take 2) 2=n:=⟨_,rfl⟩
 rw[hn] at hgt hn65
 have hnw:IntKind.i64.wrap (n:Int)=(n:Int):=Qd5 _ (by omega) (by omega)
 have i27:¬(l.length:Int)<27:=by omega
 have h2c:(2:Int)≤(c:Int):=by omega
 obtain⟨m,hm⟩:∃m,l.length=m:=⟨_,rfl⟩
 have hpd0:Qd1 l=if n=0∨m<n then none else (pRead (l.take n)).map (fun r=>(r,n)):=by unfold Qd1;rw[if_neg h27,hn,hm]
 have hmI:(m:Int)≤(c:Int):=by omega
 rw[hm] at i27 ⊢
 obtain⟨HW1,HBX⟩:=hid2 hw1 hbx
 by_cases hbad:n=0∨m<n
 ·rw[if_pos hbad] at hpd0
  have k0:=hx.at 0 (v:=.int .u8 0) rfl
  have f0:=hx.fz 0
  have k1:=hx.at 1 (v:=.int .u32 0) rfl
  have f1:=hx.fz 1
  have k2:=hx.at 2 (v:=.int .u64 0) rfl
  have f2:=hx.fz 2
  have k3:=hx.at 3 (v:=.int .u64 0) rfl
  have f3:=hx.fz 3
  have k4:=hx.at 4 (v:=.int .u32 0) rfl
  have f4:=hx.fz 4
  have k5:=hx.at 5 (v:=.int .u16 0) rfl
  have f5:=hx.fz 5
  have k6:=hx.at 6 (v:=.bool false) rfl
  have f6:=hx.fz 6
  have k7:=hx.at 7 (v:=.bool false) rfl
  have f7:=hx.fz 7
  have k8:=hx.at 8 (v:=.slice none 0 0) rfl
  have f8:=hx.fz 8
  have k9:=hx.at 9 (v:=.slice none 0 0) rfl
  have f9:=hx.fz 9
  have k10:=hx.at 10 (v:=.slice none 0 0) rfl
  have f10:=hx.fz 10
  have k11:=hx.at 11 (v:=.slice none 0 0) rfl
  have f11:=hx.fz 11
  have y0:=(hx.set 0 (.int .u8 0)).at 0 (v:=.int .u8 0) rfl
  have y1:=((hx.set 0 (.int .u8 0)).set 1 (.int .u32 0)).at 1 (v:=.int .u32 0) rfl
  have y2:=(((hx.set 0 (.int .u8 0)).set 1 (.int .u32 0)).set 2 (.int .u64 0)).at 2 (v:=.int .u64 0) rfl
  have y3:=((((hx.set 0 (.int .u8 0)).set 1 (.int .u32 0)).set 2 (.int .u64 0)).set 3 (.int .u64 0)).at 3 (v:=.int .u64 0) rfl
  have y4:=(((((hx.set 0 (.int .u8 0)).set 1 (.int .u32 0)).set 2 (.int .u64 0)).set 3 (.int .u64 0)).set 4 (.int .u32 0)).at 4 (v:=.int .u32 0) rfl
  have y5:=((((((hx.set 0 (.int .u8 0)).set 1 (.int .u32 0)).set 2 (.int .u64 0)).set 3 (.int .u64 0)).set 4 (.int .u32 0)).set 5 (.int .u16 0)).at 5 (v:=.int .u16 0) rfl
  have y6:=(((((((hx.set 0 (.int .u8 0)).set 1 (.int .u32 0)).set 2 (.int .u64 0)).set 3 (.int .u64 0)).set 4 (.int .u32 0)).set 5 (.int .u16 0)).set 6 (.bool false)).at 6 (v:=.bool false) rfl
  have y7:=((((((((hx.set 0 (.int .u8 0)).set 1 (.int .u32 0)).set 2 (.int .u64 0)).set 3 (.int .u64 0)).set 4 (.int .u32 0)).set 5 (.int .u16 0)).set 6 (.bool false)).set 7 (.bool false)).at 7 (v:=.bool false) rfl
  have y8:=(((((((((hx.set 0 (.int .u8 0)).set 1 (.int .u32 0)).set 2 (.int .u64 0)).set 3 (.int .u64 0)).set 4 (.int .u32 0)).set 5 (.int .u16 0)).set 6 (.bool false)).set 7 (.bool false)).set 8 (.slice none 0 0)).at 8 (v:=.slice none 0 0) rfl
  have y9:=((((((((((hx.set 0 (.int .u8 0)).set 1 (.int .u32 0)).set 2 (.int .u64 0)).set 3 (.int .u64 0)).set 4 (.int .u32 0)).set 5 (.int .u16 0)).set 6 (.bool false)).set 7 (.bool false)).set 8 (.slice none 0 0)).set 9 (.slice none 0 0)).at 9 (v:=.slice none 0 0) rfl
  have y10:=(((((((((((hx.set 0 (.int .u8 0)).set 1 (.int .u32 0)).set 2 (.int .u64 0)).set 3 (.int .u64 0)).set 4 (.int .u32 0)).set 5 (.int .u16 0)).set 6 (.bool false)).set 7 (.bool false)).set 8 (.slice none 0 0)).set 9 (.slice none 0 0)).set 10 (.slice none 0 0)).at 10 (v:=.slice none 0 0) rfl
  have y11:=((((((((((((hx.set 0 (.int .u8 0)).set 1 (.int .u32 0)).set 2 (.int .u64 0)).set 3 (.int .u64 0)).set 4 (.int .u32 0)).set 5 (.int .u16 0)).set 6 (.bool false)).set 7 (.bool false)).set 8 (.slice none 0 0)).set 9 (.slice none 0 0)).set 10 (.slice none 0 0)).set 11 (.slice none 0 0)).at 11 (v:=.slice none 0 0) rfl
  have HY:=Lib.hid (And.intro y0 (And.intro y1 (And.intro y2 (And.intro y3 (And.intro y4 (And.intro y5 (And.intro y6 (And.intro y7 (And.intro y8 (And.intro y9 (And.intro y10 y11)))))))))))
  clear y0 y1 y2 y3 y4 y5 y6 y7 y8 y9 y10 y11
  have hsF:=((((((((((((hst.setNew (b:=bx) (o:=0) hlow (.int .u8 0)).setNew (b:=bx) (o:=1) hlow (.int .u32 0)).setNew (b:=bx) (o:=2) hlow (.int .u64 0)).setNew (b:=bx) (o:=3) hlow (.int .u64 0)).setNew (b:=bx) (o:=4) hlow (.int .u32 0)).setNew (b:=bx) (o:=5) hlow (.int .u16 0)).setNew (b:=bx) (o:=6) hlow (.bool false)).setNew (b:=bx) (o:=7) hlow (.bool false)).setNew (b:=bx) (o:=8) hlow (.slice none 0 0)).setNew (b:=bx) (o:=9) hlow (.slice none 0 0)).setNew (b:=bx) (o:=10) hlow (.slice none 0 0)).setNew (b:=bx) (o:=11) hlow (.slice none 0 0))
  obtain⟨Hx,Hb1,Hst,HsF,Hpd0,Hn,Hm,Hgt⟩:=hid8 hx hb1 hst hsF hpd0 hn hm hgt
  clear hx hb1 hst hsF hpd0 hn hm hgt h hq hq1 hw1 hbx hl hl1 hle hcap
  rcases hbad with rfl|hbad
  ·go_enter Tryz.func56,Tryz.ntmps56
   go_upto_if 10 with fail
   rw[HBX.out,HW1.out]
   go_wp2_with fail
   refine Hgt.out.mono ?_
   rintro e w2 ⟨rfl,rfl⟩
   go_wp2_with fail
   obtain⟨y0,y1,y2,y3,y4,y5,y6,y7,y8,y9,y10,y11⟩:=HY.out
   try simp only[Exit.inBlock,Exit.then]
   refine bodyPost_ret (by simp[results,Tryz.results56,go_sem,y0,y1,y2,y3,y4,y5,y6,y7,y8,y9,y10,y11];try rfl) rfl ?_
   exact⟨τ1,HsF.out,.inl ⟨Hpd0.out,60,.inl rfl,rfl⟩⟩
  ·have hn0:¬(n:Int)=0:=by omega
   have hnm:(m:Int)<(n:Int):=by omega
   go_enter Tryz.func56,Tryz.ntmps56
   go_upto_if 10 with fail
   rw[HBX.out,HW1.out]
   go_wp2_with fail
   refine Hgt.out.mono ?_
   rintro e w2 ⟨rfl,rfl⟩
   go_wp2_with fail
   obtain⟨y0,y1,y2,y3,y4,y5,y6,y7,y8,y9,y10,y11⟩:=HY.out
   try simp only[Exit.inBlock,Exit.then]
   refine bodyPost_ret (by simp[results,Tryz.results56,go_sem,y0,y1,y2,y3,y4,y5,y6,y7,y8,y9,y10,y11];try rfl) rfl ?_
   exact⟨τ1,HsF.out,.inl ⟨Hpd0.out,60,.inl rfl,rfl⟩⟩
 rw[if_neg hbad] at hpd0
 have hn0:¬(n:Int)=0:=by omega
 have hnm:¬(m:Int)<(n:Int):=by omega
 have hn0':¬n=0:=by omega
 have hd1:decide ((n:Int)=0)=false:=by simp;omega
 have hd2:decide ((m:Int)<(n:Int))=false:=by simp;omega
 have hd3:((n:Int)==0)=false:=by simp;omega
 have hd4:decide (m<n)=false:=by simp;omega
 have hnc:(n:Int)≤(c:Int):=by omega
 have hln:(l.take n).length=n:=by rw[List.length_take];omega
 have hrd:=Qqo (w:=w1) (τ:=τ1) (g:=g) (b:=b) (o:=o) (c:=c) (l:=l.take n) (hl1.take n) (by rw[hln];omega) hg hg2 hg3
 rw[hln] at hrd
 obtain⟨Hx,Hb1,Hst,Hpd0,Hn,Hm,Hgt,Hrd⟩:=hid8 hx hb1 hst hpd0 hn hm hgt hrd
 clear hx hb1 hst hpd0 hn hm hgt hrd h hq hq1 hw1 hbx hl hl1 hle hcap
 go_enter Tryz.func56,Tryz.ntmps56
 go_upto_if 10 with fail
 rw[HBX.out,HW1.out]
 go_wp2_with fail
 refine Hgt.out.mono ?_
 rintro e w2 ⟨rfl,rfl⟩
 go_wp2_with fail
 refine Hrd.out.mono ?_
 rintro e w3 ⟨τ3,hs3,⟨hr,rfl⟩|⟨x,v,hr,rfl,hv⟩⟩
 ·unfold Qdj
  have hx3:=Hx.out.step hs3 (by unfold Jcp;decide)
  have hst3:=Hst.out.trans hs3
  have hq4:=(Step.refl w3 τ3 nil).alloc (.cells #[.int .u8 0,.int .u32 0,.int .u64 0,.int .u64 0,.int .u32 0,.int .u16 0,.bool false,.bool false,.slice none 0 0,.slice none 0 0,.slice none 0 0,.slice none 0 0] 127) tTwo
  have ht4:=Own.born w3 τ3 tTwo 127 #[.int .u8 0,.int .u32 0,.int .u64 0,.int .u64 0,.int .u32 0,.int .u16 0,.bool false,.bool false,.slice none 0 0,.slice none 0 0,.slice none 0 0,.slice none 0 0]
  have hx4:=hx3.step hq4 (fun h=>h)
  have hst4:=hst3.trans (hq4.mono (T:=Jcp) (fun _ h=>h.elim))
  obtain⟨bt,hbt⟩:∃bt,w3.heap.size=bt:=⟨_,rfl⟩
  rw[hbt] at ht4 hx4 hst4
  generalize hτ4:τ3.put bt tTwo=τ4 at *
  obtain⟨w4,hw4⟩:∃w4,w3.alloc (.cells #[.int .u8 0,.int .u32 0,.int .u64 0,.int .u64 0,.int .u32 0,.int .u16 0,.bool false,.bool false,.slice none 0 0,.slice none 0 0,.slice none 0 0,.slice none 0 0] 127)=w4:=⟨_,rfl⟩
  rw[hw4] at ht4 hx4 hst4
  have hne1:bx≠bt:=hx4.ne ht4 (by decide)
  have hne2:bt≠bx:=fun e=>hne1 e.symm
  have k0:=hx4.at 0 (v:=.int .u8 0) rfl
  have f0:=hx4.fz 0
  have k1:=hx4.at 1 (v:=.int .u32 0) rfl
  have f1:=hx4.fz 1
  have k2:=hx4.at 2 (v:=.int .u64 0) rfl
  have f2:=hx4.fz 2
  have k3:=hx4.at 3 (v:=.int .u64 0) rfl
  have f3:=hx4.fz 3
  have k4:=hx4.at 4 (v:=.int .u32 0) rfl
  have f4:=hx4.fz 4
  have k5:=hx4.at 5 (v:=.int .u16 0) rfl
  have f5:=hx4.fz 5
  have k6:=hx4.at 6 (v:=.bool false) rfl
  have f6:=hx4.fz 6
  have k7:=hx4.at 7 (v:=.bool false) rfl
  have f7:=hx4.fz 7
  have k8:=hx4.at 8 (v:=.slice none 0 0) rfl
  have f8:=hx4.fz 8
  have k9:=hx4.at 9 (v:=.slice none 0 0) rfl
  have f9:=hx4.fz 9
  have k10:=hx4.at 10 (v:=.slice none 0 0) rfl
  have f10:=hx4.fz 10
  have k11:=hx4.at 11 (v:=.slice none 0 0) rfl
  have f11:=hx4.fz 11
  have y0:=(hx4.set 0 (.int .u8 0)).at 0 (v:=.int .u8 0) rfl
  have y1:=((hx4.set 0 (.int .u8 0)).set 1 (.int .u32 0)).at 1 (v:=.int .u32 0) rfl
  have y2:=(((hx4.set 0 (.int .u8 0)).set 1 (.int .u32 0)).set 2 (.int .u64 0)).at 2 (v:=.int .u64 0) rfl
  have y3:=((((hx4.set 0 (.int .u8 0)).set 1 (.int .u32 0)).set 2 (.int .u64 0)).set 3 (.int .u64 0)).at 3 (v:=.int .u64 0) rfl
  have y4:=(((((hx4.set 0 (.int .u8 0)).set 1 (.int .u32 0)).set 2 (.int .u64 0)).set 3 (.int .u64 0)).set 4 (.int .u32 0)).at 4 (v:=.int .u32 0) rfl
  have y5:=((((((hx4.set 0 (.int .u8 0)).set 1 (.int .u32 0)).set 2 (.int .u64 0)).set 3 (.int .u64 0)).set 4 (.int .u32 0)).set 5 (.int .u16 0)).at 5 (v:=.int .u16 0) rfl
  have y6:=(((((((hx4.set 0 (.int .u8 0)).set 1 (.int .u32 0)).set 2 (.int .u64 0)).set 3 (.int .u64 0)).set 4 (.int .u32 0)).set 5 (.int .u16 0)).set 6 (.bool false)).at 6 (v:=.bool false) rfl
  have y7:=((((((((hx4.set 0 (.int .u8 0)).set 1 (.int .u32 0)).set 2 (.int .u64 0)).set 3 (.int .u64 0)).set 4 (.int .u32 0)).set 5 (.int .u16 0)).set 6 (.bool false)).set 7 (.bool false)).at 7 (v:=.bool false) rfl
  have y8:=(((((((((hx4.set 0 (.int .u8 0)).set 1 (.int .u32 0)).set 2 (.int .u64 0)).set 3 (.int .u64 0)).set 4 (.int .u32 0)).set 5 (.int .u16 0)).set 6 (.bool false)).set 7 (.bool false)).set 8 (.slice none 0 0)).at 8 (v:=.slice none 0 0) rfl
  have y9:=((((((((((hx4.set 0 (.int .u8 0)).set 1 (.int .u32 0)).set 2 (.int .u64 0)).set 3 (.int .u64 0)).set 4 (.int .u32 0)).set 5 (.int .u16 0)).set 6 (.bool false)).set 7 (.bool false)).set 8 (.slice none 0 0)).set 9 (.slice none 0 0)).at 9 (v:=.slice none 0 0) rfl
  have y10:=(((((((((((hx4.set 0 (.int .u8 0)).set 1 (.int .u32 0)).set 2 (.int .u64 0)).set 3 (.int .u64 0)).set 4 (.int .u32 0)).set 5 (.int .u16 0)).set 6 (.bool false)).set 7 (.bool false)).set 8 (.slice none 0 0)).set 9 (.slice none 0 0)).set 10 (.slice none 0 0)).at 10 (v:=.slice none 0 0) rfl
  have y11:=((((((((((((hx4.set 0 (.int .u8 0)).set 1 (.int .u32 0)).set 2 (.int .u64 0)).set 3 (.int .u64 0)).set 4 (.int .u32 0)).set 5 (.int .u16 0)).set 6 (.bool false)).set 7 (.bool false)).set 8 (.slice none 0 0)).set 9 (.slice none 0 0)).set 10 (.slice none 0 0)).set 11 (.slice none 0 0)).at 11 (v:=.slice none 0 0) rfl
  have HY:=Lib.hid (And.intro y0 (And.intro y1 (And.intro y2 (And.intro y3 (And.intro y4 (And.intro y5 (And.intro y6 (And.intro y7 (And.intro y8 (And.intro y9 (And.intro y10 y11)))))))))))
  clear y0 y1 y2 y3 y4 y5 y6 y7 y8 y9 y10 y11
  have hsF:=((((((((((((hst4.setNew (b:=bx) (o:=0) hlow (.int .u8 0)).setNew (b:=bx) (o:=1) hlow (.int .u32 0)).setNew (b:=bx) (o:=2) hlow (.int .u64 0)).setNew (b:=bx) (o:=3) hlow (.int .u64 0)).setNew (b:=bx) (o:=4) hlow (.int .u32 0)).setNew (b:=bx) (o:=5) hlow (.int .u16 0)).setNew (b:=bx) (o:=6) hlow (.bool false)).setNew (b:=bx) (o:=7) hlow (.bool false)).setNew (b:=bx) (o:=8) hlow (.slice none 0 0)).setNew (b:=bx) (o:=9) hlow (.slice none 0 0)).setNew (b:=bx) (o:=10) hlow (.slice none 0 0)).setNew (b:=bx) (o:=11) hlow (.slice none 0 0))
  obtain⟨HW4,HBT⟩:=hid2 hw4 hbt
  obtain⟨Hx4,Hst4,HsF,Hr⟩:=hid4 hx4 hst4 hsF hr
  clear hx4 hst4 hsF hr hx3 hst3 hq4 ht4 hw4 hbt hs3 Hx Hst Hrd hτ4
  go_upto_if 33 with fail
  rw[HBT.out,HW4.out]
  go_wp2_with fail
  obtain⟨y0,y1,y2,y3,y4,y5,y6,y7,y8,y9,y10,y11⟩:=HY.out
  try simp only[Exit.inBlock,Exit.then]
  refine bodyPost_ret (by simp[results,Tryz.results56,go_sem,y0,y1,y2,y3,y4,y5,y6,y7,y8,y9,y10,y11];try rfl) rfl ?_
  exact⟨τ4,HsF.out,.inl ⟨by rw[Hpd0.out,Hr.out];rfl,61,.inr rfl,rfl⟩⟩
 ·obtain⟨vb,va,vt,vp,n0,rfl,hvb,hva,hvt,hvp⟩:=hv
  obtain⟨pb,cb,rfl,hbb⟩:=hvb
  obtain⟨pa,ca,rfl,hba⟩:=hva
  obtain⟨pt,ct,rfl⟩:=hvt.val
  obtain⟨pp,cp,rfl⟩:=hvp.val
  have hx3:=Hx.out.step hs3 (by unfold Jcp;decide)
  have hst3:=Hst.out.trans hs3
  have hq4:=(Step.refl w3 τ3 nil).alloc (.cells #[.int .u8 (x.kind:Int),.int .u32 (x.txn:Int),.int .u64 (x.prev:Int),.int .u64 (x.next:Int),.int .u32 (x.change.page:Int),.int .u16 (x.change.slot:Int),.bool x.change.had,.bool x.change.has,.slice pb x.change.before.length cb,.slice pa x.change.after.length ca,.slice pt x.txns.length ct,.slice pp x.pages.length cp] 127) tTwo
  have ht4:=Own.born w3 τ3 tTwo 127 #[.int .u8 (x.kind:Int),.int .u32 (x.txn:Int),.int .u64 (x.prev:Int),.int .u64 (x.next:Int),.int .u32 (x.change.page:Int),.int .u16 (x.change.slot:Int),.bool x.change.had,.bool x.change.has,.slice pb x.change.before.length cb,.slice pa x.change.after.length ca,.slice pt x.txns.length ct,.slice pp x.pages.length cp]
  have hx4:=hx3.step hq4 (fun h=>h)
  have hst4:=hst3.trans (hq4.mono (T:=Jcp) (fun _ h=>h.elim))
  obtain⟨bt,hbt⟩:∃bt,w3.heap.size=bt:=⟨_,rfl⟩
  rw[hbt] at ht4 hx4 hst4
  generalize hτ4:τ3.put bt tTwo=τ4 at *
  obtain⟨w4,hw4⟩:∃w4,w3.alloc (.cells #[.int .u8 (x.kind:Int),.int .u32 (x.txn:Int),.int .u64 (x.prev:Int),.int .u64 (x.next:Int),.int .u32 (x.change.page:Int),.int .u16 (x.change.slot:Int),.bool x.change.had,.bool x.change.has,.slice pb x.change.before.length cb,.slice pa x.change.after.length ca,.slice pt x.txns.length ct,.slice pp x.pages.length cp] 127)=w4:=⟨_,rfl⟩
  rw[hw4] at ht4 hx4 hst4
  have hne1:bx≠bt:=hx4.ne ht4 (by decide)
  have hne2:bt≠bx:=fun e=>hne1 e.symm
  have c0:=ht4.at 0 (v:=.int .u8 (x.kind:Int)) rfl
  have c1:=ht4.at 1 (v:=.int .u32 (x.txn:Int)) rfl
  have c2:=ht4.at 2 (v:=.int .u64 (x.prev:Int)) rfl
  have c3:=ht4.at 3 (v:=.int .u64 (x.next:Int)) rfl
  have c4:=ht4.at 4 (v:=.int .u32 (x.change.page:Int)) rfl
  have c5:=ht4.at 5 (v:=.int .u16 (x.change.slot:Int)) rfl
  have c6:=ht4.at 6 (v:=.bool x.change.had) rfl
  have c7:=ht4.at 7 (v:=.bool x.change.has) rfl
  have c8:=ht4.at 8 (v:=.slice pb x.change.before.length cb) rfl
  have c9:=ht4.at 9 (v:=.slice pa x.change.after.length ca) rfl
  have c10:=ht4.at 10 (v:=.slice pt x.txns.length ct) rfl
  have c11:=ht4.at 11 (v:=.slice pp x.pages.length cp) rfl
  have k0:=hx4.at 0 (v:=.int .u8 0) rfl
  have f0:=hx4.fz 0
  have k1:=hx4.at 1 (v:=.int .u32 0) rfl
  have f1:=hx4.fz 1
  have k2:=hx4.at 2 (v:=.int .u64 0) rfl
  have f2:=hx4.fz 2
  have k3:=hx4.at 3 (v:=.int .u64 0) rfl
  have f3:=hx4.fz 3
  have k4:=hx4.at 4 (v:=.int .u32 0) rfl
  have f4:=hx4.fz 4
  have k5:=hx4.at 5 (v:=.int .u16 0) rfl
  have f5:=hx4.fz 5
  have k6:=hx4.at 6 (v:=.bool false) rfl
  have f6:=hx4.fz 6
  have k7:=hx4.at 7 (v:=.bool false) rfl
  have f7:=hx4.fz 7
  have k8:=hx4.at 8 (v:=.slice none 0 0) rfl
  have f8:=hx4.fz 8
  have k9:=hx4.at 9 (v:=.slice none 0 0) rfl
  have f9:=hx4.fz 9
  have k10:=hx4.at 10 (v:=.slice none 0 0) rfl
  have f10:=hx4.fz 10
  have k11:=hx4.at 11 (v:=.slice none 0 0) rfl
  have f11:=hx4.fz 11
  have y0:=(hx4.set 0 (.int .u8 (x.kind:Int))).at 0 (v:=.int .u8 (x.kind:Int)) rfl
  have y1:=((hx4.set 0 (.int .u8 (x.kind:Int))).set 1 (.int .u32 (x.txn:Int))).at 1 (v:=.int .u32 (x.txn:Int)) rfl
  have y2:=(((hx4.set 0 (.int .u8 (x.kind:Int))).set 1 (.int .u32 (x.txn:Int))).set 2 (.int .u64 (x.prev:Int))).at 2 (v:=.int .u64 (x.prev:Int)) rfl
  have y3:=((((hx4.set 0 (.int .u8 (x.kind:Int))).set 1 (.int .u32 (x.txn:Int))).set 2 (.int .u64 (x.prev:Int))).set 3 (.int .u64 (x.next:Int))).at 3 (v:=.int .u64 (x.next:Int)) rfl
  have y4:=(((((hx4.set 0 (.int .u8 (x.kind:Int))).set 1 (.int .u32 (x.txn:Int))).set 2 (.int .u64 (x.prev:Int))).set 3 (.int .u64 (x.next:Int))).set 4 (.int .u32 (x.change.page:Int))).at 4 (v:=.int .u32 (x.change.page:Int)) rfl
  have y5:=((((((hx4.set 0 (.int .u8 (x.kind:Int))).set 1 (.int .u32 (x.txn:Int))).set 2 (.int .u64 (x.prev:Int))).set 3 (.int .u64 (x.next:Int))).set 4 (.int .u32 (x.change.page:Int))).set 5 (.int .u16 (x.change.slot:Int))).at 5 (v:=.int .u16 (x.change.slot:Int)) rfl
  have y6:=(((((((hx4.set 0 (.int .u8 (x.kind:Int))).set 1 (.int .u32 (x.txn:Int))).set 2 (.int .u64 (x.prev:Int))).set 3 (.int .u64 (x.next:Int))).set 4 (.int .u32 (x.change.page:Int))).set 5 (.int .u16 (x.change.slot:Int))).set 6 (.bool x.change.had)).at 6 (v:=.bool x.change.had) rfl
  have y7:=((((((((hx4.set 0 (.int .u8 (x.kind:Int))).set 1 (.int .u32 (x.txn:Int))).set 2 (.int .u64 (x.prev:Int))).set 3 (.int .u64 (x.next:Int))).set 4 (.int .u32 (x.change.page:Int))).set 5 (.int .u16 (x.change.slot:Int))).set 6 (.bool x.change.had)).set 7 (.bool x.change.has)).at 7 (v:=.bool x.change.has) rfl
  have y8:=(((((((((hx4.set 0 (.int .u8 (x.kind:Int))).set 1 (.int .u32 (x.txn:Int))).set 2 (.int .u64 (x.prev:Int))).set 3 (.int .u64 (x.next:Int))).set 4 (.int .u32 (x.change.page:Int))).set 5 (.int .u16 (x.change.slot:Int))).set 6 (.bool x.change.had)).set 7 (.bool x.change.has)).set 8 (.slice pb x.change.before.length cb)).at 8 (v:=.slice pb x.change.before.length cb) rfl
  have y9:=((((((((((hx4.set 0 (.int .u8 (x.kind:Int))).set 1 (.int .u32 (x.txn:Int))).set 2 (.int .u64 (x.prev:Int))).set 3 (.int .u64 (x.next:Int))).set 4 (.int .u32 (x.change.page:Int))).set 5 (.int .u16 (x.change.slot:Int))).set 6 (.bool x.change.had)).set 7 (.bool x.change.has)).set 8 (.slice pb x.change.before.length cb)).set 9 (.slice pa x.change.after.length ca)).at 9 (v:=.slice pa x.change.after.length ca) rfl
  have y10:=(((((((((((hx4.set 0 (.int .u8 (x.kind:Int))).set 1 (.int .u32 (x.txn:Int))).set 2 (.int .u64 (x.prev:Int))).set 3 (.int .u64 (x.next:Int))).set 4 (.int .u32 (x.change.page:Int))).set 5 (.int .u16 (x.change.slot:Int))).set 6 (.bool x.change.had)).set 7 (.bool x.change.has)).set 8 (.slice pb x.change.before.length cb)).set 9 (.slice pa x.change.after.length ca)).set 10 (.slice pt x.txns.length ct)).at 10 (v:=.slice pt x.txns.length ct) rfl
  have y11:=((((((((((((hx4.set 0 (.int .u8 (x.kind:Int))).set 1 (.int .u32 (x.txn:Int))).set 2 (.int .u64 (x.prev:Int))).set 3 (.int .u64 (x.next:Int))).set 4 (.int .u32 (x.change.page:Int))).set 5 (.int .u16 (x.change.slot:Int))).set 6 (.bool x.change.had)).set 7 (.bool x.change.has)).set 8 (.slice pb x.change.before.length cb)).set 9 (.slice pa x.change.after.length ca)).set 10 (.slice pt x.txns.length ct)).set 11 (.slice pp x.pages.length cp)).at 11 (v:=.slice pp x.pages.length cp) rfl
  have HY:=Lib.hid (And.intro y0 (And.intro y1 (And.intro y2 (And.intro y3 (And.intro y4 (And.intro y5 (And.intro y6 (And.intro y7 (And.intro y8 (And.intro y9 (And.intro y10 y11)))))))))))
  clear y0 y1 y2 y3 y4 y5 y6 y7 y8 y9 y10 y11
  have hsF:=((((((((((((hst4.setNew (b:=bx) (o:=0) hlow (.int .u8 (x.kind:Int))).setNew (b:=bx) (o:=1) hlow (.int .u32 (x.txn:Int))).setNew (b:=bx) (o:=2) hlow (.int .u64 (x.prev:Int))).setNew (b:=bx) (o:=3) hlow (.int .u64 (x.next:Int))).setNew (b:=bx) (o:=4) hlow (.int .u32 (x.change.page:Int))).setNew (b:=bx) (o:=5) hlow (.int .u16 (x.change.slot:Int))).setNew (b:=bx) (o:=6) hlow (.bool x.change.had)).setNew (b:=bx) (o:=7) hlow (.bool x.change.has)).setNew (b:=bx) (o:=8) hlow (.slice pb x.change.before.length cb)).setNew (b:=bx) (o:=9) hlow (.slice pa x.change.after.length ca)).setNew (b:=bx) (o:=10) hlow (.slice pt x.txns.length ct)).setNew (b:=bx) (o:=11) hlow (.slice pp x.pages.length cp))
  have hqF:=(hq4.trans (Step.refl _ _ _))
  rw[hbt,hτ4,hw4] at hqF
  have hsG:=(((((((((((((Step.refl w4 τ4 (fun t=>t=tOne)).set (b:=bx) (o:=0) hx4.tag rfl (.int .u8 (x.kind:Int))).set (b:=bx) (o:=1) hx4.tag rfl (.int .u32 (x.txn:Int))).set (b:=bx) (o:=2) hx4.tag rfl (.int .u64 (x.prev:Int))).set (b:=bx) (o:=3) hx4.tag rfl (.int .u64 (x.next:Int))).set (b:=bx) (o:=4) hx4.tag rfl (.int .u32 (x.change.page:Int))).set (b:=bx) (o:=5) hx4.tag rfl (.int .u16 (x.change.slot:Int))).set (b:=bx) (o:=6) hx4.tag rfl (.bool x.change.had)).set (b:=bx) (o:=7) hx4.tag rfl (.bool x.change.has)).set (b:=bx) (o:=8) hx4.tag rfl (.slice pb x.change.before.length cb)).set (b:=bx) (o:=9) hx4.tag rfl (.slice pa x.change.after.length ca)).set (b:=bx) (o:=10) hx4.tag rfl (.slice pt x.txns.length ct)).set (b:=bx) (o:=11) hx4.tag rfl (.slice pp x.pages.length cp))
  have hbbF:=(hbb.step hqF (fun h=>h)).step hsG (by decide)
  have hbaF:=(hba.step hqF (fun h=>h)).step hsG (by decide)
  have hvtF:=(hvt.step hqF (fun h=>h)).step hsG (by decide)
  have hvpF:=(hvp.step hqF (fun h=>h)).step hsG (by decide)
  obtain⟨HW4,HBT⟩:=hid2 hw4 hbt
  obtain⟨HsF,Hr,HbbF,HbaF,HvtF,HvpF⟩:=hid6 hsF hr hbbF hbaF hvtF hvpF
  clear hsF hr hbbF hbaF hvtF hvpF hx3 hst3 hq4 hw4 hbt hs3 Hx Hst Hrd hτ4 hqF hsG hbb hba hvt hvp hx4 hst4 ht4
  go_upto_if 33 with fail
  rw[HBT.out,HW4.out]
  go_wp2_with fail
  obtain⟨y0,y1,y2,y3,y4,y5,y6,y7,y8,y9,y10,y11⟩:=HY.out
  try simp only[Exit.inBlock,Exit.then]
  refine bodyPost_ret (by simp[results,Tryz.results56,go_sem,y0,y1,y2,y3,y4,y5,y6,y7,y8,y9,y10,y11];try rfl) rfl ?_
  exact⟨τ4,HsF.out,.inr ⟨x,n,_,by rw[Hpd0.out,Hr.out];rfl,rfl,_,_,_,_,_,rfl,⟨_,_,rfl,HbbF.out⟩,⟨_,_,rfl,HbaF.out⟩,HvtF.out,HvpF.out⟩⟩
end Go.Proofs.YtemacanaihaldaaGreat