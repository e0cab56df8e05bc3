/-
 Pools: how one lies in memory;dev,sectors,between.
-/
import Derived.Test.YtemacanaihaldaaGreatMWalB
import Derived.Test.YtemacanaihaldaaGreatMInts
import Derived.Test.YtemacanaihaldaaGreatMNum
import Derived.Test.YtemacanaihaldaaGreatMClkB
import Derived.Test.YtemacanaihaldaaGreatMGrow
set_option maxRecDepth 100000
set_option linter.all false
namespace Go.Proofs.YtemacanaihaldaaGreat
open Go.RowKit
def tPool:Tag:=(30,0)
def tFr:Tag:=(31,0)
def tWhere:Tag:=(32,0)
def tPg (i:Nat):Tag:=(33,i)
structure PoolH where
 bl:Nat
 n:Nat
 vf:Value
 bm:Nat
 bc:Nat
 st:Nat
def PoolH.cells (H:PoolH):List Value:=[.pointer (some ⟨H.bl,0,none⟩),.int .i64 (H.n:Int),H.vf,.map (some H.bm),.pointer (some ⟨H.bc,0,none⟩),.int .u64 (H.st:Int)]
abbrev Qji (w:World) (τ:Tags) (bp:Nat) (H:PoolH):Prop:=Own w τ bp tPool 140 H.cells
theorem Qkx {w:World}{τ:Tags}{bp bd:Nat}{H:PoolH}{L:LogM}(h:Qji w τ bp H) (hl:LogAt w τ H.bl bd L) :
 Calls Tryz.prog 131 #[.pointer (some ⟨bp,0,none⟩)] w fun e w'=>e = .returned (.pointer (some ⟨bd,0,none⟩))∧w=w':=by
 have h1:=Qv5 hl
 have c1:=h.at 0 (v:=.pointer (some ⟨H.bl,0,none⟩)) rfl
 have H1:=Lib.hid h1
 clear h1 h hl
 go_enter Tryz.func131,Tryz.ntmps131
 go_wp2_with fail
 refine H1.out.mono ?_
 rintro e w' ⟨rfl,rfl⟩
 go_wp2_with fail
 go_ret
 exact⟨rfl,rfl⟩
def lastTo (D:Dev) (n i:Nat):List (List Int):=(List.range i).map (fun k=>D.last 1 (4*n+k))
theorem Qlf (D:Dev) (n i:Nat):lastTo D n (i+1)=lastTo D n i++[D.last 1 (4*n+i)]:=by simp[lastTo,List.range_succ]
theorem Qbe (D:Dev) (n i:Nat):(lastTo D n i).length=i:=by simp[lastTo]
theorem Qfi {w:World}{τ:Tags}{bp bd:Nat}{H:PoolH}{L:LogM}{D:Dev}(h:Qji w τ bp H) (hl:LogAt w τ H.bl bd L) (hd:DevAt w τ bd D) (n:Nat) (hn:4*n+4≤D.f1.length) :
 Calls Tryz.prog 65 #[.pointer (some ⟨bp,0,none⟩),.int .i64 (n:Int)] w fun e w'=>∃v τ',e = .returned v∧NR w.heap.size w' τ' tOut v (lastTo D n 4)∧Step w τ w' τ' nil:=by
 have hlen:=hd.length 1
 have hf1:D.file 1=D.f1:=rfl
 rw[hf1] at hlen
 obtain⟨H_h,Hl,Hd⟩:=hid3 h hl hd
 clear h hl hd
 go_enter Tryz.func65,Tryz.ntmps65
 go_wp2_with fail
 go_loopw [5,9] (fun m v wr=>∃(i:Nat) (τr:Tags),i≤4∧v = .int .i64 (i:Int)∧NR w.heap.size wr τr tOut m (lastTo D n i)∧Step w τ wr τr nil) (fun _ v _=>4-(intOf v).toNat)
 case atStart=>exact⟨0,τ,Nat.zero_le _,rfl,NR.nil _ _ _ _,Step.refl _ _ _⟩
 case round =>
  obtain⟨i,τr,hi,rfl,hni,hst⟩:=hrel
  by_cases hlt:i<4
  ·have h1:=Qkx (H_h.out.step hst (fun h=>h)) (Hl.out.step hst (fun _ _ h=>h))
   have h2:=Qnm (Hd.out.step hst (fun _ h=>h.elim)) 1 (by omega) (4*n+i) (by rw[hf1];omega) tData
   have hx:=Hd.out.last128 1 (4*n+i) (by rw[hf1];omega)
   have hs:=Qlf D n i
   have hsl:=Qbe D n i
   obtain⟨pm,cm,rfl⟩:=hni.val
   rw[show ((4*n+i:Nat):Int)=4*(n:Int)+(i:Int) by omega] at h2
   obtain⟨H1,H2,Hx,Hs,Hni,Hst,Hsl⟩:=hid7 h1 h2 hx hs hni hst hsl
   clear h1 h2 hx hs hni hst hsl
   go_wp2_with fail
   refine H1.out.mono ?_
   rintro e w1 ⟨rfl,rfl⟩
   go_wp2_with fail
   refine H2.out.mono ?_
   rintro e w1 ⟨u,τ1,rfl,hb,hs1⟩
   have hni1:=Hni.out.step hs1 (fun h=>h) (fun h=>h)
   have hst1:=Hst.out.trans hs1
   obtain⟨pu,cu,rfl,-,-⟩:=hb.any
   obtain⟨Hb,Hni1,Hst1⟩:=hid3 hb hni1 hst1
   clear hb hni1 hst1
   go_wp2_with (at_builtin;refine Qbz Hst1.out (by decide) Hni1.out Hb.out Hx.out.1 (by rw[Hsl.out];omega) rfl rfl _ _ rfl rfl rfl ?_;intro v' w' τ' hb he hmo;obtain⟨Hb,He,Hmo⟩:=hid3 hb he hmo;clear hb he hmo)
   go_round
   case rel=>exact⟨i+1,τ',by omega,by simp,by rw[Hs.out];exact Hb.out,He.out⟩
   case measure=>simp[intOf];omega
  ·obtain rfl:i=4:=by omega
   obtain⟨Hni,Hst⟩:=hid2 hni hst
   clear hni hst
   go_wp2_with fail
   go_returns
   exact⟨_,τr,rfl,Hni.out,Hst.out⟩
theorem Qlz (w:World) (n a b:Int):Calls Tryz.prog 59 #[.int .i64 n,.int .i64 a,.int .i64 b] w fun e w'=>e = .returned (.bool (decide (a≤n) && decide (n≤b)))∧w=w':=by
 by_cases h1:a≤n
 ·go_enter Tryz.func59,Tryz.ntmps59
  go_wp2_with fail
  go_ret
  exact⟨by simp[h1],rfl⟩
 ·have h2:n<a:=by omega
  go_enter Tryz.func59,Tryz.ntmps59
  go_wp2_with fail
  go_ret
  exact⟨by rw[decide_eq_false (show ¬a≤n by omega)];rfl,rfl⟩
theorem Qxk {w:World}{τ:Tags}{bp bd:Nat}{H:PoolH}{L:LogM}{D:Dev}(h:Qji w τ bp H) (hl:LogAt w τ H.bl bd L) (hd:DevAt w τ bd D) (n:Nat) (hn:4*n+4≤D.f1.length) (hw:Qb3 (lastTo D n 4)=true) :
 Calls Tryz.prog 63 #[.pointer (some ⟨bp,0,none⟩),.int .i64 (n:Int)] w fun e w'=>e = .returned (.bool true)∧∃τ',Step w τ w' τ' nil:=by
 have h1:=Qfi h hl hd n hn
 have h4:=Qbe D n 4
 generalize lastTo D n 4=ls at *
 obtain⟨H1,H4,Hw⟩:=hid3 h1 h4 hw
 clear h1 h4 hw h hl hd
 go_enter Tryz.func63,Tryz.ntmps63
 go_wp2_with fail
 refine H1.out.mono ?_
 rintro e w1 ⟨v,τ1,rfl,hr,hs1⟩
 have h2:=Qnz hr.row tData H4.out
 obtain⟨p,c,rfl⟩:=hr.val
 obtain⟨H2,Hs1⟩:=hid2 h2 hs1
 clear h2 hs1 H1 hr
 go_wp2_with fail
 refine H2.out.mono ?_
 rintro e w2 ⟨τ2,hs2,h⟩
 rcases h with ⟨-,u,rfl,-⟩|⟨hno,-⟩
 ·have Hs2:=Lib.hid hs2
  clear hs2
  go_wp2_with fail
  go_ret
  exact⟨rfl,τ2,Hs1.out.trans Hs2.out⟩
 ·rw[Hw.out] at hno;cases hno
theorem Ck.zeroFrame_row:(Tryz.prog.info? 148).map (fun i=>(i.zero,i.size,i.bytes))=some (some (.agg #[.pointer none,.int .u32 0,.int .u64 0]),3,24):=by kernel_rfl
end Go.Proofs.YtemacanaihaldaaGreat