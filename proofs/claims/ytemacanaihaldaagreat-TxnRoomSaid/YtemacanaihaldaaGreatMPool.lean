/-
 Pools: how one lies in memory;dev,sectors,between.
-/
import Derived.Test.YtemacanaihaldaaGreatMInts
import Derived.Test.YtemacanaihaldaaGreatMClkB
set_option maxRecDepth 100000
set_option linter.all false
namespace Go.Proofs.YtemacanaihaldaaGreat
open Go.RowKit
def tPool:Tag:=(30,0)
def tFr:Tag:=(31,0)
def tWhere:Tag:=(32,0)
def tPg (i:Nat):Tag:=(33,i)
structure PoolH where
 bl:Nat
 n:Nat
 vf:Value
 bm:Nat
 bc:Nat
 st:Nat
def PoolH.cells (H:PoolH):List Value:=[.pointer (some ⟨H.bl,0,none⟩),.int .i64 (H.n:Int),H.vf,.map (some H.bm),.pointer (some ⟨H.bc,0,none⟩),.int .u64 (H.st:Int)]
abbrev Qji (w:World) (τ:Tags) (bp:Nat) (H:PoolH):Prop:=Own w τ bp tPool 140 H.cells
theorem Qkx {w:World}{τ:Tags}{bp bd:Nat}{H:PoolH}{L:LogM}(h:Qji w τ bp H) (hl:LogAt w τ H.bl bd L) :
 Calls Tryz.prog 131 #[.pointer (some ⟨bp,0,none⟩)] w fun e b=>e = .returned (.pointer (some ⟨bd,0,none⟩))/\w=b:=by
 have h1:=Qv5 hl
 have c1:=h.at 0 (v:=.pointer (some ⟨H.bl,0,none⟩)) rfl
 have d:=Z2 h1
 clear h1 h hl
 go_enter Tryz.func131,Tryz.ntmps131
 go_wp2_with fail
 refine d.out.mono ?_
 rintro e b ⟨rfl,rfl⟩
 go_wp2_with fail
 go_ret
 exact⟨rfl,rfl⟩
def lastTo (D:Dev) (n i:Nat):List (List Int):=(List.range i).map (fun k=>D.last 1 (4*n+k))
theorem Qlf (D:Dev) (n i:Nat):lastTo D n (i+1)=lastTo D n i++[D.last 1 (4*n+i)]:=by simp[lastTo,List.range_succ]
theorem Qbe (D:Dev) (n i:Nat):(lastTo D n i).length=i:=by simp[lastTo]
theorem Qfi {w:World}{τ:Tags}{bp bd:Nat}{H:PoolH}{L:LogM}{D:Dev}(h:Qji w τ bp H) (hl:LogAt w τ H.bl bd L) (hd:DevAt w τ bd D) (n:Nat) (hn:4*n+4<=D.f1.length) :
 Calls Tryz.prog 65 #[.pointer (some ⟨bp,0,none⟩),.int .i64 (n:Int)] w fun e F=>∃v j,e = .returned v/\NR w.heap.size F j tOut v (lastTo D n 4)/\Step w τ F j nil:=by
 have x:=hd.length 1
 have p:D.file 1=D.f1:=rfl
 rw[p] at x
 obtain⟨G,U,M⟩:=hid3 h hl hd
 clear h hl hd
 go_enter Tryz.func65,Tryz.ntmps65
 go_wp2_with fail
 go_loopw [5,9] (fun m v wr=>∃(i:Nat) (k:Tags),i<=4/\v = .int .i64 (i:Int)/\NR w.heap.size wr k tOut m (lastTo D n i)/\Step w τ wr k nil) (fun _ v _=>4-(intOf v).toNat)
 case atStart=>exact⟨0,τ,Z9 _,rfl,NR.nil _ _ _ _,Step.refl _ _ _⟩
 case round =>
  obtain⟨i,k,hi,rfl,d,b⟩:=hrel
  by_cases hlt:i<4
  ·have h1:=Qkx (G.out.step b (fun h=>h)) (U.out.step b (fun _ _ h=>h))
   have h2:=Qnm (M.out.step b (fun _ h=>h.elim)) 1 (by omega) (4*n+i) (by rw[p];omega) tData
   have N:=M.out.last128 1 (4*n+i) (by rw[p];omega)
   have O:=Qlf D n i
   have y:=Qbe D n i
   obtain⟨pm,cm,rfl⟩:=d.val
   rw[show ((4*n+i:Nat):Int)=4*(n:Int)+(i:Int) by omega] at h2
   obtain⟨X,Y,Hx,Z,q,r,I⟩:=hid7 h1 h2 N O d b y
   clear h1 h2 N O d b y
   go_wp2_with fail
   refine X.out.mono ?_
   rintro e w1 ⟨rfl,rfl⟩
   go_wp2_with fail
   refine Y.out.mono ?_
   rintro e w1 ⟨u,τ1,rfl,s,z⟩
   have l:=q.out.step z (fun h=>h) (fun h=>h)
   have o:=r.out.trans z
   obtain⟨pu,cu,rfl,-,-⟩:=s.any
   obtain⟨J,B,C⟩:=hid3 s l o
   clear s l o
   go_wp2_with (at_builtin;refine Qbz C.out (by decide) B.out J.out Hx.out.1 (by rw[I.out];omega) rfl rfl _ _ rfl rfl rfl ?_;intro v' F j s R E;obtain⟨J,He,Hmo⟩:=hid3 s R E;clear s R E)
   go_round
   case rel=>exact⟨i+1,j,by omega,by simp,by rw[Z.out];exact J.out,He.out⟩
   case measure=>simp[intOf];omega
  ·obtain rfl:i=4:=by omega
   obtain⟨q,r⟩:=hid2 d b
   clear d b
   go_wp2_with fail
   go_returns
   exact⟨_,k,rfl,q.out,r.out⟩
theorem Qlz (w:World) (n a b:Int):Calls Tryz.prog 59 #[.int .i64 n,.int .i64 a,.int .i64 b] w fun e d=>e = .returned (.bool (decide (a<=n) && decide (n<=b)))/\w=d:=by
 by_cases h1:a<=n
 ·go_enter Tryz.func59,Tryz.ntmps59
  go_wp2_with fail
  go_ret
  exact⟨by simp[h1],rfl⟩
 ·have h2:n<a:=by omega
  go_enter Tryz.func59,Tryz.ntmps59
  go_wp2_with fail
  go_ret
  exact⟨by rw[decide_eq_false (show ¬a<=n by omega)];rfl,rfl⟩
theorem Qxk {w:World}{τ:Tags}{bp bd:Nat}{H:PoolH}{L:LogM}{D:Dev}(h:Qji w τ bp H) (hl:LogAt w τ H.bl bd L) (hd:DevAt w τ bd D) (n:Nat) (hn:4*n+4<=D.f1.length) (q:Qb3 (lastTo D n 4)=true) :
 Calls Tryz.prog 63 #[.pointer (some ⟨bp,0,none⟩),.int .i64 (n:Int)] w fun e x=>e = .returned (.bool true)/\∃j,Step w τ x j nil:=by
 have h1:=Qfi h hl hd n hn
 have r:=Qbe D n 4
 generalize lastTo D n 4=ls at *
 obtain⟨s,y,z⟩:=hid3 h1 r q
 clear h1 r q h hl hd
 go_enter Tryz.func63,Tryz.ntmps63
 go_wp2_with fail
 refine s.out.mono ?_
 rintro e w1 ⟨v,τ1,rfl,k,b⟩
 have h2:=Qnz k.row tData y.out
 obtain⟨p,c,rfl⟩:=k.val
 obtain⟨B,l⟩:=hid2 h2 b
 clear h2 b s k
 go_wp2_with fail
 refine B.out.mono ?_
 rintro e w2 ⟨m,d,h⟩
 rcases h with ⟨-,u,rfl,-⟩|⟨i,-⟩
 ·have o:=Z2 d
  clear d
  go_wp2_with fail
  go_ret
  exact⟨rfl,m,l.out.trans o.out⟩
 ·rw[z.out] at i;cases i
theorem Ck.zeroFrame_row:(Tryz.prog.info? 148).map (fun i=>(i.zero,i.size,i.bytes))=some (some (.agg #[.pointer none,.int .u32 0,.int .u64 0]),3,24):=by kernel_rfl
