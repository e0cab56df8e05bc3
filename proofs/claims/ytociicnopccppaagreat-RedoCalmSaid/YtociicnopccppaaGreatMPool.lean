/-
 Pools: how one lies in memory;dev,sectors,between.
-/
import Derived.Test.YtociicnopccppaaGreatMInts
import Derived.Test.YtociicnopccppaaGreatMClkB
set_option maxRecDepth 100000
set_option linter.all false
namespace Go.Proofs.YtociicnopccppaaGreat
open Go.RowKit
def qcd:Tag:=(30,0)
def tFr:Tag:=(31,0)
def qbi:Tag:=(32,0)
def tPg (i:Nat):Tag:=(33,i)
structure qaq where
 bl:Nat
 n:Nat
 vf:Value
 bm:Nat
 bc:Nat
 st:Nat
def qaq.cells (H:qaq):List Value:=[.pointer (some ⟨H.bl,0,none⟩),.int .i64 H.n,H.vf,.map (some H.bm),.pointer (some ⟨H.bc,0,none⟩),.int .u64 H.st]
abbrev Qji (w:World) (τ:qa1) (bp:Nat) (H:qaq):Prop:=Own w τ bp qcd 157 H.cells
theorem Qkx {w:World}{τ:qa1}{bp bd:Nat}{H:qaq}{L:qac}(h:Qji w τ bp H) (hl:qaw w τ H.bl bd L) :
 Calls Tryz.prog 139 #[.pointer (some ⟨bp,0,none⟩)] w fun e a=>e = .returned (.pointer (some ⟨bd,0,none⟩))/\w=a:=by
 have h1:=Qv5 hl
 have c1:=h.at 0 rfl
 have H1:=Z2 h1
 clear h1 h hl
 go_enter Tryz.func139,Tryz.ntmps139
 go_wp2_with fail
 refine zC H1 ?_
 go_wp2_with fail
 go_ret
 exact⟨rfl,rfl⟩
def qap (D:Dev) (n i:Nat):List (List Int):=(List.range i).map (fun k=>D.last 1 (4*n+k))
theorem Qlf (D:Dev) (n i:Nat):qap D n (i+1)=qap D n i++[D.last 1 (4*n+i)]:=by simp[qap,List.range_succ]
theorem Qbe (D:Dev) (n i:Nat):(qap D n i).length=i:=by simp[qap]
theorem Qfi {w:World}{τ:qa1}{bp bd:Nat}{H:qaq}{L:qac}{D:Dev}(h:Qji w τ bp H) (hl:qaw w τ H.bl bd L) (hd:qax w τ bd D) (n:Nat) (hn:4*n+4<=D.f1.length) :
 Calls Tryz.prog 84 #[.pointer (some ⟨bp,0,none⟩),.int .i64 n] w fun e B=>∃v c,e = .returned v/\NR w.heap.size B c qe3 v (qap D n 4)/\Step w τ B c nil:=by
 have q:=hd.length 1
 have k:D.file 1=D.f1:=rfl
 rw[k] at q
 obtain⟨C,O,G⟩:=qan h hl hd
 clear h hl hd
 go_enter Tryz.func84,Tryz.ntmps84
 go_wp2_with fail
 go_loopw [5,9] (fun m v wr=>∃(i:Nat) (d:qa1),i<=4/\v = .int .i64 i/\NR w.heap.size wr d qe3 m (qap D n i)/\Step w τ wr d nil) (fun _ v _=>4-(intOf v).toNat)
 case atStart=>exact⟨0,τ,Z9 _,rfl,NR.nil _ _ _ _,Step.refl _ _ _⟩
 case round =>
  obtain⟨i,d,hi,rfl,b,a⟩:=hrel
  by_cases hlt:i<4
  ·have h1:=Qkx (C.step a id) (O.step a zN)
   have h2:=Qnm (G.step a zE) 1 oM (4*n+i) (by rw[k];omega) qa2
   have I:=G.qg5 1 (4*n+i) (by rw[k];omega)
   have J:=Qlf D n i
   have r:=Qbe D n i
   obtain⟨pm,cm,rfl⟩:=b.val
   rw[show ((4*n+i:Nat):Int)=4*(n:Int)+i by omega] at h2
   obtain⟨H1,R,Hx,U,l,o,E⟩:=qdr h1 h2 I J b a r
   clear h1 h2 I J b a r
   go_wp2_with fail
   refine H1.mono ?_
   rintro e X ⟨rfl,rfl⟩
   go_wp2_with fail
   refine R.mono ?_
   rintro e X ⟨u,τ1,rfl,p,s⟩
   have g:=l.step s id id
   have j:=o.trans s
   obtain⟨pu,cu,rfl,-,-⟩:=p.any
   obtain⟨F,x,y⟩:=qan p g j
   clear p g j
   go_wp2_with (at_builtin;refine Qbz y dC x F Hx.1 (by rw[E.out];omega) rfl rfl _ _ rfl rfl rfl ?_;intro v' B c p M z;obtain⟨F,Y,Hmo⟩:=qan p M z;clear p M z)
   go_round
   case rel=>exact⟨i+1,c,oM,sM,by rw[U.out];exact F,Y⟩
   case measure=>simp[intOf];omega
  ·obtain rfl:i=4:=oM
   obtain⟨l,o⟩:=qaj b a
   clear b a
   go_wp2_with fail
   go_returns
   exact⟨_,d,rfl,l,o⟩
theorem Qlz (w:World) (n a b:Int):Calls Tryz.prog 79 #[.int .i64 n,.int .i64 a,.int .i64 b] w fun e c=>e = .returned (.bool (decide (a<=n) && decide (n<=b)))/\w=c:=by
 by_cases h1:a<=n
 ·go_enter Tryz.func79,Tryz.ntmps79
  go_wp2_with fail
  go_ret
  exact⟨by simp[h1],rfl⟩
 ·have h2:n<a:=oM
  go_enter Tryz.func79,Tryz.ntmps79
  go_wp2_with fail
  go_ret
  exact⟨by rw[decide_eq_false (show ¬a<=n by omega)];rfl,rfl⟩
theorem Qxk {w:World}{τ:qa1}{bp bd:Nat}{H:qaq}{L:qac}{D:Dev}(h:Qji w τ bp H) (hl:qaw w τ H.bl bd L) (hd:qax w τ bd D) (n:Nat) (hn:4*n+4<=D.f1.length) (o:Qb3 (qap D n 4)=true) :
 Calls Tryz.prog 82 #[.pointer (some ⟨bp,0,none⟩),.int .i64 n] w fun e r=>e = .returned (.bool true)/\∃g,Step w τ r g nil:=by
 have h1:=Qfi h hl hd n hn
 have q:=Qbe D n 4
 generalize qap D n 4=ls at *
 obtain⟨H1,s,x⟩:=qan h1 q o
 clear h1 q o h hl hd
 go_enter Tryz.func82,Tryz.ntmps82
 go_wp2_with fail
 refine H1.mono ?_
 rintro e w1 ⟨v,τ1,rfl,i,a⟩
 have h2:=Qnz i.row qa2 s
 obtain⟨p,c,rfl⟩:=i.val
 obtain⟨y,j⟩:=qaj h2 a
 clear h2 a H1 i
 go_wp2_with fail
 refine y.mono ?_
 rintro e w2 ⟨k,b,h⟩
 rcases h with ⟨-,u,rfl,-⟩|⟨d,-⟩
 ·have l:=Z2 b
  clear b
  go_wp2_with fail
  go_ret
  exact⟨rfl,k,j.trans l⟩
 ·rw[x.out] at d;cases d
theorem Ck.qgq:(Tryz.prog.info? 189).map (fun i=>(i.zero,i.size,i.bytes))=some (some (.agg #[.pointer none,.int .u32 0,.int .u64 0]),3,24):=kR
