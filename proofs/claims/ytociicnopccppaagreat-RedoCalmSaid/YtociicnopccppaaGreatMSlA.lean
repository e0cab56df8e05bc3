/-
 All slots of all pages (slots of the laws of transactions),two such rows compared.
-/
import Derived.Test.YtociicnopccppaaGreatMTxJ
import Derived.Test.YtociicnopccppaaGreatMR5D
set_option linter.all false
namespace Go.Proofs.YtociicnopccppaaGreat
open Go.RowKit
def NewNB (w:World) (τ:qa1) (g:Tag) (l:List Int) (e:Ending) (w':World):Prop:=∃u τ',e = .returned u/\NB w.heap.size w' τ' g u l/\Ext w τ τ'/\Mod w w' no
theorem Qx9 {w:World}{τ:qa1}{g:Tag}{v:Value}{l:List Int}(h:Bytes w τ g v l) (z:Tag) (e:l.length<=100000000) :
 Calls Tryz.prog 72 #[v] w (NewNB w τ z l):=by
 have hB:=h.isB
 obtain⟨p,c,rfl,h1,h2,O⟩:=h.is
 obtain⟨_,i⟩:=h.news
 cases p with
 | none =>
   have hl:l=[]:=by
    cases l with
    | nil=>rfl
    | cons x r=>obtain⟨b,o,y,_⟩:=O sM;cases y
   subst hl
   have B:=fun (W:World) (a:Option Addr) (n c:Nat)=>Lib.run_eql_slice_nil (P:=Tryz.prog) W 58 5 a n c 0 0 Tryz.underlying58
   clear e
   go_enter Tryz.func72,Tryz.ntmps72
   go_wp2
   go_ret
   exact⟨_,τ,rfl,NB.nil _ _ _ _,Ext.refl _ _,Mod.refl _ _⟩
 | some a =>
   obtain⟨Y,hi,G,I,J⟩:=info_parts Tryz.infoU8
   have q:Buf (w.alloc (.cells #[] 5)) (τ.put w.heap.size z) z 5 1 (.slice (some ⟨w.heap.size,0,none⟩) 0 0) 0 [] :=
    ⟨rfl,.inr ⟨w.heap.size,0,[],rfl,Own.new w τ z _ [],Z0 _,Z0 _,Z9 _⟩⟩
   have R:Mod w (w.alloc (.cells #[] 5)) no:=(Mod.refl _ _).alloc _
   have d:∀C,some a=some C->∀j u,(u8s l)[j]?=some u->(w.alloc (.cells #[] 5)).cell? (C.add j)=some u:=by
    intro C had j u Z
    have D:=i C had j u Z
    have L:C.block<w.heap.size:=by
     have:=World.block_lt_of_cell? w _ D
     unfold Addr.add at this;split at this <;> exact this
    rw[<-D]
    exact World.cell?_of_block (w:=w) (Below.heap_alloc _ _ _ (by unfold Addr.add;split <;> exact L))
   obtain⟨Hn,HB,Hm⟩:=qan d q R
   have B:=fun (W:World) (a:Option Addr) (n c:Nat)=>Lib.run_eql_slice_nil (P:=Tryz.prog) W 58 5 a n c 0 0 Tryz.underlying58
   have s:=Z2 e
   clear i d q R O h e
   go_enter Tryz.func72,Tryz.ntmps72
   go_wp2_with (at_builtin;refine Qe0 _ _ z rfl _ _ 58 rfl 5 Y (.int .u8 0) 1 1 Tryz.underlying58 hi G I J rfl dC (.slice (some ⟨w.heap.size,0,none⟩) 0 0) 0 [] rfl HB (some a) l.length c (u8s l) rfl (by rw[Qac,Nat.mul_one]) (by intro D;cases D) Hn (Qkd l) (by have:=s.out;unfold maxLen;omega) (by have:=s.out;omega) ?_;intro v' w' M y U E F;obtain⟨B1,E1,M1,N1⟩:=qb9 y U E F;clear y U E F)
   go_ret
   have y:=B1.out
   rw[Nat.zero_add,List.nil_append] at y
   refine⟨_,M,rfl,⟨y,hB,fun k X=>?_⟩,Ext.trans ((Ext.refl w τ).put _ z (Z0 _)) E1.out sM,Hm.seq M1.out (fun k X hS=>?_)⟩
   ·rcases N1.out k X with h|h
    ·have:w.heap.size=k:=by simpa [Value.ownBlock] using h
     omega
    ·have:(w.alloc (.cells #[] 5)).heap.size=w.heap.size+1:=World.size_alloc _ _
     omega
   ·have D:w.heap.size=k:=by simpa [Value.ownBlock] using hS
    omega
theorem Qk0 {w:World}{τ:qa1}{g:Tag}{b:Nat}{P:List Int}(h:qag w τ g b P) (c:Fit P) (s:Nat) (C:s<1000000) (r:Tag) :
 Calls Tryz.prog 55 #[.pointer (some ⟨b,0,none⟩),.int .i64 s] w fun e x=>∃u d,e = .returned (.tuple #[u,.bool (decide (0<(qb7 P s).length))])/\NB w.heap.size x d r u (qb7 P s)/\Step w τ x d nil:=by
 have h1:=Qbx h c s C
 have a:=Qbm c h.len s
 have hle:=c.ends s
 have i:=fun (o:Nat) (k:0<qad P s->o=qav P s)=>Qx9 (h.data c s o k) r (by rw[a];omega)
 rw[a]
 generalize qb7 P s=l at *
 generalize qad P s=n at *
 have j:decide (0<(n:Int))=decide (0<n):=by by_cases hn:0<n <;> simp[hn]
 obtain⟨H1,p⟩:=qaj h1 i
 clear h1 i a h c
 go_enter Tryz.func55,Tryz.ntmps55
 go_wp2_with fail
 refine H1.mono ?_
 rintro e w1 ⟨o,rfl,k,rfl⟩
 have h2:=p o k
 have D:=Z2 h2
 clear h2 k
 go_wp2_with fail
 refine D.mono ?_
 rintro e w2 ⟨u,q,rfl,y,z,B⟩
 obtain⟨E,F,G⟩:=qan y z B
 clear y z B
 go_wp2_with fail
 go_returns
 exact⟨u,q,by first|rfl|rw[j]|simp,E,Step.of nil G F⟩
theorem Jb0 {w:World}{τ:qa1}{g E:Tag}{n0 F:Nat}{v u:Value}{l:List (List Int)}(h:NV n0 w τ g v l) (k:NV F w τ E u l) :
 Calls Tryz.prog 21 #[v,u] w fun e G=>e = .returned (.bool true)/\∃q,G=w.drewN q:=by
 obtain⟨p,c,rfl,h1,B⟩:=h.read
 obtain⟨p2,d,rfl,-,C⟩:=k.read
 generalize hn:l.length=n at *
 have hmx:n<=9223372036854775807:=by unfold maxLen at h1;omega
 obtain⟨I,r,Hn⟩:=qan B C hn
 clear B C hn h1 h k
 go_enter Tryz.func21,Tryz.ntmps21
 go_wp2_with fail
 go_loopw [5] (fun v wr=>∃i q:Nat,i<=n/\v = .int .i64 i/\wr=w.drewN q) (fun v _=>n-(intOf v).toNat)
 case atStart=>exact⟨0,0,Z9 _,rfl,rfl⟩
 case round =>
  obtain⟨i,q,hi,rfl,a⟩:=hrel
  by_cases s:i<n
  ·obtain⟨b,u1,rfl,D,z⟩:=I i s
   obtain⟨J,u2,rfl,y,j⟩:=r i s
   obtain⟨L,M,rfl,-,-⟩:=z.any
   obtain⟨O,R,rfl,-,-⟩:=j.any
   have ci':wr.cell? ⟨b,i,none⟩=some (.slice L (l.getD i []).length M):=by rw[a];exact D
   have di':wr.cell? ⟨J,i,none⟩=some (.slice O (l.getD i []).length R):=by rw[a];exact y
   have k1:=fun n=>(z.step (show Step w τ (wr.drewN n) τ nil by rw[a];exact((zS w τ).qcp q).qcp n) id).conv
   have k2:=fun n=>(j.step (show Step w τ (wr.drewN n) τ nil by rw[a];exact((zS w τ).qcp q).qcp n) id).conv
   have hin:(i:Int)<n:=oM
   generalize U:l.getD i []=x at *
   generalize qh8 x=xs at *
   generalize x.length=nx at *
   have o:=Z2 a
   clear a D y z j U
   go_wp2_with fail
   go_quiet (fail)
   go_wp2_with fail
   go_round
   case rel=>exact⟨i+1,q+nq,oM,sM,by rw[o.out,World.drewN_drewN]⟩
   case measure=>simp[intOf];omega
  ·obtain rfl:i=n:=oM
   have o:=Z2 a
   clear a
   go_wp2_with fail
   go_ret
   exact⟨rfl,q,o⟩
def Jb2 (l:List Int):List Int:=if l=[] then [] else l++[1]
def Qbi (V:qbd) (n:Nat) (s:Nat):List (List Int):=(List.range s).map (fun t=>Jb2 (V n t))
def Qbw (V:qbd) (i:Nat):List (List Int):=(List.range i).flatMap (fun n=>Qbi V n 12)
theorem Qnu (V:qbd) (n s:Nat):Qbi V n (s+1)=Qbi V n s++[Jb2 (V n s)]:=by simp[Qbi,List.range_succ]
theorem Qgr (V:qbd) (i:Nat):Qbw V (i+1)=Qbw V i++Qbi V i 12:=by simp[Qbw,List.range_succ]
theorem Qi6 (V:qbd) (n s:Nat):(Qbi V n s).length=s:=by simp[Qbi]
theorem Qc3 (V:qbd) (i:Nat):(Qbw V i).length=12*i:=by
 induction i with
 | zero=>rfl
 | succ i ih=>rw[Qgr,Z6,ih,Qi6];omega
