/-
 A log and a pool on an empty device,in plain Lean: all is known of them.
-/
import Derived.Test.YtociicnopccppaaGreatMR12C
import Derived.Test.YtociicnopccppaaGreatMPoolT
set_option linter.all false
namespace Go.Proofs.YtociicnopccppaaGreat
open Go.RowKit
def qg3 (Z N:Nat):Dev:=⟨List.replicate Z qgp,List.replicate (4*(N+1)) qgp,none,false⟩
def nwD (Z N:Nat):Dev:=Qbl (qg3 Z N)
theorem Qyn (Z N:Nat):(nwD Z N).f1=List.replicate (4*(N+1)) qgp:=Qot (qg3 Z N)
theorem Qgj (Z N:Nat):(nwD Z N).f1.length=4*(N+1):=by rw[Qyn,Z7]
theorem qf9 (Z N i:Nat) (hi:i<N+1):qap (nwD Z N) i 4=blank:=Qsp (Qyn Z N) i oM
theorem Qfo (Z N:Nat):(qg3 Z N).f0.length=Z:=Z7
theorem Qn1 (Z N:Nat):(qg3 Z N).lim 0:=Qzq Z (4*(N+1))
theorem Qvd (Z N i:Nat) (hi:i<=Z):Qa7 (qg3 Z N) 0 [] i=(qg3 Z N,false):=by
 induction i with
 | zero=>rfl
 | succ i ih =>
   show (if (Qa7 (qg3 Z N) 0 [] i).1.last 0 (0+i)=Qck [] i then Qa7 (qg3 Z N) 0 [] i else _)=_
   rw[ih oM,if_pos]
   show ((List.replicate Z qgp)[0+i]?.map Sec.newest).getD []=Qff
   rw[List.getElem?_replicate,if_pos oM]
   rfl
theorem Qyo (Z N:Nat):nwD Z N=(qg3 Z N).lay 0 (Qb8 (qg3 Z N).f0.length).said.slot [(Qb8 (qg3 Z N).f0.length).said.head]:=by
 unfold nwD Qbl
 have a:(qg3 Z N).make 0 (qg3 Z N).f0.length []=qg3 Z N:=by
  unfold Dev.make
  rw[Qfo,Qvd Z N Z (Z0 _),if_neg sM]
 rw[a]
 unfold Qf9 Dev.lay
 rfl
theorem Qve (Z N:Nat):(qg3 Z N).Calm:=by
 refine⟨rfl,fun f k s a=>?_⟩
 unfold Dev.file at a
 split at a
 ·have:=List.mem_of_getElem? a
  rw[List.eq_of_mem_replicate this];rfl
 ·split at a
  ·have:=List.mem_of_getElem? a
   rw[List.eq_of_mem_replicate this];rfl
  ·simp at a
theorem Qxi (Z N:Nat):(nwD Z N).Calm:=by
 rw[Qyo]
 exact(Qve Z N).lay oM _ _
theorem Qvc (Z N:Nat):(nwD Z N).f0.length=Z:=by
 rw[Qyo]
 have h:∀(E:Dev),E.file 0=E.f0:=fun E=>rfl
 rw[<-h,Dev.qbg _ _ _ oM,h,Qfo]
theorem nwL (Z:Nat):(qbh Z).base=1/\(qbh Z).stream=[]/\(qbh Z).starts=[]/\(qbh Z).strips=(Z-2)/2/\(qbh Z).qam=2/\(qbh Z).lasts=0:=⟨rfl,rfl,rfl,rfl,rfl,rfl⟩
theorem Jk2:(Jct (List.replicate 128 0)).stamp=0:=dK
theorem Jlw (Z N:Nat) (hZ:2<=Z):qdf (qbh Z) (nwD Z N):=by
 have d:=Qfo Z N
 have c:∀(X:Dev),X.file 0=X.f0:=fun X=>rfl
 have g:(Qb8 (qg3 Z N).f0.length).said.slot=0:=rfl
 have b:∀j,j<Z->(qg3 Z N).last 0 j=List.replicate 128 0:=fun j h=>by
  show ((List.replicate Z qgp)[j]?.map Sec.newest).getD []=List.replicate 128 0
  rw[List.getElem?_replicate,if_pos h];rfl
 have a:∀j,(nwD Z N).last 0 j=if j=0 then qdg 1 1 0 0 else (qg3 Z N).last 0 j:=fun j=>by
  rw[Qyo,g,Dev.qet (Qve Z N).left oM _ _ (by rw[c,d];show 0+1<=Z;omega)]
  by_cases e:j=0
  ·rw[if_pos ⟨rfl,oM,by subst e;show 0<0+1;omega⟩,if_pos e,e]
   rfl
  ·rw[if_neg (by intro q;have:j<0+1:=q.2.2;omega),if_neg e]
 refine⟨by show 0<2;omega,by show 0<1;omega,by rw[show (qbh Z).slot=0 from rfl,a,if_pos rfl];rfl,?_,fun k i=>?_,by rw[Qvc];rfl⟩
 ·rw[show 1-(qbh Z).slot=1 from rfl,a,if_neg oM,b 1 oM,Jk2]
  exact⟨by show 0<1;omega,.inl rfl⟩
 ·have hk2:k<(Z-2)/2:=i
  rw[show (qbh Z).qam=2 from rfl,a,if_neg oM,b (2+k) oM]
  exact(Ji4 (by show (List.take 0 ([]:List Int)).length<=_;simp)).symm
theorem qjt (Z N k st:Nat) (p:2<=Z) (hN:N<=1000):Good N st (qbh Z) (nwD Z N) (List.replicate k Fr.no) qaf:=by
 have d:=Jlw Z N p
 obtain⟨q,r,e,w,x,y⟩:=nwL Z
 generalize qbh Z=L at *
 have a:∀(i:Nat) (f:Fr),(List.replicate k Fr.no)[i]?=some f->f=Fr.no:=fun i f c=>List.eq_of_mem_replicate (List.mem_of_getElem? c)
 refine⟨Qxi Z N,Qgj Z N,by rw[Qvc,w,x];omega,by rw[r];exact Z9 _,by rw[y];exact Z9 _,⟨fun i j hij h=>by rw[e] at h;simp at h,fun s l=>by rw[e] at l;simp at l⟩,by rw[q];omega,fun n hn=>⟨Qlq n oM,Qjo n oM,.inl ⟨qgz n,rfl⟩⟩,fun n hn=>⟨qaf n,.inl ⟨qf9 Z N n oM,rfl⟩,fun _=>rfl⟩,fun i f b P c o=>?_,fun i f c _=>a i f c,fun i j n f g c _ hh _=>?_,.inl (qf9 Z N N oM),d⟩
 ·rw[a i f c] at o;cases o
 ·rw[a i f c] at hh;cases hh
theorem qi9 (k:Nat) (h3:3<=k) (a:k<=64):Clock (List.replicate k Fr.no) (Ck.Clk.qil k) :=
 ⟨by rw[Z7];rfl,by show 0<k;omega,a,fun i f b=>by
  rw[List.eq_of_mem_replicate (List.mem_of_getElem? b)];rfl,fun _=>rfl⟩
