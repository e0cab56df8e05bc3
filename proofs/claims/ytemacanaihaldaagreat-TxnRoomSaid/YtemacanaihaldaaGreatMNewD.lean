/-
 A log and a pool on an empty device,in plain Lean: all is known of them.
-/
import Derived.Test.YtemacanaihaldaaGreatMR12C
import Derived.Test.YtemacanaihaldaaGreatMPoolZ
set_option linter.all false
namespace Go.Proofs.YtemacanaihaldaaGreat
open Go.RowKit
def nwD0 (Z N:Nat):Dev:=⟨List.replicate Z zsec,List.replicate (4*(N+1)) zsec,none,false⟩
def nwD (Z N:Nat):Dev:=Qbl (nwD0 Z N)
theorem Qyn (Z N:Nat):(nwD Z N).f1=List.replicate (4*(N+1)) zsec:=Qot (nwD0 Z N)
theorem Qgj (Z N:Nat):(nwD Z N).f1.length=4*(N+1):=by rw[Qyn,Z7]
theorem Qe8 (Z N i:Nat) (hi:i<N+1):lastTo (nwD Z N) i 4=blank:=Qsp (Qyn Z N) i (by omega)
theorem Qfo (Z N:Nat):(nwD0 Z N).f0.length=Z:=Z7
theorem Qn1 (Z N:Nat):(nwD0 Z N).lim 0:=Qzq Z (4*(N+1))
theorem Qvd (Z N i:Nat) (hi:i<=Z):Qa7 (nwD0 Z N) 0 [] i=(nwD0 Z N,false):=by
 induction i with
 | zero=>rfl
 | succ i ih =>
   show (if (Qa7 (nwD0 Z N) 0 [] i).1.last 0 (0+i)=Qck [] i then Qa7 (nwD0 Z N) 0 [] i else _)=_
   rw[ih (by omega),if_pos]
   show ((List.replicate Z zsec)[0+i]?.map Sec.newest).getD []=Qff
   rw[List.getElem?_replicate,if_pos (by omega)]
   rfl
theorem Qyo (Z N:Nat):nwD Z N=(nwD0 Z N).lay 0 (Qb8 (nwD0 Z N).f0.length).said.slot [(Qb8 (nwD0 Z N).f0.length).said.head]:=by
 unfold nwD Qbl
 have b:(nwD0 Z N).make 0 (nwD0 Z N).f0.length []=nwD0 Z N:=by
  unfold Dev.make
  rw[Qfo,Qvd Z N Z (Z0 _),if_neg (by simp)]
 rw[b]
 unfold Qf9 Dev.lay
 rfl
theorem Qve (Z N:Nat):(nwD0 Z N).Calm:=by
 refine⟨rfl,fun f k s b=>?_⟩
 unfold Dev.file at b
 split at b
 ·have:=List.mem_of_getElem? b
  rw[List.eq_of_mem_replicate this];rfl
 ·split at b
  ·have:=List.mem_of_getElem? b
   rw[List.eq_of_mem_replicate this];rfl
  ·simp at b
theorem Qxi (Z N:Nat):(nwD Z N).Calm:=by
 rw[Qyo]
 exact(Qve Z N).lay (by omega) _ _
theorem Qvc (Z N:Nat):(nwD Z N).f0.length=Z:=by
 rw[Qyo]
 have h:∀(E:Dev),E.file 0=E.f0:=fun E=>rfl
 rw[<-h,Dev.lay_length _ _ _ (by omega),h,Qfo]
theorem nwL (Z:Nat):(walNewLog Z).base=1/\(walNewLog Z).stream=[]/\(walNewLog Z).starts=[]/\(walNewLog Z).strips=(Z-2)/2/\(walNewLog Z).firstS=2/\(walNewLog Z).lasts=0:=⟨rfl,rfl,rfl,rfl,rfl,rfl⟩
theorem Qzo (Z N k st:Nat) (hZ:2<=Z) (hN:N<=1000):Good N st (walNewLog Z) (nwD Z N) (List.replicate k Fr.no) emptyPage:=by
 obtain⟨p,q,h,r,w,x⟩:=nwL Z
 generalize walNewLog Z=L at *
 have d:∀(i:Nat) (f:Fr),(List.replicate k Fr.no)[i]?=some f->f=Fr.no:=fun i f e=>List.eq_of_mem_replicate (List.mem_of_getElem? e)
 refine⟨Qxi Z N,Qgj Z N,by rw[Qvc,r,w];omega,by rw[q];exact Z9 _,by rw[x];exact Z9 _,⟨fun i j hij l=>by rw[h] at l;simp at l,fun s m=>by rw[h] at m;simp at m⟩,by rw[p];omega,fun n hn=>⟨Qlq n (by omega),Qjo n (by omega),.inl ⟨emptyPage_lsn n,rfl⟩⟩,fun n hn=>⟨emptyPage n,.inl ⟨Qe8 Z N n (by omega),rfl⟩,fun _=>rfl⟩,fun i f b P e o=>?_,fun i f e _=>d i f e,fun i j n f g e _ hh _=>?_,.inl (Qe8 Z N N (by omega))⟩
 ·rw[d i f e] at o;cases o
 ·rw[d i f e] at hh;cases hh
theorem Qxh (k:Nat) (h3:3<=k) (b:k<=64):Clock (List.replicate k Fr.no) (Ck.Clk.newS k) :=
 ⟨by rw[Z7];rfl,by show 0<k;omega,b,fun i f d=>by
  rw[List.eq_of_mem_replicate (List.mem_of_getElem? d)];rfl,fun _=>rfl⟩
