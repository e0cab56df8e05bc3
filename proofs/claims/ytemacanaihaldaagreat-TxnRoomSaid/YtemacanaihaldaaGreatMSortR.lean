/-
 slices.Sort over []uint32,as KeyB asks for it.
-/
import Derived.Test.YtemacanaihaldaaGreatMSortZ
import Derived.Test.YtemacanaihaldaaGreatMKeyB
set_option linter.all false
namespace Go.Proofs.YtemacanaihaldaaGreat
open Go.RowKit
theorem Jhm (n:Nat) (hn:n<18446744073709551616) (w:World):Calls Tryz.prog 224 #[.int .u64 (n:Int)] w fun e b=>e = .returned (.int .i64 ((Lib.bitLen n:Nat):Int))/\b=w:=by
 have h:=Any.bits_Len (SlLaysF0.n15.bits (P:=Tryz.prog) (ρ:=Tryz.sortD_ren) {Tryz.sortD with}) (n:Int) w (by omega) (by omega)
 rwa [Int.toNat_natCast] at h
theorem Jiu {w wr:World}{τ:Tags}{b off:Nat}{ys:List Value}{j:List Nat}{n cap:Nat}(h:Srt w τ b off ys j wr) (hn:j.length=n) (d:n<=cap) (l:n<=1000000) :
 Calls Tryz.prog 159 #[.slice (some ⟨b,off,none⟩) n cap] wr fun e m=>e = .returned (.tuple #[])/\Srt w τ b off ys j m:=by
 have hl:=Jhm n (by omega)
 have hk:Lib.bitLen n<=64:=Lib.bitLen_le n 64 (Z0 _) (by omega)
 obtain⟨k,i⟩:∃k,Lib.bitLen n=k:=⟨_,rfl⟩
 rw[i] at hl hk
 have o:=pdq_s n (lo:=0) (hi:=n) (lim:=k) (cap:=cap) h hn d (by omega) (Z0 _) (Z9 _) l (by omega)
 obtain⟨q,r⟩:=hid2 hl o
 clear hl o h i
 go_enter Tryz.func159,Tryz.ntmps159
 go_wp2_with (first|(go_at_call 224;refine(q.out _).mono ?_;rintro e m ⟨rfl,rfl⟩))
 refine r.out.mono ?_
 rintro e m ⟨rfl,p⟩
 have s:=Z2 p
 clear p
 go_wp2_with fail
 go_returns
 exact⟨rfl,s.out⟩
theorem Jiq (w:World):Calls Tryz.prog 272 #[.slice none 0 0,.int .i64 0,.int .i64 0] w fun e b=>e = .returned (.tuple #[])/\w=b:=by
 go_enter Tryz.func272,Tryz.ntmps272
 go_wp2_with fail
 go_loopw [6] (fun v wr=>v = .int .i64 1/\wr=w) (fun v _=>0)
 case atStart=>exact⟨rfl,rfl⟩
 case round =>
  obtain⟨rfl,rfl⟩:=hrel
  go_wp2_with fail
  go_returns
  exact⟨rfl,rfl⟩
theorem Jh5 (w:World):Calls Tryz.prog 234 #[.slice none 0 0,.int .i64 0,.int .i64 0,.int .i64 0] w fun e h=>e = .returned (.tuple #[])/\w=h:=by
 have b:=Jiq w
 have d:=Z2 b
 clear b
 go_enter Tryz.func234,Tryz.ntmps234
 go_wp2_with fail
 go_loopw [1,2] (fun v i wr=>v = .int .i64 0/\i = .int .i64 0/\wr=w) (fun v _ _=>0)
 case atStart=>exact⟨rfl,rfl,rfl⟩
 case round =>
  obtain⟨rfl,rfl,rfl⟩:=hrel
  go_wp2_with fail
  refine d.out.mono ?_
  rintro e h ⟨rfl,rfl⟩
  go_wp2_with fail
  (try simp only[Exit.inBlock,Exit.then])
  refine bodyPost_ret (results_none rfl _ _ _) rfl ?_
  exact⟨rfl,rfl⟩
theorem Jhx (w:World):Calls Tryz.prog 159 #[.slice none 0 0] w fun e b=>e = .returned (.tuple #[])/\w=b:=by
 have hl:=Jhm 0 (by omega)
 rw[show Lib.bitLen 0=0 by decide] at hl
 have d:=Jh5 w
 obtain⟨h,i⟩:=hid2 hl d
 clear hl d
 go_enter Tryz.func159,Tryz.ntmps159
 go_wp2_with (first|(go_at_call 224;refine(h.out _).mono ?_;rintro e b ⟨rfl,rfl⟩))
 refine i.out.mono ?_
 rintro e b ⟨rfl,rfl⟩
 go_wp2_with fail
 go_returns
 exact⟨rfl,rfl⟩
theorem Jg8 {B:Nat}(hB:B<=1000000):SortC B:=by
 intro w τ n0 v l h hk hl
 obtain⟨x,h0⟩:=h.buf
 rcases h0 with ⟨rfl,h0⟩|⟨b,cap,ys,rfl,r,y,z,C⟩
 ·refine(Jhx w).mono ?_
  rintro e D ⟨rfl,rfl⟩
  exact⟨rfl,l,List.Perm.refl _,h,Mod.refl _ _⟩
 ·have d:=r.row
  rw[Jg7] at d
  have p:KR w (fun k=>if k=b then tKey else tBox) b ys l:=⟨⟨d,if_pos rfl⟩⟩
  refine(Jiu (cap:=cap) (⟨rfl,_,l,List.Perm.refl _,p,Step.refl _ _ _⟩:Srt w (fun k=>if k=b then tKey else tBox) b 0 ys l w) rfl z (by omega)).mono ?_
  rintro e D ⟨rfl,-,τ',ts,s,q,E⟩
  have i:ts.length=l.length:=s.length_eq
  have m:(ts.flatMap Jg2).length=(l.flatMap Jg2).length:=by rw[Jg7,Jg7,Jg1,Jg1,i]
  refine⟨rfl,ts,s,⟨⟨by rw[m,i];exact x,.inr ⟨b,cap,ys,by rw[i],⟨?_,r.tag⟩,by rw[m];exact y,by omega,C⟩⟩,h.low⟩,E.mod.mono (fun j _ F=>?_)⟩
  ·rw[Jg7];exact q.own.row
  ·by_cases e:j=b
   ·rw[e];rfl
   ·exfalso
    have o:SrtTag (if j=b then tKey else tBox):=F
    rw[if_neg e] at o
    rcases o with h|h <;> simp[tBox,tKey,Jgx] at h
