/-
 Keys of 32 bits in rows: the beginnings of their sort.
-/
import Derived.Test.YtociicnopccppaaGreatMNum
import Derived.Test.YtociicnopccppaaGreatMRegL
import Derived.BigGuard
import Derived.BigCall
import Derived.CellFam
import Derived.Deep.Draws
import Derived.BigRegion
set_option maxHeartbeats 8000000
set_option linter.all false
namespace Go.Proofs.YtociicnopccppaaGreat
open Go.RowKit
def Jg2 (k:Nat):List Value:=[.int .u32 k]
def qga:Tag:=(330,0)
theorem Jdd (w:World) (x:Int):Calls Tryz.prog 160 #[.int .u32 x] w fun e a=>e = .returned (.bool false)/\w=a:=by
 go_enter Tryz.func160,Tryz.ntmps160
 go_wp2_with fail
 go_ret
 exact⟨rfl,rfl⟩
def kvs (ss:List Nat):List Value:=ss.map (fun k:Nat=>Value.int .u32 k)
theorem Jg7 (ss:List Nat):ss.flatMap Jg2=kvs ss:=by
 unfold kvs
 induction ss with
 | nil=>rfl
 | cons x l ih=>rw[List.flatMap_cons,X0,ih];rfl
theorem Jg1 (ss:List Nat):(kvs ss).length=ss.length:=by unfold kvs;rw[Y0]
theorem Jip {ss:List Nat}{i x:Nat}(h:ss[i]?=some x) (ys:List Value):(kvs ss++ys)[i]?=some (.int .u32 x):=by
 have hl:=(Z4 h).1
 rw[Y5 (by rw[Jg1];exact hl)]
 unfold kvs
 rw[List.getElem?_map,h]
 rfl
theorem Jio (ss:List Nat) (ys:List Value) {i:Nat}(hi:i<ss.length) (x:Nat):(kvs ss++ys).set i (.int .u32 x)=kvs (ss.set i x)++ys:=by
 rw[List.set_append_left _ _ (by rw[Jg1];exact hi)]
 unfold kvs
 rw[List.map_set]
structure KR (w:World) (τ:qa1) (b:Nat) (ys:List Value) (ss:List Nat):Prop where
 own:Own w τ b qga 39 (kvs ss++ys)
theorem KR.at {w:World}{τ:qa1}{b:Nat}{ys:List Value}{ss:List Nat}(h:KR w τ b ys ss) {i x:Nat}(a:ss[i]?=some x):w.cell? ⟨b,i,none⟩=some (.int .u32 x):=h.own.at i (Jip a ys)
theorem KR.set {w:World}{τ:qa1}{b:Nat}{ys:List Value}{ss:List Nat}(h:KR w τ b ys ss) {i:Nat}(hi:i<ss.length) (x:Nat):KR (w.setCell ⟨b,i,none⟩ (.int .u32 x)) τ b ys (ss.set i x):=⟨by rw[<-Jio ss ys hi x];exact h.own.set i _⟩
theorem KR.step {w c:World}{τ a:qa1}{S:Tag->Prop}{b:Nat}{ys:List Value}{ss:List Nat}(h:KR w τ b ys ss) (m:Step w τ c a S) (d:¬S qga):KR c a b ys ss:=⟨h.own.step m d⟩
theorem Jhk {ss:List Nat}{i j x y:Nat}(a:ss[i]?=some x) (c:ss[j]?=some y):((ss.set i y).set j x).Perm ss:=by
 have hi:=(Z4 a).1
 have d:=(Z4 c).1
 have ex:ss[i]=x:=(Z4 a).2
 have e:ss[j]=y:=(Z4 c).2
 subst ex e
 exact List.set_set_perm hi d
def Jgx:Tag:=(332,0)
end Go.Proofs.YtociicnopccppaaGreat
namespace Go.Proofs.YtociicnopccppaaGreat
open Go.RowKit
def qid (g:Tag):Prop:=g=qga\/g=Jgx
def Srt (w:World) (τ:qa1) (b off:Nat) (ys:List Value) (ss:List Nat) (w':World):Prop:=off=0/\∃τ' ts,ts.Perm ss/\KR w' τ' b ys ts/\Step w τ w' τ' qid
section
variable {w wr : World} {τ : qa1} {b off : Nat} {ys : List Value} {ss : List Nat} {n : Nat}
theorem Srt.fam (h:Srt w τ b off ys ss wr) (hn:ss.length=n):∃G:Nat->Int,(∀t,t<n->wr.cell? ⟨b,off+t,none⟩=some (.int .u32 (G t)))/\(∀t,t<n->wr.frozen? ⟨b,off+t,none⟩=false)/\(∀q,Srt w τ b off ys ss (wr.drewN q))/\(∀q i j k l,i<n->j<n->k=i->l=j->Srt w τ b off ys ss (((wr.drewN q).setCell ⟨b,off+i,none⟩ (.int .u32 (G l))).setCell ⟨b,off+j,none⟩ (.int .u32 (G k)))):=by
 obtain⟨rfl,a,ts,p,g,y⟩:=h
 have hl:ts.length=n:=p.length_eq.trans hn
 have c:∀t,t<n->ts[t]?=some (ts.getD t 0):=fun t r=>by
  rw[Z5,Z3 oM];rfl
 have d:∀q,Step wr a (wr.drewN q) a qid:=fun q=>(Step.refl wr a qid).qcp q
 have e:∀q,Step wr a (wr.drewN q) a nil:=fun q=>(zS wr a).qcp q
 refine⟨fun t=>((ts.getD t 0:Nat):Int),fun t r=>?_,fun t r=>?_,fun q=>⟨rfl,a,ts,p,g.step (e q) id,y.trans (d q)⟩,fun q i j k l hi B s x=>?_⟩
 ·rw[Nat.zero_add]
  exact g.at (c t r)
 ·rw[Nat.zero_add]
  exact g.own.fz t
 ·subst s x
  rw[Nat.zero_add,Nat.zero_add]
  have k1:=g.step (e q) id
  have z:=k1.set (i:=k) oM (ts.getD l 0)
  have C:=z.set (i:=l) (by rw[Y1];omega) (ts.getD k 0)
  have D:=(d q).set (o:=k) k1.own.tag (.inl rfl) (.int .u32 ((ts.getD l 0:Nat):Int))
  have E:=D.set (o:=l) z.own.tag (.inl rfl) (.int .u32 ((ts.getD k 0:Nat):Int))
  exact⟨rfl,a,_,(Jhk (c k hi) (c l B)).trans p,C,y.trans E⟩
theorem Jgu (x y:Int) (w:World):Calls Tryz.prog 196 #[.int .u32 x,.int .u32 y] w fun e c=>e = .returned (.bool (decide (x<y)))/\c=w:=by
 have h1:=Jdd w x
 have H1:=Z2 h1
 clear h1
 by_cases a:x<y
 ·rw[decide_eq_true a]
  go_enter Tryz.func196,Tryz.ntmps196
  go_wp2_with fail
  refine zC H1 ?_
  go_wp2_with fail
  go_ret
  exact⟨rfl,rfl⟩
 ·have d:=decide_eq_false a
  rw[d]
  go_enter Tryz.func196,Tryz.ntmps196
  go_wp2_with fail
  refine zC H1 ?_
  go_wp2_with fail
  go_ret
  exact⟨rfl,rfl⟩
theorem Jhr (h:Srt w τ b off ys ss wr) (hn:ss.length=n) {lo hi cap:Nat}(hh:hi<=n) (h1:lo<=hi) (hsz:n<=1000000) :
 Calls Tryz.prog 190 #[.slice (some ⟨b,off,none⟩) n cap,.int .i64 lo,.int .i64 hi] wr fun e x=>e = .returned (.tuple #[])/\Srt w τ b off ys ss x:=by
 obtain⟨q,y⟩:=qaj h hn
 clear h hn
 go_enter Tryz.func190,Tryz.ntmps190
 go_wp2_with fail
 go_loopw [6] (fun v wr=>∃(i:Nat),lo+1<=i/\i<=n+1/\v = .int .i64 i/\Srt w τ b off ys ss wr) (fun v _=>hi-(intOf v).toNat)
 case atStart=>exact⟨lo+1,Z0 _,oM,by push_cast;rfl,q⟩
 case round =>
  obtain⟨i,hi1,hi2,rfl,o⟩:=hrel
  by_cases hlt:i<hi
  ·have a:(i:Int)<hi:=oM
   have hi3:i<n:=oM
   have p:=Z2 o
   clear o
   go_wp2_with fail
   go_loopw [7] (fun v wr=>∃(j:Nat),lo<=j/\j<n/\v = .int .i64 j/\Srt w τ b off ys ss wr) (fun v _=>(intOf v).toNat)
   case atStart=>exact⟨i,oM,oM,rfl,p⟩
   case round =>
    clear p
    obtain⟨j,hj1,r,rfl,c⟩:=hrel
    obtain⟨G,hcw,hfw,d,g⟩:=c.fam y
    obtain⟨k,s⟩:=qaj d g
    clear d g c
    by_cases hja:lo<j
    ·have l:(lo:Int)<j:=oM
     go_wp2_with fail
     go_big_quiet (first|(go_at_call 196;refine Calls.quiet_of_same (Jgu _ _ _)))
     go_wp2_with fail
     ·go_region
      all_goals go_wp2_with fail
      go_round
      case rel=>exact⟨j-1,oM,oM,by congr 1;omega,s _ j (j-1) _ _ r oM rfl rfl⟩
      case measure=>simp[intOf];omega
     ·go_round
      case rel=>exact⟨i+1,oM,oM,sM,k _⟩
      case measure=>simp[intOf];omega
    ·have l:¬(lo:Int)<j:=oM
     go_wp2_with fail
     go_big_quiet (first|(go_at_call 196;refine Calls.quiet_of_same (Jgu _ _ _)))
     go_wp2_with fail
     go_round
     case rel=>exact⟨i+1,oM,oM,sM,k _⟩
     case measure=>simp[intOf];omega
  ·have a:¬(i:Int)<hi:=oM
   have p:=Z2 o
   clear o
   go_wp2_with fail
   go_returns
   exact⟨rfl,p⟩
end
