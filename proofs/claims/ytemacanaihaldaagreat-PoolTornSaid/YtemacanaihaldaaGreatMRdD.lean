/-
 Records: may a record be? Of any record.
-/
import Derived.Test.YtemacanaihaldaaGreatMRdC
set_option maxRecDepth 100000
set_option maxHeartbeats 40000000
set_option linter.all false
namespace Go.Proofs.YtemacanaihaldaaGreat
variable {g:Tag}{n0:Nat}{w:World}{τ:Tags}
open Go.RowKit
def chgB (k:Nat):Bool:=decide (k=2) || decide (k=3)
def mayCB (chg:Bool) (pg sl:Nat) (hd hs:Bool) (nb na:Nat):Bool := !(decide (64<nb) || decide (64<na) || (!hd && decide (0<nb)) || (!hs && decide (0<na))) && (chg || (decide (pg=0) && decide (sl=0) && !hd && !hs))
theorem Qhk (w:World) (τ:Tags) (k tx pv nx pg sl:Nat) (hd hs:Bool) (pb pa pt pp:Option Addr) (nb cb na ca nt ct np cp:Nat):Calls Tryz.prog 151 #[.agg #[.int .u8 (k:Int),.int .u32 (tx:Int),.int .u64 (pv:Int),.int .u64 (nx:Int),.int .u32 (pg:Int),.int .u16 (sl:Int),.bool hd,.bool hs,.slice pb nb cb,.slice pa na ca,.slice pt nt ct,.slice pp np cp]] w fun e w'=>e = .returned (.bool (chgB k))∧Step w τ w' τ nil:=by
 have hst:=(Step.refl w τ nil).alloc' (.cells #[.int .u8 (k:Int),.int .u32 (tx:Int),.int .u64 (pv:Int),.int .u64 (nx:Int),.int .u32 (pg:Int),.int .u16 (sl:Int),.bool hd,.bool hs,.slice pb nb cb,.slice pa na ca,.slice pt nt ct,.slice pp np cp] 127)
 have Hst:=Lib.hid hst
 clear hst
 by_cases h2:k=2
 ·subst h2
  go_enter Tryz.func151,Tryz.ntmps151
  go_wp2_with fail
  go_ret
  exact⟨rfl,Hst.out⟩
 by_cases h3:k=3
 ·subst h3
  go_enter Tryz.func151,Tryz.ntmps151
  go_wp2_with fail
  go_ret
  exact⟨rfl,Hst.out⟩
 have hi2:¬(k:Int)=2:=by omega
 have hi3:¬(k:Int)=3:=by omega
 go_enter Tryz.func151,Tryz.ntmps151
 go_wp2_with fail
 go_ret
 exact⟨by simp[chgB,h2,h3];exact⟨hi2,hi3⟩,Hst.out⟩
theorem Qn3 (w:World) (τ:Tags) (k tx pv nx pg sl:Nat) (hd hs:Bool) (pb pa pt pp:Option Addr) (nb cb na ca nt ct np cp:Nat):Calls Tryz.prog 227 #[.agg #[.int .u8 (k:Int),.int .u32 (tx:Int),.int .u64 (pv:Int),.int .u64 (nx:Int),.int .u32 (pg:Int),.int .u16 (sl:Int),.bool hd,.bool hs,.slice pb nb cb,.slice pa na ca,.slice pt nt ct,.slice pp np cp]] w fun e w'=>e = .returned (.bool (mayCB (chgB k) pg sl hd hs nb na))∧Step w τ w' τ nil:=by
 have hch:=fun (W:World) (τ:Tags)=>Qhk W τ k tx pv nx pg sl hd hs pb pa pt pp nb cb na ca nt ct np cp
 have hq:=((Step.refl w τ nil).alloc (.cells #[.int .u8 (k:Int),.int .u32 (tx:Int),.int .u64 (pv:Int),.int .u64 (nx:Int),.int .u32 (pg:Int),.int .u16 (sl:Int),.bool hd,.bool hs,.slice pb nb cb,.slice pa na ca,.slice pt nt ct,.slice pp np cp] 127) tOne).alloc (.cells #[.int .u32 (pg:Int),.int .u16 (sl:Int),.bool hd,.bool hs,.slice pb nb cb,.slice pa na ca] 124) tOne
 have ho:=Own.born (w.alloc (.cells #[.int .u8 (k:Int),.int .u32 (tx:Int),.int .u64 (pv:Int),.int .u64 (nx:Int),.int .u32 (pg:Int),.int .u16 (sl:Int),.bool hd,.bool hs,.slice pb nb cb,.slice pa na ca,.slice pt nt ct,.slice pp np cp] 127)) (τ.put w.heap.size tOne) tOne 124 #[.int .u32 (pg:Int),.int .u16 (sl:Int),.bool hd,.bool hs,.slice pb nb cb,.slice pa na ca]
 have hst:∀W,Step ((w.alloc (.cells #[.int .u8 (k:Int),.int .u32 (tx:Int),.int .u64 (pv:Int),.int .u64 (nx:Int),.int .u32 (pg:Int),.int .u16 (sl:Int),.bool hd,.bool hs,.slice pb nb cb,.slice pa na ca,.slice pt nt ct,.slice pp np cp] 127)).alloc (.cells #[.int .u32 (pg:Int),.int .u16 (sl:Int),.bool hd,.bool hs,.slice pb nb cb,.slice pa na ca] 124)) ((τ.put w.heap.size tOne).put (w.alloc (.cells #[.int .u8 (k:Int),.int .u32 (tx:Int),.int .u64 (pv:Int),.int .u64 (nx:Int),.int .u32 (pg:Int),.int .u16 (sl:Int),.bool hd,.bool hs,.slice pb nb cb,.slice pa na ca,.slice pt nt ct,.slice pp np cp] 127)).heap.size tOne) W ((τ.put w.heap.size tOne).put (w.alloc (.cells #[.int .u8 (k:Int),.int .u32 (tx:Int),.int .u64 (pv:Int),.int .u64 (nx:Int),.int .u32 (pg:Int),.int .u16 (sl:Int),.bool hd,.bool hs,.slice pb nb cb,.slice pa na ca,.slice pt nt ct,.slice pp np cp] 127)).heap.size tOne) nil→Step w τ W τ nil:=fun W h=>⟨(hq.trans h).mod,Ext.refl _ _⟩
 have hst0:=hst _ (Step.refl _ _ _)
 simp only[World.size_alloc] at ho hst
 generalize (τ.put w.heap.size tOne).put (w.heap.size+1) tOne=τ1 at *
 obtain⟨cb_,hcb⟩:∃c,chgB k=c:=⟨_,rfl⟩
 rw[hcb] at hch ⊢
 have h64a:∀n:Nat,(64:Int)<(n:Int)↔64<n:=fun n=>by omega
 obtain⟨Hch,Ho,Hst,Hst0,Hcb,H64a⟩:=hid6 hch ho hst hst0 hcb h64a
 clear hch ho hst hst0 hcb h64a hq
 by_cases h1:64<nb
 ·have i1:(64:Int)<(nb:Int):=by omega
  go_enter Tryz.func227,Tryz.ntmps227
  go_wp2_with fail
  go_ret
  exact⟨by simp[mayCB,h1],Hst0.out⟩
 have i1:¬(64:Int)<(nb:Int):=by omega
 by_cases h2:64<na
 ·have i2:(64:Int)<(na:Int):=by omega
  go_enter Tryz.func227,Tryz.ntmps227
  go_wp2_with fail
  go_ret
  exact⟨by simp[mayCB,h2],Hst0.out⟩
 have i2:¬(64:Int)<(na:Int):=by omega
 by_cases h3:hd=false∧0<nb
 ·obtain⟨rfl,h3⟩:=h3
  have i3:(0:Int)<(nb:Int):=by omega
  go_enter Tryz.func227,Tryz.ntmps227
  go_wp2_with fail
  go_ret
  exact⟨by simp[mayCB,h3],Hst0.out⟩
 have j3:hd=true∨(hd=false∧nb=0):=by
  cases hd with
  | true=>exact .inl rfl
  | false=>exact .inr ⟨rfl,Nat.eq_zero_of_not_pos (fun h=>h3 ⟨rfl,h⟩)⟩
 by_cases h4:hs=false∧0<na
 ·obtain⟨rfl,h4⟩:=h4
  have i4:(0:Int)<(na:Int):=by omega
  rcases j3 with rfl|⟨rfl,rfl⟩
  all_goals (
   go_enter Tryz.func227,Tryz.ntmps227
   go_wp2_with fail
   go_ret
   exact⟨by simp[mayCB,h4],Hst0.out⟩)
 have j4:hs=true∨(hs=false∧na=0):=by
  cases hs with
  | true=>exact .inl rfl
  | false=>exact .inr ⟨rfl,Nat.eq_zero_of_not_pos (fun h=>h4 ⟨rfl,h⟩)⟩
 have hval:mayCB cb_ pg sl hd hs nb na=(cb_ || (decide (pg=0) && decide (sl=0) && !hd && !hs)):=by
  unfold mayCB
  have e3:(!hd && decide (0<nb))=false:=by rcases j3 with rfl|⟨rfl,rfl⟩ <;> simp
  have e4:(!hs && decide (0<na))=false:=by rcases j4 with rfl|⟨rfl,rfl⟩ <;> simp
  rw[e3,e4,decide_eq_false h1,decide_eq_false h2];simp
 rw[hval]
 obtain⟨Hval,H3,H4⟩:=hid3 hval h3 h4
 clear hval h3 h4
 rcases j3 with rfl|⟨rfl,rfl⟩
 all_goals rcases j4 with rfl|⟨rfl,rfl⟩
 all_goals (
  go_enter Tryz.func227,Tryz.ntmps227
  go_wp2_with fail
  refine(Hch.out _ τ1).mono ?_
  rintro e w2 ⟨rfl,hs2⟩
  have ho2:=Ho.out.step hs2 (fun h=>h)
  have c0:=ho2.at 0 rfl
  have c1:=ho2.at 1 rfl
  have c2:=ho2.at 2 rfl
  have c3:=ho2.at 3 rfl
  have hall:=Hst.out _ hs2
  have Hall:=Lib.hid hall
  clear hall ho2 hs2
  cases cb_ with
  | true =>
    go_wp2_with fail
    go_ret
    exact⟨by simp,Hall.out⟩
  | false =>
    by_cases hp:pg=0
    ·have hpI:(pg:Int)=0:=by omega
     by_cases hsl:sl=0
     ·have hsI:(sl:Int)=0:=by omega
      go_wp2_with fail
      go_ret
      exact⟨by simp[hp,hsl],Hall.out⟩
     ·have hsI:¬(sl:Int)=0:=by omega
      go_wp2_with fail
      go_ret
      exact⟨by simp[hsl],Hall.out⟩
    ·have hpI:¬(pg:Int)=0:=by omega
     go_wp2_with fail
     go_ret
     exact⟨by simp[hp],Hall.out⟩)
theorem NS.txn {v:Value} {l:List TxnP}(h:NS 75 4 Qct n0 w τ g v l):∃p c,v = .slice p l.length c∧l.length≤maxLen∧∀(i:Nat) (x:TxnP),l[i]?=some x→∃b,p=some ⟨b,0,none⟩∧w.cell? ⟨b,i*4,none⟩=some (.int .u32 (x.txn:Int))∧w.cell? ⟨b,i*4+1,none⟩=some (.int .u64 (x.last:Int))∧w.cell? ⟨b,i*4+2,none⟩=some (.int .u64 (x.undo:Int))∧w.cell? ⟨b,i*4+3,none⟩=some (.int .u8 (x.state:Int)):=by
 obtain⟨h1,⟨rfl,h2⟩|⟨b,cap,ys,rfl,ho,h3,h4,h5⟩⟩:=h.buf
 ·refine⟨none,0,by rw[h2],by rw[h2];exact Nat.zero_le _,fun i x hx=>?_⟩
  have:=(List.getElem?_eq_some_iff.1 hx).1
  omega
 ·refine⟨_,cap,rfl,by omega,fun i x hx=>?_⟩
  have key:∀(l:List TxnP) (i:Nat) (x:TxnP) (j:Nat),l[i]?=some x→j<4→(l.flatMap Qct)[i*4+j]?=(Qct x)[j]?:=by
   intro l
   induction l with
   | nil=>intro i x j hx;simp at hx
   | cons y l ih =>
     intro i x j hx hj
     rw[List.flatMap_cons]
     have hl:(Qct y).length=4:=rfl
     cases i with
     | zero =>
       have:y=x:=by simpa using hx
       subst this
       rw[List.getElem?_append_left (by rw[hl];omega),Nat.zero_mul,Nat.zero_add]
     | succ i =>
       rw[List.getElem?_append_right (by rw[hl];omega),hl,show (i+1)*4+j-4=i*4+j by omega]
       exact ih i x j (by simpa using hx) hj
  have hi:=(List.getElem?_eq_some_iff.1 hx).1
  have at_:∀j v,j<4→(Qct x)[j]?=some v→w.cell? ⟨b,i*4+j,none⟩=some v:=fun j v hj hv=>by
   have hk:=key l i x j hx hj
   exact ho.at _ (by rw[List.getElem?_append_left (by have:=List.getElem?_eq_some_iff.1 (hk.trans hv);exact this.1),hk,hv])
  exact⟨b,rfl,at_ 0 _ (by omega) rfl,at_ 1 _ (by omega) rfl,at_ 2 _ (by omega) rfl,at_ 3 _ (by omega) rfl⟩
def Qj4 (s:Nat):Bool:=decide (s<1) || decide (3<s)
theorem Quf (w:World) (a b c s:Nat):Calls Tryz.prog 226 #[.agg #[.int .u32 (a:Int),.int .u64 (b:Int),.int .u64 (c:Int),.int .u8 (s:Int)]] w fun e w'=>e = .returned (.bool (Qj4 s))∧∀τ,Step w τ w' τ nil:=by
 have hst:=fun τ=>(Step.refl w τ nil).alloc' (.cells #[.int .u32 (a:Int),.int .u64 (b:Int),.int .u64 (c:Int),.int .u8 (s:Int)] 75)
 have Hst:=Lib.hid hst
 clear hst
 by_cases h1:s<1
 ·obtain rfl:s=0:=by omega
  go_enter Tryz.func226,Tryz.ntmps226
  go_wp2_with fail
  go_ret
  exact⟨rfl,Hst.out⟩
 have i1:¬(s:Int)<1:=by omega
 by_cases h3:3<s
 ·have i3:(3:Int)<(s:Int):=by omega
  go_enter Tryz.func226,Tryz.ntmps226
  go_wp2_with fail
  go_ret
  exact⟨by simp[Qj4,h3],Hst.out⟩
 have i3:¬(3:Int)<(s:Int):=by omega
 go_enter Tryz.func226,Tryz.ntmps226
 go_wp2_with fail
 go_ret
 exact⟨by simp[Qj4];omega,Hst.out⟩
def Qdu (l:List TxnP):Bool:=l.any (fun x=>Qj4 x.state)
theorem Qoo {v:Value} {l:List TxnP}(h:NS 75 4 Qct n0 w τ g v l) :
 Calls Tryz.prog 269 #[v,.func (.func 226) #[] #[]] w fun e w'=>(∃r:Int,e = .returned (.int .i64 r)∧(decide (0≤r)=Qdu l))∧Step w τ w' τ nil:=by
 obtain⟨p,c,rfl,hlen,-⟩:=h.txn
 obtain⟨len,hl⟩:∃len,l.length=len:=⟨_,rfl⟩
 rw[hl] at hlen
 have hbig:len≤9223372036854775807:=by unfold maxLen at hlen;omega
 rw[hl] at h ⊢
 obtain⟨H_h,Hl⟩:=hid2 h hl
 clear h hl hlen
 go_enter Tryz.func269,Tryz.ntmps269
 go_wp2_with fail
 go_loopw [8] (fun v wr=>∃k:Nat,k≤len∧v = .int .i64 (k:Int)∧Step w τ wr τ nil∧∀(j:Nat) (y:TxnP),j<k→l[j]?=some y→Qj4 y.state=false) (fun v _=>len-(intOf v).toNat)
 case atStart=>exact⟨0,Nat.zero_le _,rfl,Step.refl _ _ _,fun j y hj=>by omega⟩
 case round =>
  obtain⟨k,hk,rfl,hst,hno⟩:=hrel
  by_cases hlt:k<len
  ·obtain⟨x,hx⟩:∃x,l[k]?=some x:=⟨_,List.getElem?_eq_getElem (by rw[Hl.out];exact hlt)⟩
   obtain⟨p',c',hv,-,hrd⟩:=(H_h.out.step hst (fun h=>h)).txn
   obtain⟨b,hp,c0,c1,c2,c3⟩:=hrd k x hx
   simp only[Value.slice.injEq] at hv
   obtain⟨rfl,-,rfl⟩:=hv
   subst hp
   have hkI:(k:Int)<(len:Int):=by omega
   have hc:=Quf wr x.txn x.last x.undo x.state
   cases hh:Qj4 x.state with
   | true =>
     rw[hh] at hc
     have hany:Qdu l=true:=by
      unfold Qdu
      rw[List.any_eq_true]
      exact⟨x,List.mem_of_getElem? hx,hh⟩
     obtain⟨xa,xb,xc,xs⟩:=x
     simp only at c0 c1 c2 c3 hc
     obtain⟨Hc,Hst,Hany⟩:=hid3 hc hst hany
     clear hc hst hany hno hh hx hrd
     go_wp2_with (go_at_call 226;refine Hc.out.mono ?_;rintro e w2 ⟨rfl,hs2⟩;have Hs2:=Lib.hid hs2;clear hs2)
     go_returns
     exact⟨⟨(k:Int),rfl,by rw[Hany.out];simp⟩,Hst.out.trans (Hs2.out τ)⟩
   | false =>
     rw[hh] at hc
     have hno':∀(j:Nat) (y:TxnP),j<k+1→l[j]?=some y→Qj4 y.state=false:=fun j y hj hy=>by
      by_cases e:j=k
      ·subst e
       rw[hx] at hy
       cases hy
       exact hh
      ·exact hno j y (by omega) hy
     obtain⟨xa,xb,xc,xs⟩:=x
     simp only at c0 c1 c2 c3 hc
     obtain⟨Hc,Hst⟩:=hid2 hc hst
     have Hno':=Lib.hid hno'
     clear hc hst hno' hno hh hx hrd
     go_wp2_with (go_at_call 226;refine Hc.out.mono ?_;rintro e w2 ⟨rfl,hs2⟩;have Hs2:=Lib.hid hs2;clear hs2)
     go_round
     case rel=>exact⟨k+1,by omega,by simp,Hst.out.trans (Hs2.out τ),Hno'.out⟩
     case measure=>simp[intOf];omega
  ·obtain rfl:k=len:=by omega
   have hany:Qdu l=false:=by
    unfold Qdu
    rw[List.any_eq_false]
    intro x hx
    obtain⟨j,hj,rfl⟩:=List.mem_iff_getElem.1 hx
    rw[hno j l[j] (by have:=Hl.out;omega) (List.getElem?_eq_getElem hj)];simp
   obtain⟨Hst,Hany⟩:=hid2 hst hany
   clear hst hany hno
   go_wp2_with fail
   go_returns
   exact⟨⟨-1,rfl,by rw[Hany.out];decide⟩,Hst.out⟩
theorem Qpz {v:Value} {l:List TxnP}(h:NS 75 4 Qct n0 w τ g v l) :
 Calls Tryz.prog 228 #[v,.func (.func 226) #[] #[]] w fun e w'=>e = .returned (.bool (Qdu l))∧Step w τ w' τ nil:=by
 have h1:=Qoo h
 obtain⟨p,c,rfl⟩:=h.val
 have H1:=Lib.hid h1
 clear h1 h
 go_enter Tryz.func228,Tryz.ntmps228
 go_wp2_with fail
 refine H1.out.mono ?_
 rintro e w1 ⟨⟨r,rfl,hr⟩,hs⟩
 obtain⟨Hs,Hr⟩:=hid2 hs hr
 clear hs hr
 go_wp2_with fail
 go_returns
 exact⟨by rw[←Hr.out];rfl,Hs.out⟩
def mayRB (k nt np:Nat) (mc wr:Bool):Bool := !(decide (k<1) || decide (8<k) || decide (64<nt) || decide (64<np)) && !(decide (k≠8) && decide (0<nt+np)) && (mc && !wr)
theorem Qn4(k tx pv nx pg sl:Nat) (hd hs:Bool) (pb pa pt pp:Option Addr) (nb cb na ca nt ct np cp:Nat) {lt:List TxnP}(hnt:lt.length=nt) (hns:NS 75 4 Qct n0 w τ g (.slice pt nt ct) lt):Calls Tryz.prog 149 #[.agg #[.int .u8 (k:Int),.int .u32 (tx:Int),.int .u64 (pv:Int),.int .u64 (nx:Int),.int .u32 (pg:Int),.int .u16 (sl:Int),.bool hd,.bool hs,.slice pb nb cb,.slice pa na ca,.slice pt nt ct,.slice pp np cp]] w fun e w'=>e = .returned (.bool (mayRB k nt np (mayCB (chgB k) pg sl hd hs nb na) (Qdu lt)))∧Step w τ w' τ nil:=by
 have hch:=fun (W:World) (τ:Tags)=>Qn3 W τ k tx pv nx pg sl hd hs pb pa pt pp nb cb na ca nt ct np cp
 have hq:=(Step.refl w τ nil).alloc (.cells #[.int .u8 (k:Int),.int .u32 (tx:Int),.int .u64 (pv:Int),.int .u64 (nx:Int),.int .u32 (pg:Int),.int .u16 (sl:Int),.bool hd,.bool hs,.slice pb nb cb,.slice pa na ca,.slice pt nt ct,.slice pp np cp] 127) tOne
 have ho:=Own.born w τ tOne 127 #[.int .u8 (k:Int),.int .u32 (tx:Int),.int .u64 (pv:Int),.int .u64 (nx:Int),.int .u32 (pg:Int),.int .u16 (sl:Int),.bool hd,.bool hs,.slice pb nb cb,.slice pa na ca,.slice pt nt ct,.slice pp np cp]
 have hst:∀W,Step (w.alloc (.cells #[.int .u8 (k:Int),.int .u32 (tx:Int),.int .u64 (pv:Int),.int .u64 (nx:Int),.int .u32 (pg:Int),.int .u16 (sl:Int),.bool hd,.bool hs,.slice pb nb cb,.slice pa na ca,.slice pt nt ct,.slice pp np cp] 127)) (τ.put w.heap.size tOne) W (τ.put w.heap.size tOne) nil→Step w τ W τ nil:=fun W h=>⟨(hq.trans h).mod,Ext.refl _ _⟩
 have hst0:=hst _ (Step.refl _ _ _)
 have hns1:=hns.step hq (fun h=>h)
 obtain⟨bv,hbv⟩:∃bv,w.heap.size=bv:=⟨_,rfl⟩
 rw[hbv] at ho hst hns1
 generalize τ.put bv tOne=τ1 at *
 obtain⟨mc,hmc⟩:∃m,mayCB (chgB k) pg sl hd hs nb na=m:=⟨_,rfl⟩
 rw[hmc] at hch ⊢
 obtain⟨Hch,Ho,Hst,Hst0,Hmc,Hns1,Hbv,Hnt⟩:=hid8 hch ho hst hst0 hmc hns1 hbv hnt
 clear hch ho hst hst0 hmc hns1 hbv hnt hq hns
 by_cases h1:k<1
 ·obtain rfl:k=0:=by omega
  go_enter Tryz.func149,Tryz.ntmps149
  go_wp2_with fail
  go_ret
  exact⟨by simp[mayRB],Hst0.out⟩
 have i1:¬(k:Int)<1:=by omega
 by_cases h2:8<k
 ·have i2:(8:Int)<(k:Int):=by omega
  go_enter Tryz.func149,Tryz.ntmps149
  go_wp2_with fail
  go_ret
  exact⟨by simp[mayRB,h2],Hst0.out⟩
 have i2:¬(8:Int)<(k:Int):=by omega
 by_cases h3:64<nt
 ·have i3:(64:Int)<(nt:Int):=by omega
  go_enter Tryz.func149,Tryz.ntmps149
  go_wp2_with fail
  go_ret
  exact⟨by simp[mayRB,h3],Hst0.out⟩
 have i3:¬(64:Int)<(nt:Int):=by omega
 by_cases h4:64<np
 ·have i4:(64:Int)<(np:Int):=by omega
  go_enter Tryz.func149,Tryz.ntmps149
  go_wp2_with fail
  go_ret
  exact⟨by simp[mayRB,h4],Hst0.out⟩
 have i4:¬(64:Int)<(np:Int):=by omega
 have hsum:IntKind.i64.wrap ((nt:Int)+(np:Int))=(nt:Int)+(np:Int):=Qd5 _ (by omega) (by omega)
 by_cases h5:k≠8∧0<nt+np
 ·have i5:(0:Int)<(nt:Int)+(np:Int):=by omega
  have i6:¬(k:Int)=8:=by omega
  go_enter Tryz.func149,Tryz.ntmps149
  go_wp2_with fail
  go_ret
  exact⟨by simp[mayRB,h5.1,h5.2],Hst0.out⟩
 have hval:mayRB k nt np mc (Qdu lt)=(mc && !Qdu lt):=by
  unfold mayRB
  rw[decide_eq_false h1,decide_eq_false h2,decide_eq_false h3,decide_eq_false h4]
  have:(decide (k≠8) && decide (0<nt+np))=false:=by
   cases hx:(decide (k≠8) && decide (0<nt+np)) with
   | false=>rfl
   | true =>
     rw[Bool.and_eq_true,decide_eq_true_eq,decide_eq_true_eq] at hx
     exact absurd hx h5
  rw[this];simp
 rw[hval]
 have j5:k=8∨(¬k=8∧nt=0∧np=0):=by
  by_cases h8:k=8
  ·exact .inl h8
  ·exact .inr ⟨h8,by omega,by omega⟩
 obtain⟨wr_,hwr⟩:∃b,Qdu lt=b:=⟨_,rfl⟩
 rw[hwr]
 obtain⟨Hval,Hwr,H5⟩:=hid3 hval hwr h5
 clear hval hwr h5 h1 h2 h3 h4
 rcases j5 with rfl|⟨h8,rfl,rfl⟩
 all_goals (
  try have i8:¬(k:Int)=8:=by omega
  go_enter Tryz.func149,Tryz.ntmps149
  go_wp2_with fail
  try rw[Hbv.out]
  refine(Hch.out _ τ1).mono ?_
  rintro e w2 ⟨rfl,hs2⟩
  have ho2:=Ho.out.step hs2 (fun h=>h)
  have c10:=ho2.at 10 rfl
  have hns2:=Hns1.out.step hs2 (fun h=>h)
  have hcf:=Qpz hns2
  rw[Hwr.out] at hcf
  have hall:=Hst.out _ hs2
  have hadd:∀w3,Step w2 τ1 w3 τ1 nil→Step w τ w3 τ nil:=fun w3 h=>Hst.out _ (hs2.trans h)
  obtain⟨Hall,Hcf,Hadd⟩:=hid3 hall hcf hadd
  clear hall hcf hadd ho2 hs2 hns2
  cases mc with
  | false =>
    go_wp2_with fail
    go_ret
    exact⟨by simp,Hall.out⟩
  | true =>
    go_wp2_with fail
    refine Hcf.out.mono ?_
    rintro e w3 ⟨rfl,hs3⟩
    have hall3:=Hadd.out _ hs3
    have Hall3:=Lib.hid hall3
    clear hall3 hs3
    go_wp2_with fail
    go_ret
    exact⟨by simp,Hall3.out⟩)
end Go.Proofs.YtemacanaihaldaaGreat