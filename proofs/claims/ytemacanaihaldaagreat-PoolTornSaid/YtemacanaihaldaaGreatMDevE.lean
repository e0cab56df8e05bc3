/-
 The program's device: Crash does what the plain model says.
-/
import Derived.Test.YtemacanaihaldaaGreatMPoolI
import Derived.Lib.MinMax
import Derived.Test.YtemacanaihaldaaGreatMRegL
set_option maxRecDepth 100000
set_option maxHeartbeats 4000000
set_option linter.all false
namespace Go.Proofs.YtemacanaihaldaaGreat
variable {b:Nat}{v0 v1:Value}{w w':World}{τ τ':Tags}
open Go.RowKit
structure Fate where
 file:Nat
 sector:Int
 keep:Int
 torn:Int
def fateV (x:Fate):Value:=.agg #[.int .u8 (x.file:Int),.int .i64 x.sector,.int .i64 x.keep,.int .i64 x.torn]
def Sec.keepN (s:Sec) (k:Int):Nat:=min k.toNat s.waits.length
def Sec.base (s:Sec) (k:Nat):List Int:=if k=0 then s.last else s.waits.getD (k-1) []
def mixB (t:Nat) (new old:List Int):List Int:=new.take t++old.drop t
def Sec.left (s:Sec) (x:Fate):List Int:=if s.keepN x.keep<s.waits.length then mixB (min x.torn.toNat 128) (s.waits.getD (s.keepN x.keep) []) (s.base (s.keepN x.keep)) else s.base (s.keepN x.keep)
def Sec.crash (s:Sec) (x:Fate):Sec:=⟨s.left x,[]⟩
def Fate.hits (f i:Nat) (x:Fate):Bool:=x.file==f && x.sector==(i:Int)
def noFate:Fate:=⟨0,0,0,0⟩
def fateOf (l:List Fate) (f i:Nat):Fate:=(l.find? (Fate.hits f i)).getD noFate
def Qbk (l:List Fate) (f i:Nat) (ss:List Sec):List Sec:=ss.mapIdx (fun j s=>if j<i then s.crash (fateOf l f j) else s)
def Dev.crashTo (D:Dev) (l:List Fate) (f i:Nat):Dev :=
 ⟨if f=0 then Qbk l 0 i D.f0 else Qbk l 0 D.f0.length D.f0,if f=0 then D.f1 else if f=1 then Qbk l 1 i D.f1 else Qbk l 1 D.f1.length D.f1,none,false⟩
def Dev.crash (D:Dev) (l:List Fate):Dev:=D.crashTo l 2 0
theorem Qlu (l:List Fate) (f i:Nat) (ss:List Sec):(Qbk l f i ss).length=ss.length:=by simp[Qbk]
theorem Qdi (l:List Fate) (f i:Nat) (ss:List Sec) (j:Nat):(Qbk l f i ss)[j]?=(ss[j]?).map (fun s=>if j<i then s.crash (fateOf l f j) else s):=by
 simp[Qbk,List.getElem?_mapIdx]
theorem Qol (l:List Fate) (f:Nat) (ss:List Sec):Qbk l f 0 ss=ss:=by
 apply List.ext_getElem?
 intro j
 rw[Qdi]
 cases ss[j]? with
 | none=>rfl
 | some s=>simp
theorem Qx6 (l:List Fate) (f i:Nat) (ss:List Sec) (s:Sec) (hs:ss[i]?=some s):Qbk l f (i+1) ss=(Qbk l f i ss).set i (s.crash (fateOf l f i)):=by
 have hi:=(List.getElem?_eq_some_iff.1 hs).1
 apply List.ext_getElem?
 intro j
 by_cases e:i=j
 ·subst e
  rw[Qdi,hs,List.getElem?_set_self (by rw[Qlu];exact hi)]
  simp
 ·rw[List.getElem?_set_ne e,Qdi,Qdi]
  cases ss[j]? with
  | none=>rfl
  | some t =>
    have:(j<i+1)=(j<i):=by apply propext;omega
    simp[this]
theorem Dev.crashTo_file (D:Dev) (l:List Fate) (f i:Nat) (hf:f<2):(D.crashTo l f i).file f=Qbk l f i (D.file f):=by
 rcases (show f=0∨f=1 by omega) with rfl|rfl <;> rfl
theorem Dev.crashTo_put (D:Dev) (l:List Fate) (f i:Nat) (hf:f<2):(D.crashTo l f i).put f (Qbk l f (i+1) (D.file f))=D.crashTo l f (i+1):=by
 rcases (show f=0∨f=1 by omega) with rfl|rfl <;> rfl
theorem Dev.crashTo_next (D:Dev) (l:List Fate) (f:Nat) (hf:f<2):D.crashTo l f (D.file f).length=D.crashTo l (f+1) 0:=by
 rcases (show f=0∨f=1 by omega) with rfl|rfl
 ·unfold Dev.crashTo
  rw[if_pos rfl,if_pos rfl,if_neg (by omega),if_neg (by omega),if_pos rfl,Qol];rfl
 ·unfold Dev.crashTo
  rw[if_neg (by omega),if_neg (by omega),if_pos rfl,if_neg (by omega),if_neg (by omega),if_neg (by omega)];rfl
theorem Dev.crashTo_zero (D:Dev) (l:List Fate):D.crashTo l 0 0={D with left:=none,halted:=false}:=by
 unfold Dev.crashTo
 rw[if_pos rfl,if_pos rfl,Qol]
structure FateIs (w:World) (b o:Nat) (x:Fate):Prop where
 fb:x.file<256
 c0:w.cell? ⟨b,o,none⟩=some (.int .u8 (x.file:Int))
 c1:w.cell? ⟨b,o+1,none⟩=some (.int .i64 x.sector)
 c2:w.cell? ⟨b,o+2,none⟩=some (.int .i64 x.keep)
 c3:w.cell? ⟨b,o+3,none⟩=some (.int .i64 x.torn)
def FatesAt (w:World) (τ:Tags) (a:Option Addr) (l:List Fate):Prop:=∀k x,l[k]?=some x→∃b o,a=some ⟨b,o,none⟩∧τ b=tBox∧FateIs w b (o+k*4) x
theorem cell_kept {S:Tag→Prop}(m:Step w τ w' τ' S) {b o:Nat}{v:Value}(h:w.cell? ⟨b,o,none⟩=some v) (hs:¬S (τ b)):w'.cell? ⟨b,o,none⟩=some v:=by
 have:=m.mod.block b (cell_lt h) hs
 unfold World.cell? at h ⊢
 rw[this];exact h
theorem FateIs.step {S:Tag→Prop}(m:Step w τ w' τ' S) {b o:Nat}{x:Fate}(h:FateIs w b o x) (hs:¬S (τ b)):FateIs w' b o x :=
 ⟨h.fb,cell_kept m h.c0 hs,cell_kept m h.c1 hs,cell_kept m h.c2 hs,cell_kept m h.c3 hs⟩
theorem FatesAt.step {S:Tag→Prop}(m:Step w τ w' τ' S) {a:Option Addr}{l:List Fate}(h:FatesAt w τ a l) (hs:¬S tBox):FatesAt w' τ' a l:=fun k x hx=>by
 obtain⟨b,o,e1,e2,e3⟩:=h k x hx
 exact⟨b,o,e1,(m.ext b (cell_lt e3.c0)).trans e2,e3.step m (by rw[e2];exact hs)⟩
theorem Jbl (x:Nat) (h:x<256):IntKind.i64.wrap (x:Int)=(x:Int):=by
 simp[IntKind.wrap,IntKind.bits,IntKind.signed];omega
theorem Je8(x:Fate) (hx:x.file<256) {b1 b2 f i:Nat}(h1:w.cell? ⟨b1,0,none⟩=some (.int .i64 (f:Int))) (h2:w.cell? ⟨b2,0,none⟩=some (.int .i64 (i:Int))) :
 Calls Tryz.prog 49 #[fateV x,.pointer (some ⟨b1,0,none⟩),.pointer (some ⟨b2,0,none⟩)] w fun e w'=>e = .returned (.bool (Fate.hits f i x))∧∀τ,Step w τ w' τ nil:=by
 have hl1:=cell_lt h1
 have hl2:=cell_lt h2
 have hn1:w.heap.size≠b1:=by omega
 have hn2:w.heap.size≠b2:=by omega
 have hst:∀τ,Step w τ (w.alloc (.cells #[.int .u8 (x.file:Int),.int .i64 x.sector,.int .i64 x.keep,.int .i64 x.torn] 109)) τ nil:=fun τ=>(Step.refl w τ nil).alloc' _
 have hw:IntKind.i64.wrap (x.file:Int)=(x.file:Int):=Jbl _ hx
 unfold fateV Fate.hits
 obtain⟨xf,xs,xk,xt⟩:=x
 simp only at hst hw hx
 have Hst:=Lib.hid hst
 clear hst
 by_cases e1:xf=f
 ·subst e1
  by_cases e2:xs=(i:Int)
  ·subst e2
   go_enter Tryz.func49,Tryz.ntmps49
   go_wp2_with fail
   go_ret
   exact⟨by simp,Hst.out⟩
  ·go_enter Tryz.func49,Tryz.ntmps49
   go_wp2_with fail
   go_ret
   exact⟨by simp[],Hst.out⟩
 ·have e1':¬(xf:Int)=(f:Int):=by omega
  go_enter Tryz.func49,Tryz.ntmps49
  go_wp2_with fail
  go_ret
  exact⟨by simp[e1],Hst.out⟩
def Jbw (w:World) (l:List Fate) (f i:Nat) (e:Ending) (w':World):Prop :=
 ((e = .returned (.int .i64 (-1))∧fateOf l f i=noFate)∨∃k:Nat,e = .returned (.int .i64 (k:Int))∧l[k]?=some (fateOf l f i))∧∀τ,Step w τ w' τ nil
theorem Jbu {l:List Fate} {p:Fate→Bool} {k:Nat} {x:Fate}(hk:l[k]?=some x) (hp:p x=true) (hno:∀(j:Nat) (y:Fate),j<k→l[j]?=some y→p y=false):l.find? p=some x:=by
 rw[List.find?_eq_some_iff_append]
 have hi:=(List.getElem?_eq_some_iff.1 hk).1
 have hx:=(List.getElem?_eq_some_iff.1 hk).2
 refine⟨hp,l.take k,l.drop (k+1),?_,fun a ha=>?_⟩
 ·rw[←hx,List.getElem_cons_drop,List.take_append_drop]
 ·obtain⟨j,hj,rfl⟩:=List.mem_iff_getElem.1 ha
  rw[List.length_take] at hj
  rw[List.getElem_take,hno j l[j] (by omega) (List.getElem?_eq_getElem (by omega))]
  rfl
theorem Jbt {l:List Fate} {p:Fate→Bool}(hno:∀(j:Nat) (y:Fate),l[j]?=some y→p y=false):l.find? p=none:=by
 rw[List.find?_eq_none]
 intro x hx
 obtain⟨j,hj,rfl⟩:=List.mem_iff_getElem.1 hx
 rw[hno j l[j] (List.getElem?_eq_getElem hj)];simp
theorem Jej {a:Option Addr} {l:List Fate} {len cap:Nat}(hl:l.length=len) (hlen:len≤maxLen) (h:∀k x,l[k]?=some x→∃b o,a=some ⟨b,o,none⟩∧FateIs w b (o+k*4) x) {b1 b2 f i:Nat}(h1:w.cell? ⟨b1,0,none⟩=some (.int .i64 (f:Int))) (h2:w.cell? ⟨b2,0,none⟩=some (.int .i64 (i:Int))) :
 Calls Tryz.prog 48 #[.slice a len cap,.func (.func 49) #[] #[.pointer (some ⟨b1,0,none⟩),.pointer (some ⟨b2,0,none⟩)]] w (Jbw w l f i):=by
 have hbig:len≤9223372036854775807:=by unfold maxLen at hlen;omega
 obtain⟨H_h,Hl,H1,H2⟩:=hid4 h hl h1 h2
 clear h hl h1 h2 hlen
 go_enter Tryz.func48,Tryz.ntmps48
 go_wp2_with fail
 go_loopw [8] (fun v wr=>∃k:Nat,k≤len∧v = .int .i64 (k:Int)∧(∀τ,Step w τ wr τ nil)∧∀(j:Nat) (y:Fate),j<k→l[j]?=some y→Fate.hits f i y=false) (fun v _=>len-(intOf v).toNat)
 case atStart=>exact⟨0,Nat.zero_le _,rfl,fun τ=>Step.refl _ _ _,fun j y hj=>by omega⟩
 case round =>
  obtain⟨k,hk,rfl,hst,hno⟩:=hrel
  by_cases hlt:k<len
  ·obtain⟨x,hx⟩:∃x,l[k]?=some x:=⟨_,List.getElem?_eq_getElem (by rw[Hl.out];exact hlt)⟩
   obtain⟨b,o,rfl,hi⟩:=H_h.out k x hx
   have hi':=hi.step (hst (fun _=>tBox)) (fun h=>h)
   have c0:=hi'.c0
   have c1:=hi'.c1
   have c2:=hi'.c2
   have c3:=hi'.c3
   have hkI:(k:Int)<(len:Int):=by omega
   have hc:=Je8 x hi.fb (cell_kept (hst (fun _=>tBox)) H1.out (fun h=>h)) (cell_kept (hst (fun _=>tBox)) H2.out (fun h=>h))
   unfold fateV at hc
   cases hh:Fate.hits f i x with
   | true =>
     rw[hh] at hc
     have hfd:fateOf l f i=x:=by unfold fateOf;rw[Jbu hx hh hno];rfl
     obtain⟨xf,xs,xk,xt⟩:=x
     simp only at c0 c1 c2 c3 hc
     obtain⟨Hc,Hst,Hx,Hfd⟩:=hid4 hc hst hx hfd
     clear hc hst hx hfd hi hi' hno hh
     go_wp2_with (go_at_call 49;refine Hc.out.mono ?_;rintro e w2 ⟨rfl,hs2⟩;have Hs2:=Lib.hid hs2;clear hs2)
     go_returns
     exact⟨.inr ⟨k,rfl,by rw[Hfd.out];exact Hx.out⟩,fun τ=>(Hst.out τ).trans (Hs2.out τ)⟩
   | false =>
     rw[hh] at hc
     have hno':∀(j:Nat) (y:Fate),j<k+1→l[j]?=some y→Fate.hits f i y=false:=fun j y hj hy=>by
      by_cases e:j=k
      ·subst e
       rw[hx] at hy
       cases hy
       exact hh
      ·exact hno j y (by omega) hy
     obtain⟨xf,xs,xk,xt⟩:=x
     simp only at c0 c1 c2 c3 hc
     obtain⟨Hc,Hst⟩:=hid2 hc hst
     have Hno':=Lib.hid hno'
     clear hc hst hno' hi hi' hno hh hx
     go_wp2_with (go_at_call 49;refine Hc.out.mono ?_;rintro e w2 ⟨rfl,hs2⟩;have Hs2:=Lib.hid hs2;clear hs2)
     go_round
     case rel=>exact⟨k+1,by omega,by simp,fun τ=>(Hst.out τ).trans (Hs2.out τ),Hno'.out⟩
     case measure=>simp[intOf];omega
  ·obtain rfl:k=len:=by omega
   have hfd:fateOf l f i=noFate:=by
    unfold fateOf
    rw[Jbt (fun j y hy=>hno j y (by have:=(List.getElem?_eq_some_iff.1 hy).1;have:=Hl.out;omega) hy)];rfl
   obtain⟨Hst,Hfd⟩:=hid2 hst hfd
   clear hst hfd hno
   go_wp2_with fail
   go_returns
   exact⟨.inl ⟨rfl,Hfd.out⟩,Hst.out⟩
theorem Qu3 {g:Tag} {a:Addr} {n c:Nat} {l:List Int}(h:Bytes w τ g (.slice (some a) n c) l) (g':Tag) (hbig:l.length≤100000000) :
 Calls Tryz.prog 118 #[.slice (some a) n c] w fun e w'=>∃u τ',e = .returned u∧NB w.heap.size w' τ' g' u l∧Step w τ w' τ' nil:=by
 have hnil:=fun (W:World) (a:Option Addr) (n c:Nat)=>Lib.run_eql_slice_nil (P:=Tryz.prog) W 37 5 a n c 0 0 Tryz.underlying37
 have hst:=(Step.refl w τ nil).alloc (.cells #[] 5) g'
 have hnb:NB w.heap.size (w.alloc (.cells #[] 5)) (τ.put w.heap.size g') g' (.slice (some ⟨w.heap.size,0,none⟩) 0 0) [] :=
  ⟨⟨rfl,.inr ⟨w.heap.size,0,[],rfl,Own.new w τ g' _ [],Nat.le_refl _,Nat.le_refl _,Nat.zero_le _⟩⟩,fun x hx=>by simp at hx,fun k hk=>by
    have:w.heap.size=k:=by simpa [Value.ownBlock] using hk
    omega⟩
 have hb1:=h.step ((Step.refl w τ nil).alloc (.cells #[] 5) g') (fun h=>h)
 have hsz:([]:List Int).length+l.length≤100000000000:=by simp;omega
 obtain⟨Hst,Hnb,Hb1,Hsz⟩:=hid4 hst hnb hb1 hsz
 clear hst hnb hb1 hsz h hbig
 go_enter Tryz.func118,Tryz.ntmps118
 go_wp2_with (at_builtin;refine Qal Hst.out Hnb.out Hb1.out Hsz.out rfl _ _ rfl rfl rfl ?_;intro v' w' τ' hb he hmo;obtain⟨Hb,He,Hmo⟩:=hid3 hb he hmo;clear hb he hmo)
 go_ret
 exact⟨_,τ',rfl,Hb.out,He.out⟩
theorem Qzr {t:Nat} {n o:List Int}(hn:n.length=128) (ho:o.length=128):(mixB t n o).length=128:=by
 unfold mixB
 rw[List.length_append,List.length_take,List.length_drop];omega
theorem Jbi {t:Nat} {n o:List Int}(hn:IsB n) (ho:IsB o):IsB (mixB t n o):=by
 intro x hx
 rcases List.mem_append.1 hx with h|h
 ·exact hn x (List.mem_of_mem_take h)
 ·exact ho x (List.mem_of_mem_drop h)
theorem Jaq {t:Nat} {n o:List Int}(ys:List Value) (ht:t≤128) (hn:n.length=128) (ho:o.length=128):over (u8s o++ys) 0 (u8s (n.take t))=u8s (mixB t n o)++ys:=by
 unfold over mixB u8s
 simp only[List.take_zero,List.nil_append,Nat.zero_add,List.map_append,List.map_take,List.map_drop,List.length_map,List.length_take]
 rw[show min t n.length=t by omega,List.drop_append_of_le_length (by rw[List.length_map];omega),List.append_assoc]
theorem Own.sector {cap:Nat} {g:Tag} {l:List Int} {ys:List Value}(h:Own w τ b g 5 (u8s l++ys)) (hl:l.length=128) (hb:IsB l) (hn:128≤cap) (hc:cap≤128+ys.length) (hcm:cap≤maxLen):Bytes w τ g (.slice (some ⟨b,0,none⟩) 128 cap) l:=by
 have:Buf w τ g 5 1 (.slice (some ⟨b,0,none⟩) 128 cap) 128 (u8s l):=⟨by rw[Qac,hl],.inr ⟨b,cap,ys,rfl,h,by rw[Qac,hl];omega,by omega,hcm⟩⟩
 exact this.bytes hb
theorem Jdz {f i bf:Nat} {xs:List Value} {s:Sec}(ho:Own w τ bf (tRow f) 113 xs) (hs:SecIn w τ f i xs s) (x:Fate) :
 Calls Tryz.prog 50 #[.pointer (some ⟨bf,i*2,none⟩),fateV x] w fun e w'=>∃p c τ',e = .returned (.agg #[.slice p 128 c,.slice none 0 0])∧Bytes w' τ' tData (.slice p 128 c) (s.left x)∧(s.left x).length=128∧Step w τ w' τ' nil:=by
 unfold fateV
 have hst1:=((Step.refl w τ nil).alloc (.cells #[.int .u8 (x.file:Int),.int .i64 x.sector,.int .i64 x.keep,.int .i64 x.torn] 109) tBox).alloc (.cells #[.slice none 0 0,.slice none 0 0] 113) tBox
 have hfa:=(Own.born w τ tBox 109 #[.int .u8 (x.file:Int),.int .i64 x.sector,.int .i64 x.keep,.int .i64 x.torn]).step_new (.cells #[.slice none 0 0,.slice none 0 0] 113) tBox
 have hou:=Own.born (w.alloc (.cells #[.int .u8 (x.file:Int),.int .i64 x.sector,.int .i64 x.keep,.int .i64 x.torn] 109)) (τ.put w.heap.size tBox) tBox 113 #[.slice none 0 0,.slice none 0 0]
 simp only[World.size_alloc] at hst1 hfa hou
 have ho1:=ho.step hst1 (fun h=>h)
 have hs1:=hs.mod hst1.mod hst1.ext (fun _ _ _ h=>h) (fun _ _ _ h=>h)
 generalize (τ.put w.heap.size tBox).put (w.heap.size+1) tBox=τ1 at *
 obtain⟨⟨hl0,v0,hv0,hb0⟩,⟨u0,hu0,hw0⟩⟩:=hs1
 obtain⟨pw,cw,hu,hwm,hrd⟩:=hw0.read
 obtain⟨n,hn⟩:∃n,s.waits.length=n:=⟨_,rfl⟩
 obtain⟨kk,hkk⟩:∃kk,s.keepN x.keep=kk:=⟨_,rfl⟩
 obtain⟨t,ht⟩:∃t,min x.torn.toNat 128=t:=⟨_,rfl⟩
 rw[hn] at hu hwm
 subst hu
 have hkn:kk≤n:=by unfold Sec.keepN at hkk;omega
 have hleft:s.left x=if kk<n then mixB t (s.waits.getD kk []) (s.base kk) else s.base kk:=by unfold Sec.left;rw[hkk,hn,ht]
 have hk1:min (max x.keep 0) (n:Int)=(kk:Int):=by unfold Sec.keepN at hkk;omega
 have ht1:min (max x.torn 0) 128=(t:Int):=by omega
 have ht128:t≤128:=by omega
 have htI:(t:Int)≤128:=by omega
 have htk:Int.toNat (t:Int)=t:=by omega
 have c0:=ho1.at _ hv0
 have c1:=ho1.at _ hu0
 have f2:=hfa.at 2 (v:=.int .i64 x.keep) rfl
 have f3:=hfa.at 3 (v:=.int .i64 x.torn) rfl
 obtain⟨ab,cb,k1,hbase,hbl,hk0⟩:∃(ab:Addr) (cb k1:Nat),Bytes ((w.alloc (.cells #[.int .u8 (x.file:Int),.int .i64 x.sector,.int .i64 x.keep,.int .i64 x.torn] 109)).alloc (.cells #[.slice none 0 0,.slice none 0 0] 113)) τ1 tData (.slice (some ab) 128 cb) (s.base kk)∧(s.base kk).length=128 ∧
  ((kk=0∧v0 = .slice (some ab) 128 cb)∨(kk=k1+1∧∃bq,pw=some ⟨bq,0,none⟩∧((w.alloc (.cells #[.int .u8 (x.file:Int),.int .i64 x.sector,.int .i64 x.keep,.int .i64 x.torn] 109)).alloc (.cells #[.slice none 0 0,.slice none 0 0] 113)).cell? ⟨bq,k1,none⟩=some (.slice (some ab) 128 cb))):=by
  have hgo:∀(v:Value) (l:List Int),l.length=128→Bytes ((w.alloc (.cells #[.int .u8 (x.file:Int),.int .i64 x.sector,.int .i64 x.keep,.int .i64 x.torn] 109)).alloc (.cells #[.slice none 0 0,.slice none 0 0] 113)) τ1 tData v l→∃ab cb,v = .slice (some ab) 128 cb:=fun v l hl hb=>by
   obtain⟨p,c,rfl,h1,h2,hc⟩:=hb.is
   obtain⟨b,o,rfl,-⟩:=hc (by omega)
   exact⟨_,c,by rw[hl]⟩
  by_cases h0:kk=0
  ·obtain⟨ab,cb,rfl⟩:=hgo _ _ hl0 hb0
   have he:s.base kk=s.last:=by unfold Sec.base;rw[if_pos h0]
   exact⟨ab,cb,0,by rw[he];exact hb0,by rw[he];exact hl0,.inl ⟨h0,rfl⟩⟩
  ·obtain⟨k1,rfl⟩:∃k1,kk=k1+1:=⟨kk-1,by omega⟩
   have hget:s.waits[k1]?=some (s.base (k1+1)):=by
    unfold Sec.base
    rw[if_neg h0,Nat.add_sub_cancel,List.getD_eq_getElem?_getD,List.getElem?_eq_getElem (by omega)];rfl
   obtain⟨e1,b,u,e2,e3,e4⟩:=hrd k1 _ hget
   obtain⟨ab,cb,rfl⟩:=hgo _ _ e1 e4
   exact⟨ab,cb,k1,e4,e1,.inr ⟨rfl,b,e2,e3⟩⟩
 have hmixin:kk<n→∃bq am cm,pw=some ⟨bq,0,none⟩∧((w.alloc (.cells #[.int .u8 (x.file:Int),.int .i64 x.sector,.int .i64 x.keep,.int .i64 x.torn] 109)).alloc (.cells #[.slice none 0 0,.slice none 0 0] 113)).cell? ⟨bq,kk,none⟩=some (.slice (some am) 128 cm)∧Bytes ((w.alloc (.cells #[.int .u8 (x.file:Int),.int .i64 x.sector,.int .i64 x.keep,.int .i64 x.torn] 109)).alloc (.cells #[.slice none 0 0,.slice none 0 0] 113)) τ1 tData (.slice (some am) 128 cm) (s.waits.getD kk [])∧(s.waits.getD kk []).length=128:=fun hlt=>by
  have hget:s.waits[kk]?=some (s.waits.getD kk []):=by
   rw[List.getD_eq_getElem?_getD,List.getElem?_eq_getElem (by omega)];rfl
  obtain⟨e1,b,u,e2,e3,e4⟩:=hrd kk _ hget
  obtain⟨p,c,rfl,h1,h2,hc⟩:=e4.is
  obtain⟨bb,oo,rfl,-⟩:=hc (by omega)
  rw[e1] at e3 e4
  exact⟨b,_,c,e2,e3,e4,e1⟩
 have hlow:w.heap.size≤w.heap.size+1:=by omega
 obtain⟨bl,hbl'⟩:∃l,s.base kk=l:=⟨_,rfl⟩
 obtain⟨ml,hml⟩:∃l,s.waits.getD kk []=l:=⟨_,rfl⟩
 rw[hbl'] at hbase hbl hleft
 rw[hml] at hmixin hleft
 obtain⟨R,hR⟩:∃R,s.left x=R:=⟨_,rfl⟩
 rw[hR] at hleft ⊢
 have HR:=Lib.hid hleft
 clear hR hrd hw0 hb0 hl0 hs ho hleft hkk hml hbl'
 obtain⟨W1,hW1⟩:∃W1,(w.alloc (.cells #[.int .u8 (x.file:Int),.int .i64 x.sector,.int .i64 x.keep,.int .i64 x.torn] 109)).alloc (.cells #[.slice none 0 0,.slice none 0 0] 113)=W1:=⟨_,rfl⟩
 rw[hW1] at hst1 hfa hou ho1 c0 c1 f2 f3 hbase hk0 hmixin
 have o0:=hou.at 0 (v:=.slice none 0 0) rfl
 have o1:=hou.at 1 (v:=.slice none 0 0) rfl
 have z0:=hou.fz 0
 have z1:=hou.fz 1
 obtain⟨Hst1,Hfa,Hou,Ho1,Hbase,Hmixin,HW1⟩:=hid7 hst1 hfa hou ho1 hbase hmixin hW1
 clear hst1 hfa hou ho1 hbase hmixin hW1
 have hkI:(kk:Int)≤(n:Int):=by omega
 go_enter Tryz.func50,Tryz.ntmps50
 go_wp2_with fail
 rw[HW1.out]
 go_quiet (fail)
 have hq:=(Step.refl W1 τ1 nil).drews nq
 have hfa2:=Hfa.out.step hq (fun h=>h)
 have hou2:=Hou.out.step hq (fun h=>h)
 have ho2:=Ho1.out.step hq (fun h=>h)
 have hbase2:=Hbase.out.step hq (fun h=>h)
 have hst2:=Hst1.out.trans hq
 have hmix2:=fun hlt=>Hmixin.out hlt
 have hc:∀a,W1.cell? a=(W1.drewN nq).cell? a:=fun _=>rfl
 have hz:∀a,W1.frozen? a=(W1.drewN nq).frozen? a:=fun _=>rfl
 rw[hc] at c0 c1 f2 f3 o0 o1
 rw[hz] at z0 z1
 simp only[hc] at hk0 hmix2
 have hmixb:∀v l,Bytes W1 τ1 tData v l→Bytes (W1.drewN nq) τ1 tData v l:=fun v l hb=>hb.step hq (fun h=>h)
 replace hmix2:=fun hlt=>(hmix2 hlt).imp fun _ h=>h.imp fun _ h=>h.imp fun _ h=>And.intro h.1 (And.intro h.2.1 (And.intro (hmixb _ _ h.2.2.1) h.2.2.2))
 clear hc hz hmixb Hst1 Hfa Hou Ho1 Hbase Hmixin hq HW1
 generalize W1.drewN nq=W2 at *
 have hcl:=Qu3 hbase2 tFill (by omega)
 obtain⟨Hfa2,Hou2,Ho2,Hst2,Hmix2,Hcl⟩:=hid6 hfa2 hou2 ho2 hst2 hmix2 hcl
 clear hfa2 hou2 ho2 hst2 hmix2 hcl hbase2
 rcases hk0 with ⟨hk0,rfl⟩|⟨hk0,bq,rfl,hcq⟩
 all_goals first
  | (have hkz:¬(0:Int)<(kk:Int):=by omega)
  | (have hkz:(0:Int)<(kk:Int):=by omega
     have hkq:(kk:Int)-1=(k1:Int):=by omega
     have hkw:IntKind.i64.wrap (k1:Int)=(k1:Int):=by
      have h1:n≤9223372036854775807:=by unfold maxLen at hwm;omega
      simp[IntKind.wrap,IntKind.bits,IntKind.signed];omega
     have hkl:(k1:Int)<(n:Int):=by omega)
 all_goals (have Hk0:=Lib.hid hk0;clear hk0)
 all_goals (
  go_wp2_with fail
  refine Hcl.out.mono ?_
  rintro e w3 ⟨u3,τ3,rfl,hnb3,hs3⟩
  obtain⟨hx3,⟨rfl,hlb⟩|⟨b3,cap3,ys,rfl,ho3,h33,h43,h53⟩⟩:=hnb3.buf
  ·omega
  have hib:=hnb3.isB
  have hlow3:=hnb3.low b3 rfl
  have hou3:=Hou2.out.step hs3 (fun h=>h)
  have hro3:=Ho2.out.step hs3 (fun h=>h)
  have hfa3:=Hfa2.out.step hs3 (fun h=>h)
  have hst3:=Hst2.out.trans hs3
  have d1:=hro3.at _ hu0
  have e3:=hfa3.at 3 (v:=.int .i64 x.torn) rfl
  have y0:=hou3.at 0 (v:=.slice none 0 0) rfl
  have y1:=hou3.at 1 (v:=.slice none 0 0) rfl
  have zz0:=hou3.fz 0
  have zz1:=hou3.fz 1
  rw[hbl]
  rw[Qac,hbl,Nat.mul_one] at h33
  obtain⟨Hnb3,Hst3,Hou3,Hro3,Hfa3,Ho3,Hib⟩:=hid7 hnb3 hst3 hou3 hro3 hfa3 ho3 hib
  clear hnb3 hst3 hou3 hro3 hfa3 ho3 hib
  clear Hcl)
 all_goals have hW2:=Hou2.out.lt
 all_goals (
  by_cases hkn:kk<n
  ·have hnk:¬n≤kk:=by omega
   obtain⟨bm,am,cm,hpw,hcm,hmb,hml⟩:=Hmix2.out hkn
   rw[hpw] at d1
   clear hpw
   have hcm3:=cell_kept hs3 hcm (fun h=>h)
   have hmb3:=(hmb.step hs3 (fun h=>h)).step (Step.refl w3 τ3 nil).drew (fun h=>h)
   have hkI2:(kk:Int)<(n:Int):=by omega
   have hod:=Ho3.out.step (Step.refl w3 τ3 nil).drew (fun h=>h)
   have hsd:=Hst3.out.drew
   have hlw:w.heap.size≤b3:=by omega
   have hfit:0+t≤(u8s bl++ys).length:=by rw[List.length_append,Qac,hbl];omega
   have htm:t=Nat.min ml.length t:=by rw[hml];show t=min 128 t;omega
   have htc:t≤cap3:=by omega
   have htcI:(t:Int)≤(cap3:Int):=by omega
   obtain⟨Hod,Hsd,Hmb3,Hfit,Htm,Hml,Hmb⟩:=hid7 hod hsd hmb3 hfit htm hml hmb
   clear hod hsd hmb3 hfit htm hml hmb hs3
   go_wp2_with fail
   refine Qaf (S:=fun w':World=>w'.cell? ⟨w.heap.size,3,none⟩=some (.int .i64 x.torn)∧w'.cell? ⟨bf,i*2+1,none⟩=some (.slice (some ⟨bm,0,none⟩) n cw)∧w'.cell? ⟨bm,kk,none⟩=some (.slice (some am) 128 cm)) (by kernel_rfl) ?_
   have hSS:w3.drew.cell? ⟨w.heap.size,3,none⟩=some (.int .i64 x.torn)∧w3.drew.cell? ⟨bf,i*2+1,none⟩=some (.slice (some ⟨bm,0,none⟩) n cw)∧w3.drew.cell? ⟨bm,kk,none⟩=some (.slice (some am) 128 cm):=⟨e3,d1,hcm3⟩
   refine tk0 [0,1,2,3,4,5,6,7,8,9,10,11,12,13] ?_
   iterate 14
    refine tks (v:=?_) rfl (Or.inl ⟨by rfl,?_⟩) (by assumption) ?_
    rotate_left
    ·intro w hSw;(try dsimp only at hSw);go_simp
     all_goals with_reducible rfl
    try simp only[Act.put,lz1,lz2,lz3]
   refine tk9 ?_
   refine tk1 14 rfl fun K hK=>?_
   go_simp
   refine hK.out _ _ (fun _=>hSS) ?_
   clear hK K hSS
   refine tk1 15 rfl fun K hK=>?_
   refine Qbb Hsd.out Hod.out (.inr hlw) Hmb3.out t Htm.out Hfit.out rfl _ _ rfl rfl rfl ?_
   intro w4 ho4 hs4 hW4
   rw[Jaq ys ht128 Hml.out hbl] at ho4
   have hou4:=(Hou3.out.step (Step.refl w3 τ3 nil).drew (fun h=>h)).step hW4 (by decide)
   have y30:=hou4.at 0 (v:=.slice none 0 0) rfl
   have y31:=hou4.at 1 (v:=.slice none 0 0) rfl
   have y40:=(hou4.set 0 (.slice (some ⟨b3,0,none⟩) 128 cap3)).at 0 (v:=.slice (some ⟨b3,0,none⟩) 128 cap3) rfl
   have y41:=((hou4.set 0 (.slice (some ⟨b3,0,none⟩) 128 cap3)).set 1 (.slice none 0 0)).at 1 (v:=.slice none 0 0) rfl
   have z40:=hou4.fz 0
   have z41:=hou4.fz 1
   obtain⟨Ho4,Hs4,Hou4⟩:=hid3 ho4 hs4 hou4
   clear ho4 hs4 hou4 hW4
   refine hK.out _ _ (fun h=>absurd h (by decide +kernel)) ?_
   clear hK K
   refine Qad (by kernel_rfl) ?_ _
   go_wp2_with fail
   try simp only[Exit.inBlock,Exit.then]
   refine bodyPost_ret (by simp[results,Tryz.results50,go_sem,y40,y41];try rfl) rfl ?_
   have hRe:=HR.out
   rw[if_pos hkn] at hRe
   rw[hRe]
   have hlen:=Qzr (t:=t) Hml.out hbl
   refine⟨_,cap3,τ3.put b3 tData,rfl,?_,hlen,?_⟩
   ·exact(((Ho4.out.retag tData).set_ne (p:=⟨w.heap.size+1,0,none⟩) (by show b3≠w.heap.size+1;omega) _).set_ne (p:=⟨w.heap.size+1,1,none⟩) (by show b3≠w.heap.size+1;omega) _).sector hlen (Jbi Hmb.out.isB Hib.out) (by omega) h33 h53
   ·exact((Hs4.out.retag (b:=b3) (by omega) tData).setNew (b:=w.heap.size+1) (o:=0) (by omega) _).setNew (b:=w.heap.size+1) (o:=1) (by omega) _
  ·have hkI2:¬(kk:Int)<(n:Int):=by omega
   have y40:=(Hou3.out.set 0 (.slice (some ⟨b3,0,none⟩) 128 cap3)).at 0 (v:=.slice (some ⟨b3,0,none⟩) 128 cap3) rfl
   have y41:=((Hou3.out.set 0 (.slice (some ⟨b3,0,none⟩) 128 cap3)).set 1 (.slice none 0 0)).at 1 (v:=.slice none 0 0) rfl
   clear hs3
   go_wp2_with fail
   try simp only[Exit.inBlock,Exit.then]
   refine bodyPost_ret (by simp[results,Tryz.results50,go_sem,y40,y41];try rfl) rfl ?_
   have hRe:=HR.out
   rw[if_neg hkn] at hRe
   rw[hRe]
   refine⟨_,cap3,τ3.put b3 tData,rfl,?_,hbl,?_⟩
   ·exact(((Ho3.out.retag tData).set_ne (p:=⟨w.heap.size+1,0,none⟩) (by show b3≠w.heap.size+1;omega) _).set_ne (p:=⟨w.heap.size+1,1,none⟩) (by show b3≠w.heap.size+1;omega) _).sector hbl Hib.out (by omega) h33 h53
   ·exact((Hst3.out.retag (b:=b3) (by omega) tData).setNew (b:=w.heap.size+1) (o:=0) (by omega) _).setNew (b:=w.heap.size+1) (o:=1) (by omega) _)
def CrashTag (g:Tag):Prop:=g=tDev∨∃f,g=tRow f
theorem CrashTag.fst {g:Tag}(h:CrashTag g):g.1=2∨g.1=3:=by
 rcases h with rfl|⟨f,rfl⟩
 ·exact .inl rfl
 ·exact .inr rfl
theorem DevAs.turnSec {D:Dev}(h:DevAs w τ b D v0 v1) (f:Nat) (hf:f<2) {bf n cap k:Nat}(hv:fileV v0 v1 f = .slice (some ⟨bf,0,none⟩) n cap) {l:List Int}{s:Sec}(hk:(D.file f)[k]?=some s) {v:Value}(hb:Bytes w τ tData v l) (hl:l.length=128) :
 DevAs ((w.setCell ⟨bf,k*2,none⟩ v).setCell ⟨bf,k*2+1,none⟩ (.slice none 0 0)) τ b (D.put f ((D.file f).set k ⟨l,[]⟩)) v0 v1∧Step w τ ((w.setCell ⟨bf,k*2,none⟩ v).setCell ⟨bf,k*2+1,none⟩ (.slice none 0 0)) τ CrashTag:=by
 obtain⟨p,cap',hv',h1,h2,hp⟩:=h.file f
 have hkl:=(List.getElem?_eq_some_iff.1 hk).1
 obtain⟨bf',xs,rfl,ho,hs⟩:=hp (by omega)
 rw[hv] at hv'
 cases hv'
 have m0:Mod w (w.setCell ⟨bf,k*2,none⟩ v) (fun j=>j=bf):=Mod.one w bf (k*2) v
 have m:Mod w ((w.setCell ⟨bf,k*2,none⟩ v).setCell ⟨bf,k*2+1,none⟩ (.slice none 0 0)) (fun j=>j=bf):=m0.setCell (p:=⟨bf,k*2+1,none⟩) (fun _=>rfl) (.slice none 0 0)
 have hd:∀i,i<w.heap.size→τ i=tData→¬i=bf:=fun i _ ht e=>by rw[e,ho.tag] at ht;simp[tRow,tData] at ht
 obtain⟨⟨a0,u0,hu0,_⟩,⟨u1,hu1,_⟩⟩:=hs k s hk
 have l0:=(List.getElem?_eq_some_iff.1 hu0).1
 have l1:=(List.getElem?_eq_some_iff.1 hu1).1
 refine⟨h.put f hf m (Ext.refl _ _) (fun j _ e=>by rw[e];exact .inl ho.tag) _ ?_,m.mono (fun j _ e=>by rw[e,ho.tag];exact .inr ⟨f,rfl⟩),Ext.refl _ _⟩
 rw[hv]
 refine⟨some ⟨bf,0,none⟩,cap,by rw[List.length_set],by rw[List.length_set];exact h1,by rw[List.length_set];exact h2,fun _=>⟨bf,_,rfl,(ho.set (k*2) v).set (k*2+1) (.slice none 0 0),fun j t hj=>?_⟩⟩
 by_cases hjk:j=k
 ·subst hjk
  rw[List.getElem?_set_self hkl] at hj
  cases hj
  refine⟨⟨hl,v,?_,hb.mod m (Ext.refl _ _) hd⟩,⟨.slice none 0 0,?_,.inl ⟨rfl,rfl⟩⟩⟩
  ·rw[List.getElem?_set_ne (by omega),List.getElem?_set_self l0]
  ·rw[List.getElem?_set_self (by simpa using l1)]
 ·rw[List.getElem?_set_ne (fun e=>hjk e.symm)] at hj
  have hi:=(hs j t hj).mod m (Ext.refl _ _) (fun i _ ht e=>by rw[e,ho.tag] at ht;simp[tRow,tWait] at ht) hd
  obtain⟨⟨a,v',hv',hbv⟩,⟨q,hq,hwq⟩⟩:=hi
  refine⟨⟨a,v',?_,hbv⟩,⟨q,?_,hwq⟩⟩
  ·rw[List.getElem?_set_ne (by omega),List.getElem?_set_ne (by omega)];exact hv'
  ·rw[List.getElem?_set_ne (by omega),List.getElem?_set_ne (by omega)];exact hq
theorem DevAs.step {S:Tag→Prop} {D:Dev}(h:DevAs w τ b D v0 v1) (m:Step w τ w' τ' S) (hs:∀g,S g→¬DevTag g∧g≠tData):DevAs w' τ' b D v0 v1:=by
 obtain⟨pl,ho,h0,h1,hl⟩:=h.is
 have hd:∀k,k<w.heap.size→τ k=tData→¬S (τ k):=fun k _ ht hS=>(hs _ hS).2 ht
 have hx:∀g,DevTag g→∀k,k<w.heap.size→τ k=g→¬S (τ k):=fun g hg k _ ht hS=>(hs _ hS).1 (ht▸hg)
 refine⟨pl,ho.step m (fun hS=>(hs _ hS).1 (.inl rfl)),h0.mod m.mod m.ext (hx _ (.inr (.inl rfl))) (fun i=>hx _ (.inr (.inr (.inr rfl)))) hd,h1.mod m.mod m.ext (hx _ (.inr (.inl rfl))) (fun i=>hx _ (.inr (.inr (.inr rfl)))) hd,?_⟩
 rcases hl with hl|⟨bl,n,hp,hn,hm,hol⟩
 ·exact .inl hl
 ·exact .inr ⟨bl,n,hp,hn,hm,hol.step m (fun hS=>(hs _ hS).1 (.inr (.inr (.inl rfl))))⟩
def tOne:Tag:=(76,0)
theorem Jbr:∀g:Tag,g=tOne→¬DevTag g∧g≠tData:=fun g hg=>by
 subst hg
 refine⟨fun h=>?_,by decide⟩
 rcases h with h|h|h|h <;> cases h
theorem DevAs.cell {D:Dev}(h:DevAs w τ b D v0 v1) (f:Nat) (hf:f<2):∃t xs,Own w τ b tDev t xs∧xs[f]?=some (fileV v0 v1 f):=by
 obtain⟨pl,ho,-⟩:=h.is
 refine⟨_,_,ho,?_⟩
 rcases (by omega:f=0∨f=1) with rfl|rfl <;> rfl
theorem DevAs.free {D:Dev}(h:DevAs w τ b D v0 v1) (l:List Fate) :
 DevAs ((w.setCell ⟨b,2,none⟩ (.pointer none)).setCell ⟨b,3,none⟩ (.bool false)) τ b (D.crashTo l 0 0) v0 v1∧Step w τ ((w.setCell ⟨b,2,none⟩ (.pointer none)).setCell ⟨b,3,none⟩ (.bool false)) τ CrashTag:=by
 obtain⟨pl,ho,h0,h1,hl⟩:=h.is
 rw[Dev.crashTo_zero]
 have m0:Mod w (w.setCell ⟨b,2,none⟩ (.pointer none)) (fun j=>j=b):=Mod.one w b 2 _
 have m:Mod w ((w.setCell ⟨b,2,none⟩ (.pointer none)).setCell ⟨b,3,none⟩ (.bool false)) (fun j=>j=b):=m0.setCell (p:=⟨b,3,none⟩) (fun _=>rfl) _
 have hg:∀g,g≠tDev→∀i,i<w.heap.size→τ i=g→¬i=b:=fun g hg i _ ht e=>hg (by rw[←ht,e,ho.tag])
 refine⟨⟨.pointer none,(ho.set 2 (.pointer none)).set 3 (.bool false),h0.mod m (Ext.refl _ _) (hg _ (by simp[tRow,tDev])) (fun i=>hg _ (by simp[tWait,tDev])) (hg _ (by simp[tData,tDev])),h1.mod m (Ext.refl _ _) (hg _ (by simp[tRow,tDev])) (fun i=>hg _ (by simp[tWait,tDev])) (hg _ (by simp[tData,tDev])),.inl ⟨rfl,rfl⟩⟩,m.mono (fun j _ e=>by rw[e,ho.tag];exact .inl rfl),Ext.refl _ _⟩
theorem Jec {D:Dev}(h:DevAt w τ b D) {a:Option Addr}{l:List Fate}{len cap:Nat}(hl:l.length=len) (hlen:len≤maxLen) (hfa:FatesAt w τ a l) :
 Calls Tryz.prog 12 #[.pointer (some ⟨b,0,none⟩),.slice a len cap] w fun e w'=>e = .returned (.tuple #[])∧∃τ',DevAt w' τ' b (D.crash l)∧Step w τ w' τ' CrashTag:=by
 obtain⟨v0,v1,ha⟩:=h.as
 obtain⟨pl,ho,-⟩:=id ha.is
 have c2:=ho.at 2 (v:=pl) rfl
 have c3:=ho.at 3 (v:=.bool D.halted) rfl
 have z2:=ho.fz 2
 have z3:=ho.fz 3
 obtain⟨hs1,hst1⟩:=ha.free l
 obtain⟨Ha,Hs1,Hst1,Hfa,Ho,Hl,Hlen⟩:=hid7 ha hs1 hst1 hfa ho hl hlen
 clear ha hs1 hst1 hfa ho hl hlen h
 go_enter Tryz.func12,Tryz.ntmps12
 go_wp2_with fail
 generalize (w.setCell ⟨b,2,none⟩ (.pointer none)).setCell ⟨b,3,none⟩ (.bool false)=w1 at *
 go_loopw [14] (fun v wr=>∃(f:Nat) (τr:Tags),f≤2∧v = .int .i64 (f:Int)∧DevAs wr τr b (D.crashTo l f 0) v0 v1∧Step w τ wr τr CrashTag) (fun v _=>2-(intOf v).toNat)
 case atStart=>exact⟨0,τ,by omega,rfl,Hs1.out,Hst1.out⟩
 case round =>
  clear Hs1 Hst1 c2 c3 z2 z3
  obtain⟨f,τr,hf,rfl,hd,hst⟩:=hrel
  by_cases hlt:f<2
  ·have hfI:(f:Int)<2:=by omega
   have hq1:=(Step.refl wr τr nil).alloc (.cells #[.int .i64 (f:Int)] 3) tBox
   have hbf:=Own.born wr τr tBox 3 #[.int .i64 (f:Int)]
   have hd1:=hd.step hq1 (fun _ h=>h.elim)
   have hst1:=hst.trans (hq1.mono (T:=CrashTag) (fun _ h=>h.elim))
   obtain⟨bx,hbx⟩:∃bx,wr.heap.size=bx:=⟨_,rfl⟩
   rw[hbx] at hbf hd1 hst1
   generalize τr.put bx tBox=τ1 at *
   obtain⟨pf,n,hv,h1,h2,hp⟩:=hd1.file f
   rw[Dev.crashTo_file D l f 0 hlt,Qlu] at hv h1 h2 hp
   obtain⟨tt,xx,hob,hxx⟩:=hd1.cell f hlt
   rw[hv] at hxx
   have cf:=hob.at f hxx
   have cb:=hbf.at 0 (v:=.int .i64 (f:Int)) rfl
   obtain⟨nf,hnf⟩:∃nf,(D.file f).length=nf:=⟨_,rfl⟩
   rw[hnf] at hv hxx cf h1 h2
   obtain⟨Hbf,Hd1,Hst1,Hv,Hp,Hob,Hxx,Hnf,Hbx⟩:=hid9 hbf hd1 hst1 hv hp hob hxx hnf hbx
   clear hbf hd1 hst1 hv hp hob hxx hnf hbx hq1 hd hst
   go_wp2_with fail
   rw[Hbx.out]
   generalize wr.alloc (.cells #[.int .i64 (f:Int)] 3)=w2 at *
   go_quiet (fail)
   have hq2:=(Step.refl w2 τ1 nil).drews nq
   have hbf2:=Hbf.out.step hq2 (fun h=>h)
   have hd2:=Hd1.out.step hq2 (fun _ h=>h.elim)
   have hst2:=Hst1.out.trans (hq2.mono (T:=CrashTag) (fun _ h=>h.elim))
   generalize w2.drewN nq=w3 at *
   obtain⟨Hbf2,Hd2,Hst2⟩:=hid3 hbf2 hd2 hst2
   clear hbf2 hd2 hst2 hq2 Hbf Hd1 Hst1 cf cb Hob Hxx
   go_wp2_with fail
   go_loopw [24] (fun v wq=>∃(i:Nat) (τq:Tags),i≤nf∧v = .int .i64 (i:Int)∧DevAs wq τq b (D.crashTo l f i) v0 v1∧Own wq τq bx tBox 3 [.int .i64 (f:Int)]∧Step w τ wq τq CrashTag) (fun v _=>nf-(intOf v).toNat)
   case atStart=>exact⟨0,τ1,Nat.zero_le _,rfl,Hd2.out,Hbf2.out,Hst2.out⟩
   case round =>
    clear Hd2 Hbf2 Hst2
    obtain⟨i,τq,hi,rfl,hd3,hbf3,hst3⟩:=hrel
    by_cases hil:i<nf
    ·have hq1:=((Step.refl wr τq nil).alloc (.cells #[.int .i64 (i:Int)] 3) tBox).alloc (.cells #[.int .u8 0,.int .i64 0,.int .i64 0,.int .i64 0] 109) tOne
     have hbi:=(Own.born wr τq tBox 3 #[.int .i64 (i:Int)]).step_new (.cells #[.int .u8 0,.int .i64 0,.int .i64 0,.int .i64 0] 109) tOne
     have hbz:=Own.born (wr.alloc (.cells #[.int .i64 (i:Int)] 3)) (τq.put wr.heap.size tBox) tOne 109 #[.int .u8 0,.int .i64 0,.int .i64 0,.int .i64 0]
     simp only[World.size_alloc] at hq1 hbi hbz
     have hd4:=hd3.step hq1 (fun _ h=>h.elim)
     have hbf4:=hbf3.step hq1 (fun h=>h)
     have hst4:=hst3.trans (hq1.mono (T:=CrashTag) (fun _ h=>h.elim))
     obtain⟨bi,hbi'⟩:∃bi,wr.heap.size=bi:=⟨_,rfl⟩
     obtain⟨bz,hbz'⟩:∃bz,wr.heap.size+1=bz:=⟨_,rfl⟩
     rw[hbz'] at hd4 hbf4 hst4 hbz hbi
     rw[hbi'] at hd4 hbf4 hst4 hbz hbi
     generalize (τq.put bi tBox).put bz tOne=τ4 at *
     obtain⟨w4,hw4⟩:∃w4,(wr.alloc (.cells #[.int .i64 (i:Int)] 3)).alloc (.cells #[.int .u8 0,.int .i64 0,.int .i64 0,.int .i64 0] 109)=w4:=⟨_,rfl⟩
     rw[hw4] at hd4 hbf4 hst4 hbz hbi
     have hfa4:=Hfa.out.step hst4 (fun h=>by have:=h.fst;rcases this with h|h <;> cases h)
     have hfi:=Jej (cap:=cap) Hl.out Hlen.out (fun k x hx=>by obtain⟨b,o,e1,-,e3⟩:=hfa4 k x hx;exact⟨b,o,e1,e3⟩) (hbf4.at 0 (v:=.int .i64 (f:Int)) rfl) (hbi.at 0 (v:=.int .i64 (i:Int)) rfl)
     obtain⟨x,hx⟩:∃x,fateOf l f i=x:=⟨_,rfl⟩
     obtain⟨Hd4,Hbf4,Hst4,Hbz,Hbi,Hw4,Hfa4,Hfi,Hx⟩:=hid9 hd4 hbf4 hst4 hbz hbi hw4 hfa4 hfi hx
     have Hbi':=Lib.hid hbi'
     have Hbz':=Lib.hid hbz'
     clear hd4 hbf4 hst4 hbz hbi hw4 hfa4 hfi hx hbi' hbz'
     have hlow:w.heap.size≤bz:=by have:=hst3.size;have:=Hbz'.out;omega
     clear hq1 hd3 hbf3 hst3
     go_wp2_with fail
     rw[Hbz'.out,Hbi'.out,Hw4.out]
     refine Hfi.out.mono ?_
     rintro e w5 ⟨hcase,hs5⟩
     have hsn5:=hs5 τ4
     have hd5:=Hd4.out.step hsn5 (fun _ h=>h.elim)
     have hbf5:=Hbf4.out.step hsn5 (fun h=>h)
     have hbi5:=Hbi.out.step hsn5 (fun h=>h)
     have hbz5:=Hbz.out.step hsn5 (fun h=>h)
     have hst5:=Hst4.out.trans (hsn5.mono (T:=CrashTag) (fun _ h=>h.elim))
     have hfa5:=Hfa4.out.step hsn5 (fun h=>h)
     rw[Hx.out] at hcase
     refine Or.elim hcase ?c1 ?c2
     case' c1 =>
      rintro⟨rfl,hno⟩
      have hzz:Own w5 τ4 bz tOne 109 [.int .u8 (x.file:Int),.int .i64 x.sector,.int .i64 x.keep,.int .i64 x.torn]:=by rw[hno];exact hbz5
      obtain⟨w6,hw6⟩:∃w6,w5=w6:=⟨_,rfl⟩
      rw[hw6] at hd5 hbf5 hbi5 hst5 hzz
      obtain⟨Hd6,Hbf6,Hbi6,Hst6,Hzz,Hw6⟩:=hid6 hd5 hbf5 hbi5 hst5 hzz hw6
      clear hd5 hbf5 hbi5 hst5 hzz hbz5 hfa5 hno hs5 hsn5 hw6 hcase
      go_wp2_with fail
      rw[Hw6.out]
     case' c2 =>
      rintro⟨k,rfl,hk⟩
      obtain⟨bl,ol,rfl,-,hF⟩:=hfa5 k x hk
      have g0:=hF.c0
      have g1:=hF.c1
      have g2:=hF.c2
      have g3:=hF.c3
      have q0:=hbz5.at 0 (v:=.int .u8 0) rfl
      have q1:=hbz5.at 1 (v:=.int .i64 0) rfl
      have q2:=hbz5.at 2 (v:=.int .i64 0) rfl
      have q3:=hbz5.at 3 (v:=.int .i64 0) rfl
      have y0:=hbz5.fz 0
      have y1:=hbz5.fz 1
      have y2:=hbz5.fz 2
      have y3:=hbz5.fz 3
      have hkl:(k:Int)<(len:Int):=by
       have:=(List.getElem?_eq_some_iff.1 hk).1
       have:=Hl.out
       omega
      have hzz:=(((hbz5.set 0 (.int .u8 (x.file:Int))).set 1 (.int .i64 x.sector)).set 2 (.int .i64 x.keep)).set 3 (.int .i64 x.torn)
      have hq6:=((((Step.refl w5 τ4 (fun t=>t=tOne)).set (b:=bz) (o:=0) hbz5.tag rfl (.int .u8 (x.file:Int))).set (b:=bz) (o:=1) hbz5.tag rfl (.int .i64 x.sector)).set (b:=bz) (o:=2) hbz5.tag rfl (.int .i64 x.keep)).set (b:=bz) (o:=3) hbz5.tag rfl (.int .i64 x.torn)
      have hst6:=(((hst5.setNew (b:=bz) (o:=0) hlow (.int .u8 (x.file:Int))).setNew (b:=bz) (o:=1) hlow (.int .i64 x.sector)).setNew (b:=bz) (o:=2) hlow (.int .i64 x.keep)).setNew (b:=bz) (o:=3) hlow (.int .i64 x.torn)
      have hd6:=hd5.step hq6 Jbr
      have hbf6:=hbf5.step hq6 (by decide)
      have hbi6:=hbi5.step hq6 (by decide)
      obtain⟨w6,hw6⟩:∃w6,(((w5.setCell ⟨bz,0,none⟩ (.int .u8 (x.file:Int))).setCell ⟨bz,1,none⟩ (.int .i64 x.sector)).setCell ⟨bz,2,none⟩ (.int .i64 x.keep)).setCell ⟨bz,3,none⟩ (.int .i64 x.torn)=w6:=⟨_,rfl⟩
      rw[hw6] at hd6 hbf6 hbi6 hst6 hzz
      obtain⟨Hd6,Hbf6,Hbi6,Hst6,Hzz,Hw6⟩:=hid6 hd6 hbf6 hbi6 hst6 hzz hw6
      clear hd6 hbf6 hbi6 hst6 hzz hw6 hd5 hbf5 hbi5 hbz5 hst5 hfa5 hk hF hs5 hsn5 hq6 hcase
      go_wp2_with fail
      rw[Hw6.out]
     all_goals (
      obtain⟨pf6,n6,hv6,h16,h26,hp6⟩:=Hd6.out.file f
      rw[Dev.crashTo_file D l f i hlt,Qlu,Hnf.out] at hv6
      rw[Dev.crashTo_file D l f i hlt,Qlu] at hp6
      obtain⟨bf,xs,rfl,hro6,hsec6⟩:=hp6 (by have:=Hnf.out;omega)
      obtain⟨sc,hsc⟩:∃sc,(D.file f)[i]?=some sc:=⟨_,List.getElem?_eq_getElem (by have:=Hnf.out;omega)⟩
      have hscr:(Qbk l f i (D.file f))[i]?=some sc:=by rw[Qdi,hsc];simp
      have hdw:=(Step.refl w6 τ4 nil).drew
      have hcr:=Jdz (hro6.step hdw (fun h=>h)) ((hsec6 i sc hscr).mod hdw.mod hdw.ext (fun _ _ _ h=>h) (fun _ _ _ h=>h)) x
      unfold fateV at hcr
      obtain⟨⟨-,u0,hu0,-⟩,⟨u1,hu1,-⟩⟩:=hsec6 i sc hscr
      obtain⟨tt,xx,hob,hxx⟩:=Hd6.out.cell f hlt
      rw[hv6] at hxx
      have hSS:w6.drew.cell? ⟨bx,0,none⟩=some (.int .i64 (f:Int))∧w6.drew.cell? ⟨bi,0,none⟩=some (.int .i64 (i:Int))∧w6.drew.cell? ⟨b,f,none⟩=some (.slice (some ⟨bf,0,none⟩) nf n6)∧w6.drew.cell? ⟨bz,0,none⟩=some (.int .u8 (x.file:Int))∧w6.drew.cell? ⟨bz,1,none⟩=some (.int .i64 x.sector)∧w6.drew.cell? ⟨bz,2,none⟩=some (.int .i64 x.keep)∧w6.drew.cell? ⟨bz,3,none⟩=some (.int .i64 x.torn) :=
       ⟨Hbf6.out.at 0 rfl,Hbi6.out.at 0 rfl,hob.at f hxx,Hzz.out.at 0 rfl,Hzz.out.at 1 rfl,Hzz.out.at 2 rfl,Hzz.out.at 3 rfl⟩
      have hkI:(i:Int)<(nf:Int):=by omega
      have htag:∀k,τ4 k=tRow f→True:=fun _ _=>trivial
      obtain⟨Hcr,Hscr,Hv6,Hsc,Hro6,Hu0,Hu1⟩:=hid7 hcr hscr hv6 hsc hro6 hu0 hu1
      clear hcr hscr hv6 hsc hro6 hu0 hu1 hsec6 hp6 hob hxx h16 h26 htag hdw
      refine Qaf (S:=fun w':World=>w'.cell? ⟨bx,0,none⟩=some (.int .i64 (f:Int))∧w'.cell? ⟨bi,0,none⟩=some (.int .i64 (i:Int))∧w'.cell? ⟨b,f,none⟩=some (.slice (some ⟨bf,0,none⟩) nf n6)∧w'.cell? ⟨bz,0,none⟩=some (.int .u8 (x.file:Int))∧w'.cell? ⟨bz,1,none⟩=some (.int .i64 x.sector)∧w'.cell? ⟨bz,2,none⟩=some (.int .i64 x.keep)∧w'.cell? ⟨bz,3,none⟩=some (.int .i64 x.torn)) (by kernel_rfl) ?_
      refine tk0 [0,1,2,3,4,5,6,7,8,9,10,11,12,13,14,15] ?_
      iterate 16
       refine tks (v:=?_) rfl (Or.inl ⟨by rfl,?_⟩) (by assumption) ?_
       rotate_left
       ·intro w hSw;(try dsimp only at hSw);go_simp
        all_goals with_reducible rfl
       try simp only[Act.put,lz1,lz2,lz3]
      refine tk9 ?_
      clear hSS
      refine tk1 16 rfl fun K hK=>?_
      go_simp
      go_at_call 50
      refine Hcr.out.mono ?_
      rintro e w7 ⟨p7,c7,τ7,rfl,hb7,hl7,hs7⟩
      have hq7:=(Step.refl w6 τ4 nil).drew.trans hs7
      have hd7:=Hd6.out.step hq7 (fun _ h=>h.elim)
      have hbf7:=Hbf6.out.step hq7 (fun h=>h)
      have hbi7:=Hbi6.out.step hq7 (fun h=>h)
      have hzz7:=Hzz.out.step hq7 (fun h=>h)
      have hro7:=Hro6.out.step hq7 (fun h=>h)
      have hst7:=Hst6.out.trans (hq7.mono (T:=CrashTag) (fun _ h=>h.elim))
      obtain⟨tt,xx,hob,hxx⟩:=hd7.cell f hlt
      rw[Hv6.out] at hxx
      have hSS:w7.cell? ⟨bx,0,none⟩=some (.int .i64 (f:Int))∧w7.cell? ⟨bi,0,none⟩=some (.int .i64 (i:Int))∧w7.cell? ⟨b,f,none⟩=some (.slice (some ⟨bf,0,none⟩) nf n6)∧w7.cell? ⟨bz,0,none⟩=some (.int .u8 (x.file:Int))∧w7.cell? ⟨bz,1,none⟩=some (.int .i64 x.sector)∧w7.cell? ⟨bz,2,none⟩=some (.int .i64 x.keep)∧w7.cell? ⟨bz,3,none⟩=some (.int .i64 x.torn) :=
       ⟨hbf7.at 0 rfl,hbi7.at 0 rfl,hob.at f hxx,hzz7.at 0 rfl,hzz7.at 1 rfl,hzz7.at 2 rfl,hzz7.at 3 rfl⟩
      have r0:=hro7.at _ Hu0.out
      have r1:=hro7.at _ Hu1.out
      have rz0:=hro7.fz (i*2)
      have rz1:=hro7.fz (i*2+1)
      obtain⟨hd8,hs8⟩:=hd7.turnSec f hlt Hv6.out (k:=i) (s:=sc) (by rw[Dev.crashTo_file D l f i hlt];exact Hscr.out) hb7 hl7
      have hst8:=hst7.trans hs8
      have hbf8:=hbf7.step hs8 (fun h=>by have:=h.fst;rcases this with h|h <;> cases h)
      have hnx:=Qx6 l f i (D.file f) sc Hsc.out
      rw[Hx.out] at hnx
      have hpt:=Dev.crashTo_put D l f i hlt
      rw[hnx] at hpt
      rw[Dev.crashTo_file D l f i hlt] at hd8
      have hcx:(⟨sc.left x,[]⟩:Sec)=sc.crash x:=rfl
      rw[hcx,hpt] at hd8
      obtain⟨Hd8,Hst8,Hbf8⟩:=hid3 hd8 hst8 hbf8
      clear hd8 hst8 hbf8 hs7 hq7 hd7 hbf7 hbi7 hzz7 hro7 hst7 hob hxx hs8 hnx hpt hcx hb7
      refine hK.out _ _ (fun _=>hSS) ?_
      clear hK K
      refine tk1 17 rfl fun K hK=>?_
      go_simp
      refine hK.out _ _ (fun _=>hSS) ?_
      clear hK K
      refine tk1 18 rfl fun K hK=>?_
      go_simp
      refine hK.out _ _ (fun h=>absurd h (by decide +kernel)) ?_
      clear hK K hSS
      refine Qad (by kernel_rfl) ?_ _
      go_wp2_with fail
      go_round
      case rel=>exact⟨i+1,τ7,by omega,by simp,Hd8.out,Hbf8.out,Hst8.out⟩
      case measure=>simp[intOf];omega)
    ·obtain rfl:i=nf:=by omega
     have hn:=Dev.crashTo_next D l f hlt
     rw[Hnf.out] at hn
     rw[hn] at hd3
     obtain⟨Hd3,Hst3⟩:=hid2 hd3 hst3
     clear hd3 hst3
     go_wp2_with fail
     go_round
     case rel=>exact⟨f+1,τq,by omega,by simp,Hd3.out,Hst3.out⟩
     case measure=>simp[intOf];omega
  ·obtain rfl:f=2:=by omega
   obtain⟨Hd,Hst⟩:=hid2 hd hst
   clear hd hst
   go_wp2_with fail
   go_returns
   exact⟨rfl,τr,Hd.out.at,Hst.out⟩
end Go.Proofs.YtemacanaihaldaaGreat