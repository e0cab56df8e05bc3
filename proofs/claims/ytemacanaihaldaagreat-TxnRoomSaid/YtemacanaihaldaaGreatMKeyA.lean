/-
 The keys of a map,collected: maps.Keys,slices.AppendSeq,slices.Collect.
-/
import Derived.Test.YtemacanaihaldaaGreatMTxA
import Derived.Test.YtemacanaihaldaaGreatMEncB
import Derived.Test.YtemacanaihaldaaGreatMSortK
import Derived.Sort.MapsRangeIn
set_option maxRecDepth 100000
set_option maxHeartbeats 1000000
set_option linter.all false
namespace Go.Proofs.YtemacanaihaldaaGreat
open Go.RowKit Go.Maps Go.Shelf
attribute [local go_sem] Oper.semAt_some
def Come (D:DataW Unit) (left:Lit->Bool) (ss:List Nat):Prop:=ss.Nodup/\(∀kl,left kl=true->has D kl=true)/\(∀k∈ss,k<4294967296)/\∀k,k<4294967296->(k∈ss↔(has D (litK k)=true/\left (litK k)=false))
theorem Come.start (D:DataW Unit):Come D (has D) []:=⟨List.nodup_nil,fun _ h=>h,fun k h=>(by cases h),fun k _=>⟨fun h=>(by cases h),fun h=>(by rw[h.1] at h;cases h.2)⟩⟩
theorem Come.step {D:DataW Unit}{left:Lit->Bool}{d:List Nat}(h:Come D left d) {k:Nat}(hk:k<4294967296) (hl:left (litK k)=true):Come D (fun z=>left z && !z.sameKey (litK k)) (d++[k]):=by
 obtain⟨h1,h2,q,m⟩:=h
 have hn:k ∉ d:=fun h=>by have:=((m k hk).1 h).2;rw[hl] at this;cases this
 refine⟨List.nodup_append.2 ⟨h1,by simp,fun a i b o e=>?_⟩,fun r h=>?_,fun a i=>?_,fun j p=>?_⟩
 ·rw[List.mem_singleton] at o
  subst o;subst e
  exact hn i
 ·simp only[Bool.and_eq_true] at h
  exact h2 r h.1
 ·rcases List.mem_append.1 i with h|h
  ·exact q a h
  ·rw[List.mem_singleton] at h;omega
 ·rw[List.mem_append,List.mem_singleton,m j p]
  show _↔(_/\(left (litK j) && !(litK j).sameKey (litK k))=false)
  by_cases e:j=k
  ·subst e
   rw[h2 _ hl,WideAt.sameKey_self (Qfb j p),hl]
   simp
  ·have l:(litK j).sameKey (litK k)=false:=by
    cases s:(litK j).sameKey (litK k) with
    | false=>rfl
    | true=>exact absurd (WideAt.sameKey_eq s) (Qev e)
   rw[l]
   simp[e]
theorem Come.done {D:DataW Unit}{left:Lit->Bool}{b:List Nat}(h:Come D left b) (h0:∀d,left d=false):b.Nodup/\(∀k∈b,k<4294967296)/\∀k,k<4294967296->(k∈b↔has D (litK k)=true) :=
 ⟨h.1,h.2.2.1,fun k hk=>by rw[h.2.2.2 k hk,h0];simp⟩
def Jhv (D:DataW Unit) (ss:List Nat):Prop:=ss.Nodup/\(∀k∈ss,k<4294967296)/\∀k,k<4294967296->(k∈ss↔has D (litK k)=true)
theorem Jhe {key:Value}{b:Lit}(h:keyOf Tryz.prog 36 key=some b):∃k:Nat,k<4294967296/\key = .int .u32 (k:Int)/\b=litK k:=by
 obtain⟨x,rfl,e,d⟩:=Maps.keyOf_int_inv Tryz.underlying36 h
 have i:0<=x/\x<=4294967295:=by simpa [Lit.wf,IntKind.min,IntKind.max,IntKind.signed,IntKind.bits] using d
 obtain⟨n,rfl⟩:=Int.eq_ofNat_of_zero_le i.1
 exact⟨n,by omega,rfl,e⟩
theorem Jih (F:Fence) (n:Nat) (hf:F.fn 160) (B:F.round=none) (hn:1<=n) (l Z b nn:Nat) (i:DataW Unit) (J Jx:List Nat->World->Prop)
 (hY:∀pre (x:Nat) W,J pre W->pre.length<Maps.size i->YieldAt F (n-1) Tryz.prog l #[.int .u32 (x:Int)] W fun e m =>
   (e = .returned (.bool true)/\J (pre++[x]) m/\KeepsWalks W m)\/(e = .returned (.bool false)/\Jx (pre++[x]) m))
 (W:World) (hJ:AbidesFrom W.heap.size J) (hm:W.cell? ⟨Z,0,none⟩=some (.map (some b))) (o:W.ownsMap Tryz.prog 36 rdPtr b nn i) (h0:J [] W) :
 CallsIn F n Tryz.prog 160 #[.func (.yield l) #[] #[],.pointer (some ⟨Z,0,none⟩)] W fun e m=>(∃v,e = .returned v) /\
  ((∃d,Jhv i d/\J d m)\/(∃pre,True/\Jx pre m)):=by
 refine callsIn_of_wp Tryz.func160 rfl hf ?_ B
 simp only[Tryz.ntmps160,List.size_toArray,Y4,List.length_nil,Nat.reduceAdd,Nat.reduceSub,Array.replicate_succ,Array.replicate_zero,List.push_toArray,List.append_toArray,List.nil_append,List.cons_append]
 gi_wp2_with (first
  | (gi_at_range;refine wpListIn_range_own _ rfl _ 169 rfl 36 172 Qeo Tryz.underlying169 _ b nn _ rfl o ?_;intro w0 p C hs0)
  | gi_in)
 go_frame
 gi_loopw [3] (fun _ wr=>∃(left:Lit->Bool) (cnt:Nat) (d:List Nat),wr.ranges Tryz.prog 36 rdPtr b W.heap.size nn i left cnt/\d.length+cnt<=Maps.size i/\Come i left d/\J d wr)
  (fun _ wr=>wr.rangeLeft b W.heap.size)
 case atStart =>
  exact⟨_,_,[],p,by simp,Come.start i,hJ [] W w0 none h0 C (fun r e=>by cases e)⟩
 case round =>
  obtain⟨left,cnt,d,j,hcs,hC,q⟩:=hrel
  gi_wp2_with (first
   | (gi_at_next;refine wpListIn_next_ranges _ rfl _ rfl 36 Qeo rdPtr (fun k:Nat=>Value.int .u32 (k:Int)) id (fun key kl hk=>by obtain⟨k,_,e,_⟩:=Jhe hk;exact⟨k,e⟩) (fun v _ _=>⟨v,rfl⟩) b W.heap.size nn _ _ _ rfl j ?_ ?_)
   | gi_in)
  ·intro hc0 D
   gi_wp2
   go_end0
   exact⟨⟨_,rfl⟩,.inl ⟨d,hC.done D,q⟩⟩
  ·intro x c kl yd yp E s w G hv hat y I L M hen
   obtain⟨x',N,ex,rfl⟩:=Jhe w
   have O:x=x':=by have:(x:Int)=(x':Int):=by {simpa using ex};omega
   subst O
   have R:J d E:=hJ d wr E (some W.heap.size) q L (fun r e=>by cases e;exact⟨Z0 _,j.iter_walk⟩)
   obtain⟨fn,tmps,assign,body,hy,hR⟩:=hY d x E R (by omega)
   have U:=hC.step N G
   clear M
   gi_wp2
   refine hR.mono ?_
   rintro e W3 (⟨rfl,X,Y⟩|⟨rfl,z⟩)
   ·gi_wp2
    have h:=y.of_walks Y
    go_roundw
    case rel=>exact⟨_,s,d++[x],h,by simp;omega,U,X⟩
    case measure=>rw[h.left_eq,j.left_eq];exact I
   ·gi_wp2
    refine bodyPost_ret (results_none rfl _ _ _) rfl ?_
    exact⟨⟨_,rfl⟩,.inr ⟨d++[x],trivial,z⟩⟩
theorem Jh0 (F:Fence) (n:Nat) (o:F.fn 160) (j:F.round=none) (hn:1<=n) (i b nn:Nat) (h:DataW Unit) (w:World) (m:w.cell? ⟨i,0,none⟩=some (.map (some b))) (d:w.ownsMap Tryz.prog 36 rdPtr b nn h) :
 SeqStopsK F n Tryz.prog 160 #[.pointer (some ⟨i,0,none⟩)] (fun k:Nat=>#[Value.int .u32 (k:Int)]) KeepsWalks (Jhv h) (fun _=>True) (Maps.size h) w:=fun l J q W hW r _ s h0=>by
 have e:W.ownsMap Tryz.prog 36 rdPtr b nn h:=by
  have hbl:=d.lt
  obtain⟨es,clock,x,y,z,B⟩:=d
  exact⟨es,clock,(hW.block b hbl).trans x,y,z,B⟩
 exact Jih F n o j hn l i b nn h J q s W r ((hW.cell (p:=⟨i,0,none⟩) (cell_lt m)).trans m) e h0
