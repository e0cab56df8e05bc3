/-
 The keys of a map,collected: maps.Keys,slices.AppendSeq,slices.Collect.
-/
import Derived.Test.YtociicnopccppaaGreatMEncB
import Derived.Test.YtociicnopccppaaGreatMSortK
import Derived.Sort.MapsRangeIn
set_option maxRecDepth 100000
set_option maxHeartbeats 1000000
set_option linter.all false
namespace Go.Proofs.YtociicnopccppaaGreat
open Go.RowKit Go.Maps Go.Shelf
attribute [local go_sem] Oper.semAt_some
def qik {H:Type}(D:DataW H) (left:Lit->Bool) (ss:List Nat):Prop:=ss.Nodup/\(∀kl,left kl=true->has D kl=true)/\(∀k∈ss,k<4294967296)/\∀k,k<4294967296->(k∈ss↔(has D (qcw k)=true/\left (qcw k)=false))
theorem qik.start {H:Type}(D:DataW H):qik D (has D) []:=⟨List.nodup_nil,fun _ h=>h,fun k h=>(by cases h),fun k _=>⟨fun h=>(by cases h),fun h=>(by rw[h.1] at h;cases h.2)⟩⟩
theorem qik.step {H:Type}{D:DataW H}{left:Lit->Bool}{c:List Nat}(h:qik D left c) {k:Nat}(o:k<4294967296) (hl:left (qcw k)=true):qik D (fun z=>left z && !z.sameKey (qcw k)) (c++[k]):=by
 obtain⟨h1,h2,p,i⟩:=h
 have hn:k ∉ c:=fun h=>by have:=((i k o).1 h).2;rw[hl] at this;cases this
 refine⟨List.nodup_append.2 ⟨h1,sM,fun a d b l e=>?_⟩,fun q h=>?_,fun a d=>?_,fun j n=>?_⟩
 ·rw[List.mem_singleton] at l
  subst l;subst e
  exact hn d
 ·simp only[Bool.and_eq_true] at h
  exact h2 q h.1
 ·rcases List.mem_append.1 d with h|h
  ·exact p a h
  ·rw[List.mem_singleton] at h;omega
 ·rw[List.mem_append,List.mem_singleton,i j n]
  show _↔(_/\(left (qcw j) && !(qcw j).sameKey (qcw k))=false)
  by_cases e:j=k
  ·subst e
   rw[h2 _ hl,WideAt.sameKey_self (Qfb j n),hl]
   simp
  ·have g:(qcw j).sameKey (qcw k)=false:=by
    cases r:(qcw j).sameKey (qcw k) with
    | false=>rfl
    | true=>exact absurd (WideAt.sameKey_eq r) (Qev e)
   rw[g]
   simp[e]
theorem qik.done {H:Type}{D:DataW H}{left:Lit->Bool}{a:List Nat}(h:qik D left a) (h0:∀b,left b=false):a.Nodup/\(∀k∈a,k<4294967296)/\∀k,k<4294967296->(k∈a↔has D (qcw k)=true) :=
 ⟨h.1,h.2.2.1,fun k c=>by rw[h.2.2.2 k c,h0];simp⟩
def Jhv {H:Type}(D:DataW H) (ss:List Nat):Prop:=ss.Nodup/\(∀k∈ss,k<4294967296)/\∀k,k<4294967296->(k∈ss↔has D (qcw k)=true)
theorem Jhe {key:Value}{a:Lit}(h:keyOf Tryz.prog 39 key=some a):∃k:Nat,k<4294967296/\key = .int .u32 k/\a=qcw k:=by
 obtain⟨x,rfl,e,b⟩:=Maps.keyOf_int_inv Tryz.underlying39 h
 have c:0<=x/\x<=4294967295:=by simpa [Lit.wf,IntKind.min,IntKind.max,IntKind.signed,IntKind.bits] using b
 obtain⟨n,rfl⟩:=Int.eq_ofNat_of_zero_le c.1
 exact⟨n,oM,rfl,e⟩
theorem Jih (F:Fence) (n:Nat) (hf:F.fn 93) (z:F.round=none) (hn:1<=n) (l Z b nn:Nat) (g:DataW Unit) (J Jx:List Nat->World->Prop)
 (hY:∀pre (x:Nat) W,J pre W->pre.length<Maps.size g->YieldAt F (n-1) Tryz.prog l #[.int .u32 x] W fun e i =>
   (e = .returned (.bool true)/\J (pre++[x]) i/\KeepsWalks W i)\/(e = .returned (.bool false)/\Jx (pre++[x]) i))
 (W:World) (hJ:AbidesFrom W.heap.size J) (hm:W.cell? ⟨Z,0,none⟩=some (.map (some b))) (j:W.ownsMap Tryz.prog 39 qfj b nn g) (h0:J [] W) :
 CallsIn F n Tryz.prog 93 #[.func (.yield l) #[] #[],.pointer (some ⟨Z,0,none⟩)] W fun e i=>(∃v,e = .returned v) /\
  ((∃a,Jhv g a/\J a i)\/(∃pre,True/\Jx pre i)):=by
 refine callsIn_of_wp Tryz.func93 rfl hf ?_ z
 simp only[Tryz.ntmps93,List.size_toArray,Y4,List.length_nil,Nat.reduceAdd,Nat.reduceSub,Array.replicate_succ,Array.replicate_zero,List.push_toArray,List.append_toArray,List.nil_append,List.cons_append]
 gi_wp2_with (first
  | (gi_at_range;refine wpListIn_range_own _ rfl _ 102 rfl 39 103 Qeo Tryz.underlying102 _ b nn _ rfl j ?_;intro w0 o B hs0)
  | gi_in)
 go_frame
 gi_loopw [3] (fun _ wr=>∃(left:Lit->Bool) (cnt:Nat) (a:List Nat),wr.ranges Tryz.prog 39 qfj b W.heap.size nn g left cnt/\a.length+cnt<=Maps.size g/\qik g left a/\J a wr)
  (fun _ wr=>wr.rangeLeft b W.heap.size)
 case atStart =>
  exact⟨_,_,[],o,sM,qik.start g,hJ [] W w0 none h0 B (fun r e=>by cases e)⟩
 case round =>
  obtain⟨left,cnt,a,h,hcs,hC,p⟩:=hrel
  gi_wp2_with (first
   | (gi_at_next;refine wpListIn_next_ranges _ rfl _ rfl 39 Qeo qfj (fun k:Nat=>Value.int .u32 k) id (fun key kl hk=>by obtain⟨k,_,e,_⟩:=Jhe hk;exact⟨k,e⟩) (fun v _ _=>⟨v,rfl⟩) b W.heap.size nn _ _ _ rfl h ?_ ?_)
   | gi_in)
  ·intro hc0 C
   gi_wp2
   go_end0
   exact⟨⟨_,rfl⟩,.inl ⟨a,hC.done C,p⟩⟩
  ·intro x c kl yd yp D q s E hv hat w G I L hen
   obtain⟨x',M,ex,rfl⟩:=Jhe s
   have O:x=x':=by have:(x:Int)=x':=by {simpa using ex};omega
   subst O
   have R:J a D:=hJ a wr D (some W.heap.size) p I (fun r e=>by cases e;exact⟨Z0 _,h.iter_walk⟩)
   obtain⟨fn,tmps,assign,body,hy,hR⟩:=hY a x D R oM
   have U:=hC.step M E
   clear L
   gi_wp2
   refine hR.mono ?_
   rintro e W3 (⟨rfl,X,Y⟩|⟨rfl,y⟩)
   ·gi_wp2
    have d:=w.of_walks Y
    go_roundw
    case rel=>exact⟨_,q,a++[x],d,by simp;omega,U,X⟩
    case measure=>rw[d.left_eq,h.left_eq];exact G
   ·gi_wp2
    refine bodyPost_ret (results_none rfl _ _ _) rfl ?_
    exact⟨⟨_,rfl⟩,.inr ⟨a++[x],trivial,y⟩⟩
theorem Jh0 (F:Fence) (n:Nat) (i:F.fn 93) (g:F.round=none) (hn:1<=n) (e b nn:Nat) (d:DataW Unit) (w:World) (h:w.cell? ⟨e,0,none⟩=some (.map (some b))) (a:w.ownsMap Tryz.prog 39 qfj b nn d) :
 SeqStopsK F n Tryz.prog 93 #[.pointer (some ⟨e,0,none⟩)] (fun k:Nat=>#[Value.int .u32 k]) KeepsWalks (Jhv d) (fun _=>True) (Maps.size d) w:=fun l J j W hW o _ q h0=>by
 have c:W.ownsMap Tryz.prog 39 qfj b nn d:=by
  have hbl:=a.lt
  obtain⟨es,clock,r,s,x,y⟩:=a
  exact⟨es,clock,(hW.block b hbl).trans r,s,x,y⟩
 exact Jih F n i g hn l e b nn d J j q W o ((hW.cell (p:=⟨e,0,none⟩) (qb0 h)).trans h) c h0
