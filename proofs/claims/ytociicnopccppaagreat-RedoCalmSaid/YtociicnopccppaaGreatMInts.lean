/-
 Rows of ints of a call's own that grow.
-/
import Derived.Test.YtociicnopccppaaGreatMCrc
import Derived.Deep.MidRow
import Derived.Deep.WholeRow
import Derived.Laws.Cover3
import Derived.Stop.BytesEq
set_option maxRecDepth 100000
set_option linter.all false
namespace Go.Proofs.YtociicnopccppaaGreat
variable {b n0 off:Nat}{g:Tag}{v:Value}{w w0:World}{τ τ0:qa1}
open Go.RowKit
theorem Tryz.infoInt:(Tryz.prog.info? 3).map (fun i=>(i.zero,i.size,i.bytes))=some (some (.int .i64 0),1,8):=kR
theorem Qrb (l:List Nat):(qhm l).length=l.length:=by simp[qhm]
theorem Qlj (l m:List Nat):qhm (l++m)=qhm l++qhm m:=by simp[qhm]
theorem Qzx (l:List Nat) (i:Nat) (h:i<l.length):(qhm l)[i]?=some (.int .i64 ((l.getD i 0:Nat):Int)):=by
 simp[qhm,List.getD,Z3 h]
def Ints (w:World) (τ:qa1) (g:Tag) (v:Value) (l:List Nat):Prop:=Buf w τ g 3 1 v l.length (qhm l)
theorem Ints.step {c:World} {a:qa1} {S:Tag->Prop} {l:List Nat}(h:Ints w τ g v l) (m:Step w τ c a S) (d:¬S g):Ints c a g v l:=Buf.step h m d
theorem Ints.read {l:List Nat}(h:Ints w τ g v l):∃p c,v = .slice p l.length c/\l.length<=maxLen/\∀i,i<l.length->∃b,p=some ⟨b,0,none⟩/\w.cell? ⟨b,i,none⟩=some (.int .i64 ((l.getD i 0:Nat):Int)):=by
 obtain⟨h1,⟨rfl,h2⟩|⟨b,cap,ys,rfl,a,h3,h4,h5⟩⟩:=h
 ·refine⟨none,0,by rw[h2],by rw[h2];exact Z9 _,fun i hi=>oM⟩
 ·refine⟨_,cap,rfl,oM,fun i hi=>⟨b,rfl,a.at i ?_⟩⟩
  rw[Y5 (by rw[Qrb];exact hi),Qzx l i hi]
structure NI (n0:Nat) (w:World) (τ:qa1) (g:Tag) (v:Value) (l:List Nat):Prop where
 buf:Ints w τ g v l
 low:∀k,v.ownBlock=some k->n0<=k
theorem NI.nil (n0:Nat) (w:World) (τ:qa1) (g:Tag):NI n0 w τ g (.slice none 0 0) []:=⟨Buf.nil _ _ _ _ _,fun k a=>by simp[Value.ownBlock] at a⟩
theorem NI.step {c:World} {a:qa1} {S:Tag->Prop} {l:List Nat}(h:NI n0 w τ g v l) (m:Step w τ c a S) (d:¬S g):NI n0 c a g v l:=⟨h.buf.step m d,h.low⟩
theorem NI.val {l:List Nat}(h:NI n0 w τ g v l):∃p c,v = .slice p l.length c:=Buf.len h.buf
theorem Qjl {S:Tag->Prop}(p:Step w0 τ0 w τ S) {g:Tag}{v:Value}{l:List Nat}(j:NI w0.heap.size w τ g v l) (x:Nat) {L:Int}(q:L=(x:Int)) (hsz:l.length<=1000000000) {kb:Nat}(r:kb=w.heap.size)
 {ops:Array Oper} {rest:List Oper} {o:Oper} {a:Act} {Q:Exit->Act->World->Prop} (z:o.guard=none) (s y:Operand)
 (B:o.op = .call {callee:=.builtin .append,args:=#[s,y],argTypes:=#[121,121]}) (R:a.eval s=v) (U:a.eval y = .slice (some ⟨kb,0,none⟩) 1 1)
 (h:∀n i d,NI w0.heap.size i d g n (l++[x])->Step w0 τ0 i d S->Step w τ i d (fun t=>t=g)->wpList Tryz.prog ops Q rest (a.put o.dst n) i):wpList Tryz.prog ops Q (o::rest) a (w.alloc (.cells #[.int .i64 L] 3)):=by
 subst r
 subst q
 refine wpList_plain z fun K X=>?_
 obtain⟨Y,hi,C,D,E⟩:=info_parts Tryz.infoInt
 have c:=p.alloc' (.cells #[.int .i64 x] 3)
 have e:=j.step ((Step.refl w τ Go.Proofs.YtociicnopccppaaGreat.nil).alloc' (.cells #[.int .i64 x] 3)) id
 obtain⟨n,i,d,Z,F,M,O,G⟩:=Qap (P:=Tryz.prog) (w.alloc (.cells #[.int .i64 x] 3)) τ g 121 o.type 3 Y (.int .i64 0) 1 8 Tryz.underlying121 hi C D E rfl dC v l.length (qhm l) e.buf
  (some ⟨w.heap.size,0,none⟩) 1 1 [.int .i64 x] rfl (fun h=>by cases h) (by
    intro ad had;cases had;exact World.news_of_block (cs:=#[.int .i64 x]) (t := 3) (fr:=(0,0)) (heap_alloc_new w _)) (by simp[Value.oneCell']) (by unfold maxLen;omega) oM
 unfold Oper.wp execOp
 simp only[B,resolve,invoke,builtin,Sem.run_bind,Sem.run_pure,Result.andThen_ok,List.map_toArray,X0,List.map_nil,R,U,Z]
 refine X _ _ (h n i d ⟨?_,fun k I=>?_⟩ ⟨c.mod.seq O (fun k I J=>absurd (e.low k J) oM),c.ext.trans M c.size⟩ (((Step.refl w τ _).alloc' _).trans ⟨O.mono (fun k I J=>(e.buf.own k J).1),M⟩))
 ·show Buf _ _ _ _ _ _ _ _
  rw[Z6,Qlj];exact F
 ·rcases G k I with h|h
  ·exact e.low k h
  ·have:=c.size;omega
def Qas (P:List Int) (i:Nat):List Nat:=(List.range i).filter (fun s=>decide (0<qad P s))
def Qab (P:List Int):List Nat:=Qas P (qa0 P)
theorem Qf8 (P:List Int) (i:Nat):Qas P (i+1)=Qas P i++(if 0<qad P i then [i] else []):=by
 unfold Qas
 rw[List.range_succ,List.filter_append]
 congr 1
 by_cases h:0<qad P i <;> simp[h]
theorem Qes (P:List Int) (i:Nat):(Qas P i).length<=i:=by
 unfold Qas
 exact Y3 (List.length_filter_le _ _) sM
theorem Qcx {P:List Int} {i s:Nat}(h:s∈Qas P i):s<i/\0<qad P s:=by
 unfold Qas at h
 obtain⟨h1,h2⟩:=List.mem_filter.1 h
 exact⟨List.mem_range.1 h1,by simpa using h2⟩
theorem Qfl {P:List Int}(h:qag w τ g b P) (z:Fit P) :
 Calls Tryz.prog 216 #[.pointer (some ⟨b,0,none⟩)] w fun e r=>∃v l,e = .returned v/\NI w.heap.size r l qe3 v (Qab P)/\Step w τ r l nil:=by
 have h1:=Qax h
 have hc:=z.count
 have s:Qab P=Qas P (qa0 P):=rfl
 generalize I:qa0 P=q at *
 obtain⟨H1,B,Hq⟩:=qan h1 s I
 clear h1 s I
 obtain⟨C,M⟩:=qaj h z
 clear h z
 go_enter Tryz.func216,Tryz.ntmps216
 go_wp2_with fail
 refine zC H1 ?_
 go_wp2_with fail
 go_loopw [3,7] (fun m v wr=>∃(i:Nat) (d:qa1),i<=q/\v = .int .i64 i/\NI w.heap.size wr d qe3 m (Qas P i)/\Step w τ wr d nil) (fun _ v _=>q-(intOf v).toNat)
 case atStart=>exact⟨0,τ,Z9 _,rfl,NI.nil _ _ _ _,Step.refl _ _ _⟩
 case round =>
  obtain⟨i,d,hi,rfl,a,c⟩:=hrel
  by_cases hlt:i<q
  ·have hd:=Qbx (C.step c id) M i oM
   have p:=Qf8 P i
   have hsl:=Qes P i
   obtain⟨pm,cm,rfl⟩:=a.val
   generalize qad P i=n at *
   by_cases h0:0<n
   ·rw[if_pos h0] at p
    have x:(Qas P i).length<=1000000000:=oM
    obtain⟨D,E,j,k,F⟩:=qbq hd p a c x
    clear hd p a c x
    go_wp2_with fail
    refine D.mono ?_
    rintro e r ⟨o,rfl,-,rfl⟩
    go_wp2_with (at_builtin;refine Qjl k j i rfl F rfl rfl _ _ rfl rfl rfl ?_;intro v' r l J L y;obtain⟨O,R,Hmo⟩:=qan J L y;clear J L y)
    go_round
    case rel=>exact⟨i+1,l,oM,sM,by rw[E.out];exact O,R⟩
    case measure=>simp[intOf];omega
   ·rw[if_neg h0,List.append_nil] at p
    obtain rfl:n=0:=oM
    obtain⟨D,E,j,k⟩:=qb9 hd p a c
    clear hd p a c
    go_wp2_with fail
    refine D.mono ?_
    rintro e r ⟨o,rfl,-,rfl⟩
    go_wp2_with fail
    go_round
    case rel=>exact⟨i+1,d,oM,sM,by rw[E.out];exact j,k⟩
    case measure=>simp[intOf];omega
  ·have G:i=q:=oM
   subst G
   obtain⟨j,k⟩:=qaj a c
   clear a c
   go_wp2_with fail
   go_returns
   exact⟨_,d,rfl,by rw[B.out];exact j,k⟩
def qbs (P:List Int):Nat->Nat
 | 0=>0
 | i+1=>qbs P i+qad P i
def qd4 (P:List Int):Nat:=qbs P (qa0 P)
theorem Qpc {P:List Int}(h:qag w τ g b P) (d:Fit P) :
 Calls Tryz.prog 219 #[.pointer (some ⟨b,0,none⟩)] w fun e p=>e = .returned (.int .i64 (qd4 P:Int))/\w=p:=by
 have h1:=Qax h
 have hc:=d.count
 have a:qd4 P=qbs P (qa0 P):=rfl
 have c:∀i,qbs P i<=i*448:=by
  intro i
  induction i with
  | zero=>simp[qbs]
  | succ i ih=>have:=d.ends i;unfold qbs;omega
 rw[a]
 generalize r:qa0 P=q at *
 obtain⟨H1,Hps,Hq,j⟩:=qb9 h1 a r c
 clear h1 a r c
 obtain⟨k,s⟩:=qaj h d
 clear h d
 go_enter Tryz.func219,Tryz.ntmps219
 go_wp2_with fail
 refine zC H1 ?_
 go_wp2_with fail
 go_loopw [3,7] (fun m v wr=>∃(i:Nat),i<=q/\v = .int .i64 i/\m = .int .i64 (qbs P i:Int)/\wr=w) (fun _ v _=>q-(intOf v).toNat)
 case atStart=>exact⟨0,Z9 _,rfl,rfl,rfl⟩
 case round =>
  obtain⟨i,hi,rfl,rfl,rfl⟩:=hrel
  by_cases hlt:i<q
  ·have hd:=Qbx k s i oM
   have x:qbs P (i+1)=qbs P i+qad P i:=rfl
   have hl:=j i
   have he:=s.ends i
   generalize qad P i=n at *
   generalize qav P i=o at *
   generalize qbs P i=u at *
   obtain⟨y,z⟩:=qaj hd x
   clear hd x
   go_wp2_with fail
   refine y.mono ?_
   rintro e p ⟨o,rfl,-,rfl⟩
   go_wp2_with fail
   go_round
   case rel=>exact⟨i+1,oM,sM,by rw[z.out];simp,trivial⟩
   case measure=>simp[intOf];omega
  ·have l:i=q:=oM
   subst l
   go_wp2_with fail
   go_returns
   exact⟨rfl,rfl⟩
theorem Qvx (l:List Value) (k:Nat) (z:List Value) (h:k+l.length<=z.length) :
 (l.zipIdx k).foldl (fun cs (p:Value×Nat)=>cs.setIfInBounds (0+p.2) p.1) z.toArray=(z.take k++l++z.drop (k+l.length)).toArray:=by
 induction l generalizing k z with
 | nil=>simp
 | cons x l ih =>
   rw[List.zipIdx_cons,List.foldl_cons]
   have e:z.toArray.setIfInBounds (0+k) x=(z.set k x).toArray:=sM
   show List.foldl _ (z.toArray.setIfInBounds (0+k) x) _=_
   rw[e,ih (k+1) (z.set k x) (by rw[Y1];simp at h;omega)]
   congr 1
   simp at h
   rw[Y4,List.take_set,List.drop_set_of_lt oM]
   have a:k<z.length:=oM
   have c:(z.take (k+1)).set k x=z.take k++[x]:=by
    rw[List.take_add_one]
    rw[Z3 a]
    rw[List.set_append_right _ _ (by simp;omega)]
    simp[Nat.min_eq_left (Nat.le_of_lt a)]
   rw[c,show k+1+l.length=k+(l.length+1) by omega]
   simp
theorem Qtt (cs z:Array Value) (h:cs.size=z.size) :
 cs.zipIdx.foldl (fun (a:Array Value) (p:Value×Nat)=>a.setIfInBounds (0+p.2) p.1) z=cs:=by
 obtain⟨l⟩:=cs
 obtain⟨m⟩:=z
 have:=Qvx l 0 m (by simp at h;omega)
 rw[<-Array.foldl_toList,Array.toList_zipIdx]
 rw[this]
 simp at h
 simp[h]
theorem Qpq (cs:Array Value) (h:cs.size=448):Array.foldl (fun (a:Array Value) (x:Value×Nat)=>a.setIfInBounds x.snd x.fst) Tryz.zeroCells268 cs.zipIdx 0 448=cs:=by
 have:=Qtt cs Tryz.zeroCells268 (by rw[h,Tryz.zeroCells268_size])
 rw[Array.size_zipIdx,h] at this
 simpa using this
theorem Qiw {P:Program} {ops:Array Oper} {rest:List Oper} {op:Oper} {a:Act} {Q:Exit->Act->World->Prop}(c:op.guard=none) (o:BinOp) (t r:TypeId) (x y:Operand) (i:op.op = .binOp o t x y r)
 (d e v:Value) (j:a.eval x=d) (k:a.eval y=e) (l:(eqGuard o t x y d e).run P w = .ok () w) (n:(binOp o t d e).run P w = .ok v w)
 (h:wpList P ops Q rest (a.put op.dst v) w):wpList P ops Q (op::rest) a w :=
 wpList_plain c fun _ p=>by
  unfold Oper.wp execOp
  simp only[i,j,k,Sem.run_bind,Sem.run_pure,Result.andThen_ok,l,n]
  exact p _ _ h
theorem Qou {l:List Int}(h:IsB l):u8s l=(l.map (fun x=>x.toNat.toUInt8)).map Extern.Stop.cell:=by
 unfold u8s
 rw[List.map_map]
 refine List.map_congr_left (fun x a=>?_)
 have:=h x a
 simp only[Function.comp,Extern.Stop.cell]
 congr 1
 have h2:x.toNat.toUInt8.toNat=x.toNat:=by simp;omega
 show x=((x.toNat.toUInt8.toNat:Nat):Int)
 rw[h2];omega
theorem Qwd {l m:List Int}(hl:IsB l) (a:IsB m):(l.map (fun x=>x.toNat.toUInt8)==m.map (fun x=>x.toNat.toUInt8))=decide (l=m):=by
 rw[Bool.eq_iff_iff]
 simp only[beq_iff_eq,decide_eq_true_eq]
 constructor
 ·intro h
  have h1:=congrArg (List.map (fun (b:UInt8)=>(b.toNat:Int))) h
  have h2:∀{k:List Int},IsB k->(k.map (fun x=>x.toNat.toUInt8)).map (fun (b:UInt8)=>(b.toNat:Int))=k:=by
   intro k c
   rw[List.map_map]
   conv=>rhs;rw[<-List.map_id k]
   refine List.map_congr_left (fun x d=>?_)
   have:=c x d
   simp only[Function.comp,id]
   have h3:x.toNat.toUInt8.toNat=x.toNat:=by simp;omega
   omega
  rw[h2 hl,h2 a] at h1
  exact h1
 ·rintro rfl;rfl
theorem Ql9 {P:Program} {t:TypeId} {n:Nat}(h:(P.info? t).map (·.size)=some n) (w:World):(sizeOf t).run P w = .ok n w:=by
 cases a:P.info? t with
 | none=>simp[a] at h
 | some i=>simp[sizeOf,typeInfo,a];simpa [a] using h
theorem Qi1 (w:World) {X Y:List Int}(a:IsB X) (c:IsB Y) (d:X.length=448) (e:Y.length=448) :
 (binOp .eql 266 (.agg (u8s X).toArray) (.agg (u8s Y).toArray)).run Tryz.prog w = .ok (.bool (decide (X=Y))) w:=by
 have h:∀w,(sizeOf 5).run Tryz.prog w = .ok 1 w:=Ql9 kR
 rw[<-Qwd a c,Qou a,Qou c]
 exact run_eql_bytes w _ _ 448 Tryz.underlying266 Tryz.underlying5 h _ _ (by rw[Y0];exact d) (by rw[Y0];exact e)
theorem Qfz (w:World) (x y:Operand) (a ys:Array Value):(eqGuard .eql 266 x y (.agg a) (.agg ys)).run Tryz.prog w = .ok () w :=
 run_eqGuard_agg _ _ _ _ _ _ _ kR
theorem Qhv {o:Nat} {l:List Int}(c:∀i,i<l.length->w.cell? ⟨b,o+i,none⟩=some (.int .u8 (l.getD i 0))):w.rangeAt b o (u8s l):=by
 intro j v hv
 have a:j<l.length:=by
  rcases Nat.lt_or_ge j l.length with h|h
  ·exact h
  ·rw[List.getElem?_eq_none (by rw[Qac];exact h)] at hv;simp at hv
 rw[Qfw l j a] at hv
 cases hv
 exact c j a
theorem Qns {g0:Tag}(h:Bytes w τ g0 v qaz) :
 Calls Tryz.prog 135 #[v] w fun e I=>∃b a,e = .returned (.tuple #[.pointer (some ⟨b,0,none⟩),.int .u16 0])/\w.heap.size<=b/\qag I a g b (qaf 0)/\Step w τ I a nil:=by
 have hl:qaz.length=448:=by simp[qaz]
 generalize hz:qaz=Z at *
 obtain⟨hB,p,c,rfl,h1,h2,U⟩:=h
 obtain⟨J,o,rfl,q,X⟩:=U oM
 have Y:=Qhv X
 have d:(Tryz.prog.info? 266).map (·.size)=some 448:=kR
 have r:(Tryz.prog.info? 266).map (·.size)=some (u8s Z).length:=by rw[Qac,hl];exact d
 have s:∀w,(Instr.arrayAt 266 (.slice (some ⟨J,o,none⟩) 448 c)).run Tryz.prog w = .ok (.pointer (some ⟨J,o,none⟩)) w:=fun w=>run_arrayAt w _ _ 448 _ _ c Tryz.underlying266 oM
 rw[hl]
 have Hr:=Z2 Y
 clear X q Y h1 U hB
 have Hl:=Z2 hl
 clear hl d
 obtain⟨L,x⟩:=qaj s r
 clear s r
 go_enter Tryz.func135,Tryz.ntmps135
 go_wp2_with fail
 simp only[L.out]
 simp only[Result.andThen_ok]
 go_step
 go_step
 refine wpList_load_mid rfl 266 _ rfl J o rfl (u8s Z) _ Hr Tryz.underlying266 rfl x ?_
 have n:(u8s Z).toArray.size=448:=by rw[List.size_toArray,Qac];exact Hl
 have hfold:=Qpq _ n
 have y:(w.alloc (.cells (u8s Z).toArray 268)).rangeAt w.heap.size 0 (u8s Z).toArray.toList:=by
  intro j v hv
  rw[Nat.zero_add]
  exact(Own.new w τ g 268 (u8s Z)).at j hv
 have i:(Tryz.prog.info? 266).map (·.size)=some (u8s Z).toArray.toList.length:=x.out
 generalize z:(u8s Z).toArray=cs at *
 obtain⟨M,B,O⟩:=qan y i z
 clear y i z
 go_step
 go_step
 go_step
 go_step
 go_step
 go_step
 go_step
 go_step
 go_step
 go_step
 go_step
 go_step
 go_step
 go_step
 go_step
 go_step
 go_step
 go_step
 go_step
 go_step
 go_step
 go_step
 go_step
 go_step
 refine wpList_load_mid rfl 266 (.tmp 15) rfl w.heap.size 0 rfl cs.toList _ M Tryz.underlying266 rfl B ?_
 simp only[Array.toArray_toList]
 go_step
 go_step
 go_step
 have hq:Tryz.zeroCells266 = (u8s qaz).toArray:=kR
 refine Qiw rfl .eql 266 266 (.tmp 16) (.tmp 17) rfl (.agg cs) (.agg Tryz.zeroCells266) (.bool true) rfl rfl (Qfz _ _ _ _ _) (by rw[hq,<-O.out,<-hz,Qi1 _ Qda Qda (by simp[qaz]) (by simp[qaz])];simp) ?_
 clear hq
 have k:=Qk3 (w.alloc (.cells cs 268)) (τ.put w.heap.size g) g 0 oM
 have C:=(zS w τ).alloc (.cells cs 268) g
 obtain⟨D,E⟩:=qaj k C
 clear k C
 go_wp2_with fail
 refine D.mono ?_
 rintro e I ⟨b,a,rfl,l,F,hs⟩
 obtain⟨R,Hs,G⟩:=qan F hs l
 clear F hs l
 go_wp2_with fail
 go_ret2
 exact⟨b,a,rfl,Y3 E.size G,R,E.trans Hs⟩
def qck (P:List Int) (s o n:Nat):List Int:=qbf (qbf P (16+4*s) (leB o 2)) (18+4*s) (leB n 2)
theorem Qej {S:Tag->Prop}(c:Step w0 τ0 w τ S) {g:Tag}{b:Nat}{P:List Int}(q:S g\/w0.heap.size<=b) (h:qag w τ g b P) (s o n:Nat) (hs:s<=107) (ho:o<65536) (hn:n<65536) :
 Calls Tryz.prog 222 #[.pointer (some ⟨b,0,none⟩),.int .i64 s,.int .i64 o,.int .i64 n] w fun e r=>e = .returned (.tuple #[])/\∃a,qag r a g b (qck P s o n)/\Step w0 τ0 r a S/\Step w τ r a (fun t=>t=g):=by
 have h1:=Qbp c q h (16+4*s) 2 o oM oM oM oM
 rw[show ((16+4*s:Nat):Int)=16+4*(s:Int) by omega] at h1
 have w1:=Qam o oM
 have w2:=Qam n oM
 obtain⟨H1,D⟩:=qaj h1 q
 clear h1 q h c
 go_enter Tryz.func222,Tryz.ntmps222
 go_wp2_with fail
 refine H1.mono ?_
 rintro e w1' ⟨rfl,τ1,d,i,j⟩
 have h2:=Qbp i D d (18+4*s) 2 n oM oM oM oM
 rw[show ((18+4*s:Nat):Int)=16+4*(s:Int)+2 by omega] at h2
 obtain⟨E,x⟩:=qaj h2 j
 clear h2 j d i
 go_wp2_with fail
 refine E.mono ?_
 rintro e w2' ⟨rfl,y,k,l,p⟩
 obtain⟨z,B,C⟩:=qan k l p
 clear k l p
 go_wp2_with fail
 go_returns
 exact⟨rfl,y,z,B,x.trans C⟩
def qdx (P:List Int) (l:List Nat):Nat->Nat×Nat
 | 0=>(0,448)
 | i+1=>(l.getD i 0+1,min (qdx P l i).2 (qav P (l.getD i 0)))
def qd5 (P:List Int):List Int:=qbf (qbf P 12 (leB (qdx P (Qab P) (Qab P).length).1 2)) 14 (leB (qdx P (Qab P) (Qab P).length).2 2)
theorem Qr2 (P:List Int) (l:List Nat) (i:Nat):(qdx P l i).2<=448:=by
 induction i with
 | zero=>exact Z0 _
 | succ i ih=>exact Y3 (Nat.min_le_left _ _) ih
theorem Qqi {P:List Int} {l:List Nat} {q:Nat}(h:∀s∈l,s<q) (i:Nat) (hi:i<=l.length):(qdx P l i).1<=q:=by
 cases i with
 | zero=>exact Z9 _
 | succ i =>
   show l.getD i 0+1<=q
   rw[Z5,Z3 oM]
   exact h _ (List.getElem_mem _)
theorem Qc7 {S:Tag->Prop}(y:Step w0 τ0 w τ S) {g:Tag}{b:Nat}{P:List Int}(hS:S g\/w0.heap.size<=b) (hg:g≠qe3) (h:qag w τ g b P) (O:Fit P) :
 Calls Tryz.prog 223 #[.pointer (some ⟨b,0,none⟩)] w fun e R=>e = .returned (.tuple #[])/\∃p,qag R p g b (qd5 P)/\Step w0 τ0 R p S/\Step w τ R p (fun t=>t=g):=by
 have h1:=Qfl h O
 have d:qd5 P=qbf (qbf P 12 (leB (qdx P (Qab P) (Qab P).length).1 2)) 14 (leB (qdx P (Qab P) (Qab P).length).2 2):=rfl
 have j:∀s∈Qab P,s<qa0 P/\0<qad P s:=fun s x=>Qcx x
 have hc:=O.count
 generalize hl:Qab P=l at *
 obtain⟨H1,z,k,HS,U,Hl⟩:=qcq h1 d j hS y hl
 clear h1 d j hS y hl
 have B:=Z2 h
 clear h O
 go_enter Tryz.func223,Tryz.ntmps223
 go_wp2_with fail
 refine H1.mono ?_
 rintro e w1 ⟨v1,τ1,rfl,r,C⟩
 obtain⟨p1,c1,X,hmx,-⟩:=r.buf.read
 subst X
 generalize hn:l.length=n at *
 obtain⟨Y,a,M⟩:=qan r C hn
 clear r C hn H1
 go_wp2_with fail
 have hn40:n<=40:=by
  have h1:=Qes P (qa0 P)
  have h2:=M.out
  rw[<-Hl.out] at h2
  unfold Qab at h2
  omega
 go_loopw [2,3,11] (fun c m v wr=>∃(i:Nat),i<=n/\v = .int .i64 i/\c = .int .i64 ((qdx P l i).1:Int)/\m = .int .i64 ((qdx P l i).2:Int)/\wr=w1) (fun _ _ v _=>n-(intOf v).toNat)
 case atStart=>exact⟨0,Z9 _,rfl,rfl,rfl,rfl⟩
 case round =>
  obtain⟨i,hi,rfl,rfl,rfl,rfl⟩:=hrel
  by_cases D:i<n
  ·obtain⟨p',c',Z,_,E⟩:=Y.buf.read
   cases Z
   obtain⟨br,rfl,hcell⟩:=E i (by rw[M.out];exact D)
   have hsl:l.getD i 0<qa0 P:=by
    rw[Z5,Z3 (by rw[M.out];exact D)]
    exact(k _ (List.getElem_mem _)).1
   have F:=Qgu (B.step a id) (l.getD i 0) oM oM
   have x:qdx P l (i+1)=(l.getD i 0+1,min (qdx P l i).2 (qav P (l.getD i 0))):=rfl
   generalize l.getD i 0=s at *
   generalize qav P s=o at *
   generalize qad P s=len at *
   generalize (qdx P l i).1=cc at *
   generalize (qdx P l i).2=m at *
   have hmn:(min (m:Int) (o:Int))=((min m o:Nat):Int):=oM
   obtain⟨a0,Hs⟩:=qaj F x
   clear F x E
   go_wp2_with fail
   refine zC a0 ?_
   go_wp2_with fail
   go_round
   case rel=>exact⟨i+1,oM,sM,by rw[Hs.out];simp,by rw[Hs.out],trivial⟩
   case measure=>simp[intOf];omega
  ·have a1:i=n:=oM
   subst a1
   have hcw:=Qr2 P l i
   have hcc:=Qqi (P:=P) (q:=qa0 P) (fun s x=>(k s x).1) i (by rw[M.out];exact Z0 _)
   generalize (qdx P l i).1=cc at *
   generalize (qdx P l i).2=m at *
   have w1:=Qam cc oM
   have w2:=Qam m oM
   have h1:=Qbp (U.trans a.nz) HS (B.step a id) 12 2 cc oM oM oM oM
   have H1:=Z2 h1
   clear h1
   go_wp2_with fail
   refine H1.mono ?_
   rintro e wa ⟨rfl,τa,ha,G,I⟩
   have h2:=Qbp G HS ha 14 2 m oM oM oM oM
   obtain⟨H2,a2⟩:=qaj h2 I
   clear h2 ha G I
   go_wp2_with fail
   refine H2.mono ?_
   rintro e wb ⟨rfl,a3,hb,J,L⟩
   obtain⟨Hb,a4,a5⟩:=qan hb J L
   clear hb J L
   go_wp2_with fail
   go_returns
   exact⟨rfl,a3,by rw[z.out];exact Hb,a4,(a.mono (T:=fun t=>t=g) (fun _ h=>h.elim)).trans (a2.trans a5)⟩
theorem Qul (n:Nat):u8s (List.replicate n 0)=List.replicate n (.int .u8 0):=by simp[u8s]
theorem Qht {d:Nat} {j:Tag} {T:TypeId} {cur:List Value}(k:Own w τ d j T cur) {off n c:Nat}(h0:0<n) (a:off+n<=cur.length) (l:TypeId) :
 (Builtin.clear_ #[58] l #[.slice (some ⟨d,off,none⟩) n c]).run Tryz.prog w = .ok (.tuple #[]) (w.setRow d (over cur off (u8s (List.replicate n 0))).toArray):=by
 have e:(Builtin.zeroCells (Value.int .u8 0).cells n).toList=List.replicate n (.int .u8 0):=by
  have o:(Value.int .u8 0).cells=#[.int .u8 0]:=rfl
  rw[o]
  simp[Builtin.zeroCells]
  apply List.ext_getElem
  ·simp
  ·intro i h1 h2
   simp[Nat.mod_one]
 have h:=run_storeCells_at Tryz.prog d off T (List.replicate n (.int .u8 0)) 0 cur.toArray w k.row (by simpa using a) (by intro v hv;rw[List.eq_of_mem_replicate hv];rfl)
 obtain⟨m,rfl⟩:∃m,n=m+1:=⟨n-1,oM⟩
 rw[Qul]
 simp[Builtin.clear_,run_underlying Tryz.underlying58,Tryz.zeroValue5 w,e,h,over]
theorem Qnq {S:Tag->Prop}(c:Step w0 τ0 w τ S) {g:Tag}{b:Nat}{P:List Int}(q:S g\/w0.heap.size<=b) (h:qag w τ g b P) (n:Nat) (hn:n<2 ^ 64) :
 Calls Tryz.prog 110 #[.pointer (some ⟨b,0,none⟩),.int .u64 n] w fun e k=>e = .returned (.tuple #[])/\∃a,qag k a g b (qbf P 0 (leB n 8))/\Step w0 τ0 k a S/\Step w τ k a (fun t=>t=g):=by
 have h1:=Qbp c q h 0 8 n oM oM oM hn
 have H1:=Z2 h1
 clear h1 h c q hn
 go_enter Tryz.func110,Tryz.ntmps110
 go_wp2_with fail
 refine H1.mono ?_
 rintro e w1 ⟨rfl,τ1,d,i,j⟩
 obtain⟨l,o,p⟩:=qan d i j
 clear d i j
 go_wp2_with fail
 go_returns
 exact⟨rfl,τ1,l,o,p⟩
theorem Qbm {P:List Int}(a:Fit P) (h:P.length=448) (s:Nat):(qb7 P s).length=qad P s:=by
 have:=a.ends s
 unfold qb7
 rw[List.length_take,List.length_drop,h];omega
theorem qag.data {P:List Int}(h:qag w τ g b P) (c:Fit P) (s o:Nat) (d:0<qad P s->o=qav P s):Bytes w τ g (.slice (some ⟨b,o,none⟩) (qad P s) (448-qav P s)) (qb7 P s):=by
 have i:=c.ends s
 by_cases h0:0<qad P s
 ·rw[d h0]
  exact(h.part (qav P s) (qad P s) h0 i).1
 ·have e:qad P s=0:=oM
  have hd:qb7 P s=[]:=by unfold qb7;rw[e];rfl
  rw[hd,e]
  exact⟨fun x a=>by simp at a,some ⟨b,o,none⟩,448-qav P s,rfl,Z9 _,by unfold maxLen;omega,fun a=>by simp at a⟩
theorem Qi5 {P:List Int}(h:qag w τ g b P) (c:Fit P) (s:Nat) (C:s<1000000) (r:Tag) :
 Calls Tryz.prog 55 #[.pointer (some ⟨b,0,none⟩),.int .i64 s] w fun e x=>∃u d,e = .returned (.tuple #[u,.bool (decide (0<qad P s))])/\Bytes x d r u (qb7 P s)/\Step w τ x d nil:=by
 have h1:=Qbx h c s C
 have a:=Qbm c h.len s
 have hle:=c.ends s
 have i:=fun (o:Nat) (k:0<qad P s->o=qav P s)=>Qeb (h.data c s o k) r (by rw[a];omega)
 generalize qb7 P s=l at *
 generalize qad P s=n at *
 have j:decide (0<(n:Int))=decide (0<n):=by by_cases hn:0<n <;> simp[hn]
 obtain⟨H1,p⟩:=qaj h1 i
 clear h1 i a h c
 go_enter Tryz.func55,Tryz.ntmps55
 go_wp2_with fail
 refine H1.mono ?_
 rintro e w1 ⟨o,rfl,k,rfl⟩
 have h2:=p o k
 have D:=Z2 h2
 clear h2 k
 go_wp2_with fail
 refine D.mono ?_
 rintro e w2 ⟨u,q,rfl,y,z,B⟩
 obtain⟨E,F,G⟩:=qan y z B
 clear y z B
 go_wp2_with fail
 go_returns
 exact⟨u,q,by first|rfl|rw[j]|simp,E,Step.of nil G F⟩
theorem Qa1 {P m:List Int}(h:off+m.length<=P.length) (i:Nat):(qbf P off m)[i]?=if off<=i/\i<off+m.length then m[i-off]? else P[i]?:=by
 unfold qbf
 have a:(P.take off).length=off:=by rw[List.length_take];omega
 by_cases h1:i<off
 ·rw[Y9,Y5 (by rw[a];exact h1),List.getElem?_take,if_pos h1,if_neg oM]
 ·by_cases h2:i<off+m.length
  ·rw[Y9,Y6 (by rw[a];omega),a,Y5 oM,if_pos ⟨oM,h2⟩]
  ·rw[Y6 (by rw[Z6,a];omega),Z6,a,List.getElem?_drop,if_neg oM]
   congr 1;omega
theorem Qtm {P m:List Int}(h:off+m.length<=P.length) {a k:Nat}(hd:a+k<=off\/off+m.length<=a):((qbf P off m).drop a).take k=(P.drop a).take k:=by
 apply List.ext_getElem?
 intro i
 by_cases hi:i<k
 ·rw[List.getElem?_take,List.getElem?_take,if_pos hi,if_pos hi,List.getElem?_drop,List.getElem?_drop,Qa1 h,if_neg oM]
 ·rw[List.getElem?_take,List.getElem?_take,if_neg hi,if_neg hi]
theorem Qdh {P m:List Int}(h:off+m.length<=P.length) {a k:Nat}(c:a=off) (d:k=m.length):((qbf P off m).drop a).take k=m:=by
 subst c d
 apply List.ext_getElem?
 intro i
 by_cases hi:i<m.length
 ·rw[List.getElem?_take,if_pos hi,List.getElem?_drop,Qa1 h,if_pos oM,Nat.add_sub_cancel_left]
 ·rw[List.getElem?_take,if_neg hi,List.getElem?_eq_none oM]
theorem Qaj {P m:List Int}(h:off+m.length<=P.length) {a k:Nat}(hd:a+k<=off\/off+m.length<=a):qbp (qbf P off m) a k=qbp P a k:=by
 unfold qbp;rw[Qtm h hd]
theorem Qgh {P:List Int}(h:P.length=448) (s o n:Nat) (hs:s<=107):(qck P s o n).length=448:=by
 unfold qck
 rw[Qae _ _ _ (by rw[Qae _ _ _ (by rw[Qaa];omega),Qaa];omega),Qae _ _ _ (by rw[Qaa];omega),h]
theorem Qbq {P:List Int}(h:P.length=448) (s o n:Nat) (hs:s<=107) {a k:Nat}(hd:a+k<=16+4*s\/20+4*s<=a):qbp (qck P s o n) a k=qbp P a k:=by
 unfold qck
 have h1:16+4*s+(leB o 2).length<=P.length:=by rw[Qaa];omega
 rw[Qaj (by rw[Qae _ _ _ h1,Qaa];omega) (by rw[Qaa];omega),Qaj h1 (by rw[Qaa];omega)]
theorem Qcc {P:List Int}(h:P.length=448) (s o n:Nat) (a:s<=107):qa0 (qck P s o n)=qa0 P:=Qbq h s o n a (.inl oM)
theorem Qe5 {P:List Int}(h:P.length=448) (s o n:Nat) (c:s<=107) (ho:o<65536) (t:Nat):qav (qck P s o n) t=if t=s/\s<qa0 P then o else qav P t:=by
 have h1:16+4*s+(leB o 2).length<=P.length:=by rw[Qaa];omega
 have h2:18+4*s+(leB n 2).length<=(qbf P (16+4*s) (leB o 2)).length:=by rw[Qae _ _ _ h1,Qaa];omega
 unfold qav
 rw[Qcc h s o n c]
 by_cases a:t<qa0 P
 ·rw[if_pos a,if_pos a]
  by_cases e:t=s
  ·subst e
   rw[if_pos ⟨rfl,a⟩]
   unfold qck
   rw[Qaj h2 (.inl oM)]
   unfold qbp
   rw[Qdh h1 rfl (by rw[Qaa])]
   rw[Qdl o 2 2 (Z0 _)]
   exact Nat.mod_eq_of_lt oM
  ·rw[if_neg (fun h=>e h.1)]
   exact Qbq h s o n c oM
 ·rw[if_neg a,if_neg a,if_neg (fun (h:t=s/\s<qa0 P)=>a (h.1▸h.2))]
theorem Qe6 {P:List Int}(h:P.length=448) (s o n:Nat) (c:s<=107) (hn:n<65536) (t:Nat):qad (qck P s o n) t=if t=s/\s<qa0 P then n else qad P t:=by
 have h1:16+4*s+(leB o 2).length<=P.length:=by rw[Qaa];omega
 have h2:18+4*s+(leB n 2).length<=(qbf P (16+4*s) (leB o 2)).length:=by rw[Qae _ _ _ h1,Qaa];omega
 unfold qad
 rw[Qcc h s o n c]
 by_cases a:t<qa0 P
 ·rw[if_pos a,if_pos a]
  by_cases e:t=s
  ·subst e
   rw[if_pos ⟨rfl,a⟩]
   unfold qck qbp
   rw[Qdh h2 rfl (by rw[Qaa])]
   rw[Qdl n 2 2 (Z0 _)]
   exact Nat.mod_eq_of_lt oM
  ·rw[if_neg (fun h=>e h.1)]
   exact Qbq h s o n c oM
 ·rw[if_neg a,if_neg a,if_neg (fun (h:t=s/\s<qa0 P)=>a (h.1▸h.2))]
theorem Fit.listed {P:List Int}(c:Fit P) (h:P.length=448) (s:Nat) (a:s<=107):Fit (qck P s 0 0):=by
 refine⟨by rw[Qcc h s 0 0 a];exact c.count,fun t=>?_⟩
 rw[Qe5 h s 0 0 a oM,Qe6 h s 0 0 a oM]
 by_cases e:t=s/\s<qa0 P
 ·rw[if_pos e,if_pos e];omega
 ·rw[if_neg e,if_neg e];exact c.ends t
structure qj5 (P:List Int):Prop where
 fit:Fit P
 behind:∀s,0<qad P s->16+4*qa0 P<=qav P s
theorem Qa9 {P m:List Int}(h:off+m.length<=P.length) (hb:16+4*qa0 P<=off):qa0 (qbf P off m)=qa0 P:=Qaj h (.inl oM)
theorem Qem {P m:List Int}(h:off+m.length<=P.length) (c:16+4*qa0 P<=off) (t:Nat):qav (qbf P off m) t=qav P t:=by
 unfold qav
 rw[Qa9 h c]
 by_cases a:t<qa0 P
 ·rw[if_pos a,if_pos a];exact Qaj h (.inl oM)
 ·rw[if_neg a,if_neg a]
theorem Qen {P m:List Int}(h:off+m.length<=P.length) (c:16+4*qa0 P<=off) (t:Nat):qad (qbf P off m) t=qad P t:=by
 unfold qad
 rw[Qa9 h c]
 by_cases a:t<qa0 P
 ·rw[if_pos a,if_pos a];exact Qaj h (.inl oM)
 ·rw[if_neg a,if_neg a]
theorem qj5.laid {P m:List Int}(hl:qj5 P) (h:off+m.length<=P.length) (a:16+4*qa0 P<=off):qj5 (qbf P off m) :=
 ⟨⟨by rw[Qa9 h a];exact hl.fit.count,fun t=>by rw[Qem h a,Qen h a];exact hl.fit.ends t⟩,fun t c=>by
   rw[Qen h a] at c
   rw[Qa9 h a,Qem h a];exact hl.behind t c⟩
theorem qj5.listed {P:List Int}(hl:qj5 P) (h:P.length=448) (s:Nat) (a:s<=107):qj5 (qck P s 0 0):=by
 refine⟨hl.fit.listed h s a,fun t=>?_⟩
 rw[Qcc h s 0 0 a,Qe5 h s 0 0 a oM,Qe6 h s 0 0 a oM]
 by_cases e:t=s/\s<qa0 P
 ·rw[if_pos e];intro h;omega
 ·rw[if_neg e,if_neg e];exact hl.behind t
def Qi7 (P:List Int) (s:Nat):List Int:=qd5 (qck (qbf P (qav P s) (List.replicate (qad P s) 0)) s 0 0)
theorem Qhx {S:Tag->Prop}(j:Step w0 τ0 w τ S) {g:Tag}{b:Nat}{P:List Int}(hS:S g\/w0.heap.size<=b) (hg:g≠qe3) (h:qag w τ g b P) (hl:qj5 P) (s:Nat) (hs:s<=107) :
 Calls Tryz.prog 173 #[.pointer (some ⟨b,0,none⟩),.int .i64 s] w fun e w'=>e = .returned (.bool (decide (0<qad P s)))/\∃r,qag w' r g b (if 0<qad P s then Qi7 P s else P)/\Step w0 τ0 w' r S/\Step w τ w' r (fun t=>t=g):=by
 have h1:=Qbx h hl.fit s oM
 by_cases y:0<qad P s
 ·rw[if_pos y,decide_eq_true y]
  have C:=hl.fit.ends s
  have D:=hl.behind s y
  have k:=h.len
  have l:qav P s+qad P s<=(u8s P).length:=by rw[Qac,h.len];exact C
  have i:qav P s+(List.replicate (qad P s) (0:Int)).length<=P.length:=by rw[Z7,h.len];exact C
  have E:=hl.laid (m:=List.replicate (qad P s) 0) i D
  have a:=Qae P (qav P s) (List.replicate (qad P s) 0) i
  rw[k] at a
  have F:IsB (qbf P (qav P s) (List.replicate (qad P s) 0)):=Qaw h.isB (fun x hx=>by rw[List.eq_of_mem_replicate hx];exact⟨dC,dC⟩) _
  have G:over (u8s P) (qav P s) (u8s (List.replicate (qad P s) 0))=u8s (qbf P (qav P s) (List.replicate (qad P s) 0)):=by
   have:=Qby P (List.replicate (qad P s) 0) (qav P s) (qad P s) (by rw[Z7])
   rw[List.take_of_length_le (by rw[Z7];exact Z0 _)] at this
   exact this
  have I:=E.listed a s hs
  have J:Qi7 P s=qd5 (qck (qbf P (qav P s) (List.replicate (qad P s) 0)) s 0 0):=rfl
  generalize qbf P (qav P s) (List.replicate (qad P s) 0)=P1 at *
  generalize qav P s=o at *
  generalize qad P s=n at *
  have p:=h.own
  obtain⟨H1,a5,a6,a7,a8,z,d,L,B,HS⟩:=qhe h1 G I J F a p l j hS
  clear h1 G I J F a p l j hS h hl E i D k
  have M:=fun (c:Nat) (ty:TypeId)=>Qht d y L (c:=c) ty
  rw[a5.out] at M
  have O:=d.row' (u8s P1)
  have q:=B.row d.tag HS (u8s P1).toArray
  have R:=(Step.refl w τ (fun t=>t=g)).row d.tag (.inl rfl) (u8s P1).toArray
  have h2:=Qej q HS ⟨O,a8,z⟩ s 0 0 hs oM oM
  obtain⟨H2,aa⟩:=qaj h2 R
  clear h2 O q R
  go_enter Tryz.func173,Tryz.ntmps173
  go_wp2_with fail
  refine H1.mono ?_
  rintro e w1 ⟨o',rfl,U,rfl⟩
  obtain rfl:=U y
  go_wp2_with fail
  refine H2.mono ?_
  rintro e w2 ⟨rfl,τ2,X,Y,Z⟩
  have h3:=Qc7 Y HS hg X a6.fit
  obtain⟨H3,ab⟩:=qaj h3 Z
  clear h3 X Y Z
  go_wp2_with fail
  refine H3.mono ?_
  rintro e w3 ⟨rfl,ac,a0,a1,a2⟩
  obtain⟨ad,ae,af⟩:=qan a0 a1 a2
  clear a0 a1 a2
  go_wp2_with fail
  go_returns
  exact⟨rfl,ac,by rw[a7.out];exact ad,ae,aa.trans (ab.trans af)⟩
 ·rw[if_neg y,decide_eq_false y]
  obtain h0:qad P s=0:=oM
  rw[h0] at h1
  obtain⟨H1,ag,B⟩:=qan h1 h j
  clear h1 h j hl hS
  go_enter Tryz.func173,Tryz.ntmps173
  go_wp2_with fail
  refine H1.mono ?_
  rintro e w1 ⟨o',rfl,U,rfl⟩
  go_wp2_with fail
  go_returns
  exact⟨rfl,τ,ag,B,Step.refl _ _ _⟩
def qba (P:List Int):Nat->Nat×Nat
 | 0=>(0,448)
 | q+1=>if 0<qad P q then (q+1,min (qba P q).2 (qav P q)) else qba P q
theorem Qgl {P Q:List Int}(hl:∀s,qad Q s=qad P s) (a:∀s,qav Q s=qav P s) (q:Nat):qba Q q=qba P q:=by
 induction q with
 | zero=>rfl
 | succ q ih =>
   show (if 0<qad Q q then (q+1,min (qba Q q).2 (qav Q q)) else qba Q q)=(if 0<qad P q then (q+1,min (qba P q).2 (qav P q)) else qba P q)
   rw[ih,hl,a]
theorem Qo4 (P:List Int) (l m:List Nat) (i:Nat) (hi:i<=l.length):qdx P (l++m) i=qdx P l i:=by
 induction i with
 | zero=>rfl
 | succ i ih =>
   have e:(l++m).getD i 0=l.getD i 0:=by
    rw[Z5,Z5,Y5 oM]
   show ((l++m).getD i 0+1,min (qdx P (l++m) i).2 (qav P ((l++m).getD i 0)))=(l.getD i 0+1,min (qdx P l i).2 (qav P (l.getD i 0)))
   rw[e,ih oM]
theorem Qs4 (P:List Int) (q:Nat):qdx P (Qas P q) (Qas P q).length=qba P q:=by
 induction q with
 | zero=>rfl
 | succ q ih =>
   rw[Qf8]
   by_cases h:0<qad P q
   ·rw[if_pos h,Z6]
    show ((Qas P q++[q]).getD (Qas P q).length 0+1,min (qdx P (Qas P q++[q]) (Qas P q).length).2 (qav P ((Qas P q++[q]).getD (Qas P q).length 0)))=if 0<qad P q then (q+1,min (qba P q).2 (qav P q)) else qba P q
    have e:(Qas P q++[q]).getD (Qas P q).length 0=q:=by
     rw[Z5,Y6 (Z0 _)];simp
    rw[e,Qo4 _ _ _ _ (Z0 _),ih,if_pos h]
   ·rw[if_neg h,List.append_nil,ih]
    show _=if 0<qad P q then (q+1,min (qba P q).2 (qav P q)) else qba P q
    rw[if_neg h]
structure HeadIs (P:List Int) (q:Nat) (c m:Nat):Prop where
 le:c<=q
 all:∀s,s<q->0<qad P s->s<c
 last:c=0\/0<qad P (c-1)
 low:∀s,s<q->0<qad P s->m<=qav P s
 is:m=448\/∃s,s<q/\0<qad P s/\m=qav P s
 top:m<=448
theorem Qcn (P:List Int) (q:Nat):HeadIs P q (qba P q).1 (qba P q).2:=by
 induction q with
 | zero=>exact⟨Z0 _,fun s h=>oM,.inl rfl,fun s h=>oM,.inl rfl,Z0 _⟩
 | succ q ih =>
   have e:qba P (q+1)=if 0<qad P q then (q+1,min (qba P q).2 (qav P q)) else qba P q:=rfl
   by_cases h:0<qad P q
   ·rw[e,if_pos h]
    refine⟨Z0 _,fun s c _=>c,.inr (by simpa using h),fun s c a=>?_,?_,?_⟩
    ·show min (qba P q).2 (qav P q)<=_
     by_cases j:s=q
     ·subst j;exact Nat.min_le_right _ _
     ·exact Y3 (Nat.min_le_left _ _) (ih.low s oM a)
    ·show min (qba P q).2 (qav P q)=448\/_
     rcases Nat.le_total (qba P q).2 (qav P q) with d|d
     ·rw[Nat.min_eq_left d]
      rcases ih.is with h1|⟨s,h1,h2,i⟩
      ·exact .inl h1
      ·exact .inr ⟨s,oM,h2,i⟩
     ·rw[Nat.min_eq_right d]
      exact .inr ⟨q,oM,h,rfl⟩
    ·exact Y3 (Nat.min_le_left _ _) ih.top
   ·rw[e,if_neg h]
    refine⟨Nat.le_succ_of_le ih.le,fun s c a=>?_,ih.last,fun s c a=>?_,?_,ih.top⟩
    ·have:s≠q:=fun e=>h (e▸a)
     exact ih.all s oM a
    ·have:s≠q:=fun e=>h (e▸a)
     exact ih.low s oM a
    ·rcases ih.is with h1|⟨s,h1,h2,i⟩
     ·exact .inl h1
     ·exact .inr ⟨s,oM,h2,i⟩
theorem Qrc (P:List Int) (c:Nat) (h:∀s,c<=s->¬0<qad P s) (d:Nat):qba P (c+d)=qba P c:=by
 induction d with
 | zero=>rfl
 | succ d ih =>
   show (if 0<qad P (c+d) then (c+d+1,min (qba P (c+d)).2 (qav P (c+d))) else qba P (c+d))=_
   rw[if_neg (h _ oM),ih]
theorem Qb7 {P:List Int} {s:Nat}(h:qa0 P<=s):qad P s=0:=if_neg oM
theorem Qsa {P:List Int} {s:Nat}(h:qa0 P<=s):qav P s=0:=if_neg oM
structure Tidy (P:List Int):Prop where
 len:P.length=448
 isB:IsB P
 lies:qj5 P
 none:∀s,qad P s=0->qav P s=0
 small:∀s,qad P s<=64
 apart:∀s t,s≠t->0<qad P s->0<qad P t->qav P s+qad P s<=qav P t\/qav P t+qad P t<=qav P s
 zero:∀i,16+4*qa0 P<=i->i<448->(∀s,i<qav P s\/qav P s+qad P s<=i)->P[i]?=some 0
structure Sound (P:List Int):Prop where
 tidy:Tidy P
 head:qba P (qa0 P)=(qa0 P,qar P)
theorem Qte (P:List Int):qd5 P=qbf (qbf P 12 (leB (qba P (qa0 P)).1 2)) 14 (leB (qba P (qa0 P)).2 2):=by
 unfold qd5 Qab
 rw[Qs4]
theorem Qxo {l:List Int}(h:IsB l) (k:Nat) (hz:leN l k=0) (j:Nat) (hj:j<k):l.getD j 0=0:=by
 induction k with
 | zero=>omega
 | succ k ih =>
   have e:leN l (k+1)=leN l k+(l.getD k 0).toNat*2 ^ (8*k):=rfl
   by_cases a:j=k
   ·subst a
    have h1:(l.getD j 0).toNat*2 ^ (8*j)=0:=oM
    have h2:0<2 ^ (8*j):=Nat.pow_pos dC
    have h3:(l.getD j 0).toNat=0:=by
     rcases Nat.mul_eq_zero.1 h1 with h|h
     ·exact h
     ·omega
    have:=h.at j
    omega
   ·exact ih oM oM
theorem Qmt {P:List Int}(h:IsB P) {a k:Nat}(d:qbp P a k=0) (j:Nat) (c:j<k) (hl:a+j<P.length):P[a+j]?=some 0:=by
 have h1:=Qxo (l:=(P.drop a).take k) (fun x e=>h x (List.mem_of_mem_drop (List.mem_of_mem_take e))) k d j c
 rw[Z5,List.getElem?_take,if_pos c,List.getElem?_drop,Z3 hl] at h1
 rw[Z3 hl]
 exact congrArg some h1
structure qi3 (P Q:List Int):Prop where
 len:Q.length=448
 isB:IsB Q
 off:∀s,qav Q s=qav P s
 qcm:∀s,qad Q s=qad P s
 num:qa8 Q=qa8 P
 lsn:qaa Q=qaa P
 count:qa0 Q=(qba P (qa0 P)).1
 low:qar Q=(qba P (qa0 P)).2
 get:∀i,16<=i->Q[i]?=P[i]?
theorem Qek {P:List Int}(hl:P.length=448) (hB:IsB P) (hc:qa0 P<=40) (hn:∀s,qad P s=0->qav P s=0):qi3 P (qd5 P):=by
 have hi:=Qcn P (qa0 P)
 rw[Qte]
 generalize o:(qba P (qa0 P)).1=c at *
 generalize p:(qba P (qa0 P)).2=m at *
 have h1:12+(leB c 2).length<=P.length:=by rw[Qaa];omega
 have h2:14+(leB m 2).length<=(qbf P 12 (leB c 2)).length:=by rw[Qae _ _ _ h1,Qaa];omega
 have d:∀a k,a+k<=12\/16<=a->qbp (qbf (qbf P 12 (leB c 2)) 14 (leB m 2)) a k=qbp P a k:=fun a k h=>by
  rw[Qaj h2 (by rw[Qaa];omega),Qaj h1 (by rw[Qaa];omega)]
 have hcl:=hi.le
 have j:qa0 (qbf (qbf P 12 (leB c 2)) 14 (leB m 2))=c:=by
  unfold qa0
  rw[Qaj h2 (.inl (Z0 _))]
  unfold qbp
  rw[Qdh h1 rfl (by rw[Qaa]),Qdl c 2 2 (Z0 _)]
  exact Nat.mod_eq_of_lt oM
 refine⟨by rw[Qae _ _ _ h2,Qae _ _ _ h1,hl],Qaw (Qaw hB (Qan _ _) _) (Qan _ _) _,fun s=>?_,fun s=>?_,d _ _ (.inl oM),d _ _ (.inl oM),j.trans o.symm,?_,fun i hi=>?_⟩
 ·unfold qav
  rw[j]
  by_cases l:s<c
  ·rw[if_pos l,if_pos oM]
   exact d _ _ (.inr oM)
  ·rw[if_neg l]
   by_cases n:s<qa0 P
   ·rw[if_pos n]
    have h0:qad P s=0:=by
     rcases Nat.eq_zero_or_pos (qad P s) with h|h
     ·exact h
     ·exact absurd (hi.all s n h) l
    have:=hn s h0
    unfold qav at this
    rw[if_pos n] at this
    exact this.symm
   ·rw[if_neg n]
 ·have e:qad P s=if s<qa0 P then qbp P (18+4*s) 2 else 0:=rfl
  by_cases l:s<c
  ·rw[e,if_pos oM]
   unfold qad
   rw[j,if_pos l]
   exact d _ _ (.inr oM)
  ·unfold qad
   rw[j,if_neg l]
   by_cases n:s<qa0 P
   ·rcases Nat.eq_zero_or_pos (qad P s) with h|h
    ·exact h.symm
    ·exact absurd (hi.all s n h) l
   ·rw[if_neg n]
 ·rw[p]
  unfold qar qbp
  rw[Qdh h2 rfl (by rw[Qaa]),Qdl m 2 2 (Z0 _)]
  have:=hi.top
  exact Nat.mod_eq_of_lt oM
 ·rw[Qa1 h2,if_neg (by rw[Qaa];omega),Qa1 h1,if_neg (by rw[Qaa];omega)]
theorem Tidy.settle {P:List Int}(h:Tidy P):Sound (qd5 P):=by
 have a:=Qek h.len h.isB h.lies.fit.count h.none
 have hi:=Qcn P (qa0 P)
 generalize qd5 P=Q at *
 have e:qa0 Q<=qa0 P:=by rw[a.count];exact hi.le
 refine⟨⟨a.len,a.isB,⟨⟨Y3 e h.lies.fit.count,fun s=>by rw[a.off,a.qcm];exact h.lies.fit.ends s⟩,fun s n=>?_⟩,fun s=>by rw[a.off,a.qcm];exact h.none s,fun s=>by rw[a.qcm];exact h.small s,fun s t j=>by rw[a.off,a.qcm,a.off,a.qcm];exact h.apart s t j,fun i hi1 k o=>?_⟩,?_⟩
 ·rw[a.qcm] at n
  rw[a.off]
  have:=h.lies.behind s n
  omega
 ·rw[a.get i oM]
  by_cases p:16+4*qa0 P<=i
  ·exact h.zero i p k (fun s=>by have:=o s;rw[a.off,a.qcm] at this;exact this)
  ·have d:(i-16)/4<qa0 P:=oM
   have l:qa0 Q<=(i-16)/4:=oM
   have h0:qad P ((i-16)/4)=0:=by
    rw[<-a.qcm];exact Qb7 l
   have h1:=h.none _ h0
   have q:qbp P (16+4*((i-16)/4)) 2=0:=by
    unfold qav at h1;rw[if_pos d] at h1;exact h1
   have r:qbp P (18+4*((i-16)/4)) 2=0:=by
    unfold qad at h0;rw[if_pos d] at h0;exact h0
   have hl:=h.len
   by_cases x:i%4<2
   ·have:=Qmt h.isB q (i%4) x oM
    rw[show 16+4*((i-16)/4)+i%4=i by omega] at this
    exact this
   ·have:=Qmt h.isB r (i%4-2) oM oM
    rw[show 18+4*((i-16)/4)+(i%4-2)=i by omega] at this
    exact this
 ·rw[Qgl a.qcm a.off,a.low]
  have c:=Qrc P (qa0 Q) (fun s y=>by rw[<-a.qcm,Qb7 y];omega) (qa0 P-qa0 Q)
  rw[show qa0 Q+(qa0 P-qa0 Q)=qa0 P by omega] at c
  rw[<-c,a.count]
theorem Qgi {P:List Int}(h:P.length=448) (s o n:Nat) (hs:s<=107) (i:Nat) (hi:i<16+4*s\/20+4*s<=i):(qck P s o n)[i]?=P[i]?:=by
 have h1:16+4*s+(leB o 2).length<=P.length:=by rw[Qaa];omega
 have h2:18+4*s+(leB n 2).length<=(qbf P (16+4*s) (leB o 2)).length:=by rw[Qae _ _ _ h1,Qaa];omega
 unfold qck
 rw[Qa1 h2,if_neg (by rw[Qaa];omega),Qa1 h1,if_neg (by rw[Qaa];omega)]
theorem Qk5 {P:List Int}(h:IsB P) (s o n:Nat):IsB (qck P s o n):=Qaw (Qaw h (Qan _ _) _) (Qan _ _) _
theorem Qex (n:Nat):IsB (List.replicate n 0):=fun x a=>by rw[List.eq_of_mem_replicate a];exact⟨dC,dC⟩
theorem Qd2 {P Q:List Int} {t:Nat}(hl:qad Q t=qad P t) (c:0<qad P t->qav Q t=qav P t) (h:∀j,j<qad P t->Q[qav P t+j]?=P[qav P t+j]?):qb7 Q t=qb7 P t:=by
 unfold qb7
 rw[hl]
 refine List.ext_getElem? fun j=>?_
 rw[List.getElem?_take,List.getElem?_take]
 by_cases a:j<qad P t
 ·rw[if_pos a,if_pos a,List.getElem?_drop,List.getElem?_drop,c oM];exact h j a
 ·rw[if_neg a,if_neg a]
theorem Qny {Q m:List Int} {t:Nat}(hl:qad Q t=m.length) (h:∀j,j<m.length->Q[qav Q t+j]?=m[j]?):qb7 Q t=m:=by
 unfold qb7
 rw[hl]
 refine List.ext_getElem? fun j=>?_
 rw[List.getElem?_take]
 by_cases a:j<m.length
 ·rw[if_pos a,List.getElem?_drop];exact h j a
 ·rw[if_neg a,List.getElem?_eq_none oM]
theorem Qe7 {P:List Int} {t:Nat}(h:qad P t=0):qb7 P t=[]:=by unfold qb7;rw[h];rfl
theorem qi3.data {P Q:List Int}(a:qi3 P Q) (hl:qj5 P) (t:Nat):qb7 Q t=qb7 P t :=
 Qd2 (a.qcm t) (fun _=>a.off t) (fun j hj=>a.get _ (by have:=hl.behind t oM;omega))
def qgf (P:List Int) (s:Nat):List Int:=qck (qbf P (qav P s) (List.replicate (qad P s) 0)) s 0 0
theorem Qu8 (P:List Int) (s:Nat):Qi7 P s=qd5 (qgf P s):=rfl
structure Wiped (P Q:List Int) (s:Nat):Prop where
 len:Q.length=448
 isB:IsB Q
 count:qa0 Q=qa0 P
 off:∀t,qav Q t=if t=s then 0 else qav P t
 qcm:∀t,qad Q t=if t=s then 0 else qad P t
 num:qa8 Q=qa8 P
 lsn:qaa Q=qaa P
 get:∀i,16+4*qa0 P<=i->Q[i]?=if qav P s<=i/\i<qav P s+qad P s then some 0 else P[i]?
theorem Tidy.wipe {P:List Int}(h:Tidy P) {s:Nat}(k:0<qad P s):Wiped P (qgf P s) s:=by
 have d:s<qa0 P:=by
  rcases Nat.lt_or_ge s (qa0 P) with h1|h1
  ·exact h1
  ·rw[Qb7 h1] at k;omega
 have hc:=h.lies.fit.count
 have a:qav P s+(List.replicate (qad P s) (0:Int)).length<=P.length:=by rw[Z7,h.len];exact h.lies.fit.ends s
 have j:=h.lies.behind s k
 have c:=Qae P (qav P s) (List.replicate (qad P s) 0) a
 rw[h.len] at c
 refine⟨Qgh c s 0 0 oM,Qk5 (Qaw h.isB (Qex _) _) _ _ _,?_,fun t=>?_,fun t=>?_,?_,?_,fun i hi=>?_⟩
 ·unfold qgf;rw[Qcc c s 0 0 oM,Qa9 a j]
 ·unfold qgf
  rw[Qe5 c s 0 0 oM oM,Qem a j,Qa9 a j]
  by_cases e:t=s
  ·rw[if_pos ⟨e,d⟩,if_pos e]
  ·rw[if_neg (fun h=>e h.1),if_neg e]
 ·unfold qgf
  rw[Qe6 c s 0 0 oM oM,Qen a j,Qa9 a j]
  by_cases e:t=s
  ·rw[if_pos ⟨e,d⟩,if_pos e]
  ·rw[if_neg (fun h=>e h.1),if_neg e]
 ·unfold qgf qa8
  rw[Qbq c s 0 0 oM (.inl oM),Qaj a (.inl oM)]
 ·unfold qgf qaa
  rw[Qbq c s 0 0 oM (.inl oM),Qaj a (.inl oM)]
 ·unfold qgf
  rw[Qgi c s 0 0 oM i (.inr oM),Qa1 a,Z7]
  by_cases e:qav P s<=i/\i<qav P s+qad P s
  ·rw[if_pos e,if_pos e,List.getElem?_replicate,if_pos oM]
  ·rw[if_neg e,if_neg e]
theorem Tidy.wiped {P:List Int}(h:Tidy P) {s:Nat}(l:0<qad P s):Tidy (qgf P s):=by
 have a:=h.wipe l
 generalize qgf P s=Q at *
 refine⟨a.len,a.isB,⟨⟨by rw[a.count];exact h.lies.fit.count,fun t=>?_⟩,fun t c=>?_⟩,fun t c=>?_,fun t=>?_,fun t u j h1 h2=>?_,fun i h1 h2 n=>?_⟩
 ·rw[a.off,a.qcm]
  by_cases e:t=s
  ·rw[if_pos e,if_pos e];omega
  ·rw[if_neg e,if_neg e];exact h.lies.fit.ends t
 ·rw[a.qcm] at c
  rw[a.count,a.off]
  by_cases e:t=s
  ·rw[if_pos e] at c;omega
  ·rw[if_neg e] at c
   rw[if_neg e];exact h.lies.behind t c
 ·rw[a.qcm] at c
  rw[a.off]
  by_cases e:t=s
  ·rw[if_pos e]
  ·rw[if_neg e] at c
   rw[if_neg e];exact h.none t c
 ·rw[a.qcm]
  by_cases e:t=s
  ·rw[if_pos e];omega
  ·rw[if_neg e];exact h.small t
 ·rw[a.qcm] at h1 h2
  by_cases e:t=s
  ·rw[if_pos e] at h1;omega
  ·by_cases d:u=s
   ·rw[if_pos d] at h2;omega
   ·rw[if_neg e] at h1
    rw[if_neg d] at h2
    rw[a.off,a.off,a.qcm,a.qcm,if_neg e,if_neg e,if_neg d,if_neg d]
    exact h.apart t u j h1 h2
 ·rw[a.count] at h1
  rw[a.get i h1]
  by_cases e:qav P s<=i/\i<qav P s+qad P s
  ·rw[if_pos e]
  ·rw[if_neg e]
   refine h.zero i h1 h2 (fun t=>?_)
   by_cases k:t=s
   ·subst k;omega
   ·have:=n t
    rw[a.off,a.qcm,if_neg k,if_neg k] at this
    exact this
structure qj3 (P Q:List Int) (s:Nat):Prop where
 sound:Sound Q
 qcm:∀t,qad Q t=if t=s then 0 else qad P t
 count:qa0 Q<=qa0 P
 num:qa8 Q=qa8 P
 lsn:qaa Q=qaa P
 data:∀t,qb7 Q t=if t=s then [] else qb7 P t
theorem Tidy.clear {P:List Int}(h:Tidy P) {s:Nat}(i:0<qad P s):qj3 P (Qi7 P s) s:=by
 have a:=h.wipe i
 have d:=h.wiped i
 rw[Qu8]
 have c:=Qek d.len d.isB d.lies.fit.count d.none
 refine⟨d.settle,fun t=>by rw[c.qcm,a.qcm],?_,c.num.trans a.num,c.lsn.trans a.lsn,fun t=>?_⟩
 ·rw[c.count,<-a.count]
  exact(Qcn _ _).le
 ·by_cases e:t=s
  ·rw[if_pos e];exact Qe7 (by rw[c.qcm,a.qcm,if_pos e])
  ·rw[if_neg e]
   refine Qd2 (by rw[c.qcm,a.qcm,if_neg e]) (fun _=>by rw[c.off,a.off,if_neg e]) (fun j hj=>?_)
   have hb:=h.lies.behind t oM
   have hap:=h.apart s t (fun q=>e q.symm) i oM
   rw[c.get _ oM,a.get _ oM,if_neg oM]
theorem Sound.over {P m:List Int}(h:Sound P) {s:Nat}(l:0<qad P s) (n:m.length=qad P s) (hB:IsB m):Sound (qbf P (qav P s) m)/\qa8 (qbf P (qav P s) m)=qa8 P/\qaa (qbf P (qav P s) m)=qaa P/\∀t,qb7 (qbf P (qav P s) m) t=if t=s then m else qb7 P t:=by
 have a:qav P s+m.length<=P.length:=by rw[n,h.tidy.len];exact h.tidy.lies.fit.ends s
 have d:=h.tidy.lies.behind s l
 have c:=Qem a d
 have hl:=Qen a d
 have o:=Qa9 a d
 refine⟨⟨⟨by rw[Qae _ _ _ a];exact h.tidy.len,Qaw h.tidy.isB hB _,h.tidy.lies.laid a d,fun t=>by rw[c,hl];exact h.tidy.none t,fun t=>by rw[hl];exact h.tidy.small t,fun t u k=>by rw[hl,hl,c,c];exact h.tidy.apart t u k,fun i h1 h2 p=>?_⟩,?_⟩,Qaj a (.inl oM),Qaj a (.inl oM),fun t=>?_⟩
 ·rw[o] at h1
  have r:=p s
  rw[c,hl] at r
  rw[Qa1 a,if_neg oM]
  exact h.tidy.zero i h1 h2 (fun t=>by have:=p t;rw[c,hl] at this;exact this)
 ·rw[Qgl hl c,o]
  have:qar (qbf P (qav P s) m)=qar P:=Qaj a (.inl oM)
  rw[this];exact h.head
 ·by_cases e:t=s
  ·subst e
   rw[if_pos rfl]
   refine Qny (by rw[hl,n]) (fun j x=>?_)
   rw[c,Qa1 a,if_pos oM,Nat.add_sub_cancel_left]
  ·rw[if_neg e]
   refine Qd2 (hl t) (fun _=>c t) (fun j x=>?_)
   have hap:=h.tidy.apart s t (fun q=>e q.symm) l oM
   rw[Qa1 a,if_neg oM]
def qdl (P:List Int) (s:Nat):List Int:=qbf P 12 (leB (max (qa0 P) (s+1)) 2)
def qfm (P:List Int) (s:Nat) (m:List Int):List Int:=qck (qbf (qdl P s) (qar P-m.length) m) s (qar P-m.length) m.length
theorem Sound.low {P:List Int}(h:Sound P) (s:Nat) (a:0<qad P s):qar P<=qav P s:=by
 have hi:=Qcn P (qa0 P)
 rw[h.head] at hi
 refine hi.low s ?_ a
 rcases Nat.lt_or_ge s (qa0 P) with h1|h1
 ·exact h1
 ·rw[Qb7 h1] at a;omega
theorem Sound.top {P:List Int}(h:Sound P):qar P<=448:=by
 have hi:=Qcn P (qa0 P)
 rw[h.head] at hi
 exact hi.top
theorem Sound.more {P:List Int}(h:Sound P) {s:Nat}(hs:s<40) (hroom:16+4*max (qa0 P) (s+1)<=qar P) :
 Tidy (qdl P s)/\qa0 (qdl P s)=max (qa0 P) (s+1)/\(∀t,qav (qdl P s) t=qav P t)/\(∀t,qad (qdl P s) t=qad P t)/\qa8 (qdl P s)=qa8 P/\qaa (qdl P s)=qaa P/\(∀i,16<=i->(qdl P s)[i]?=P[i]?):=by
 have hc40:=h.tidy.lies.fit.count
 have n:=h.tidy.len
 have htop:=h.top
 have h1:12+(leB (max (qa0 P) (s+1)) 2).length<=P.length:=by rw[Qaa];omega
 have e:∀a k,a+k<=12\/14<=a->qbp (qdl P s) a k=qbp P a k:=fun a k h=>by
  unfold qdl
  rw[Qaj h1 (by rw[Qaa];omega)]
 have j:qa0 (qdl P s)=max (qa0 P) (s+1):=by
  unfold qdl
  show qbp _ _ _=_
  unfold qbp
  rw[Qdh h1 rfl (by rw[Qaa]),Qdl _ 2 2 (Z0 _)]
  exact Nat.mod_eq_of_lt oM
 have o:∀i,14<=i->(qdl P s)[i]?=P[i]?:=fun i hi=>by
  unfold qdl
  rw[Qa1 h1,if_neg (by rw[Qaa];omega)]
 have x:∀i,16+4*qa0 P<=i->i<qar P->P[i]?=some 0:=fun i h1 h2=>h.tidy.zero i h1 oM (fun t=>by
  rcases Nat.eq_zero_or_pos (qad P t) with h0|h0
  ·have:=h.tidy.none t h0;omega
  ·have:=h.low t h0;omega)
 have p:∀a,16+4*qa0 P<=a->a+2<=qar P->qbp P a 2=0:=fun a h1 h2=>by
  have z:=x a h1 oM
  have B:=x (a+1) oM oM
  unfold qbp
  show (0+(((P.drop a).take 2).getD 0 0).toNat*2 ^ (8*0))+(((P.drop a).take 2).getD 1 0).toNat*2 ^ (8*1)=0
  rw[Z5,Z5,List.getElem?_take,List.getElem?_take,if_pos oM,if_pos oM,List.getElem?_drop,List.getElem?_drop,Nat.add_zero,z,B]
  rfl
 have c:∀t,qav (qdl P s) t=qav P t:=fun t=>by
  unfold qav
  rw[j]
  by_cases h2:t<qa0 P
  ·rw[if_pos oM,if_pos h2];exact e _ _ (.inr oM)
  ·rw[if_neg h2]
   by_cases l:t<max (qa0 P) (s+1)
   ·rw[if_pos l,e _ _ (.inr oM)];exact p _ oM oM
   ·rw[if_neg l]
 have d:∀t,qad (qdl P s) t=qad P t:=fun t=>by
  unfold qad
  rw[j]
  by_cases h2:t<qa0 P
  ·rw[if_pos oM,if_pos h2];exact e _ _ (.inr oM)
  ·rw[if_neg h2]
   by_cases l:t<max (qa0 P) (s+1)
   ·rw[if_pos l,e _ _ (.inr oM)];exact p _ oM oM
   ·rw[if_neg l]
 refine⟨⟨by unfold qdl;rw[Qae _ _ _ h1,n],Qaw h.tidy.isB (Qan _ _) _,⟨⟨by rw[j];omega,fun t=>by rw[c,d];exact h.tidy.lies.fit.ends t⟩,fun t y=>?_⟩,fun t=>by rw[c,d];exact h.tidy.none t,fun t=>by rw[d];exact h.tidy.small t,fun t u q=>by rw[d,d,c,c];exact h.tidy.apart t u q,fun i h2 l r=>?_⟩,j,c,d,e _ _ (.inl oM),e _ _ (.inl oM),fun i hi=>o i oM⟩
 ·rw[d] at y
  rw[j,c]
  have:=h.low t y;omega
 ·rw[j] at h2
  rw[o i oM]
  exact h.tidy.zero i oM l (fun t=>by have:=r t;rw[c,d] at this;exact this)
theorem Sound.laid {P m:List Int}(h:Sound P) {s:Nat}(J:s<40) (h0:qad P s=0) (hm0:0<m.length) (L:m.length<=64) (hB:IsB m) (hroom:16+4*max (qa0 P) (s+1)+m.length<=qar P) :
 Tidy (qfm P s m)/\qa8 (qfm P s m)=qa8 P/\qaa (qfm P s m)=qaa P/\∀t,qb7 (qfm P s m) t=if t=s then m else qb7 P t:=by
 obtain⟨y,G,M,hl,q,r,x⟩:=h.more J oM
 have htop:=h.top
 have l:=h.low
 unfold qfm
 generalize qdl P s=Q at *
 generalize hat:qar P-m.length=a at *
 have d:a+m.length<=Q.length:=by rw[y.len];omega
 have z:16+4*qa0 Q<=a:=by rw[G];omega
 have c:=Qae Q a m d
 rw[y.len] at c
 have O:=Qem d z
 have p:=Qen d z
 have B:=Qa9 d z
 have f1:∀t,qav (qck (qbf Q a m) s a m.length) t=if t=s then a else qav P t:=fun t=>by
  rw[Qe5 c s a m.length oM oM,O,B,M]
  by_cases e:t=s
  ·rw[if_pos ⟨e,oM⟩,if_pos e]
  ·rw[if_neg (fun h=>e h.1),if_neg e]
 have n:∀t,qad (qck (qbf Q a m) s a m.length) t=if t=s then m.length else qad P t:=fun t=>by
  rw[Qe6 c s a m.length oM oM,p,B,hl]
  by_cases e:t=s
  ·rw[if_pos ⟨e,oM⟩,if_pos e]
  ·rw[if_neg (fun h=>e h.1),if_neg e]
 have C:qa0 (qck (qbf Q a m) s a m.length)=max (qa0 P) (s+1):=by rw[Qcc c s a m.length oM,B,G]
 have D:∀i,16+4*max (qa0 P) (s+1)<=i->(qck (qbf Q a m) s a m.length)[i]?=if a<=i/\i<a+m.length then m[i-a]? else P[i]?:=fun i hi=>by
  rw[Qgi c s a m.length oM i (.inr oM),Qa1 d,x i oM]
 have R:qa8 (qck (qbf Q a m) s a m.length)=qa8 P:=by
  rw[<-q]
  unfold qa8
  rw[Qbq c s a m.length oM (.inl oM),Qaj d (.inl oM)]
 have f6:qaa (qck (qbf Q a m) s a m.length)=qaa P:=by
  rw[<-r]
  unfold qaa
  rw[Qbq c s a m.length oM (.inl oM),Qaj d (.inl oM)]
 refine⟨⟨Qgh c s a m.length oM,Qk5 (Qaw y.isB hB _) _ _ _,⟨⟨by rw[C];have:=h.tidy.lies.fit.count;omega,fun t=>?_⟩,fun t k=>?_⟩,fun t k=>?_,fun t=>?_,fun t u o h1 h2=>?_,fun i h1 h2 I=>?_⟩,R,f6,fun t=>?_⟩
 ·rw[f1,n]
  by_cases e:t=s
  ·rw[if_pos e,if_pos e];omega
  ·rw[if_neg e,if_neg e];exact h.tidy.lies.fit.ends t
 ·rw[n] at k
  rw[C,f1]
  by_cases e:t=s
  ·rw[if_pos e];omega
  ·rw[if_neg e] at k
   rw[if_neg e]
   have:=l t k;omega
 ·rw[n] at k
  rw[f1]
  by_cases e:t=s
  ·rw[if_pos e] at k;omega
  ·rw[if_neg e] at k
   rw[if_neg e];exact h.tidy.none t k
 ·rw[n]
  by_cases e:t=s
  ·rw[if_pos e];exact L
  ·rw[if_neg e];exact h.tidy.small t
 ·rw[n] at h1 h2
  rw[f1,f1,n,n]
  by_cases e:t=s
  ·subst e
   rw[if_neg (fun e=>o e.symm)] at h2
   rw[if_pos rfl,if_pos rfl,if_neg (fun e=>o e.symm),if_neg (fun e=>o e.symm)]
   have:=l u h2;omega
  ·rw[if_neg e] at h1
   rw[if_neg e,if_neg e]
   by_cases p:u=s
   ·subst p
    rw[if_pos rfl,if_pos rfl]
    have:=l t h1;omega
   ·rw[if_neg p] at h2
    rw[if_neg p,if_neg p]
    exact h.tidy.apart t u o h1 h2
 ·rw[C] at h1
  have E:=I s
  rw[f1,n,if_pos rfl,if_pos rfl] at E
  rw[D i h1,if_neg oM]
  refine h.tidy.zero i oM h2 (fun t=>?_)
  by_cases F:t=s
  ·subst F
   have:=h.tidy.none t h0;omega
  ·have:=I t
   rw[f1,n,if_neg F,if_neg F] at this
   exact this
 ·by_cases e:t=s
  ·subst e
   rw[if_pos rfl]
   refine Qny (by rw[n,if_pos rfl]) (fun j U=>?_)
   rw[f1,if_pos rfl,D _ oM,if_pos oM,Nat.add_sub_cancel_left]
  ·rw[if_neg e]
   refine Qd2 (by rw[n,if_neg e]) (fun _=>by rw[f1,if_neg e]) (fun j U=>?_)
   have hlt:=l t oM
   rw[D _ oM,if_neg oM]
def Qcr (P:List Int) (l:List Nat):Nat->List Int
 | 0=>P
 | i+1=>qbf (Qcr P l i) (qav P (l.getD i 0)) (List.replicate (qad P (l.getD i 0)) 0)
structure qhh (P Q:List Int):Prop where
 len:Q.length=448
 isB:IsB Q
 lies:qj5 Q
 count:qa0 Q=qa0 P
 off:∀t,qav Q t=qav P t
 qcm:∀t,qad Q t=qad P t
 num:qa8 Q=qa8 P
 lsn:qaa Q=qaa P
theorem qhh.refl {P:List Int}(h:Tidy P):qhh P P:=⟨h.len,h.isB,h.lies,rfl,fun _=>rfl,fun _=>rfl,rfl,rfl⟩
theorem qhh.one {P Q:List Int}(h:qhh P Q) {s:Nat}(e:0<qad P s):qhh P (qbf Q (qav P s) (List.replicate (qad P s) 0)):=by
 have d:0<qad Q s:=by rw[h.qcm];exact e
 rw[<-h.off,<-h.qcm]
 have a:qav Q s+(List.replicate (qad Q s) (0:Int)).length<=Q.length:=by rw[Z7,h.len];exact h.lies.fit.ends s
 have c:=h.lies.behind s d
 exact⟨by rw[Qae _ _ _ a];exact h.len,Qaw h.isB (Qex _) _,h.lies.laid a c,(Qa9 a c).trans h.count,fun t=>(Qem a c t).trans (h.off t),fun t=>(Qen a c t).trans (h.qcm t),(Qaj a (.inl oM)).trans h.num,(Qaj a (.inl oM)).trans h.lsn⟩
theorem Qf3 {P:List Int}(h:Tidy P) {l:List Nat}(hl:∀s∈l,0<qad P s) (i:Nat) (hi:i<=l.length):qhh P (Qcr P l i):=by
 induction i with
 | zero=>exact qhh.refl h
 | succ i ih =>
   refine(ih oM).one (hl _ ?_)
   rw[Z5,Z3 oM]
   exact List.getElem_mem _
theorem Qsu {P:List Int}(h:Tidy P) {l:List Nat}(hl:∀s∈l,0<qad P s) (k:Nat) (h1:16+4*qa0 P<=k) (h2:k<448) (i:Nat) (hi:i<=l.length) (c:∀t,(∀j,j<i->l.getD j 0≠t)->k<qav P t\/qav P t+qad P t<=k):(Qcr P l i)[k]?=some 0:=by
 induction i with
 | zero=>exact h.zero k h1 h2 (fun t=>c t (fun j n=>oM))
 | succ i ih =>
   have o:=Qf3 h hl i oM
   have hp:0<qad P (l.getD i 0):=hl _ (by
    rw[Z5,Z3 oM]
    exact List.getElem_mem _)
   have a:qav P (l.getD i 0)+(List.replicate (qad P (l.getD i 0)) (0:Int)).length<=(Qcr P l i).length:=by rw[Z7,o.len];exact h.lies.fit.ends _
   show (qbf (Qcr P l i) _ _)[k]?=_
   rw[Qa1 a,Z7]
   by_cases e:qav P (l.getD i 0)<=k/\k<qav P (l.getD i 0)+qad P (l.getD i 0)
   ·rw[if_pos e,List.getElem?_replicate,if_pos oM]
   ·rw[if_neg e]
    refine ih oM (fun t p=>?_)
    by_cases d:l.getD i 0=t
    ·subst d;omega
    ·refine c t (fun j n=>?_)
     by_cases q:j=i
     ·subst q;exact d
     ·exact p j oM
theorem Qp2 {P:List Int}(h:Tidy P) {l:List Nat}(hl:∀s∈l,0<qad P s) (t:Nat) (i:Nat) (hi:i<=l.length) (e:∀j,j<i->l.getD j 0≠t):qb7 (Qcr P l i) t=qb7 P t:=by
 induction i with
 | zero=>rfl
 | succ i ih =>
   have a:=Qf3 h hl i oM
   have n:0<qad P (l.getD i 0):=hl _ (by
    rw[Z5,Z3 oM]
    exact List.getElem_mem _)
   have c:qav P (l.getD i 0)+(List.replicate (qad P (l.getD i 0)) (0:Int)).length<=(Qcr P l i).length:=by rw[Z7,a.len];exact h.lies.fit.ends _
   have d:=Qf3 h hl (i+1) hi
   rw[<-ih oM (fun j k=>e j oM)]
   refine Qd2 ((d.qcm t).trans (a.qcm t).symm) (fun _=>(d.off t).trans (a.off t).symm) (fun j k=>?_)
   rw[a.qcm] at k
   rw[a.off]
   have hap:=h.apart _ t (e i oM) n oM
   show (qbf (Qcr P l i) _ _)[_]?=_
   rw[Qa1 c,Z7,if_neg oM]
def sumTo (P:List Int) (l:List Nat):Nat->Nat
 | 0=>0
 | i+1=>sumTo P l i+qad P (l.getD i 0)
theorem Qox (P:List Int) (l m:List Nat) (i:Nat) (hi:i<=l.length):sumTo P (l++m) i=sumTo P l i:=by
 induction i with
 | zero=>rfl
 | succ i ih =>
   have e:(l++m).getD i 0=l.getD i 0:=by
    rw[Z5,Z5,Y5 oM]
   show sumTo P (l++m) i+qad P ((l++m).getD i 0)=sumTo P l i+qad P (l.getD i 0)
   rw[e,ih oM]
theorem Qgs (P:List Int) (q:Nat):sumTo P (Qas P q) (Qas P q).length=qbs P q:=by
 induction q with
 | zero=>rfl
 | succ q ih =>
   rw[Qf8]
   by_cases h:0<qad P q
   ·rw[if_pos h,Z6]
    show sumTo P (Qas P q++[q]) (Qas P q).length+qad P ((Qas P q++[q]).getD (Qas P q).length 0)=qbs P q+qad P q
    have e:(Qas P q++[q]).getD (Qas P q).length 0=q:=by
     rw[Z5,Y6 (Z0 _)];simp
    rw[e,Qox _ _ _ _ (Z0 _),ih]
   ·rw[if_neg h,List.append_nil,ih]
    show qbs P q=qbs P q+qad P q
    omega
theorem Qcf (P:List Int) (l:List Nat) {i j:Nat}(h:i<=j):sumTo P l i<=sumTo P l j:=by
 induction j with
 | zero =>
    obtain rfl:i=0:=oM
    exact Z0 _
 | succ j ih =>
   by_cases e:i=j+1
   ·rw[e];exact Z0 _
   ·exact Y3 (ih oM) (Nat.le_add_right _ _)
def qhs (P:List Int) (l:List Nat):Nat->Nat->Nat
 | 0,t=>qav P t
 | i+1,t=>if t=l.getD i 0 then 448-sumTo P l (i+1) else qhs P l i t
def Qm6 (l:List Nat):Prop:=∀i j,i<j->j<l.length->l.getD i 0<l.getD j 0
theorem Qb2 (P:List Int) (q:Nat):Qm6 (Qas P q):=by
 intro i j a c
 have h1:List.Pairwise (·<·) (Qas P q):=List.pairwise_lt_range.filter _
 have:=List.pairwise_iff_getElem.1 h1 i j oM c a
 rw[Z5,Z5,Z3 oM,Z3 c]
 exact this
theorem Qn0 (P:List Int) {l:List Nat}(a:Qm6 l) (i j:Nat) (hj:j<i) (hi:i<=l.length):qhs P l i (l.getD j 0)=448-sumTo P l (j+1):=by
 induction i with
 | zero=>omega
 | succ i ih =>
   show (if l.getD j 0=l.getD i 0 then 448-sumTo P l (i+1) else qhs P l i (l.getD j 0))=_
   by_cases e:j=i
   ·subst e;rw[if_pos rfl]
   ·have:=a j i oM oM
    rw[if_neg oM]
    exact ih oM oM
theorem Qpg (P:List Int) {l:List Nat}(t:Nat) (a:t ∉ l) (i:Nat) (hi:i<=l.length):qhs P l i t=qav P t:=by
 induction i with
 | zero=>rfl
 | succ i ih =>
   show (if t=l.getD i 0 then 448-sumTo P l (i+1) else qhs P l i t)=_
   rw[if_neg (fun e=>a (by
    rw[e,Z5,Z3 oM]
    exact List.getElem_mem _))]
   exact ih oM
structure qfe (P R:List Int) (l:List Nat) (i:Nat):Prop where
 len:R.length=448
 isB:IsB R
 count:qa0 R=qa0 P
 qcm:∀t,qad R t=qad P t
 off:∀t,qav R t=qhs P l i t
 get:∀k,16+4*qa0 P<=k->k<448-sumTo P l i->R[k]?=some 0
 num:qa8 R=qa8 P
 lsn:qaa R=qaa P
 data:∀j,j<i->qb7 R (l.getD j 0)=qb7 P (l.getD j 0)
theorem Qha {P:List Int} {q t:Nat}(c:t<q) (d:0<qad P t):∃j,j<(Qas P q).length/\(Qas P q).getD j 0=t:=by
 have e:t∈Qas P q:=List.mem_filter.2 ⟨List.mem_range.2 c,by simpa using d⟩
 obtain⟨j,a,h⟩:=List.mem_iff_getElem.1 e
 exact⟨j,a,by rw[Z5,Z3 a];exact h⟩
theorem Qdr {P:List Int}:∀s∈Qab P,0<qad P s:=fun s a=>(Qcx a).2
theorem qfe.start {P:List Int}(h:Tidy P):qfe P (Qcr P (Qab P) (Qab P).length) (Qab P) 0:=by
 have a:=Qf3 h (l:=Qab P) Qdr _ (Z0 _)
 refine⟨a.len,a.isB,a.count,a.qcm,a.off,fun k h1 h2=>Qsu h Qdr k h1 h2 _ (Z0 _) (fun t i=>?_),a.num,a.lsn,fun j e=>oM⟩
 rcases Nat.eq_zero_or_pos (qad P t) with h0|h0
 ·have:=h.none t h0;omega
 ·have c:t<qa0 P:=by
   rcases Nat.lt_or_ge t (qa0 P) with d|d
   ·exact d
   ·rw[Qb7 d] at h0;omega
  obtain⟨j,e,n⟩:=Qha (P:=P) c h0
  exact absurd n (i j e)
theorem qfe.next {P R m:List Int}(h:Tidy P) (hroom:16+4*qa0 P+qd4 P<=448) {i:Nat}(hi:i<(Qab P).length) (l:qfe P R (Qab P) i) {s a:Nat}(x:s=(Qab P).getD i 0) (G:a=448-sumTo P (Qab P) (i+1)) (z:m.length=qad P s) (B:m=qb7 P s) (hB:IsB m) :
 qfe P (qck (qbf R a m) s a m.length) (Qab P) (i+1):=by
 have y:s∈Qab P:=by
  rw[x,Z5,Z3 hi]
  exact List.getElem_mem _
 obtain⟨C,hsp⟩:=Qcx y
 have hc40:=h.lies.fit.count
 have hsum:sumTo P (Qab P) (i+1)=sumTo P (Qab P) i+qad P s:=by rw[x];rfl
 have hle:sumTo P (Qab P) (i+1)<=qd4 P:=by
  unfold qd4
  rw[<-Qgs]
  exact Qcf P _ hi
 have c:a+m.length<=R.length:=by rw[l.len,z];omega
 have p:16+4*qa0 R<=a:=by rw[l.count];omega
 have d:=Qae R a m c
 rw[l.len] at d
 have n:s<qa0 (qbf R a m):=by rw[Qa9 c p,l.count];exact C
 have hpl:qad P s<=64:=h.small s
 refine⟨Qgh d s a _ oM,Qk5 (Qaw l.isB hB _) _ _ _,by rw[Qcc d s a _ oM,Qa9 c p,l.count],fun t=>?_,fun t=>?_,fun k h1 h2=>?_,?_,?_,fun j hj=>?_⟩
 ·rw[Qe6 d s a _ oM oM,Qen c p,l.qcm]
  by_cases e:t=s
  ·rw[if_pos ⟨e,n⟩,e,z]
  ·rw[if_neg (fun h=>e h.1)]
 ·rw[Qe5 d s a _ oM oM,Qem c p,l.off]
  show _=if t=(Qab P).getD i 0 then 448-sumTo P (Qab P) (i+1) else qhs P (Qab P) i t
  rw[<-x,<-G]
  by_cases e:t=s
  ·rw[if_pos ⟨e,n⟩,if_pos e]
  ·rw[if_neg (fun h=>e h.1),if_neg e]
 ·rw[Qgi d s a _ oM k (.inr oM),Qa1 c,if_neg oM]
  exact l.get k h1 oM
 ·rw[<-l.num]
  unfold qa8
  rw[Qbq d s a _ oM (.inl oM),Qaj c (.inl oM)]
 ·rw[<-l.lsn]
  unfold qaa
  rw[Qbq d s a _ oM (.inl oM),Qaj c (.inl oM)]
 ·have q:∀t,qad (qck (qbf R a m) s a m.length) t=qad P t:=fun t=>by
   rw[Qe6 d s a _ oM oM,Qen c p,l.qcm]
   by_cases e:t=s
   ·rw[if_pos ⟨e,n⟩,e,z]
   ·rw[if_neg (fun h=>e h.1)]
  have r:∀t,qav (qck (qbf R a m) s a m.length) t=if t=s then a else qav R t:=fun t=>by
   rw[Qe5 d s a _ oM oM,Qem c p]
   by_cases e:t=s
   ·rw[if_pos ⟨e,n⟩,if_pos e]
   ·rw[if_neg (fun h=>e h.1),if_neg e]
  by_cases e:j=i
  ·subst e
   rw[<-x,<-B]
   refine Qny (by rw[q,z]) (fun k I=>?_)
   rw[r,if_pos rfl,Qgi d s a _ oM _ (.inr (by rw[l.count] at p;omega)),Qa1 c,if_pos oM,Nat.add_sub_cancel_left]
  ·have o:j<i:=oM
   have D:(Qab P).getD j 0≠s:=by have:=Qb2 P (qa0 P) j i o hi;show (Qab P).getD j 0≠s;rw[x];exact Nat.ne_of_lt this
   rw[<-l.data j o]
   have E:=Qn0 P (Qb2 P (qa0 P)) i j o (Nat.le_of_lt hi)
   have hmono:=Qcf P (Qab P) (show j+1<=i from o)
   refine Qd2 ((q _).trans (l.qcm _).symm) (fun _=>by rw[r,if_neg D]) (fun k I=>?_)
   have F:qav R ((Qab P).getD j 0)=448-sumTo P (Qab P) (j+1):=by rw[l.off];exact E
   rw[F,Qgi d s a _ oM _ (.inr (by rw[l.count] at p;omega)),Qa1 c,if_neg oM]
theorem qfe.tidy {P R:List Int}(h:Tidy P) (hroom:16+4*qa0 P+qd4 P<=448) (d:qfe P R (Qab P) (Qab P).length):Tidy R:=by
 have p:Qm6 (Qab P):=Qb2 P _
 have q:sumTo P (Qab P) (Qab P).length=qd4 P:=Qgs P _
 have e:∀t,0<qad P t->∃j,j<(Qab P).length/\(Qab P).getD j 0=t:=fun t z=>by
  refine Qha ?_ z
  rcases Nat.lt_or_ge t (qa0 P) with r|r
  ·exact r
  ·rw[Qb7 r] at z;omega
 have a:∀j,j<(Qab P).length->qav R ((Qab P).getD j 0)=448-sumTo P (Qab P) (j+1):=fun j l=>by
  rw[d.off];exact Qn0 P p _ j l (Z0 _)
 have c:∀j,j<(Qab P).length->sumTo P (Qab P) (j+1)=sumTo P (Qab P) j+qad P ((Qab P).getD j 0)/\sumTo P (Qab P) (j+1)<=qd4 P:=fun j l=>⟨rfl,by rw[<-q];exact Qcf P _ l⟩
 have n:∀t,qad R t=0->qav R t=0:=fun t s=>by
  rw[d.qcm] at s
  rw[d.off,Qpg P t (fun B=>by have:=Qdr t B;omega) _ (Z0 _)]
  exact h.none t s
 refine⟨d.len,d.isB,⟨⟨by rw[d.count];exact h.lies.fit.count,fun t=>?_⟩,fun t s=>?_⟩,n,fun t=>by rw[d.qcm];exact h.small t,fun t u y h1 h2=>?_,fun k h1 h2 C=>?_⟩
 ·rcases Nat.eq_zero_or_pos (qad R t) with h0|h0
  ·rw[n t h0,h0];omega
  ·rw[d.qcm] at h0 ⊢
   obtain⟨j,l,rfl⟩:=e t h0
   rw[a j l]
   have:=c j l;omega
 ·rw[d.qcm] at s
  obtain⟨j,l,rfl⟩:=e t s
  rw[d.count,a j l]
  have:=c j l;omega
 ·rw[d.qcm] at h1 h2 ⊢
  rw[d.qcm]
  obtain⟨j,l,rfl⟩:=e t h1
  obtain⟨k,x,rfl⟩:=e u h2
  rw[a j l,a k x]
  have a1:=c j l
  have a2:=c k x
  rcases Nat.lt_trichotomy j k with o|o|o
  ·have:=Qcf P (Qab P) (show j+1<=k from o);omega
  ·subst o;exact absurd rfl y
  ·have:=Qcf P (Qab P) (show k+1<=j from o);omega
 ·rw[d.count] at h1
  rcases Nat.lt_or_ge k (448-sumTo P (Qab P) (Qab P).length) with r|r
  ·exact d.get k h1 r
  ·exfalso
   have key:∀i,i<=(Qab P).length->¬(448-sumTo P (Qab P) i<=k):=by
    intro i
    induction i with
    | zero=>intro _ x;exact absurd x (by show ¬(448-0<=k);omega)
    | succ i ih =>
      intro hi x
      have h4:=ih oM
      have D:=C ((Qab P).getD i 0)
      rw[a i oM,d.qcm] at D
      have:=c i oM;omega
   exact key _ (Z0 _) r
structure qie (P Q:List Int):Prop where
 sound:Sound Q
 qcm:∀t,qad Q t=qad P t
 count:qa0 Q<=qa0 P
 low:qar Q=448-qd4 P
 num:qa8 Q=qa8 P
 lsn:qaa Q=qaa P
 data:∀t,qb7 Q t=qb7 P t
theorem qfe.done {P R:List Int}(h:Tidy P) (n:16+4*qa0 P+qd4 P<=448) (d:qfe P R (Qab P) (Qab P).length):qie P (qd5 R):=by
 have o:Qm6 (Qab P):=Qb2 P _
 have e:sumTo P (Qab P) (Qab P).length=qd4 P:=Qgs P _
 have i:∀t,0<qad P t->∃j,j<(Qab P).length/\(Qab P).getD j 0=t:=fun t x=>by
  refine Qha ?_ x
  rcases Nat.lt_or_ge t (qa0 P) with p|p
  ·exact p
  ·rw[Qb7 p] at x;omega
 have l:∀j,j<(Qab P).length->qav R ((Qab P).getD j 0)=448-sumTo P (Qab P) (j+1):=fun j k=>by
  rw[d.off];exact Qn0 P o _ j k (Z0 _)
 have a:=d.tidy h n
 have q:=Qek a.len a.isB a.lies.fit.count a.none
 refine⟨a.settle,fun t=>(q.qcm t).trans (d.qcm t),by rw[q.count,<-d.count];exact(Qcn _ _).le,?_,q.num.trans d.num,q.lsn.trans d.lsn,fun t=>?_⟩
 rotate_left
 ·rw[q.data a.lies]
  rcases Nat.eq_zero_or_pos (qad P t) with h0|h0
  ·rw[Qe7 h0,Qe7 (by rw[d.qcm];exact h0)]
  ·obtain⟨j,k,rfl⟩:=i t h0
   exact d.data j k
 rw[q.low,d.count]
 have hi:=Qcn R (qa0 P)
 generalize (qba R (qa0 P)).2=m at *
 generalize (qba R (qa0 P)).1=c at *
 rw[<-e]
 have hU:sumTo P (Qab P) (Qab P).length<=448:=by rw[e];omega
 by_cases r:(Qab P).length=0
 ·rw[r]
  show m=448-0
  rcases hi.is with h1|⟨s,h1,h2,p⟩
  ·omega
  ·rw[d.qcm] at h2
   obtain⟨j,k,_⟩:=i s h2
   omega
 ·have k:(Qab P).length-1<(Qab P).length:=oM
  have y:(Qab P).getD ((Qab P).length-1) 0∈Qab P:=by
   rw[Z5,Z3 k]
   exact List.getElem_mem _
  have h1:=hi.low _ (Qcx y).1 (by rw[d.qcm];exact(Qcx y).2)
  rw[l _ k,show (Qab P).length-1+1=(Qab P).length by omega] at h1
  rcases hi.is with h2|⟨s,h2,p,z⟩
  ·omega
  ·rw[d.qcm] at p
   obtain⟨j,k,rfl⟩:=i s p
   rw[l j k] at z
   have:=Qcf P (Qab P) (show j+1<=(Qab P).length from k)
   omega
structure NV (n0:Nat) (w:World) (τ:qa1) (g:Tag) (v:Value) (ls:List (List Int)):Prop where
 row:∃xs,Buf w τ g 58 1 v ls.length xs/\∀(k:Nat) (x:List Int),ls[k]?=some x->∃u,xs[k]?=some u/\Bytes w τ qa2 u x
 low:∀k,v.ownBlock=some k->n0<=k
theorem NV.nil (n0:Nat) (w:World) (τ:qa1) (g:Tag):NV n0 w τ g (.slice none 0 0) []:=⟨⟨[],Buf.nil _ _ _ _ _,fun k x h=>by simp at h⟩,fun k a=>by simp[Value.ownBlock] at a⟩
theorem NV.step {c:World} {a:qa1} {S:Tag->Prop} {ls:List (List Int)}(h:NV n0 w τ g v ls) (m:Step w τ c a S) (d:¬S g) (hd:¬S qa2):NV n0 c a g v ls:=by
 obtain⟨e,i,j⟩:=h.row
 exact⟨⟨e,i.step m d,fun k x l=>by
  obtain⟨u,h1,h2⟩:=j k x l
  exact⟨u,h1,h2.step m hd⟩⟩,h.low⟩
theorem NV.alloc {ls:List (List Int)}(h:NV n0 w τ g v ls) (o:Obj):NV n0 (w.alloc o) τ g v ls:=h.step ((Step.refl w τ Go.Proofs.YtociicnopccppaaGreat.nil).alloc' o) id id
theorem NV.val {ls:List (List Int)}(h:NV n0 w τ g v ls):∃p c,v = .slice p ls.length c:=by
 obtain⟨xs,a,-⟩:=h.row
 exact Buf.len a
theorem NV.read {ls:List (List Int)}(h:NV n0 w τ g v ls):∃p c,v = .slice p ls.length c/\ls.length<=maxLen/\∀i,i<ls.length->∃b u,p=some ⟨b,0,none⟩/\w.cell? ⟨b,i,none⟩=some u/\Bytes w τ qa2 u (ls.getD i []):=by
 obtain⟨xs,⟨h1,⟨rfl,h2⟩|⟨b,cap,ys,rfl,d,h3,h4,h5⟩⟩,e⟩:=h.row
 ·refine⟨none,0,by rw[h2],by rw[h2];exact Z9 _,fun i hi=>oM⟩
 ·refine⟨_,cap,rfl,oM,fun i hi=>?_⟩
  obtain⟨u,a,j⟩:=e i (ls.getD i []) (by rw[Z5,Z3 hi];rfl)
  refine⟨b,u,rfl,d.at i ?_,j⟩
  rw[Y5 (Z4 a).1]
  exact a
theorem Qni {S:Tag->Prop}(l:Step w0 τ0 w τ S) {g:Tag}(R:g≠qa2) {v u:Value}{ls:List (List Int)}{x:List Int}(d:NV w0.heap.size w τ g v ls) (U:Bytes w τ qa2 u x) (hsz:ls.length<=1000000000) {k:Nat}
 (r:w.heap[k]?=some (.cells #[u] 58 (0,0))) (X:TypeId) :
 ∃s n a,(Builtin.append_ #[31,31] X #[v,.slice (some ⟨k,0,none⟩) 1 1]).run Tryz.prog w = .ok s n/\NV w0.heap.size n a g s (ls++[x])/\Step w0 τ0 n a S/\Step w τ n a (fun t=>t=g):=by
 obtain⟨i0,hi,B,C,D⟩:=info_parts Tryz.infoU8s
 obtain⟨z,i,E⟩:=d.row
 obtain⟨p,c,rfl,_⟩:=U.any
 obtain⟨s,n,a,hr,F,Y,Z,G⟩:=Qap (P:=Tryz.prog) w τ g 31 X 58 i0 (.slice none 0 0) 1 24 Tryz.underlying31 hi B C D rfl dC v ls.length z i
  (some ⟨k,0,none⟩) 1 1 [.slice p x.length c] rfl (fun h=>by cases h) (by
    intro ad had;cases had;exact World.news_of_block (cs:=#[.slice p x.length c]) (t := 58) (fr:=(0,0)) r) (by simp[Value.oneCell']) (by unfold maxLen;omega) oM
 have o:Step w τ n a (fun t=>t=g):=⟨Z.mono (fun k r I=>(i.own k I).1),Y⟩
 have hxl:z.length=ls.length:=by have:=i.1;omega
 refine⟨s,n,a,hr,⟨⟨z++[.slice p x.length c],by rw[Z6];exact F,fun j y q=>?_⟩,fun k r=>?_⟩,⟨l.mod.seq Z (fun k r I=>absurd (d.low k I) oM),l.ext.trans Y l.size⟩,o⟩
 ·by_cases J:j<ls.length
  ·rw[Y5 J] at q
   obtain⟨u,hu,L⟩:=E j y q
   exact⟨u,by rw[Y5 oM];exact hu,L.step o (fun e=>R e.symm)⟩
  ·rw[Y6 oM] at q
   have M:j-ls.length=0:=by
    have:=(Z4 q).1
    simp at this;omega
   rw[M] at q
   have O:x=y:=by simpa using q
   subst O
   exact⟨_,by rw[Y6 oM,show j-z.length=0 by omega];rfl,U.step o (fun e=>R e.symm)⟩
 ·rcases G k r with h|h
  ·exact d.low k h
  ·have:=l.size;omega
theorem Qcv {S:Tag->Prop}(j:Step w0 τ0 w τ S) {g:Tag}(p:g≠qa2) {v u:Value}{ls:List (List Int)}{x:List Int}(e:NV w0.heap.size w τ g v ls) (q:Bytes w τ qa2 u x) (k:ls.length<=1000000000) {kb:Nat}(l:kb=w.heap.size)
 {ops:Array Oper} {rest:List Oper} {o:Oper} {a:Act} {Q:Exit->Act->World->Prop} (n:o.guard=none) (s y:Operand)
 (r:o.op = .call {callee:=.builtin .append,args:=#[s,y],argTypes:=#[31,31]}) (z:a.eval s=v) (B:a.eval y = .slice (some ⟨kb,0,none⟩) 1 1)
 (h:∀i d c,NV w0.heap.size d c g i (ls++[x])->Step w0 τ0 d c S->Step w τ d c (fun t=>t=g)->wpList Tryz.prog ops Q rest (a.put o.dst i) d):wpList Tryz.prog ops Q (o::rest) a (w.alloc (.cells #[u] 58)):=by
 subst l
 refine wpList_plain n fun K C=>?_
 obtain⟨i,d,c,D,h2,E,F⟩:=Qni (j.alloc' (.cells #[u] 58)) p (e.alloc _) (q.alloc _) k (heap_alloc_new w _) o.type
 unfold Oper.wp execOp
 simp only[r,resolve,invoke,builtin,Sem.run_bind,Sem.run_pure,Result.andThen_ok,List.map_toArray,X0,List.map_nil,z,B,D]
 exact C _ _ (h i d c h2 E (((Step.refl w τ _).alloc' _).trans F))
