/-
 Rows of ints of a call's own that grow.
-/
import Derived.Test.YtemacanaihaldaaGreatMCrc
import Derived.Deep.MidRow
import Derived.Deep.WholeRow
import Derived.Laws.Cover3
import Derived.Stop.BytesEq
set_option maxRecDepth 100000
set_option linter.all false
namespace Go.Proofs.YtemacanaihaldaaGreat
variable {b off:Nat}{g:Tag}{v:Value}{w w0:World}{τ τ0:Tags}
open Go.RowKit
theorem Tryz.infoInt:(Tryz.prog.info? 3).map (fun i=>(i.zero,i.size,i.bytes))=some (some (.int .i64 0),1,8):=by kernel_rfl
theorem Qrb (l:List Nat):(i64s l).length=l.length:=by simp[i64s]
theorem Qlj (l m:List Nat):i64s (l++m)=i64s l++i64s m:=by simp[i64s]
theorem Qzx (l:List Nat) (i:Nat) (h:i<l.length):(i64s l)[i]?=some (.int .i64 ((l.getD i 0:Nat):Int)):=by
 simp[i64s,List.getD,Z3 h]
def Ints (w:World) (τ:Tags) (g:Tag) (v:Value) (l:List Nat):Prop:=Buf w τ g 3 1 v l.length (i64s l)
theorem Ints.step {e:World} {d:Tags} {S:Tag->Prop} {l:List Nat}(h:Ints w τ g v l) (m:Step w τ e d S) (i:¬S g):Ints e d g v l:=Buf.step h m i
theorem Ints.read {l:List Nat}(h:Ints w τ g v l):∃p c,v = .slice p l.length c/\l.length<=maxLen/\∀i,i<l.length->∃b,p=some ⟨b,0,none⟩/\w.cell? ⟨b,i,none⟩=some (.int .i64 ((l.getD i 0:Nat):Int)):=by
 obtain⟨h1,⟨rfl,h2⟩|⟨b,cap,ys,rfl,d,h3,h4,h5⟩⟩:=h
 ·refine⟨none,0,by rw[h2],by rw[h2];exact Z9 _,fun i hi=>by omega⟩
 ·refine⟨_,cap,rfl,by omega,fun i hi=>⟨b,rfl,d.at i ?_⟩⟩
  rw[Y5 (by rw[Qrb];exact hi),Qzx l i hi]
structure NI (n0:Nat) (w:World) (τ:Tags) (g:Tag) (v:Value) (l:List Nat):Prop where
 buf:Ints w τ g v l
 low:∀k,v.ownBlock=some k->n0<=k
theorem NI.nil (n0:Nat) (w:World) (τ:Tags) (g:Tag):NI n0 w τ g (.slice none 0 0) []:=⟨Buf.nil _ _ _ _ _,fun k hk=>by simp[Value.ownBlock] at hk⟩
theorem NI.step {n0:Nat} {e:World} {d:Tags} {S:Tag->Prop} {l:List Nat}(h:NI n0 w τ g v l) (m:Step w τ e d S) (i:¬S g):NI n0 e d g v l:=⟨h.buf.step m i,h.low⟩
theorem NI.val {n0:Nat} {l:List Nat}(h:NI n0 w τ g v l):∃p c,v = .slice p l.length c:=Buf.len h.buf
theorem Qjl {S:Tag->Prop}(q:Step w0 τ0 w τ S) {g:Tag}{v:Value}{l:List Nat}(m:NI w0.heap.size w τ g v l) (x:Nat) {L:Int}(r:L=(x:Int)) (hsz:l.length<=1000000000) {kb:Nat}(z:kb=w.heap.size)
 {ops:Array Oper} {rest:List Oper} {o:Oper} {a:Act} {Q:Exit->Act->World->Prop} (B:o.guard=none) (s y:Operand)
 (C:o.op = .call {callee:=.builtin .append,args:=#[s,y],argTypes:=#[98,98]}) (O:a.eval s=v) (R:a.eval y = .slice (some ⟨kb,0,none⟩) 1 1)
 (h:∀p j e,NI w0.heap.size j e g p (l++[x])->Step w0 τ0 j e S->Step w τ j e (fun t=>t=g)->wpList Tryz.prog ops Q rest (a.put o.dst p) j):wpList Tryz.prog ops Q (o::rest) a (w.alloc (.cells #[.int .i64 L] 3)):=by
 subst z
 subst r
 refine wpList_plain B fun K U=>?_
 obtain⟨i0,hi,D,E,F⟩:=info_parts Tryz.infoInt
 have d:=q.alloc' (.cells #[.int .i64 (x:Int)] 3)
 have i:=m.step ((Step.refl w τ Go.Proofs.YtemacanaihaldaaGreat.nil).alloc' (.cells #[.int .i64 (x:Int)] 3)) (fun h=>h)
 obtain⟨p,j,e,X,G,M,N,I⟩:=Qap (P:=Tryz.prog) (w.alloc (.cells #[.int .i64 (x:Int)] 3)) τ g 98 o.type 3 i0 (.int .i64 0) 1 8 Tryz.underlying98 hi D E F rfl (by decide) v l.length (i64s l) i.buf
  (some ⟨w.heap.size,0,none⟩) 1 1 [.int .i64 (x:Int)] rfl (fun h=>by cases h) (by
    intro ad had;cases had;exact World.news_of_block (cs:=#[.int .i64 (x:Int)]) (t := 3) (fr:=(0,0)) (heap_alloc_new w _)) (by simp[Value.oneCell']) (by unfold maxLen;omega) (by omega)
 unfold Oper.wp execOp
 simp only[C,resolve,invoke,builtin,Sem.run_bind,Sem.run_pure,Result.andThen_ok,List.map_toArray,X1,List.map_nil,O,R,X]
 refine U _ _ (h p j e ⟨?_,fun k hk=>?_⟩ ⟨d.mod.seq N (fun k hk J=>absurd (i.low k J) (by omega)),d.ext.trans M d.size⟩ (((Step.refl w τ _).alloc' _).trans ⟨N.mono (fun k hk J=>(i.buf.own k J).1),M⟩))
 ·show Buf _ _ _ _ _ _ _ _
  rw[Z6,Qlj];exact G
 ·rcases I k hk with h|h
  ·exact i.low k h
  ·have:=d.size;omega
def Qas (P:List Int) (i:Nat):List Nat:=(List.range i).filter (fun s=>decide (0<pLen P s))
def Qab (P:List Int):List Nat:=Qas P (pageCount P)
theorem Qf8 (P:List Int) (i:Nat):Qas P (i+1)=Qas P i++(if 0<pLen P i then [i] else []):=by
 unfold Qas
 rw[List.range_succ,List.filter_append]
 congr 1
 by_cases h:0<pLen P i <;> simp[h]
theorem Qes (P:List Int) (i:Nat):(Qas P i).length<=i:=by
 unfold Qas
 exact Y3 (List.length_filter_le _ _) (by simp)
theorem Qcx {P:List Int} {i s:Nat}(h:s∈Qas P i):s<i/\0<pLen P s:=by
 unfold Qas at h
 obtain⟨h1,h2⟩:=List.mem_filter.1 h
 exact⟨List.mem_range.1 h1,by simpa using h2⟩
theorem Qfl {P:List Int}(h:PageAt w τ g b P) (C:Fit P) :
 Calls Tryz.prog 214 #[.pointer (some ⟨b,0,none⟩)] w fun e s=>∃v r,e = .returned v/\NI w.heap.size s r tOut v (Qab P)/\Step w τ s r nil:=by
 have h1:=Qax h
 have hc:=C.count
 have y:Qab P=Qas P (pageCount P):=rfl
 generalize L:pageCount P=q at *
 obtain⟨O,D,Hq⟩:=hid3 h1 y L
 clear h1 y L
 obtain⟨E,R⟩:=hid2 h C
 clear h C
 go_enter Tryz.func214,Tryz.ntmps214
 go_wp2_with fail
 refine O.out.mono ?_
 rintro e s ⟨rfl,rfl⟩
 go_wp2_with fail
 go_loopw [3,7] (fun m v wr=>∃(i:Nat) (k:Tags),i<=q/\v = .int .i64 (i:Int)/\NI w.heap.size wr k tOut m (Qas P i)/\Step w τ wr k nil) (fun _ v _=>q-(intOf v).toNat)
 case atStart=>exact⟨0,τ,Z9 _,rfl,NI.nil _ _ _ _,Step.refl _ _ _⟩
 case round =>
  obtain⟨i,k,hi,rfl,d,j⟩:=hrel
  by_cases hlt:i<q
  ·have hd:=Qbx (E.out.step j (fun h=>h)) R.out i (by omega)
   have x:=Qf8 P i
   have hsl:=Qes P i
   obtain⟨pm,cm,rfl⟩:=d.val
   generalize pLen P i=n at *
   by_cases h0:0<n
   ·rw[if_pos h0] at x
    have z:(Qas P i).length<=1000000000:=by omega
    obtain⟨F,G,l,p,I⟩:=hid5 hd x d j z
    clear hd x d j z
    go_wp2_with fail
    refine F.out.mono ?_
    rintro e s ⟨o,rfl,-,rfl⟩
    go_wp2_with (at_builtin;refine Qjl p.out l.out i rfl I.out rfl rfl _ _ rfl rfl rfl ?_;intro v' s r M N B;obtain⟨U,X,Hmo⟩:=hid3 M N B;clear M N B)
    go_round
    case rel=>exact⟨i+1,r,by omega,by simp,by rw[G.out];exact U.out,X.out⟩
    case measure=>simp[intOf];omega
   ·rw[if_neg h0,List.append_nil] at x
    obtain rfl:n=0:=by omega
    obtain⟨F,G,l,p⟩:=hid4 hd x d j
    clear hd x d j
    go_wp2_with fail
    refine F.out.mono ?_
    rintro e s ⟨o,rfl,-,rfl⟩
    go_wp2_with fail
    go_round
    case rel=>exact⟨i+1,k,by omega,by simp,by rw[G.out];exact l.out,p.out⟩
    case measure=>simp[intOf];omega
  ·have J:i=q:=by omega
   subst J
   obtain⟨l,p⟩:=hid2 d j
   clear d j
   go_wp2_with fail
   go_returns
   exact⟨_,k,rfl,by rw[D.out];exact l.out,p.out⟩
def usedTo (P:List Int):Nat->Nat
 | 0=>0
 | i+1=>usedTo P i+pLen P i
def pUsed (P:List Int):Nat:=usedTo P (pageCount P)
theorem Qpc {P:List Int}(h:PageAt w τ g b P) (k:Fit P) :
 Calls Tryz.prog 196 #[.pointer (some ⟨b,0,none⟩)] w fun e l=>e = .returned (.int .i64 (pUsed P:Int))/\w=l:=by
 have h1:=Qax h
 have hc:=k.count
 have d:pUsed P=usedTo P (pageCount P):=rfl
 have j:∀i,usedTo P i<=i*448:=by
  intro i
  induction i with
  | zero=>simp[usedTo]
  | succ i ih=>have:=k.ends i;unfold usedTo;omega
 rw[d]
 generalize x:pageCount P=q at *
 obtain⟨B,Hps,Hq,p⟩:=hid4 h1 d x j
 clear h1 d x j
 obtain⟨r,y⟩:=hid2 h k
 clear h k
 go_enter Tryz.func196,Tryz.ntmps196
 go_wp2_with fail
 refine B.out.mono ?_
 rintro e l ⟨rfl,rfl⟩
 go_wp2_with fail
 go_loopw [3,7] (fun m v wr=>∃(i:Nat),i<=q/\v = .int .i64 (i:Int)/\m = .int .i64 (usedTo P i:Int)/\wr=w) (fun _ v _=>q-(intOf v).toNat)
 case atStart=>exact⟨0,Z9 _,rfl,rfl,rfl⟩
 case round =>
  obtain⟨i,hi,rfl,rfl,rfl⟩:=hrel
  by_cases hlt:i<q
  ·have hd:=Qbx r.out y.out i (by omega)
   have z:usedTo P (i+1)=usedTo P i+pLen P i:=rfl
   have hl:=p.out i
   have he:=y.out.ends i
   generalize pLen P i=n at *
   generalize pOff P i=o at *
   generalize usedTo P i=u at *
   obtain⟨C,D⟩:=hid2 hd z
   clear hd z
   go_wp2_with fail
   refine C.out.mono ?_
   rintro e l ⟨o,rfl,-,rfl⟩
   go_wp2_with fail
   go_round
   case rel=>exact⟨i+1,by omega,by simp,by rw[D.out];simp,trivial⟩
   case measure=>simp[intOf];omega
  ·have s:i=q:=by omega
   subst s
   go_wp2_with fail
   go_returns
   exact⟨rfl,rfl⟩
theorem Qvx (l:List Value) (k:Nat) (z:List Value) (h:k+l.length<=z.length) :
 (l.zipIdx k).foldl (fun cs (p:Value×Nat)=>cs.setIfInBounds (0+p.2) p.1) z.toArray=(z.take k++l++z.drop (k+l.length)).toArray:=by
 induction l generalizing k z with
 | nil=>simp
 | cons x l ih =>
   rw[List.zipIdx_cons,List.foldl_cons]
   have e:z.toArray.setIfInBounds (0+k) x=(z.set k x).toArray:=by simp
   show List.foldl _ (z.toArray.setIfInBounds (0+k) x) _=_
   rw[e,ih (k+1) (z.set k x) (by rw[Y1];simp at h;omega)]
   congr 1
   simp at h
   rw[Y4,List.take_set,List.drop_set_of_lt (by omega)]
   have hk:k<z.length:=by omega
   have d:(z.take (k+1)).set k x=z.take k++[x]:=by
    rw[List.take_add_one]
    rw[Z3 hk]
    rw[List.set_append_right _ _ (by simp;omega)]
    simp[Nat.min_eq_left (Nat.le_of_lt hk)]
   rw[d,show k+1+l.length=k+(l.length+1) by omega]
   simp
theorem Qtt (cs z:Array Value) (h:cs.size=z.size) :
 cs.zipIdx.foldl (fun (d:Array Value) (p:Value×Nat)=>d.setIfInBounds (0+p.2) p.1) z=cs:=by
 obtain⟨l⟩:=cs
 obtain⟨m⟩:=z
 have:=Qvx l 0 m (by simp at h;omega)
 rw[<-Array.foldl_toList,Array.toList_zipIdx]
 rw[this]
 simp at h
 simp[h]
theorem Qpq (cs:Array Value) (h:cs.size=448):Array.foldl (fun (a:Array Value) (x:Value×Nat)=>a.setIfInBounds x.snd x.fst) Tryz.zeroCells154 cs.zipIdx 0 448=cs:=by
 have:=Qtt cs Tryz.zeroCells154 (by rw[h,Tryz.zeroCells154_size])
 rw[Array.size_zipIdx,h] at this
 simpa using this
theorem Qiw {P:Program} {ops:Array Oper} {rest:List Oper} {op:Oper} {a:Act} {Q:Exit->Act->World->Prop}(d:op.guard=none) (o:BinOp) (t r:TypeId) (x y:Operand) (j:op.op = .binOp o t x y r)
 (e i v:Value) (k:a.eval x=e) (l:a.eval y=i) (m:(eqGuard o t x y e i).run P w = .ok () w) (p:(binOp o t e i).run P w = .ok v w)
 (h:wpList P ops Q rest (a.put op.dst v) w):wpList P ops Q (op::rest) a w :=
 wpList_plain d fun _ q=>by
  unfold Oper.wp execOp
  simp only[j,k,l,Sem.run_bind,Sem.run_pure,Result.andThen_ok,m,p]
  exact q _ _ h
theorem Qou {l:List Int}(h:IsB l):u8s l=(l.map (fun x=>x.toNat.toUInt8)).map Extern.Stop.cell:=by
 unfold u8s
 rw[List.map_map]
 refine List.map_congr_left (fun x d=>?_)
 have:=h x d
 simp only[Function.comp,Extern.Stop.cell]
 congr 1
 have h2:x.toNat.toUInt8.toNat=x.toNat:=by simp;omega
 show x=((x.toNat.toUInt8.toNat:Nat):Int)
 rw[h2];omega
theorem Qwd {l m:List Int}(hl:IsB l) (d:IsB m):(l.map (fun x=>x.toNat.toUInt8)==m.map (fun x=>x.toNat.toUInt8))=decide (l=m):=by
 rw[Bool.eq_iff_iff]
 simp only[beq_iff_eq,decide_eq_true_eq]
 constructor
 ·intro h
  have h1:=congrArg (List.map (fun (b:UInt8)=>(b.toNat:Int))) h
  have h2:∀{k:List Int},IsB k->(k.map (fun x=>x.toNat.toUInt8)).map (fun (b:UInt8)=>(b.toNat:Int))=k:=by
   intro k hk
   rw[List.map_map]
   conv=>rhs;rw[<-List.map_id k]
   refine List.map_congr_left (fun x e=>?_)
   have:=hk x e
   simp only[Function.comp,id]
   have h3:x.toNat.toUInt8.toNat=x.toNat:=by simp;omega
   omega
  rw[h2 hl,h2 d] at h1
  exact h1
 ·rintro rfl;rfl
theorem Ql9 {P:Program} {t:TypeId} {n:Nat}(h:(P.info? t).map (·.size)=some n) (w:World):(sizeOf t).run P w = .ok n w:=by
 cases d:P.info? t with
 | none=>simp[d] at h
 | some i=>simp[sizeOf,typeInfo,d];simpa [d] using h
theorem Qi1 (w:World) {X Y:List Int}(d:IsB X) (e:IsB Y) (h:X.length=448) (i:Y.length=448) :
 (binOp .eql 152 (.agg (u8s X).toArray) (.agg (u8s Y).toArray)).run Tryz.prog w = .ok (.bool (decide (X=Y))) w:=by
 have j:∀w,(sizeOf 5).run Tryz.prog w = .ok 1 w:=Ql9 (by kernel_rfl)
 rw[<-Qwd d e,Qou d,Qou e]
 exact run_eql_bytes w _ _ 448 Tryz.underlying152 Tryz.underlying5 j _ _ (by rw[Y0];exact h) (by rw[Y0];exact i)
theorem Qfz (w:World) (x y:Operand) (d ys:Array Value):(eqGuard .eql 152 x y (.agg d) (.agg ys)).run Tryz.prog w = .ok () w :=
 run_eqGuard_agg _ _ _ _ _ _ _ (by kernel_rfl)
theorem Qhv {o:Nat} {l:List Int}(k:∀i,i<l.length->w.cell? ⟨b,o+i,none⟩=some (.int .u8 (l.getD i 0))):w.rangeAt b o (u8s l):=by
 intro j v d
 have e:j<l.length:=by
  rcases Nat.lt_or_ge j l.length with h|h
  ·exact h
  ·rw[List.getElem?_eq_none (by rw[Qac];exact h)] at d;simp at d
 rw[Qfw l j e] at d
 cases d
 exact k j e
theorem Qns {g0:Tag}(h:Bytes w τ g0 v zeros448) :
 Calls Tryz.prog 117 #[v] w fun e L=>∃b d,e = .returned (.tuple #[.pointer (some ⟨b,0,none⟩),.int .u16 0])/\w.heap.size<=b/\PageAt L d g b (emptyPage 0)/\Step w τ L d nil:=by
 have hl:zeros448.length=448:=by simp[zeros448]
 generalize hz:zeros448=Z at *
 obtain⟨hB,p,c,rfl,h1,h2,h3⟩:=h
 obtain⟨x,o,rfl,i,M⟩:=h3 (by omega)
 have N:=Qhv M
 have k:(Tryz.prog.info? 152).map (·.size)=some 448:=by kernel_rfl
 have r:(Tryz.prog.info? 152).map (·.size)=some (u8s Z).length:=by rw[Qac,hl];exact k
 have y:∀w,(Instr.arrayAt 152 (.slice (some ⟨x,o,none⟩) 448 c)).run Tryz.prog w = .ok (.pointer (some ⟨x,o,none⟩)) w:=fun w=>run_arrayAt w _ _ 448 _ _ c Tryz.underlying152 (by omega)
 have O:(Instr.loadAt 152 (.pointer (some ⟨x,o,none⟩))).run Tryz.prog w = .ok (.agg (u8s Z).toArray) w:=run_loadAt_mid w x o _ _ _ N Tryz.underlying152 rfl r
 rw[hl]
 obtain⟨Hc,Htag,Hr⟩:=hid3 M i N
 clear M i N h1 h3 hB
 have Hl:=Z2 hl
 clear hl O k
 obtain⟨R,z⟩:=hid2 y r
 clear y r
 go_enter Tryz.func117,Tryz.ntmps117
 go_wp2_with fail
 simp only[R.out]
 simp only[Result.andThen_ok]
 go_step
 go_step
 refine wpList_load_mid rfl 152 _ rfl x o rfl (u8s Z) _ Hr.out Tryz.underlying152 rfl z.out ?_
 have s:(u8s Z).toArray.size=448:=by rw[List.size_toArray,Qac];exact Hl.out
 have hfold:=Qpq _ s
 have B:(w.alloc (.cells (u8s Z).toArray 154)).rangeAt w.heap.size 0 (u8s Z).toArray.toList:=by
  intro j v hv
  rw[Nat.zero_add]
  exact(Own.new w τ g 154 (u8s Z)).at j hv
 have l:(Tryz.prog.info? 152).map (·.size)=some (u8s Z).toArray.toList.length:=z.out
 generalize C:(u8s Z).toArray=cs at *
 obtain⟨U,D,X⟩:=hid3 B l C
 clear B l C
 go_step
 go_step
 go_step
 go_step
 go_step
 go_step
 go_step
 go_step
 go_step
 go_step
 go_step
 go_step
 go_step
 go_step
 go_step
 go_step
 go_step
 go_step
 go_step
 go_step
 go_step
 go_step
 go_step
 go_step
 refine wpList_load_mid rfl 152 (.tmp 15) rfl w.heap.size 0 rfl cs.toList _ U.out Tryz.underlying152 rfl D.out ?_
 simp only[Array.toArray_toList]
 go_step
 go_step
 go_step
 have hq:Tryz.zeroCells152 = (u8s zeros448).toArray:=by kernel_rfl
 refine Qiw rfl .eql 152 152 (.tmp 16) (.tmp 17) rfl (.agg cs) (.agg Tryz.zeroCells152) (.bool true) rfl rfl (Qfz _ _ _ _ _) (by rw[hq,<-X.out,<-hz,Qi1 _ Qda Qda (by simp[zeros448]) (by simp[zeros448])];simp) ?_
 clear hq
 have m:=Qk3 (w.alloc (.cells cs 154)) (τ.put w.heap.size g) g 0 (by omega)
 have E:=(Step.refl w τ nil).alloc (.cells cs 154) g
 obtain⟨F,G⟩:=hid2 m E
 clear m E
 go_wp2_with fail
 refine F.out.mono ?_
 rintro e L ⟨b,d,rfl,q,I,hs⟩
 obtain⟨Y,Hs,J⟩:=hid3 I hs q
 clear I hs q
 go_wp2_with fail
 go_ret2
 exact⟨b,d,rfl,Y3 G.out.size J.out,Y.out,G.out.trans Hs.out⟩
def pList (P:List Int) (s o n:Nat):List Int:=layN (layN P (16+4*s) (leB o 2)) (18+4*s) (leB n 2)
theorem Qej {S:Tag->Prop}(i:Step w0 τ0 w τ S) {g:Tag}{b:Nat}{P:List Int}(r:S g\/w0.heap.size<=b) (h:PageAt w τ g b P) (s o n:Nat) (hs:s<=107) (ho:o<65536) (hn:n<65536) :
 Calls Tryz.prog 199 #[.pointer (some ⟨b,0,none⟩),.int .i64 (s:Int),.int .i64 (o:Int),.int .i64 (n:Int)] w fun e x=>e = .returned (.tuple #[])/\∃d,PageAt x d g b (pList P s o n)/\Step w0 τ0 x d S/\Step w τ x d (fun t=>t=g):=by
 have h1:=Qbp i r h (16+4*s) 2 o (by omega) (by omega) (by omega) (by omega)
 rw[show ((16+4*s:Nat):Int)=16+4*(s:Int) by omega] at h1
 have w1:=Qam o (by omega)
 have w2:=Qam n (by omega)
 obtain⟨E,F⟩:=hid2 h1 r
 clear h1 r h i
 go_enter Tryz.func199,Tryz.ntmps199
 go_wp2_with fail
 refine E.out.mono ?_
 rintro e w1' ⟨rfl,τ1,j,k,l⟩
 have h2:=Qbp k F.out j (18+4*s) 2 n (by omega) (by omega) (by omega) (by omega)
 rw[show ((18+4*s:Nat):Int)=16+4*(s:Int)+2 by omega] at h2
 obtain⟨G,y⟩:=hid2 h2 l
 clear h2 l j k
 go_wp2_with fail
 refine G.out.mono ?_
 rintro e w2' ⟨rfl,z,m,p,q⟩
 obtain⟨B,C,D⟩:=hid3 m p q
 clear m p q
 go_wp2_with fail
 go_returns
 exact⟨rfl,z,B.out,C.out,y.out.trans D.out⟩
def setTo (P:List Int) (l:List Nat):Nat->Nat×Nat
 | 0=>(0,448)
 | i+1=>(l.getD i 0+1,min (setTo P l i).2 (pOff P (l.getD i 0)))
def pSettle (P:List Int):List Int:=layN (layN P 12 (leB (setTo P (Qab P) (Qab P).length).1 2)) 14 (leB (setTo P (Qab P) (Qab P).length).2 2)
theorem Qr2 (P:List Int) (l:List Nat) (i:Nat):(setTo P l i).2<=448:=by
 induction i with
 | zero=>exact Z0 _
 | succ i ih=>exact Y3 (Nat.min_le_left _ _) ih
theorem Qqi {P:List Int} {l:List Nat} {q:Nat}(h:∀s∈l,s<q) (i:Nat) (hi:i<=l.length):(setTo P l i).1<=q:=by
 cases i with
 | zero=>exact Z9 _
 | succ i =>
   show l.getD i 0+1<=q
   rw[Z5,Z3 (by omega)]
   exact h _ (List.getElem_mem _)
theorem Qc7 {S:Tag->Prop}(C:Step w0 τ0 w τ S) {g:Tag}{b:Nat}{P:List Int}(hS:S g\/w0.heap.size<=b) (hg:g≠tOut) (h:PageAt w τ g b P) (N:Fit P) :
 Calls Tryz.prog 200 #[.pointer (some ⟨b,0,none⟩)] w fun e O=>e = .returned (.tuple #[])/\∃r,PageAt O r g b (pSettle P)/\Step w0 τ0 O r S/\Step w τ O r (fun t=>t=g):=by
 have h1:=Qfl h N
 have j:pSettle P=layN (layN P 12 (leB (setTo P (Qab P) (Qab P).length).1 2)) 14 (leB (setTo P (Qab P) (Qab P).length).2 2):=rfl
 have k:∀s∈Qab P,s<pageCount P/\0<pLen P s:=fun s B=>Qcx B
 have hc:=N.count
 generalize hl:Qab P=l at *
 obtain⟨R,D,p,HS,X,Hl⟩:=hid6 h1 j k hS C hl
 clear h1 j k hS C hl
 obtain⟨x,Hf⟩:=hid2 h N
 clear h N
 go_enter Tryz.func200,Tryz.ntmps200
 go_wp2_with fail
 refine R.out.mono ?_
 rintro e w1 ⟨v1,τ1,rfl,y,E⟩
 obtain⟨p1,c1,Y,hmx,-⟩:=y.buf.read
 subst Y
 generalize hn:l.length=n at *
 obtain⟨Z,d,U⟩:=hid3 y E hn
 clear y E hn R
 go_wp2_with fail
 have hn40:n<=40:=by
  have h1:=Qes P (pageCount P)
  have h2:=U.out
  rw[<-Hl.out] at h2
  unfold Qab at h2
  omega
 go_loopw [2,3,11] (fun c m v wr=>∃(i:Nat),i<=n/\v = .int .i64 (i:Int)/\c = .int .i64 ((setTo P l i).1:Int)/\m = .int .i64 ((setTo P l i).2:Int)/\wr=w1) (fun _ _ v _=>n-(intOf v).toNat)
 case atStart=>exact⟨0,Z9 _,rfl,rfl,rfl,rfl⟩
 case round =>
  obtain⟨i,hi,rfl,rfl,rfl,rfl⟩:=hrel
  by_cases F:i<n
  ·obtain⟨p',c',a1,_,G⟩:=Z.out.buf.read
   cases a1
   obtain⟨br,rfl,hcell⟩:=G i (by rw[U.out];exact F)
   have hsl:l.getD i 0<pageCount P:=by
    rw[Z5,Z3 (by rw[U.out];exact F)]
    exact(p.out _ (List.getElem_mem _)).1
   have I:=Qgu (x.out.step d.out (fun h=>h)) (l.getD i 0) (by omega) (by omega)
   have B:setTo P l (i+1)=(l.getD i 0+1,min (setTo P l i).2 (pOff P (l.getD i 0))):=rfl
   have hle:=Qr2 P l i
   have hof:=Qu7 x.out.isB (l.getD i 0)
   generalize l.getD i 0=s at *
   generalize pOff P s=o at *
   generalize pLen P s=len at *
   generalize (setTo P l i).1=cc at *
   generalize (setTo P l i).2=m at *
   have hmn:(min (m:Int) (o:Int))=((min m o:Nat):Int):=by omega
   obtain⟨a6,Hs⟩:=hid2 I B
   clear I B G
   go_wp2_with fail
   refine a6.out.mono ?_
   rintro e O ⟨rfl,rfl⟩
   go_wp2_with fail
   go_round
   case rel=>exact⟨i+1,by omega,by simp,by rw[Hs.out];simp,by rw[Hs.out],trivial⟩
   case measure=>simp[intOf];omega
  ·have a7:i=n:=by omega
   subst a7
   have hcw:=Qr2 P l i
   have hcc:=Qqi (P:=P) (q:=pageCount P) (fun s B=>(p.out s B).1) i (by rw[U.out];exact Z0 _)
   generalize (setTo P l i).1=cc at *
   generalize (setTo P l i).2=m at *
   have w1:=Qam cc (by omega)
   have w2:=Qam m (by omega)
   have h1:=Qbp (X.out.trans (d.out.mono (T:=S) (fun _ h=>h.elim))) HS.out (x.out.step d.out (fun h=>h)) 12 2 cc (by omega) (by omega) (by omega) (by omega)
   have R:=Z2 h1
   clear h1
   go_wp2_with fail
   refine R.out.mono ?_
   rintro e wa ⟨rfl,τa,ha,z,J⟩
   have h2:=Qbp z HS.out ha 14 2 m (by omega) (by omega) (by omega) (by omega)
   obtain⟨H2,Ha,Hsa,aa⟩:=hid4 h2 ha z J
   clear h2 ha z J
   go_wp2_with fail
   refine H2.out.mono ?_
   rintro e wb ⟨rfl,ab,hb,L,M⟩
   obtain⟨Hb,ac,ad⟩:=hid3 hb L M
   clear hb L M
   go_wp2_with fail
   go_returns
   exact⟨rfl,ab,by rw[D.out];exact Hb.out,ac.out,(d.out.mono (T:=fun t=>t=g) (fun _ h=>h.elim)).trans (aa.out.trans ad.out)⟩
theorem Qul (n:Nat):u8s (List.replicate n 0)=List.replicate n (.int .u8 0):=by simp[u8s]
theorem Qht {h:Nat} {l:Tag} {T:TypeId} {d:List Value}(o:Own w τ h l T d) {off n c:Nat}(h0:0<n) (e:off+n<=d.length) (p:TypeId) :
 (Builtin.clear_ #[37] p #[.slice (some ⟨h,off,none⟩) n c]).run Tryz.prog w = .ok (.tuple #[]) (w.setRow h (over d off (u8s (List.replicate n 0))).toArray):=by
 have j:(Builtin.zeroCells (Value.int .u8 0).cells n).toList=List.replicate n (.int .u8 0):=by
  have q:(Value.int .u8 0).cells=#[.int .u8 0]:=rfl
  rw[q]
  simp[Builtin.zeroCells]
  apply List.ext_getElem
  ·simp
  ·intro i h1 h2
   simp[Nat.mod_one]
 have k:=run_storeCells_at Tryz.prog h off T (List.replicate n (.int .u8 0)) 0 d.toArray w o.row (by simpa using e) (by intro v r;rw[List.eq_of_mem_replicate r];rfl)
 obtain⟨m,rfl⟩:∃m,n=m+1:=⟨n-1,by omega⟩
 rw[Qul]
 simp[Builtin.clear_,run_underlying Tryz.underlying37,Tryz.zeroValue5 w,j,k,over]
theorem Qnq {S:Tag->Prop}(i:Step w0 τ0 w τ S) {g:Tag}{b:Nat}{P:List Int}(r:S g\/w0.heap.size<=b) (h:PageAt w τ g b P) (n:Nat) (hn:n<2 ^ 64) :
 Calls Tryz.prog 70 #[.pointer (some ⟨b,0,none⟩),.int .u64 (n:Int)] w fun e m=>e = .returned (.tuple #[])/\∃d,PageAt m d g b (layN P 0 (leB n 8))/\Step w0 τ0 m d S/\Step w τ m d (fun t=>t=g):=by
 have h1:=Qbp i r h 0 8 n (by omega) (by omega) (by omega) hn
 have s:=Z2 h1
 clear h1 h i r hn
 go_enter Tryz.func70,Tryz.ntmps70
 go_wp2_with fail
 refine s.out.mono ?_
 rintro e w1 ⟨rfl,τ1,j,k,l⟩
 obtain⟨o,p,q⟩:=hid3 j k l
 clear j k l
 go_wp2_with fail
 go_returns
 exact⟨rfl,τ1,o.out,p.out,q.out⟩
theorem Qbm {P:List Int}(d:Fit P) (h:P.length=448) (s:Nat):(pData P s).length=pLen P s:=by
 have:=d.ends s
 unfold pData
 rw[List.length_take,List.length_drop,h];omega
theorem PageAt.data {P:List Int}(h:PageAt w τ g b P) (i:Fit P) (s o:Nat) (j:0<pLen P s->o=pOff P s):Bytes w τ g (.slice (some ⟨b,o,none⟩) (pLen P s) (448-pOff P s)) (pData P s):=by
 have k:=i.ends s
 by_cases h0:0<pLen P s
 ·rw[j h0]
  exact(h.part (pOff P s) (pLen P s) h0 k).1
 ·have e:pLen P s=0:=by omega
  have hd:pData P s=[]:=by unfold pData;rw[e];rfl
  rw[hd,e]
  exact⟨fun x d=>by simp at d,some ⟨b,o,none⟩,448-pOff P s,rfl,Z9 _,by unfold maxLen;omega,fun d=>by simp at d⟩
theorem Qi5 {P:List Int}(h:PageAt w τ g b P) (i:Fit P) (s:Nat) (D:s<1000000) (x:Tag) :
 Calls Tryz.prog 78 #[.pointer (some ⟨b,0,none⟩),.int .i64 (s:Int)] w fun e y=>∃u j,e = .returned (.tuple #[u,.bool (decide (0<pLen P s))])/\Bytes y j x u (pData P s)/\Step w τ y j nil:=by
 have h1:=Qbx h i s D
 have d:=Qbm i h.len s
 have hle:=i.ends s
 have k:=fun (o:Nat) (p:0<pLen P s->o=pOff P s)=>Qeb (h.data i s o p) x (by rw[d];omega)
 generalize pData P s=l at *
 generalize pLen P s=n at *
 have m:decide (0<(n:Int))=decide (0<n):=by by_cases hn:0<n <;> simp[hn]
 obtain⟨E,q,Hlen⟩:=hid3 h1 k d
 clear h1 k d h i
 go_enter Tryz.func78,Tryz.ntmps78
 go_wp2_with fail
 refine E.out.mono ?_
 rintro e w1 ⟨o,rfl,p,rfl⟩
 have h2:=q.out o p
 have F:=Z2 h2
 clear h2 p
 go_wp2_with fail
 refine F.out.mono ?_
 rintro e w2 ⟨u,r,rfl,z,B,C⟩
 obtain⟨G,I,J⟩:=hid3 z B C
 clear z B C
 go_wp2_with fail
 go_returns
 exact⟨u,r,by first|rfl|rw[m]|simp,G.out,Step.of nil J.out I.out⟩
theorem Qa1 {P m:List Int}(h:off+m.length<=P.length) (i:Nat):(layN P off m)[i]?=if off<=i/\i<off+m.length then m[i-off]? else P[i]?:=by
 unfold layN
 have d:(P.take off).length=off:=by rw[List.length_take];omega
 by_cases h1:i<off
 ·rw[X0,Y5 (by rw[d];exact h1),List.getElem?_take,if_pos h1,if_neg (by omega)]
 ·by_cases h2:i<off+m.length
  ·rw[X0,Y6 (by rw[d];omega),d,Y5 (by omega),if_pos ⟨by omega,h2⟩]
  ·rw[Y6 (by rw[Z6,d];omega),Z6,d,List.getElem?_drop,if_neg (by omega)]
   congr 1;omega
theorem Qtm {P m:List Int}(h:off+m.length<=P.length) {a k:Nat}(hd:a+k<=off\/off+m.length<=a):((layN P off m).drop a).take k=(P.drop a).take k:=by
 apply List.ext_getElem?
 intro i
 by_cases hi:i<k
 ·rw[List.getElem?_take,List.getElem?_take,if_pos hi,if_pos hi,List.getElem?_drop,List.getElem?_drop,Qa1 h,if_neg (by omega)]
 ·rw[List.getElem?_take,List.getElem?_take,if_neg hi,if_neg hi]
theorem Qdh {P m:List Int}(h:off+m.length<=P.length) {a k:Nat}(d:a=off) (hk:k=m.length):((layN P off m).drop a).take k=m:=by
 subst d hk
 apply List.ext_getElem?
 intro i
 by_cases hi:i<m.length
 ·rw[List.getElem?_take,if_pos hi,List.getElem?_drop,Qa1 h,if_pos (by omega),Nat.add_sub_cancel_left]
 ·rw[List.getElem?_take,if_neg hi,List.getElem?_eq_none (by omega)]
theorem Qaj {P m:List Int}(h:off+m.length<=P.length) {a k:Nat}(hd:a+k<=off\/off+m.length<=a):pageN (layN P off m) a k=pageN P a k:=by
 unfold pageN;rw[Qtm h hd]
theorem Qgh {P:List Int}(h:P.length=448) (s o n:Nat) (hs:s<=107):(pList P s o n).length=448:=by
 unfold pList
 rw[Qae _ _ _ (by rw[Qae _ _ _ (by rw[Qaa];omega),Qaa];omega),Qae _ _ _ (by rw[Qaa];omega),h]
theorem Qbq {P:List Int}(h:P.length=448) (s o n:Nat) (hs:s<=107) {a k:Nat}(hd:a+k<=16+4*s\/20+4*s<=a):pageN (pList P s o n) a k=pageN P a k:=by
 unfold pList
 have h1:16+4*s+(leB o 2).length<=P.length:=by rw[Qaa];omega
 rw[Qaj (by rw[Qae _ _ _ h1,Qaa];omega) (by rw[Qaa];omega),Qaj h1 (by rw[Qaa];omega)]
theorem Qcc {P:List Int}(h:P.length=448) (s o n:Nat) (d:s<=107):pageCount (pList P s o n)=pageCount P:=Qbq h s o n d (.inl (by omega))
theorem Qe5 {P:List Int}(h:P.length=448) (s o n:Nat) (i:s<=107) (ho:o<65536) (t:Nat):pOff (pList P s o n) t=if t=s/\s<pageCount P then o else pOff P t:=by
 have h1:16+4*s+(leB o 2).length<=P.length:=by rw[Qaa];omega
 have h2:18+4*s+(leB n 2).length<=(layN P (16+4*s) (leB o 2)).length:=by rw[Qae _ _ _ h1,Qaa];omega
 unfold pOff
 rw[Qcc h s o n i]
 by_cases d:t<pageCount P
 ·rw[if_pos d,if_pos d]
  by_cases e:t=s
  ·subst e
   rw[if_pos ⟨rfl,d⟩]
   unfold pList
   rw[Qaj h2 (.inl (by omega))]
   unfold pageN
   rw[Qdh h1 rfl (by rw[Qaa])]
   rw[Qdl o 2 2 (Z0 _)]
   exact Nat.mod_eq_of_lt (by omega)
  ·rw[if_neg (fun h=>e h.1)]
   exact Qbq h s o n i (by omega)
 ·rw[if_neg d,if_neg d,if_neg (fun (h:t=s/\s<pageCount P)=>d (h.1▸h.2))]
theorem Qe6 {P:List Int}(h:P.length=448) (s o n:Nat) (i:s<=107) (hn:n<65536) (t:Nat):pLen (pList P s o n) t=if t=s/\s<pageCount P then n else pLen P t:=by
 have h1:16+4*s+(leB o 2).length<=P.length:=by rw[Qaa];omega
 have h2:18+4*s+(leB n 2).length<=(layN P (16+4*s) (leB o 2)).length:=by rw[Qae _ _ _ h1,Qaa];omega
 unfold pLen
 rw[Qcc h s o n i]
 by_cases d:t<pageCount P
 ·rw[if_pos d,if_pos d]
  by_cases e:t=s
  ·subst e
   rw[if_pos ⟨rfl,d⟩]
   unfold pList pageN
   rw[Qdh h2 rfl (by rw[Qaa])]
   rw[Qdl n 2 2 (Z0 _)]
   exact Nat.mod_eq_of_lt (by omega)
  ·rw[if_neg (fun h=>e h.1)]
   exact Qbq h s o n i (by omega)
 ·rw[if_neg d,if_neg d,if_neg (fun (h:t=s/\s<pageCount P)=>d (h.1▸h.2))]
theorem Fit.listed {P:List Int}(i:Fit P) (h:P.length=448) (s:Nat) (d:s<=107):Fit (pList P s 0 0):=by
 refine⟨by rw[Qcc h s 0 0 d];exact i.count,fun t=>?_⟩
 rw[Qe5 h s 0 0 d (by omega),Qe6 h s 0 0 d (by omega)]
 by_cases e:t=s/\s<pageCount P
 ·rw[if_pos e,if_pos e];omega
 ·rw[if_neg e,if_neg e];exact i.ends t
structure Lies (P:List Int):Prop where
 fit:Fit P
 behind:∀s,0<pLen P s->16+4*pageCount P<=pOff P s
theorem Qa9 {P m:List Int}(h:off+m.length<=P.length) (hb:16+4*pageCount P<=off):pageCount (layN P off m)=pageCount P:=Qaj h (.inl (by omega))
theorem Qem {P m:List Int}(h:off+m.length<=P.length) (e:16+4*pageCount P<=off) (t:Nat):pOff (layN P off m) t=pOff P t:=by
 unfold pOff
 rw[Qa9 h e]
 by_cases d:t<pageCount P
 ·rw[if_pos d,if_pos d];exact Qaj h (.inl (by omega))
 ·rw[if_neg d,if_neg d]
theorem Qen {P m:List Int}(h:off+m.length<=P.length) (e:16+4*pageCount P<=off) (t:Nat):pLen (layN P off m) t=pLen P t:=by
 unfold pLen
 rw[Qa9 h e]
 by_cases d:t<pageCount P
 ·rw[if_pos d,if_pos d];exact Qaj h (.inl (by omega))
 ·rw[if_neg d,if_neg d]
theorem Lies.laid {P m:List Int}(hl:Lies P) (h:off+m.length<=P.length) (d:16+4*pageCount P<=off):Lies (layN P off m) :=
 ⟨⟨by rw[Qa9 h d];exact hl.fit.count,fun t=>by rw[Qem h d,Qen h d];exact hl.fit.ends t⟩,fun t e=>by
   rw[Qen h d] at e
   rw[Qa9 h d,Qem h d];exact hl.behind t e⟩
theorem Lies.listed {P:List Int}(hl:Lies P) (h:P.length=448) (s:Nat) (d:s<=107):Lies (pList P s 0 0):=by
 refine⟨hl.fit.listed h s d,fun t=>?_⟩
 rw[Qcc h s 0 0 d,Qe5 h s 0 0 d (by omega),Qe6 h s 0 0 d (by omega)]
 by_cases e:t=s/\s<pageCount P
 ·rw[if_pos e];intro h;omega
 ·rw[if_neg e,if_neg e];exact hl.behind t
def Qi7 (P:List Int) (s:Nat):List Int:=pSettle (pList (layN P (pOff P s) (List.replicate (pLen P s) 0)) s 0 0)
theorem Qhx {S:Tag->Prop}(l:Step w0 τ0 w τ S) {g:Tag}{b:Nat}{P:List Int}(hS:S g\/w0.heap.size<=b) (hg:g≠tOut) (h:PageAt w τ g b P) (hl:Lies P) (s:Nat) (hs:s<=107) :
 Calls Tryz.prog 116 #[.pointer (some ⟨b,0,none⟩),.int .i64 (s:Int)] w fun e w'=>e = .returned (.bool (decide (0<pLen P s)))/\∃y,PageAt w' y g b (if 0<pLen P s then Qi7 P s else P)/\Step w0 τ0 w' y S/\Step w τ w' y (fun t=>t=g):=by
 have h1:=Qbx h hl.fit s (by omega)
 by_cases z:0<pLen P s
 ·rw[if_pos z,decide_eq_true z]
  have G:=hl.fit.ends s
  have I:=hl.behind s z
  have p:=h.len
  have q:pOff P s+pLen P s<=(u8s P).length:=by rw[Qac,h.len];exact G
  have j:pOff P s+(List.replicate (pLen P s) (0:Int)).length<=P.length:=by rw[Z7,h.len];exact G
  have J:=hl.laid (m:=List.replicate (pLen P s) 0) j I
  have d:=Qae P (pOff P s) (List.replicate (pLen P s) 0) j
  rw[p] at d
  have L:IsB (layN P (pOff P s) (List.replicate (pLen P s) 0)):=Qaw h.isB (fun x hx=>by rw[List.eq_of_mem_replicate hx];exact⟨by decide,by decide⟩) _
  have M:over (u8s P) (pOff P s) (u8s (List.replicate (pLen P s) 0))=u8s (layN P (pOff P s) (List.replicate (pLen P s) 0)):=by
   have:=Qby P (List.replicate (pLen P s) 0) (pOff P s) (pLen P s) (by rw[Z7])
   rw[List.take_of_length_le (by rw[Z7];exact Z0 _)] at this
   exact this
  have N:=J.listed d s hs
  have O:Qi7 P s=pSettle (pList (layN P (pOff P s) (List.replicate (pLen P s) 0)) s 0 0):=rfl
  generalize layN P (pOff P s) (List.replicate (pLen P s) 0)=P1 at *
  generalize pOff P s=o at *
  generalize pLen P s=n at *
  have r:=h.own
  have hn:¬n=0:=by omega
  obtain⟨H1,ac,ad,ae,af,B,i,R,C,HS⟩:=hid10 h1 M N O L d r q l hS
  clear h1 M N O L d r q l hS h hl J j I p
  have U:=fun (c:Nat) (ty:TypeId)=>Qht i.out z R.out (c:=c) ty
  rw[ac.out] at U
  have D:=i.out.row' (u8s P1)
  have k:=C.out.row i.out.tag HS.out (u8s P1).toArray
  have X:=(Step.refl w τ (fun t=>t=g)).row i.out.tag (.inl rfl) (u8s P1).toArray
  have h2:=Qej k HS.out ⟨D,af.out,B.out⟩ s 0 0 hs (by omega) (by omega)
  obtain⟨H2,Ho1,Hst1,ah⟩:=hid4 h2 D k X
  clear h2 D k X
  go_enter Tryz.func116,Tryz.ntmps116
  go_wp2_with fail
  refine H1.out.mono ?_
  rintro e w1 ⟨o',rfl,Y,rfl⟩
  obtain rfl:=Y z
  go_wp2_with fail
  refine H2.out.mono ?_
  rintro e w2 ⟨rfl,τ2,E,F,Z⟩
  have h3:=Qc7 F HS.out hg E ad.out.fit
  obtain⟨H3,Hp2,Hs2,ai⟩:=hid4 h3 E F Z
  clear h3 E F Z
  go_wp2_with fail
  refine H3.out.mono ?_
  rintro e w3 ⟨rfl,aj,a1,a6,a7⟩
  obtain⟨ak,al,am⟩:=hid3 a1 a6 a7
  clear a1 a6 a7
  go_wp2_with fail
  go_returns
  exact⟨rfl,aj,by rw[ae.out];exact ak.out,al.out,ah.out.trans (ai.out.trans am.out)⟩
 ·rw[if_neg z,decide_eq_false z]
  obtain h0:pLen P s=0:=by omega
  rw[h0] at h1
  obtain⟨H1,an,C⟩:=hid3 h1 h l
  clear h1 h l hl hS
  go_enter Tryz.func116,Tryz.ntmps116
  go_wp2_with fail
  refine H1.out.mono ?_
  rintro e w1 ⟨o',rfl,Y,rfl⟩
  go_wp2_with fail
  go_returns
  exact⟨rfl,τ,an.out,C.out,Step.refl _ _ _⟩
