/-
 Rows of ints of a call's own that grow.
-/
import Derived.Test.YtemacanaihaldaaGreatMWalB
import Derived.Deep.MidRow
import Derived.Deep.WholeRow
import Derived.Laws.Cover3
import Derived.Stop.BytesEq
import Derived.Lib.SliceRun
set_option maxRecDepth 100000
set_option linter.all false
namespace Go.Proofs.YtemacanaihaldaaGreat
variable {b off:Nat}{g:Tag}{v:Value}{w w0:World}{τ τ0:Tags}
open Go.RowKit
theorem Tryz.infoInt:(Tryz.prog.info? 3).map (fun i=>(i.zero,i.size,i.bytes))=some (some (.int .i64 0),1,8):=by kernel_rfl
theorem Qrb (l:List Nat):(i64s l).length=l.length:=by simp[i64s]
theorem Qlj (l m:List Nat):i64s (l++m)=i64s l++i64s m:=by simp[i64s]
theorem Qzx (l:List Nat) (i:Nat) (h:i<l.length):(i64s l)[i]?=some (.int .i64 ((l.getD i 0:Nat):Int)):=by
 simp[i64s,List.getD,List.getElem?_eq_getElem h]
def Ints (w:World) (τ:Tags) (g:Tag) (v:Value) (l:List Nat):Prop:=Buf w τ g 3 1 v l.length (i64s l)
theorem Ints.step {w':World} {τ':Tags} {S:Tag→Prop} {l:List Nat}(h:Ints w τ g v l) (m:Step w τ w' τ' S) (hs:¬S g):Ints w' τ' g v l:=Buf.step h m hs
theorem Ints.read {l:List Nat}(h:Ints w τ g v l):∃p c,v = .slice p l.length c∧l.length≤maxLen∧∀i,i<l.length→∃b,p=some ⟨b,0,none⟩∧w.cell? ⟨b,i,none⟩=some (.int .i64 ((l.getD i 0:Nat):Int)):=by
 obtain⟨h1,⟨rfl,h2⟩|⟨b,cap,ys,rfl,ho,h3,h4,h5⟩⟩:=h
 ·refine⟨none,0,by rw[h2],by rw[h2];exact Nat.zero_le _,fun i hi=>by omega⟩
 ·refine⟨_,cap,rfl,by omega,fun i hi=>⟨b,rfl,ho.at i ?_⟩⟩
  rw[List.getElem?_append_left (by rw[Qrb];exact hi),Qzx l i hi]
structure NI (n0:Nat) (w:World) (τ:Tags) (g:Tag) (v:Value) (l:List Nat):Prop where
 buf:Ints w τ g v l
 low:∀k,v.ownBlock=some k→n0≤k
theorem NI.nil (n0:Nat) (w:World) (τ:Tags) (g:Tag):NI n0 w τ g (.slice none 0 0) []:=⟨Buf.nil _ _ _ _ _,fun k hk=>by simp[Value.ownBlock] at hk⟩
theorem NI.step {n0:Nat} {w':World} {τ':Tags} {S:Tag→Prop} {l:List Nat}(h:NI n0 w τ g v l) (m:Step w τ w' τ' S) (hs:¬S g):NI n0 w' τ' g v l:=⟨h.buf.step m hs,h.low⟩
theorem NI.val {n0:Nat} {l:List Nat}(h:NI n0 w τ g v l):∃p c,v = .slice p l.length c:=Buf.len h.buf
theorem Qjl {S:Tag→Prop}(hst:Step w0 τ0 w τ S) {g:Tag}{v:Value}{l:List Nat}(hown:NI w0.heap.size w τ g v l) (x:Nat) {xv:Int}(hxv:xv=(x:Int)) (hsz:l.length≤1000000000) {kb:Nat}(hkb:kb=w.heap.size)
 {ops:Array Oper} {rest:List Oper} {o:Oper} {a:Act} {Q:Exit→Act→World→Prop} (hgd:o.guard=none) (s y:Operand)
 (hop:o.op = .call {callee:=.builtin .append,args:=#[s,y],argTypes:=#[98,98]}) (hs:a.eval s=v) (hy:a.eval y = .slice (some ⟨kb,0,none⟩) 1 1)
 (h:∀v' w' τ',NI w0.heap.size w' τ' g v' (l++[x])→Step w0 τ0 w' τ' S→Step w τ w' τ' (fun t=>t=g)→wpList Tryz.prog ops Q rest (a.put o.dst v') w'):wpList Tryz.prog ops Q (o::rest) a (w.alloc (.cells #[.int .i64 xv] 3)):=by
 subst hkb
 subst hxv
 refine wpList_plain hgd fun K hK=>?_
 obtain⟨i0,hi,hz0,hz1,hz2⟩:=info_parts Tryz.infoInt
 have hst1:=hst.alloc' (.cells #[.int .i64 (x:Int)] 3)
 have hn1:=hown.step ((Step.refl w τ Go.Proofs.YtemacanaihaldaaGreat.nil).alloc' (.cells #[.int .i64 (x:Int)] 3)) (fun h=>h)
 obtain⟨v',w',τ',hr,hb',he,hm,hnw⟩:=Qap (P:=Tryz.prog) (w.alloc (.cells #[.int .i64 (x:Int)] 3)) τ g 98 o.type 3 i0 (.int .i64 0) 1 8 Tryz.underlying98 hi hz0 hz1 hz2 rfl (by decide) v l.length (i64s l) hn1.buf
  (some ⟨w.heap.size,0,none⟩) 1 1 [.int .i64 (x:Int)] rfl (fun h=>by cases h) (by
    intro ad had;cases had;exact World.news_of_block (cs:=#[.int .i64 (x:Int)]) (t := 3) (fr:=(0,0)) (heap_alloc_new w _)) (by simp[Value.oneCell']) (by unfold maxLen;omega) (by omega)
 unfold Oper.wp execOp
 simp only[hop,resolve,invoke,builtin,Sem.run_bind,Sem.run_pure,Result.andThen_ok,List.map_toArray,List.map_cons,List.map_nil,hs,hy,hr]
 refine hK _ _ (h v' w' τ' ⟨?_,fun k hk=>?_⟩ ⟨hst1.mod.seq hm (fun k hk hS=>absurd (hn1.low k hS) (by omega)),hst1.ext.trans he hst1.size⟩ (((Step.refl w τ _).alloc' _).trans ⟨hm.mono (fun k hk hS=>(hn1.buf.own k hS).1),he⟩))
 ·show Buf _ _ _ _ _ _ _ _
  rw[List.length_append,Qlj];exact hb'
 ·rcases hnw k hk with h|h
  ·exact hn1.low k h
  ·have:=hst1.size;omega
def Qas (P:List Int) (i:Nat):List Nat:=(List.range i).filter (fun s=>decide (0<pLen P s))
def Qab (P:List Int):List Nat:=Qas P (pageCount P)
theorem Qf8 (P:List Int) (i:Nat):Qas P (i+1)=Qas P i++(if 0<pLen P i then [i] else []):=by
 unfold Qas
 rw[List.range_succ,List.filter_append]
 congr 1
 by_cases h:0<pLen P i <;> simp[h]
theorem Qes (P:List Int) (i:Nat):(Qas P i).length≤i:=by
 unfold Qas
 exact Nat.le_trans (List.length_filter_le _ _) (by simp)
theorem Qcx {P:List Int} {i s:Nat}(h:s∈Qas P i):s<i∧0<pLen P s:=by
 unfold Qas at h
 obtain⟨h1,h2⟩:=List.mem_filter.1 h
 exact⟨List.mem_range.1 h1,by simpa using h2⟩
theorem Qfl {P:List Int}(h:PageAt w τ g b P) (hf:Fit P) :
 Calls Tryz.prog 214 #[.pointer (some ⟨b,0,none⟩)] w fun e w'=>∃v τ',e = .returned v∧NI w.heap.size w' τ' tOut v (Qab P)∧Step w τ w' τ' nil:=by
 have h1:=Qax h
 have hc:=hf.count
 have hps:Qab P=Qas P (pageCount P):=rfl
 generalize hq:pageCount P=q at *
 obtain⟨H1,Hps,Hq⟩:=hid3 h1 hps hq
 clear h1 hps hq
 obtain⟨H_h,Hf⟩:=hid2 h hf
 clear h hf
 go_enter Tryz.func214,Tryz.ntmps214
 go_wp2_with fail
 refine H1.out.mono ?_
 rintro e w' ⟨rfl,rfl⟩
 go_wp2_with fail
 go_loopw [3,7] (fun m v wr=>∃(i:Nat) (τr:Tags),i≤q∧v = .int .i64 (i:Int)∧NI w.heap.size wr τr tOut m (Qas P i)∧Step w τ wr τr nil) (fun _ v _=>q-(intOf v).toNat)
 case atStart=>exact⟨0,τ,Nat.zero_le _,rfl,NI.nil _ _ _ _,Step.refl _ _ _⟩
 case round =>
  obtain⟨i,τr,hi,rfl,hni,hst⟩:=hrel
  by_cases hlt:i<q
  ·have hd:=Qbx (H_h.out.step hst (fun h=>h)) Hf.out i (by omega)
   have hs:=Qf8 P i
   have hsl:=Qes P i
   obtain⟨pm,cm,rfl⟩:=hni.val
   generalize pLen P i=n at *
   by_cases h0:0<n
   ·rw[if_pos h0] at hs
    have hsz:(Qas P i).length≤1000000000:=by omega
    obtain⟨Hd,Hs,Hni,Hst,Hsz⟩:=hid5 hd hs hni hst hsz
    clear hd hs hni hst hsz
    go_wp2_with fail
    refine Hd.out.mono ?_
    rintro e w' ⟨o,rfl,-,rfl⟩
    go_wp2_with (at_builtin;refine Qjl Hst.out Hni.out i rfl Hsz.out rfl rfl _ _ rfl rfl rfl ?_;intro v' w' τ' hb he hmo;obtain⟨Hb,He,Hmo⟩:=hid3 hb he hmo;clear hb he hmo)
    go_round
    case rel=>exact⟨i+1,τ',by omega,by simp,by rw[Hs.out];exact Hb.out,He.out⟩
    case measure=>simp[intOf];omega
   ·rw[if_neg h0,List.append_nil] at hs
    obtain rfl:n=0:=by omega
    obtain⟨Hd,Hs,Hni,Hst⟩:=hid4 hd hs hni hst
    clear hd hs hni hst
    go_wp2_with fail
    refine Hd.out.mono ?_
    rintro e w' ⟨o,rfl,-,rfl⟩
    go_wp2_with fail
    go_round
    case rel=>exact⟨i+1,τr,by omega,by simp,by rw[Hs.out];exact Hni.out,Hst.out⟩
    case measure=>simp[intOf];omega
  ·have hin:i=q:=by omega
   subst hin
   obtain⟨Hni,Hst⟩:=hid2 hni hst
   clear hni hst
   go_wp2_with fail
   go_returns
   exact⟨_,τr,rfl,by rw[Hps.out];exact Hni.out,Hst.out⟩
def usedTo (P:List Int):Nat→Nat
 | 0=>0
 | i+1=>usedTo P i+pLen P i
def pUsed (P:List Int):Nat:=usedTo P (pageCount P)
theorem Qpc {P:List Int}(h:PageAt w τ g b P) (hf:Fit P) :
 Calls Tryz.prog 196 #[.pointer (some ⟨b,0,none⟩)] w fun e w'=>e = .returned (.int .i64 (pUsed P:Int))∧w=w':=by
 have h1:=Qax h
 have hc:=hf.count
 have hps:pUsed P=usedTo P (pageCount P):=rfl
 have hle:∀i,usedTo P i≤i*448:=by
  intro i
  induction i with
  | zero=>simp[usedTo]
  | succ i ih=>have:=hf.ends i;unfold usedTo;omega
 rw[hps]
 generalize hq:pageCount P=q at *
 obtain⟨H1,Hps,Hq,Hle⟩:=hid4 h1 hps hq hle
 clear h1 hps hq hle
 obtain⟨H_h,Hf⟩:=hid2 h hf
 clear h hf
 go_enter Tryz.func196,Tryz.ntmps196
 go_wp2_with fail
 refine H1.out.mono ?_
 rintro e w' ⟨rfl,rfl⟩
 go_wp2_with fail
 go_loopw [3,7] (fun m v wr=>∃(i:Nat),i≤q∧v = .int .i64 (i:Int)∧m = .int .i64 (usedTo P i:Int)∧wr=w) (fun _ v _=>q-(intOf v).toNat)
 case atStart=>exact⟨0,Nat.zero_le _,rfl,rfl,rfl⟩
 case round =>
  obtain⟨i,hi,rfl,rfl,rfl⟩:=hrel
  by_cases hlt:i<q
  ·have hd:=Qbx H_h.out Hf.out i (by omega)
   have hs:usedTo P (i+1)=usedTo P i+pLen P i:=rfl
   have hl:=Hle.out i
   have he:=Hf.out.ends i
   generalize pLen P i=n at *
   generalize pOff P i=o at *
   generalize usedTo P i=u at *
   obtain⟨Hd,Hs⟩:=hid2 hd hs
   clear hd hs
   go_wp2_with fail
   refine Hd.out.mono ?_
   rintro e w' ⟨o,rfl,-,rfl⟩
   go_wp2_with fail
   go_round
   case rel=>exact⟨i+1,by omega,by simp,by rw[Hs.out];simp,trivial⟩
   case measure=>simp[intOf];omega
  ·have hin:i=q:=by omega
   subst hin
   go_wp2_with fail
   go_returns
   exact⟨rfl,rfl⟩
theorem Qvx (l:List Value) (k:Nat) (z:List Value) (h:k+l.length≤z.length) :
 (l.zipIdx k).foldl (fun cs (p:Value×Nat)=>cs.setIfInBounds (0+p.2) p.1) z.toArray=(z.take k++l++z.drop (k+l.length)).toArray:=by
 induction l generalizing k z with
 | nil=>simp
 | cons x l ih =>
   rw[List.zipIdx_cons,List.foldl_cons]
   have e:z.toArray.setIfInBounds (0+k) x=(z.set k x).toArray:=by simp
   show List.foldl _ (z.toArray.setIfInBounds (0+k) x) _=_
   rw[e,ih (k+1) (z.set k x) (by rw[List.length_set];simp at h;omega)]
   congr 1
   simp at h
   rw[List.length_cons,List.take_set,List.drop_set_of_lt (by omega)]
   have hk:k<z.length:=by omega
   have e2:(z.take (k+1)).set k x=z.take k++[x]:=by
    rw[List.take_add_one]
    rw[List.getElem?_eq_getElem hk]
    rw[List.set_append_right _ _ (by simp;omega)]
    simp[Nat.min_eq_left (Nat.le_of_lt hk)]
   rw[e2,show k+1+l.length=k+(l.length+1) by omega]
   simp
theorem Qtt (cs z:Array Value) (h:cs.size=z.size) :
 cs.zipIdx.foldl (fun (acc:Array Value) (p:Value×Nat)=>acc.setIfInBounds (0+p.2) p.1) z=cs:=by
 obtain⟨l⟩:=cs
 obtain⟨m⟩:=z
 have:=Qvx l 0 m (by simp at h;omega)
 rw[←Array.foldl_toList,Array.toList_zipIdx]
 rw[this]
 simp at h
 simp[h]
theorem Qpq (cs:Array Value) (h:cs.size=448):Array.foldl (fun (a:Array Value) (x:Value×Nat)=>a.setIfInBounds x.snd x.fst) Tryz.zeroCells154 cs.zipIdx 0 448=cs:=by
 have:=Qtt cs Tryz.zeroCells154 (by rw[h,Tryz.zeroCells154_size])
 rw[Array.size_zipIdx,h] at this
 simpa using this
theorem Qiw {P:Program} {ops:Array Oper} {rest:List Oper} {op:Oper} {a:Act} {Q:Exit→Act→World→Prop}(hgd:op.guard=none) (o:BinOp) (t r:TypeId) (x y:Operand) (ho:op.op = .binOp o t x y r)
 (vx vy v:Value) (hx:a.eval x=vx) (hy:a.eval y=vy) (hq:(eqGuard o t x y vx vy).run P w = .ok () w) (hb:(binOp o t vx vy).run P w = .ok v w)
 (h:wpList P ops Q rest (a.put op.dst v) w):wpList P ops Q (op::rest) a w :=
 wpList_plain hgd fun _ hK=>by
  unfold Oper.wp execOp
  simp only[ho,hx,hy,Sem.run_bind,Sem.run_pure,Result.andThen_ok,hq,hb]
  exact hK _ _ h
theorem Qou {l:List Int}(h:IsB l):u8s l=(l.map (fun x=>x.toNat.toUInt8)).map Extern.Stop.cell:=by
 unfold u8s
 rw[List.map_map]
 refine List.map_congr_left (fun x hx=>?_)
 have:=h x hx
 simp only[Function.comp,Extern.Stop.cell]
 congr 1
 have h2:x.toNat.toUInt8.toNat=x.toNat:=by simp;omega
 show x=((x.toNat.toUInt8.toNat:Nat):Int)
 rw[h2];omega
theorem Qwd {l m:List Int}(hl:IsB l) (hm:IsB m):(l.map (fun x=>x.toNat.toUInt8)==m.map (fun x=>x.toNat.toUInt8))=decide (l=m):=by
 rw[Bool.eq_iff_iff]
 simp only[beq_iff_eq,decide_eq_true_eq]
 constructor
 ·intro h
  have h1:=congrArg (List.map (fun (b:UInt8)=>(b.toNat:Int))) h
  have h2:∀{k:List Int},IsB k→(k.map (fun x=>x.toNat.toUInt8)).map (fun (b:UInt8)=>(b.toNat:Int))=k:=by
   intro k hk
   rw[List.map_map]
   conv=>rhs;rw[←List.map_id k]
   refine List.map_congr_left (fun x hx=>?_)
   have:=hk x hx
   simp only[Function.comp,id]
   have h3:x.toNat.toUInt8.toNat=x.toNat:=by simp;omega
   omega
  rw[h2 hl,h2 hm] at h1
  exact h1
 ·rintro rfl;rfl
theorem Ql9 {P:Program} {t:TypeId} {n:Nat}(h:(P.info? t).map (·.size)=some n) (w:World):(sizeOf t).run P w = .ok n w:=by
 cases hq:P.info? t with
 | none=>simp[hq] at h
 | some i=>simp[sizeOf,typeInfo,hq];simpa [hq] using h
theorem Qi1 (w:World) {X Y:List Int}(hX:IsB X) (hY:IsB Y) (lX:X.length=448) (lY:Y.length=448) :
 (binOp .eql 152 (.agg (u8s X).toArray) (.agg (u8s Y).toArray)).run Tryz.prog w = .ok (.bool (decide (X=Y))) w:=by
 have hz:∀w,(sizeOf 5).run Tryz.prog w = .ok 1 w:=Ql9 (by kernel_rfl)
 rw[←Qwd hX hY,Qou hX,Qou hY]
 exact run_eql_bytes w _ _ 448 Tryz.underlying152 Tryz.underlying5 hz _ _ (by rw[List.length_map];exact lX) (by rw[List.length_map];exact lY)
theorem Qfz (w:World) (x y:Operand) (xs ys:Array Value):(eqGuard .eql 152 x y (.agg xs) (.agg ys)).run Tryz.prog w = .ok () w :=
 run_eqGuard_agg _ _ _ _ _ _ _ (by kernel_rfl)
theorem Qhv {o:Nat} {l:List Int}(hc:∀i,i<l.length→w.cell? ⟨b,o+i,none⟩=some (.int .u8 (l.getD i 0))):w.rangeAt b o (u8s l):=by
 intro j v hv
 have hj:j<l.length:=by
  rcases Nat.lt_or_ge j l.length with h|h
  ·exact h
  ·rw[List.getElem?_eq_none (by rw[Qac];exact h)] at hv;simp at hv
 rw[Qfw l j hj] at hv
 cases hv
 exact hc j hj
theorem Qns {g0:Tag}(h:Bytes w τ g0 v zeros448) :
 Calls Tryz.prog 117 #[v] w fun e w'=>∃b τ',e = .returned (.tuple #[.pointer (some ⟨b,0,none⟩),.int .u16 0])∧w.heap.size≤b∧PageAt w' τ' g b (emptyPage 0)∧Step w τ w' τ' nil:=by
 have hl:zeros448.length=448:=by simp[zeros448]
 generalize hz:zeros448=Z at *
 obtain⟨hB,p,c,rfl,h1,h2,h3⟩:=h
 obtain⟨bb,o,rfl,htag,hc⟩:=h3 (by omega)
 have hr:=Qhv hc
 have hsz0:(Tryz.prog.info? 152).map (·.size)=some 448:=by kernel_rfl
 have hsz:(Tryz.prog.info? 152).map (·.size)=some (u8s Z).length:=by rw[Qac,hl];exact hsz0
 have hat:∀w,(Instr.arrayAt 152 (.slice (some ⟨bb,o,none⟩) 448 c)).run Tryz.prog w = .ok (.pointer (some ⟨bb,o,none⟩)) w:=fun w=>run_arrayAt w _ _ 448 _ _ c Tryz.underlying152 (by omega)
 have hld:(Instr.loadAt 152 (.pointer (some ⟨bb,o,none⟩))).run Tryz.prog w = .ok (.agg (u8s Z).toArray) w:=run_loadAt_mid w bb o _ _ _ hr Tryz.underlying152 rfl hsz
 rw[hl]
 obtain⟨Hc,Htag,Hr⟩:=hid3 hc htag hr
 clear hc htag hr h1 h3 hB
 have Hl:=Lib.hid hl
 clear hl hld hsz0
 obtain⟨Hat,Hsz⟩:=hid2 hat hsz
 clear hat hsz
 go_enter Tryz.func117,Tryz.ntmps117
 go_wp2_with fail
 simp only[Hat.out]
 simp only[Result.andThen_ok]
 go_step
 go_step
 refine wpList_load_mid rfl 152 _ rfl bb o rfl (u8s Z) _ Hr.out Tryz.underlying152 rfl Hsz.out ?_
 have hsize:(u8s Z).toArray.size=448:=by rw[List.size_toArray,Qac];exact Hl.out
 have hfold:=Qpq _ hsize
 have hr2:(w.alloc (.cells (u8s Z).toArray 154)).rangeAt w.heap.size 0 (u8s Z).toArray.toList:=by
  intro j v hv
  rw[Nat.zero_add]
  exact(Own.new w τ g 154 (u8s Z)).at j hv
 have hsz2:(Tryz.prog.info? 152).map (·.size)=some (u8s Z).toArray.toList.length:=Hsz.out
 generalize hcs:(u8s Z).toArray=cs at *
 obtain⟨Hr2,Hsz2,Hcs⟩:=hid3 hr2 hsz2 hcs
 clear hr2 hsz2 hcs
 go_step
 go_step
 go_step
 go_step
 go_step
 go_step
 go_step
 go_step
 go_step
 go_step
 go_step
 go_step
 go_step
 go_step
 go_step
 go_step
 go_step
 go_step
 go_step
 go_step
 go_step
 go_step
 go_step
 go_step
 refine wpList_load_mid rfl 152 (.tmp 15) rfl w.heap.size 0 rfl cs.toList _ Hr2.out Tryz.underlying152 rfl Hsz2.out ?_
 simp only[Array.toArray_toList]
 go_step
 go_step
 go_step
 have hq:Tryz.zeroCells152 = (u8s zeros448).toArray:=by kernel_rfl
 refine Qiw rfl .eql 152 152 (.tmp 16) (.tmp 17) rfl (.agg cs) (.agg Tryz.zeroCells152) (.bool true) rfl rfl (Qfz _ _ _ _ _) (by rw[hq,←Hcs.out,←hz,Qi1 _ Qda Qda (by simp[zeros448]) (by simp[zeros448])];simp) ?_
 clear hq
 have hnew:=Qk3 (w.alloc (.cells cs 154)) (τ.put w.heap.size g) g 0 (by omega)
 have hst:=(Step.refl w τ nil).alloc (.cells cs 154) g
 obtain⟨Hnew,Hst⟩:=hid2 hnew hst
 clear hnew hst
 go_wp2_with fail
 refine Hnew.out.mono ?_
 rintro e w' ⟨b,τ',rfl,hlow,hpg,hs⟩
 obtain⟨Hpg,Hs,Hlow⟩:=hid3 hpg hs hlow
 clear hpg hs hlow
 go_wp2_with fail
 go_ret2
 exact⟨b,τ',rfl,Nat.le_trans Hst.out.size Hlow.out,Hpg.out,Hst.out.trans Hs.out⟩
def pList (P:List Int) (s o n:Nat):List Int:=layN (layN P (16+4*s) (leB o 2)) (18+4*s) (leB n 2)
theorem Qej {S:Tag→Prop}(hst:Step w0 τ0 w τ S) {g:Tag}{b:Nat}{P:List Int}(hS:S g∨w0.heap.size≤b) (h:PageAt w τ g b P) (s o n:Nat) (hs:s≤107) (ho:o<65536) (hn:n<65536) :
 Calls Tryz.prog 199 #[.pointer (some ⟨b,0,none⟩),.int .i64 (s:Int),.int .i64 (o:Int),.int .i64 (n:Int)] w fun e w'=>e = .returned (.tuple #[])∧∃τ',PageAt w' τ' g b (pList P s o n)∧Step w0 τ0 w' τ' S∧Step w τ w' τ' (fun t=>t=g):=by
 have h1:=Qbp hst hS h (16+4*s) 2 o (by omega) (by omega) (by omega) (by omega)
 rw[show ((16+4*s:Nat):Int)=16+4*(s:Int) by omega] at h1
 have w1:=Qam o (by omega)
 have w2:=Qam n (by omega)
 obtain⟨H1,HS⟩:=hid2 h1 hS
 clear h1 hS h hst
 go_enter Tryz.func199,Tryz.ntmps199
 go_wp2_with fail
 refine H1.out.mono ?_
 rintro e w1' ⟨rfl,τ1,hp1,hs1,hq1⟩
 have h2:=Qbp hs1 HS.out hp1 (18+4*s) 2 n (by omega) (by omega) (by omega) (by omega)
 rw[show ((18+4*s:Nat):Int)=16+4*(s:Int)+2 by omega] at h2
 obtain⟨H2,Hq1⟩:=hid2 h2 hq1
 clear h2 hq1 hp1 hs1
 go_wp2_with fail
 refine H2.out.mono ?_
 rintro e w2' ⟨rfl,τ2,hp2,hs2,hq2⟩
 obtain⟨Hp2,Hs2,Hq2⟩:=hid3 hp2 hs2 hq2
 clear hp2 hs2 hq2
 go_wp2_with fail
 go_returns
 exact⟨rfl,τ2,Hp2.out,Hs2.out,Hq1.out.trans Hq2.out⟩
def setTo (P:List Int) (l:List Nat):Nat→Nat×Nat
 | 0=>(0,448)
 | i+1=>(l.getD i 0+1,min (setTo P l i).2 (pOff P (l.getD i 0)))
def pSettle (P:List Int):List Int:=layN (layN P 12 (leB (setTo P (Qab P) (Qab P).length).1 2)) 14 (leB (setTo P (Qab P) (Qab P).length).2 2)
theorem Qr2 (P:List Int) (l:List Nat) (i:Nat):(setTo P l i).2≤448:=by
 induction i with
 | zero=>exact Nat.le_refl _
 | succ i ih=>exact Nat.le_trans (Nat.min_le_left _ _) ih
theorem Qqi {P:List Int} {l:List Nat} {q:Nat}(h:∀s∈l,s<q) (i:Nat) (hi:i≤l.length):(setTo P l i).1≤q:=by
 cases i with
 | zero=>exact Nat.zero_le _
 | succ i =>
   show l.getD i 0+1≤q
   rw[List.getD_eq_getElem?_getD,List.getElem?_eq_getElem (by omega)]
   exact h _ (List.getElem_mem _)
theorem Qc7 {S:Tag→Prop}(hst:Step w0 τ0 w τ S) {g:Tag}{b:Nat}{P:List Int}(hS:S g∨w0.heap.size≤b) (hg:g≠tOut) (h:PageAt w τ g b P) (hf:Fit P) :
 Calls Tryz.prog 200 #[.pointer (some ⟨b,0,none⟩)] w fun e w'=>e = .returned (.tuple #[])∧∃τ',PageAt w' τ' g b (pSettle P)∧Step w0 τ0 w' τ' S∧Step w τ w' τ' (fun t=>t=g):=by
 have h1:=Qfl h hf
 have hset:pSettle P=layN (layN P 12 (leB (setTo P (Qab P) (Qab P).length).1 2)) 14 (leB (setTo P (Qab P) (Qab P).length).2 2):=rfl
 have hmem:∀s∈Qab P,s<pageCount P∧0<pLen P s:=fun s hs=>Qcx hs
 have hc:=hf.count
 generalize hl:Qab P=l at *
 obtain⟨H1,Hset,Hmem,HS,Hst,Hl⟩:=hid6 h1 hset hmem hS hst hl
 clear h1 hset hmem hS hst hl
 obtain⟨H_h,Hf⟩:=hid2 h hf
 clear h hf
 go_enter Tryz.func200,Tryz.ntmps200
 go_wp2_with fail
 refine H1.out.mono ?_
 rintro e w1 ⟨v1,τ1,rfl,hni,hs1⟩
 obtain⟨p1,c1,hv1,hmx,-⟩:=hni.buf.read
 subst hv1
 generalize hn:l.length=n at *
 obtain⟨Hni,Hs1,Hn⟩:=hid3 hni hs1 hn
 clear hni hs1 hn H1
 go_wp2_with fail
 have hn40:n≤40:=by
  have h1:=Qes P (pageCount P)
  have h2:=Hn.out
  rw[←Hl.out] at h2
  unfold Qab at h2
  omega
 go_loopw [2,3,11] (fun c m v wr=>∃(i:Nat),i≤n∧v = .int .i64 (i:Int)∧c = .int .i64 ((setTo P l i).1:Int)∧m = .int .i64 ((setTo P l i).2:Int)∧wr=w1) (fun _ _ v _=>n-(intOf v).toNat)
 case atStart=>exact⟨0,Nat.zero_le _,rfl,rfl,rfl,rfl⟩
 case round =>
  obtain⟨i,hi,rfl,rfl,rfl,rfl⟩:=hrel
  by_cases hlt:i<n
  ·obtain⟨p',c',hv',_,hrd⟩:=Hni.out.buf.read
   cases hv'
   obtain⟨br,rfl,hcell⟩:=hrd i (by rw[Hn.out];exact hlt)
   have hsl:l.getD i 0<pageCount P:=by
    rw[List.getD_eq_getElem?_getD,List.getElem?_eq_getElem (by rw[Hn.out];exact hlt)]
    exact(Hmem.out _ (List.getElem_mem _)).1
   have hat:=Qgu (H_h.out.step Hs1.out (fun h=>h)) (l.getD i 0) (by omega) (by omega)
   have hs:setTo P l (i+1)=(l.getD i 0+1,min (setTo P l i).2 (pOff P (l.getD i 0))):=rfl
   have hle:=Qr2 P l i
   have hof:=Qu7 H_h.out.isB (l.getD i 0)
   generalize l.getD i 0=s at *
   generalize pOff P s=o at *
   generalize pLen P s=len at *
   generalize (setTo P l i).1=cc at *
   generalize (setTo P l i).2=m at *
   have hmn:(min (m:Int) (o:Int))=((min m o:Nat):Int):=by omega
   obtain⟨Hat,Hs⟩:=hid2 hat hs
   clear hat hs hrd
   go_wp2_with fail
   refine Hat.out.mono ?_
   rintro e w' ⟨rfl,rfl⟩
   go_wp2_with fail
   go_round
   case rel=>exact⟨i+1,by omega,by simp,by rw[Hs.out];simp,by rw[Hs.out],trivial⟩
   case measure=>simp[intOf];omega
  ·have hin:i=n:=by omega
   subst hin
   have hcw:=Qr2 P l i
   have hcc:=Qqi (P:=P) (q:=pageCount P) (fun s hs=>(Hmem.out s hs).1) i (by rw[Hn.out];exact Nat.le_refl _)
   generalize (setTo P l i).1=cc at *
   generalize (setTo P l i).2=m at *
   have w1:=Qam cc (by omega)
   have w2:=Qam m (by omega)
   have h1:=Qbp (Hst.out.trans (Hs1.out.mono (T:=S) (fun _ h=>h.elim))) HS.out (H_h.out.step Hs1.out (fun h=>h)) 12 2 cc (by omega) (by omega) (by omega) (by omega)
   have H1:=Lib.hid h1
   clear h1
   go_wp2_with fail
   refine H1.out.mono ?_
   rintro e wa ⟨rfl,τa,ha,hsa,hqa⟩
   have h2:=Qbp hsa HS.out ha 14 2 m (by omega) (by omega) (by omega) (by omega)
   obtain⟨H2,Ha,Hsa,Hqa⟩:=hid4 h2 ha hsa hqa
   clear h2 ha hsa hqa
   go_wp2_with fail
   refine H2.out.mono ?_
   rintro e wb ⟨rfl,τb,hb,hsb,hqb⟩
   obtain⟨Hb,Hsb,Hqb⟩:=hid3 hb hsb hqb
   clear hb hsb hqb
   go_wp2_with fail
   go_returns
   exact⟨rfl,τb,by rw[Hset.out];exact Hb.out,Hsb.out,(Hs1.out.mono (T:=fun t=>t=g) (fun _ h=>h.elim)).trans (Hqa.out.trans Hqb.out)⟩
theorem Qul (n:Nat):u8s (List.replicate n 0)=List.replicate n (.int .u8 0):=by simp[u8s]
theorem Qht {gb:Nat} {tg:Tag} {T:TypeId} {cur:List Value}(ho:Own w τ gb tg T cur) {off n c:Nat}(h0:0<n) (hfit:off+n≤cur.length) (ty:TypeId) :
 (Builtin.clear_ #[37] ty #[.slice (some ⟨gb,off,none⟩) n c]).run Tryz.prog w = .ok (.tuple #[]) (w.setRow gb (over cur off (u8s (List.replicate n 0))).toArray):=by
 have hzc:(Builtin.zeroCells (Value.int .u8 0).cells n).toList=List.replicate n (.int .u8 0):=by
  have hz:(Value.int .u8 0).cells=#[.int .u8 0]:=rfl
  rw[hz]
  simp[Builtin.zeroCells]
  apply List.ext_getElem
  ·simp
  ·intro i h1 h2
   simp[Nat.mod_one]
 have hst:=run_storeCells_at Tryz.prog gb off T (List.replicate n (.int .u8 0)) 0 cur.toArray w ho.row (by simpa using hfit) (by intro v hv;rw[List.eq_of_mem_replicate hv];rfl)
 obtain⟨m,rfl⟩:∃m,n=m+1:=⟨n-1,by omega⟩
 rw[Qul]
 simp[Builtin.clear_,run_underlying Tryz.underlying37,Tryz.zeroValue5 w,hzc,hst,over]
theorem Qnq {S:Tag→Prop}(hst:Step w0 τ0 w τ S) {g:Tag}{b:Nat}{P:List Int}(hS:S g∨w0.heap.size≤b) (h:PageAt w τ g b P) (n:Nat) (hn:n<2 ^ 64) :
 Calls Tryz.prog 70 #[.pointer (some ⟨b,0,none⟩),.int .u64 (n:Int)] w fun e w'=>e = .returned (.tuple #[])∧∃τ',PageAt w' τ' g b (layN P 0 (leB n 8))∧Step w0 τ0 w' τ' S∧Step w τ w' τ' (fun t=>t=g):=by
 have h1:=Qbp hst hS h 0 8 n (by omega) (by omega) (by omega) hn
 have H1:=Lib.hid h1
 clear h1 h hst hS hn
 go_enter Tryz.func70,Tryz.ntmps70
 go_wp2_with fail
 refine H1.out.mono ?_
 rintro e w1 ⟨rfl,τ1,hp1,hs1,hq1⟩
 obtain⟨Hp1,Hs1,Hq1⟩:=hid3 hp1 hs1 hq1
 clear hp1 hs1 hq1
 go_wp2_with fail
 go_returns
 exact⟨rfl,τ1,Hp1.out,Hs1.out,Hq1.out⟩
theorem Qbm {P:List Int}(hf:Fit P) (h:P.length=448) (s:Nat):(pData P s).length=pLen P s:=by
 have:=hf.ends s
 unfold pData
 rw[List.length_take,List.length_drop,h];omega
theorem PageAt.data {P:List Int}(h:PageAt w τ g b P) (hf:Fit P) (s o:Nat) (ho:0<pLen P s→o=pOff P s):Bytes w τ g (.slice (some ⟨b,o,none⟩) (pLen P s) (448-pOff P s)) (pData P s):=by
 have he:=hf.ends s
 by_cases h0:0<pLen P s
 ·rw[ho h0]
  exact(h.part (pOff P s) (pLen P s) h0 he).1
 ·have e:pLen P s=0:=by omega
  have hd:pData P s=[]:=by unfold pData;rw[e];rfl
  rw[hd,e]
  exact⟨fun x hx=>by simp at hx,some ⟨b,o,none⟩,448-pOff P s,rfl,Nat.zero_le _,by unfold maxLen;omega,fun hx=>by simp at hx⟩
theorem Qi5 {P:List Int}(h:PageAt w τ g b P) (hf:Fit P) (s:Nat) (hs:s<1000000) (g':Tag) :
 Calls Tryz.prog 78 #[.pointer (some ⟨b,0,none⟩),.int .i64 (s:Int)] w fun e w'=>∃u τ',e = .returned (.tuple #[u,.bool (decide (0<pLen P s))])∧Bytes w' τ' g' u (pData P s)∧Step w τ w' τ' nil:=by
 have h1:=Qbx h hf s hs
 have hlen:=Qbm hf h.len s
 have hle:=hf.ends s
 have hcl:=fun (o:Nat) (ho:0<pLen P s→o=pOff P s)=>Qeb (h.data hf s o ho) g' (by rw[hlen];omega)
 generalize pData P s=l at *
 generalize pLen P s=n at *
 have hdec:decide (0<(n:Int))=decide (0<n):=by by_cases hn:0<n <;> simp[hn]
 obtain⟨H1,Hcl,Hlen⟩:=hid3 h1 hcl hlen
 clear h1 hcl hlen h hf
 go_enter Tryz.func78,Tryz.ntmps78
 go_wp2_with fail
 refine H1.out.mono ?_
 rintro e w1 ⟨o,rfl,ho,rfl⟩
 have h2:=Hcl.out o ho
 have H2:=Lib.hid h2
 clear h2 ho
 go_wp2_with fail
 refine H2.out.mono ?_
 rintro e w2 ⟨u,τ2,rfl,hb,he,hm⟩
 obtain⟨Hb,He,Hm⟩:=hid3 hb he hm
 clear hb he hm
 go_wp2_with fail
 go_returns
 exact⟨u,τ2,by first|rfl|rw[hdec]|simp,Hb.out,Step.of nil Hm.out He.out⟩
theorem Qa1 {P m:List Int}(h:off+m.length≤P.length) (i:Nat):(layN P off m)[i]?=if off≤i∧i<off+m.length then m[i-off]? else P[i]?:=by
 unfold layN
 have ht:(P.take off).length=off:=by rw[List.length_take];omega
 by_cases h1:i<off
 ·rw[List.append_assoc,List.getElem?_append_left (by rw[ht];exact h1),List.getElem?_take,if_pos h1,if_neg (by omega)]
 ·by_cases h2:i<off+m.length
  ·rw[List.append_assoc,List.getElem?_append_right (by rw[ht];omega),ht,List.getElem?_append_left (by omega),if_pos ⟨by omega,h2⟩]
  ·rw[List.getElem?_append_right (by rw[List.length_append,ht];omega),List.length_append,ht,List.getElem?_drop,if_neg (by omega)]
   congr 1;omega
theorem Qtm {P m:List Int}(h:off+m.length≤P.length) {a k:Nat}(hd:a+k≤off∨off+m.length≤a):((layN P off m).drop a).take k=(P.drop a).take k:=by
 apply List.ext_getElem?
 intro i
 by_cases hi:i<k
 ·rw[List.getElem?_take,List.getElem?_take,if_pos hi,if_pos hi,List.getElem?_drop,List.getElem?_drop,Qa1 h,if_neg (by omega)]
 ·rw[List.getElem?_take,List.getElem?_take,if_neg hi,if_neg hi]
theorem Qdh {P m:List Int}(h:off+m.length≤P.length) {a k:Nat}(ha:a=off) (hk:k=m.length):((layN P off m).drop a).take k=m:=by
 subst ha hk
 apply List.ext_getElem?
 intro i
 by_cases hi:i<m.length
 ·rw[List.getElem?_take,if_pos hi,List.getElem?_drop,Qa1 h,if_pos (by omega),Nat.add_sub_cancel_left]
 ·rw[List.getElem?_take,if_neg hi,List.getElem?_eq_none (by omega)]
theorem Qaj {P m:List Int}(h:off+m.length≤P.length) {a k:Nat}(hd:a+k≤off∨off+m.length≤a):pageN (layN P off m) a k=pageN P a k:=by
 unfold pageN;rw[Qtm h hd]
theorem Qgh {P:List Int}(h:P.length=448) (s o n:Nat) (hs:s≤107):(pList P s o n).length=448:=by
 unfold pList
 rw[Qae _ _ _ (by rw[Qae _ _ _ (by rw[Qaa];omega),Qaa];omega),Qae _ _ _ (by rw[Qaa];omega),h]
theorem Qbq {P:List Int}(h:P.length=448) (s o n:Nat) (hs:s≤107) {a k:Nat}(hd:a+k≤16+4*s∨20+4*s≤a):pageN (pList P s o n) a k=pageN P a k:=by
 unfold pList
 have h1:16+4*s+(leB o 2).length≤P.length:=by rw[Qaa];omega
 rw[Qaj (by rw[Qae _ _ _ h1,Qaa];omega) (by rw[Qaa];omega),Qaj h1 (by rw[Qaa];omega)]
theorem Qcc {P:List Int}(h:P.length=448) (s o n:Nat) (hs:s≤107):pageCount (pList P s o n)=pageCount P:=Qbq h s o n hs (.inl (by omega))
theorem Qe5 {P:List Int}(h:P.length=448) (s o n:Nat) (hs:s≤107) (ho:o<65536) (t:Nat):pOff (pList P s o n) t=if t=s∧s<pageCount P then o else pOff P t:=by
 have h1:16+4*s+(leB o 2).length≤P.length:=by rw[Qaa];omega
 have h2:18+4*s+(leB n 2).length≤(layN P (16+4*s) (leB o 2)).length:=by rw[Qae _ _ _ h1,Qaa];omega
 unfold pOff
 rw[Qcc h s o n hs]
 by_cases ht:t<pageCount P
 ·rw[if_pos ht,if_pos ht]
  by_cases e:t=s
  ·subst e
   rw[if_pos ⟨rfl,ht⟩]
   unfold pList
   rw[Qaj h2 (.inl (by omega))]
   unfold pageN
   rw[Qdh h1 rfl (by rw[Qaa])]
   rw[Qdl o 2 2 (Nat.le_refl _)]
   exact Nat.mod_eq_of_lt (by omega)
  ·rw[if_neg (fun h=>e h.1)]
   exact Qbq h s o n hs (by omega)
 ·rw[if_neg ht,if_neg ht,if_neg (fun (h:t=s∧s<pageCount P)=>ht (h.1▸h.2))]
theorem Qe6 {P:List Int}(h:P.length=448) (s o n:Nat) (hs:s≤107) (hn:n<65536) (t:Nat):pLen (pList P s o n) t=if t=s∧s<pageCount P then n else pLen P t:=by
 have h1:16+4*s+(leB o 2).length≤P.length:=by rw[Qaa];omega
 have h2:18+4*s+(leB n 2).length≤(layN P (16+4*s) (leB o 2)).length:=by rw[Qae _ _ _ h1,Qaa];omega
 unfold pLen
 rw[Qcc h s o n hs]
 by_cases ht:t<pageCount P
 ·rw[if_pos ht,if_pos ht]
  by_cases e:t=s
  ·subst e
   rw[if_pos ⟨rfl,ht⟩]
   unfold pList pageN
   rw[Qdh h2 rfl (by rw[Qaa])]
   rw[Qdl n 2 2 (Nat.le_refl _)]
   exact Nat.mod_eq_of_lt (by omega)
  ·rw[if_neg (fun h=>e h.1)]
   exact Qbq h s o n hs (by omega)
 ·rw[if_neg ht,if_neg ht,if_neg (fun (h:t=s∧s<pageCount P)=>ht (h.1▸h.2))]
theorem Fit.listed {P:List Int}(hf:Fit P) (h:P.length=448) (s:Nat) (hs:s≤107):Fit (pList P s 0 0):=by
 refine⟨by rw[Qcc h s 0 0 hs];exact hf.count,fun t=>?_⟩
 rw[Qe5 h s 0 0 hs (by omega),Qe6 h s 0 0 hs (by omega)]
 by_cases e:t=s∧s<pageCount P
 ·rw[if_pos e,if_pos e];omega
 ·rw[if_neg e,if_neg e];exact hf.ends t
structure Lies (P:List Int):Prop where
 fit:Fit P
 behind:∀s,0<pLen P s→16+4*pageCount P≤pOff P s
theorem Qa9 {P m:List Int}(h:off+m.length≤P.length) (hb:16+4*pageCount P≤off):pageCount (layN P off m)=pageCount P:=Qaj h (.inl (by omega))
theorem Qem {P m:List Int}(h:off+m.length≤P.length) (hb:16+4*pageCount P≤off) (t:Nat):pOff (layN P off m) t=pOff P t:=by
 unfold pOff
 rw[Qa9 h hb]
 by_cases ht:t<pageCount P
 ·rw[if_pos ht,if_pos ht];exact Qaj h (.inl (by omega))
 ·rw[if_neg ht,if_neg ht]
theorem Qen {P m:List Int}(h:off+m.length≤P.length) (hb:16+4*pageCount P≤off) (t:Nat):pLen (layN P off m) t=pLen P t:=by
 unfold pLen
 rw[Qa9 h hb]
 by_cases ht:t<pageCount P
 ·rw[if_pos ht,if_pos ht];exact Qaj h (.inl (by omega))
 ·rw[if_neg ht,if_neg ht]
theorem Lies.laid {P m:List Int}(hl:Lies P) (h:off+m.length≤P.length) (hb:16+4*pageCount P≤off):Lies (layN P off m) :=
 ⟨⟨by rw[Qa9 h hb];exact hl.fit.count,fun t=>by rw[Qem h hb,Qen h hb];exact hl.fit.ends t⟩,fun t ht=>by
   rw[Qen h hb] at ht
   rw[Qa9 h hb,Qem h hb];exact hl.behind t ht⟩
theorem Lies.listed {P:List Int}(hl:Lies P) (h:P.length=448) (s:Nat) (hs:s≤107):Lies (pList P s 0 0):=by
 refine⟨hl.fit.listed h s hs,fun t=>?_⟩
 rw[Qcc h s 0 0 hs,Qe5 h s 0 0 hs (by omega),Qe6 h s 0 0 hs (by omega)]
 by_cases e:t=s∧s<pageCount P
 ·rw[if_pos e];intro h;omega
 ·rw[if_neg e,if_neg e];exact hl.behind t
def Qi7 (P:List Int) (s:Nat):List Int:=pSettle (pList (layN P (pOff P s) (List.replicate (pLen P s) 0)) s 0 0)
theorem Qhx {S:Tag→Prop}(hst:Step w0 τ0 w τ S) {g:Tag}{b:Nat}{P:List Int}(hS:S g∨w0.heap.size≤b) (hg:g≠tOut) (h:PageAt w τ g b P) (hl:Lies P) (s:Nat) (hs:s≤107) :
 Calls Tryz.prog 116 #[.pointer (some ⟨b,0,none⟩),.int .i64 (s:Int)] w fun e w'=>e = .returned (.bool (decide (0<pLen P s)))∧∃τ',PageAt w' τ' g b (if 0<pLen P s then Qi7 P s else P)∧Step w0 τ0 w' τ' S∧Step w τ w' τ' (fun t=>t=g):=by
 have h1:=Qbx h hl.fit s (by omega)
 by_cases hp:0<pLen P s
 ·rw[if_pos hp,decide_eq_true hp]
  have hle:=hl.fit.ends s
  have hbe:=hl.behind s hp
  have h448:=h.len
  have hfit:pOff P s+pLen P s≤(u8s P).length:=by rw[Qac,h.len];exact hle
  have hlay:pOff P s+(List.replicate (pLen P s) (0:Int)).length≤P.length:=by rw[List.length_replicate,h.len];exact hle
  have hl1:=hl.laid (m:=List.replicate (pLen P s) 0) hlay hbe
  have hlen1:=Qae P (pOff P s) (List.replicate (pLen P s) 0) hlay
  rw[h448] at hlen1
  have hB1:IsB (layN P (pOff P s) (List.replicate (pLen P s) 0)):=Qaw h.isB (fun x hx=>by rw[List.eq_of_mem_replicate hx];exact⟨by decide,by decide⟩) _
  have hov:over (u8s P) (pOff P s) (u8s (List.replicate (pLen P s) 0))=u8s (layN P (pOff P s) (List.replicate (pLen P s) 0)):=by
   have:=Qby P (List.replicate (pLen P s) 0) (pOff P s) (pLen P s) (by rw[List.length_replicate])
   rw[List.take_of_length_le (by rw[List.length_replicate];exact Nat.le_refl _)] at this
   exact this
  have hl2:=hl1.listed hlen1 s hs
  have hpc:Qi7 P s=pSettle (pList (layN P (pOff P s) (List.replicate (pLen P s) 0)) s 0 0):=rfl
  generalize layN P (pOff P s) (List.replicate (pLen P s) 0)=P1 at *
  generalize pOff P s=o at *
  generalize pLen P s=n at *
  have hown:=h.own
  have hn:¬n=0:=by omega
  obtain⟨H1,Hov,Hl2,Hpc,HB1,Hlen1,Hown,Hfit,Hst,HS⟩:=hid10 h1 hov hl2 hpc hB1 hlen1 hown hfit hst hS
  clear h1 hov hl2 hpc hB1 hlen1 hown hfit hst hS h hl hl1 hlay hbe h448
  have hrun:=fun (c:Nat) (ty:TypeId)=>Qht Hown.out hp Hfit.out (c:=c) ty
  rw[Hov.out] at hrun
  have ho1:=Hown.out.row' (u8s P1)
  have hst1:=Hst.out.row Hown.out.tag HS.out (u8s P1).toArray
  have hq1:=(Step.refl w τ (fun t=>t=g)).row Hown.out.tag (.inl rfl) (u8s P1).toArray
  have h2:=Qej hst1 HS.out ⟨ho1,HB1.out,Hlen1.out⟩ s 0 0 hs (by omega) (by omega)
  obtain⟨H2,Ho1,Hst1,Hq1⟩:=hid4 h2 ho1 hst1 hq1
  clear h2 ho1 hst1 hq1
  go_enter Tryz.func116,Tryz.ntmps116
  go_wp2_with fail
  refine H1.out.mono ?_
  rintro e w1 ⟨o',rfl,ho',rfl⟩
  obtain rfl:=ho' hp
  go_wp2_with fail
  refine H2.out.mono ?_
  rintro e w2 ⟨rfl,τ2,hp2,hs2,hq2⟩
  have h3:=Qc7 hs2 HS.out hg hp2 Hl2.out.fit
  obtain⟨H3,Hp2,Hs2,Hq2⟩:=hid4 h3 hp2 hs2 hq2
  clear h3 hp2 hs2 hq2
  go_wp2_with fail
  refine H3.out.mono ?_
  rintro e w3 ⟨rfl,τ3,hp3,hs3,hq3⟩
  obtain⟨Hp3,Hs3,Hq3⟩:=hid3 hp3 hs3 hq3
  clear hp3 hs3 hq3
  go_wp2_with fail
  go_returns
  exact⟨rfl,τ3,by rw[Hpc.out];exact Hp3.out,Hs3.out,Hq1.out.trans (Hq2.out.trans Hq3.out)⟩
 ·rw[if_neg hp,decide_eq_false hp]
  obtain h0:pLen P s=0:=by omega
  rw[h0] at h1
  obtain⟨H1,H_h,Hst⟩:=hid3 h1 h hst
  clear h1 h hst hl hS
  go_enter Tryz.func116,Tryz.ntmps116
  go_wp2_with fail
  refine H1.out.mono ?_
  rintro e w1 ⟨o',rfl,ho',rfl⟩
  go_wp2_with fail
  go_returns
  exact⟨rfl,τ,H_h.out,Hst.out,Step.refl _ _ _⟩
end Go.Proofs.YtemacanaihaldaaGreat