/-
 The reference's pool without a page at hand: At,find,Dirty.
-/
import Derived.Test.YtemacanaihaldaaGreatMR12
import Derived.Test.YtemacanaihaldaaGreatMPoolI
import Derived.Test.YtemacanaihaldaaGreatMR8
set_option maxRecDepth 100000
set_option linter.all false
namespace Go.Proofs.YtemacanaihaldaaGreat
variable {bp k:Nat}{g:Tag}{w:World}{τ:Tags}
open Go.RowKit
structure NZ (n0:Nat) (w:World) (τ:Tags) (g:Tag) (v:Value) (l:List Int):Prop where
 buf:IntsZ w τ g v l
 low:∀k,v.ownBlock=some k→n0≤k
theorem NZ.nil (n0:Nat) (w:World) (τ:Tags) (g:Tag):NZ n0 w τ g (.slice none 0 0) []:=⟨Buf.nil _ _ _ _ _,fun k hk=>by simp[Value.ownBlock] at hk⟩
theorem Qjj {w0:World} {τ0:Tags} {S:Tag→Prop}(hst:Step w0 τ0 w τ S) {g:Tag}{v:Value}{l:List Int}(hown:NZ w0.heap.size w τ g v l) (x:Int) (hsz:l.length≤1000000) {kb:Nat}(hkb:kb=w.heap.size)
 {ops:Array Oper} {rest:List Oper} {o:Oper} {a:Act} {Q:Exit→Act→World→Prop} (hgd:o.guard=none) (s y:Operand)
 (hop:o.op = .call {callee:=.builtin .append,args:=#[s,y],argTypes:=#[98,98]}) (hs:a.eval s=v) (hy:a.eval y = .slice (some ⟨kb,0,none⟩) 1 1)
 (h:∀v' w' τ',NZ w0.heap.size w' τ' g v' (l++[x])→Step w0 τ0 w' τ' S→wpList Tryz.prog ops Q rest (a.put o.dst v') w'):wpList Tryz.prog ops Q (o::rest) a (w.alloc (.cells #[.int .i64 x] 3)):=by
 subst hkb
 refine wpList_plain hgd fun K hK=>?_
 obtain⟨i0,hi,hz0,hz1,hz2⟩:=info_parts Tryz.infoInt
 have hal:Step w τ (w.alloc (.cells #[.int .i64 x] 3)) τ nil:=(Step.refl w τ nil).alloc' _
 have hbuf2:Buf (w.alloc (.cells #[.int .i64 x] 3)) τ g 3 1 v l.length (i64z l):=Buf.step hown.buf hal (fun h=>h)
 have hst2:=hst.alloc' (.cells #[.int .i64 x] 3)
 obtain⟨v',w',τ',hr,hb',he,hm,hnw⟩:=Qap (P:=Tryz.prog) (w.alloc (.cells #[.int .i64 x] 3)) τ g 98 o.type 3 i0 (.int .i64 0) 1 8 Tryz.underlying98 hi hz0 hz1 hz2 rfl (by decide) v l.length (i64z l) hbuf2
  (some ⟨w.heap.size,0,none⟩) 1 1 [.int .i64 x] rfl (fun h=>by cases h) (by
    intro ad had;cases had;exact World.news_of_block (cs:=#[.int .i64 x]) (t := 3) (fr:=(0,0)) (heap_alloc_new w _)) (by simp[Value.oneCell']) (by unfold maxLen;omega) (by omega)
 unfold Oper.wp execOp
 simp only[hop,resolve,invoke,builtin,Sem.run_bind,Sem.run_pure,Result.andThen_ok,List.map_toArray,List.map_cons,List.map_nil,hs,hy,hr]
 have hb2:IntsZ w' τ' g v' (l++[x]):=by
  unfold IntsZ
  rw[List.length_append]
  have e:i64z (l++[x])=i64z l++[.int .i64 x]:=by simp[i64z]
  rw[e];exact hb'
 refine hK _ _ (h v' w' τ' ⟨hb2,fun k hk=>?_⟩ ⟨hst2.mod.seq hm (fun k hk hS=>absurd (hown.low k hS) (by omega)),hst2.ext.trans he hst2.size⟩)
 rcases hnw k hk with h1|h1
 ·exact hown.low k h1
 ·have:=hst.size;simp at h1;omega
theorem NZ.val {n0:Nat} {v:Value} {l:List Int}(h:NZ n0 w τ g v l):∃p c,v = .slice p l.length c:=Buf.len h.buf
theorem RPoolAt0.row {H:RPoolH}(h:RPoolAt0 w τ bp H k) (h0:0<k):∃bf c,H.vf = .slice (some ⟨bf,0,none⟩) k c∧∀i,i<k→w.cell? ⟨bf,i*3,none⟩=some (.int .i64 (-1)):=by
 obtain⟨h1,⟨_,h2⟩|⟨b,cap,ys,hv,ho,h3,h4,h5⟩⟩:=h.fr
 ·omega
 ·refine⟨b,cap,hv,fun i hi=>ho.at _ ?_⟩
  rw[List.getElem?_append_left (by rw[Qcm];omega)]
  exact Qqm k i hi
theorem r12at {H:RPoolH}(h:RPoolAt0 w τ bp H k) (h0:0<k) :
 Calls Tryz.prog 189 #[.pointer (some ⟨bp,0,none⟩)] w fun e w'=>∃v τ',e = .returned v∧IntsZ w' τ' tOut v (List.replicate k (-1))∧Step w τ w' τ' nil:=by
 have hk:=h.k1
 have H_h:=Lib.hid h
 clear h
 go_enter Tryz.func189,Tryz.ntmps189
 go_wp2_with fail
 go_loopw [3,4] (fun m iv wr=>∃(i:Nat) (τr:Tags),i≤k∧iv = .int .i64 (i:Int)∧NZ w.heap.size wr τr tOut m (List.replicate i (-1))∧Step w τ wr τr nil) (fun _ iv _=>k-(intOf iv).toNat)
 case atStart=>exact⟨0,τ,Nat.zero_le _,rfl,NZ.nil _ _ _ _,Step.refl _ _ _⟩
 case round =>
  obtain⟨i,τr,hi,rfl,hz,hst⟩:=hrel
  have hp:=H_h.out.step hst (fun _ _ h=>h)
  obtain⟨bf,c,hvf,hrow⟩:=hp.row h0
  have c2:=hp.hd.at 2 (v:=H.vf) rfl
  rw[hvf] at c2
  by_cases hlt:i<k
  ·have ci:=hrow i hlt
   have hlen:(List.replicate i (-1:Int)).length=i:=List.length_replicate
   have hs:=Qnk i (-1:Int)
   generalize hL:List.replicate i (-1:Int)=L at *
   obtain⟨pm,cm,rfl⟩:=hz.val
   rw[hlen] at hz
   rw[hlen]
   obtain⟨Hz,Hst,Hlen,Hs,HL⟩:=hid5 hz hst hlen hs hL
   clear hz hst hlen hs hL hp hvf hrow
   go_wp2_with (at_builtin;refine Qjj Hst.out Hz.out (-1) (by rw[Hlen.out];omega) rfl rfl _ _ rfl rfl rfl ?_;intro v' w' τ' hb he;obtain⟨Hb,He⟩:=hid2 hb he;clear hb he)
   go_round
   case rel=>exact⟨i+1,τ',by omega,by simp,by rw[Hs.out];exact Hb.out,He.out⟩
   case measure=>simp[intOf];omega
  ·obtain rfl:i=k:=by omega
   obtain⟨Hz,Hst⟩:=hid2 hz hst
   clear hz hst hp hvf hrow
   go_wp2_with fail
   go_returns
   exact⟨_,τr,rfl,Hz.out.buf,Hst.out⟩
theorem Qze {H:RPoolH}(h:RPoolAt0 w τ bp H k) (h0:0<k) (n:Nat) (hn:n<4294967296) :
 Calls Tryz.prog 255 #[.pointer (some ⟨bp,0,none⟩),.int .u32 (n:Int)] w fun e w'=>e = .returned (.int .i64 (-1))∧w=w':=by
 have hk:=h.k1
 obtain⟨bf,c,hvf,hrow⟩:=h.row h0
 have c2:=h.hd.at 2 (v:=H.vf) rfl
 rw[hvf] at c2
 have hwr:wrap64 (n:Int)=(n:Int):=by unfold wrap64;omega
 have hne:((-1:Int)==(n:Int))=false:=by rw[beq_eq_false_iff_ne];omega
 have Hrow:=Lib.hid hrow
 clear hrow h hvf
 go_enter Tryz.func255,Tryz.ntmps255
 go_wp2_with fail
 go_loopw [5] (fun iv wr=>∃(i:Nat),i≤k∧iv = .int .i64 (i:Int)∧wr=w) (fun iv _=>k-(intOf iv).toNat)
 case atStart=>exact⟨0,Nat.zero_le _,rfl,rfl⟩
 case round =>
  obtain⟨i,hi,rfl,rfl⟩:=hrel
  by_cases hlt:i<k
  ·have ci:=Hrow.out i hlt
   go_wp2_with fail
   go_round
   case rel=>exact⟨i+1,by omega,by simp,trivial⟩
   case measure=>simp[intOf];omega
  ·obtain rfl:i=k:=by omega
   go_wp2_with fail
   go_ret
   exact⟨rfl,rfl⟩
theorem Qxc {H:RPoolH}(h:RPoolAt0 w τ bp H k) (h0:0<k) :
 Calls Tryz.prog 191 #[.pointer (some ⟨bp,0,none⟩)] w fun e w'=>e = .returned (.slice none 0 0)∧w=w':=by
 have hn:=h.n1
 have c1:=h.hd.at 1 (v:=.int .i64 (H.n:Int)) rfl
 have hf:=fun (n:Nat) (hn:n<4294967296)=>Qze h h0 n hn
 generalize H.n=m at *
 have Hf:=Lib.hid hf
 clear hf h
 go_enter Tryz.func191,Tryz.ntmps191
 go_wp2_with fail
 go_loopw [3,4] (fun mv iv wr=>∃(i:Nat),i≤m∧iv = .int .i64 (i:Int)∧mv = .slice none 0 0∧wr=w) (fun _ iv _=>m-(intOf iv).toNat)
 case atStart=>exact⟨0,Nat.zero_le _,rfl,rfl,rfl⟩
 case round =>
  obtain⟨i,hi,rfl,rfl,rfl⟩:=hrel
  by_cases hlt:i<m
  ·have hfi:=Hf.out i (by omega)
   have hwr:=Qb1 i (by omega)
   have Hfi:=Lib.hid hfi
   clear hfi
   go_wp2_with fail
   refine Hfi.out.mono ?_
   rintro e w' ⟨rfl,rfl⟩
   go_wp2_with fail
   go_round
   case rel=>exact⟨i+1,by omega,by simp,rfl,trivial⟩
   case measure=>simp[intOf];omega
  ·obtain rfl:i=m:=by omega
   go_wp2_with fail
   go_ret
   exact⟨rfl,rfl⟩
theorem LogTag.fst(h:LogTag g):10≤g.1∧g.1≤12:=by rcases h with rfl|rfl|rfl <;> simp[tLog,Qah,Qag]
theorem DevTag.fst(h:DevTag g):2≤g.1∧g.1≤5:=by rcases h with h|h|h|h <;> omega
theorem RDevTag.fst(h:RDevTag g):40≤g.1∧g.1≤42:=by rcases h with h|h|h <;> omega
theorem RLogTag.fst(h:RLogTag g):50≤g.1∧g.1≤52:=by rcases h with rfl|rfl|rfl <;> simp[tRLog,Qee,Qef]
theorem RPoolTag.fst(h:RPoolTag g):60≤g.1∧g.1≤62:=by rcases h with rfl|rfl|rfl <;> simp[Qdc,tRFr,tRClk]
theorem PoolTag.fst(h:PoolTag g):g.1=20∨(30≤g.1∧g.1≤33):=by rcases h with rfl|rfl|rfl|rfl|⟨i,rfl⟩ <;> simp[tPool,tFr,tWhere,tClk,tPg]
theorem WalTag.fst(h:WalTag g):2≤g.1∧g.1≤12:=by
 rcases h with h|h
 ·have:=h.fst;omega
 ·have:=h.fst;omega
theorem RWalTag.fst(h:RWalTag g):40≤g.1∧g.1≤52:=by
 rcases h with h|h
 ·have:=h.fst;omega
 ·have:=h.fst;omega
theorem Qf6:tData.1=1:=rfl
def AnyTag (g:Tag):Prop:=g.1≠90
theorem Qiv {w':World} {τ':Tags}(h:Step w (fun _=>tBox) w' τ' AnyTag):Mod w w' no :=
 ⟨h.mod.os,h.mod.tape,h.mod.output,h.mod.size,fun k hk _=>h.mod.block k hk (fun hS=>hS rfl)⟩
theorem Qru (D:Dev) (k:Nat) (l:List Int):(D.write 0 k l).f1=D.f1:=by
 unfold Dev.write
 have hg:D.go.2.f1=D.f1:=Dev.go_file D 1
 split
 ·split
  ·exact hg
  ·rfl
 ·exact hg
theorem Quu (D:Dev):(D.sync 0).f1=D.f1:=by
 unfold Dev.sync
 have hg:D.go.2.f1=D.f1:=Dev.go_file D 1
 split <;> exact hg
theorem Qpk (D:Dev) (a:Nat) (want:List (List Int)) (i:Nat):(Qa7 D a want i).1.f1=D.f1:=by
 induction i with
 | zero=>rfl
 | succ i ih =>
   show (if _ then Qa7 D a want i else _).1.f1=_
   split
   ·exact ih
   ·rw[Qru,ih]
theorem Qot (D:Dev):(Qbl D).f1=D.f1:=by
 unfold Qbl Qf9
 rw[Quu,Qru]
 unfold Dev.make
 split
 ·rw[Quu,Qpk]
 ·rw[Qpk]
theorem Qsp {D:Dev} {m:Nat}(h:D.f1=List.replicate m zsec) (i:Nat) (hi:4*i+4≤m):lastTo D i 4=blank:=by
 apply List.ext_getElem?
 intro j
 unfold lastTo blank
 rw[List.getElem?_map,List.getElem?_replicate]
 by_cases hj:j<4
 ·rw[List.getElem?_range hj,if_pos hj]
  show some (D.last 1 (4*i+j))=some zeros128
  unfold Dev.last
  have:D.file 1=D.f1:=rfl
  rw[this,h,List.getElem?_replicate,if_pos (by omega)]
  rfl
 ·rw[List.getElem?_eq_none (by simp;omega),if_neg hj];rfl
theorem Qzq (a b:Nat):(⟨List.replicate a zsec,List.replicate b zsec,none,false⟩:Dev).lim 0:=by
 intro f k s hk
 unfold Dev.file at hk
 split at hk
 ·rw[List.getElem?_replicate] at hk
  split at hk
  ·cases hk;exact Nat.le_refl _
  ·cases hk
 ·split at hk
  ·rw[List.getElem?_replicate] at hk
   split at hk
   ·cases hk;exact Nat.le_refl _
   ·cases hk
  ·simp at hk
def knD0:Dev:=⟨List.replicate 18 zsec,List.replicate 20 zsec,none,false⟩
def knD:Dev:=Qbl knD0
theorem Qyr:knD.f1=List.replicate 20 zsec:=Qot knD0
theorem Jav:knD.f1.length=20:=by rw[Qyr,List.length_replicate]
theorem Jaw (i:Nat) (hi:i<5):lastTo knD i 4=blank:=Qsp Qyr i (by omega)
def Jc1:Tag:=(71,0)
def tWas:Tag:=(72,0)
theorem Jc0:Jc1.1=71:=rfl
theorem Jdf:tWas.1=72:=rfl
theorem Tryz.infoBlocks:(Tryz.prog.info? 52).map (fun i=>(i.zero,i.size,i.bytes))=some (some (.slice none 0 0),1,24):=by kernel_rfl
end Go.Proofs.YtemacanaihaldaaGreat