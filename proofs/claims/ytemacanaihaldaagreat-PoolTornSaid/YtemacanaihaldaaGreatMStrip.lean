/-
 strip.Lay: a stream as sectors.
-/
import Derived.Test.YtemacanaihaldaaGreatMConcat
import Derived.Test.YtemacanaihaldaaGreatMGrow
set_option maxRecDepth 100000
set_option maxHeartbeats 2000000
set_option linter.all false
namespace Go.Proofs.YtemacanaihaldaaGreat
open Go.RowKit Go.Shelf
attribute [local go_sem] Oper.semAt_some
def stripPart (st:List Int) (j:Nat):List Int:=(st.drop (j*127)).take 127
def Qbt (st:List Int) (j:Nat):List Int:=stripPart st j++List.replicate (127-(stripPart st j).length) 0++[((stripPart st j).length:Int)]
def Quz (st:List Int) (k:Nat):List (List Int):=(List.range k).map (Qbt st)
def Qeg (st:List Int):List (List Int):=Quz st (parts st.length 127)
theorem Qb5 (st:List Int) (j:Nat):(stripPart st j).length=min 127 (st.length-j*127):=by
 unfold stripPart;rw[List.length_take,List.length_drop]
theorem Ql5 (st:List Int) (j:Nat):(Qbt st j).length=128:=by
 have:=Qb5 st j
 unfold Qbt;simp only[List.length_append,List.length_replicate,List.length_cons,List.length_nil];omega
theorem Qqg {st:List Int}(h:IsB st) (j:Nat):IsB (Qbt st j):=by
 have:=Qb5 st j
 intro x hx
 unfold Qbt at hx
 rcases List.mem_append.1 hx with hx|hx
 ·rcases List.mem_append.1 hx with hx|hx
  ·exact h x (List.mem_of_mem_drop (List.mem_of_mem_take hx))
  ·rw[(List.mem_replicate.1 hx).2];omega
 ·rw[List.mem_singleton.1 hx];omega
def tBox:Tag:=(90,0)
def tOut:Tag:=(91,0)
theorem Qhm (n:Nat):(madeCells #[Value.int .u8 0] n).toList=u8s (List.replicate n 0):=by
 rw[Qgp 0 n]
 apply List.ext_getElem?
 intro j
 by_cases hj:j<n
 ·rw[Qc2 _ _ _ _ hj,if_neg (by omega)]
  simp[u8s,hj]
 ·rw[List.getElem?_eq_none (by rw[Qb4];omega),List.getElem?_eq_none (by rw[Qac,List.length_replicate];omega)]
theorem Quy (st:List Int) (j n:Nat) (hn:n=Nat.min (stripPart st j).length 128) :
 (over (u8s (List.replicate 128 0)) 0 (u8s ((stripPart st j).take n))).set 127 (.int .u8 (n:Int))=u8s (Qbt st j):=by
 have hl:=Qb5 st j
 have hm:Nat.min (stripPart st j).length 128=(stripPart st j).length:=Nat.min_eq_left (by omega)
 rw[hm] at hn
 subst hn
 unfold Qbt
 generalize stripPart st j=x at *
 have hx:x.length≤127:=by omega
 apply List.ext_getElem?
 intro i
 rw[List.take_length]
 unfold over
 simp only[List.take_zero,List.nil_append,Nat.zero_add,u8s,List.map_append,List.map_replicate,List.map_cons,List.map_nil]
 by_cases hi:i=127
 ·subst hi
  rw[List.getElem?_set_self (by simp only[List.length_append,List.length_map,List.length_drop,List.length_replicate];omega),List.getElem?_append_right (by simp only[List.length_append,List.length_map,List.length_replicate];omega)]
  simp only[List.length_append,List.length_map,List.length_replicate]
  rw[show 127-(x.length+(127-x.length))=0 by omega];rfl
 ·rw[List.getElem?_set_ne (by omega)]
  by_cases h1:i<x.length
  ·rw[List.getElem?_append_left (by simpa using h1),List.append_assoc,List.getElem?_append_left (by simpa using h1)]
  ·rw[List.getElem?_append_right (by simpa using h1),List.append_assoc,List.getElem?_append_right (by simpa using h1),List.getElem?_drop,List.length_map]
   by_cases h2:i<127
   ·rw[List.getElem?_append_left (by simp only[List.length_replicate];omega),List.getElem?_replicate,List.getElem?_replicate,if_pos (by omega),if_pos (by omega)]
   ·rw[List.getElem?_append_right (by simp only[List.length_replicate];omega),List.getElem?_replicate,if_neg (by omega)]
    rw[List.getElem?_eq_none (by simp only[List.length_replicate,List.length_cons,List.length_nil];omega)]
theorem Bytes.part {w:World}{τ:Tags}{g:Tag}{a:Option Addr}{c:Nat}{st:List Int}(h:Bytes w τ g (.slice a st.length c) st) {b off:Nat}(ha:0<st.length→a=some ⟨b,off,none⟩) (k:Nat) (j:Nat) :
 Bytes w τ g (partV b off st.length k j) ((st.drop (j*k)).take k):=by
 have hl:((st.drop (j*k)).take k).length=min k (st.length-j*k):=by rw[List.length_take,List.length_drop]
 obtain⟨p,c',hv,h1,h2,_⟩:=h.is
 cases hv
 by_cases h0:0<min k (st.length-j*k)
 ·obtain rfl:=ha (by omega)
  have:=h.sub (j*k) (j*k+min k (st.length-j*k)) (min k (st.length-j*k)) (by omega) (by omega) (by omega) (by omega)
  rw[Nat.add_sub_cancel_left] at this
  have e:(st.drop (j*k)).take k=(st.drop (j*k)).take (min k (st.length-j*k)):=by
   by_cases hk:k≤st.length-j*k
   ·rw[Nat.min_eq_left hk]
   ·rw[Nat.min_eq_right (by omega),List.take_of_length_le (by rw[List.length_drop];omega),List.take_of_length_le (by rw[List.length_drop];omega)]
  rw[e]
  exact this
 ·have e:(st.drop (j*k)).take k=[]:=List.eq_nil_of_length_eq_zero (by omega)
  rw[e]
  unfold partV
  have hz:min k (st.length-j*k)=0:=by omega
  rw[hz]
  exact⟨fun x hx=>by simp at hx,_,0,rfl,Nat.le_refl _,Nat.zero_le _,fun hx=>by simp at hx⟩
def LayI (w W0:World) (τ:Tags) (b:Nat) (st:List Int) (pre:List (Ql1 st.length 127)) (W:World):Prop :=
 ∃τ' vo,Step w τ W τ' nil∧Own W τ' w.heap.size tBox 52 [vo]∧NR w.heap.size W τ' tOut vo (pre.map (fun x=>Qbt st x.1))∧Keep3 b (w.heap.size+1) (w.heap.size+1+1) W0 W∧τ' (w.heap.size+1)=tBox∧τ' (w.heap.size+1+1)=tBox
theorem Qvl {w:World}{τ:Tags}{g:Tag}{v:Value}{st:List Int}(h:Bytes w τ g v st) (hbig:st.length≤1000000) :
 Calls Tryz.prog 58 #[v] w fun e w'=>∃u τ',e = .returned u∧NR w.heap.size w' τ' tOut u (Qeg st)∧Step w τ w' τ' nil:=by
 obtain⟨p,c,rfl,hc1,hc2⟩:=h.any
 obtain⟨b,off,ha,hbl,hbk⟩:∃b off,(0<st.length→p=some ⟨b,off,none⟩)∧b<w.heap.size+1+1∧(b<w.heap.size∨b=w.heap.size+1):=by
  by_cases h0:0<st.length
  ·obtain⟨b,o,c',hv,-,-,-,hlt,-⟩:=h.pos h0
   cases hv
   exact⟨b,o,fun _=>rfl,by omega,.inl hlt⟩
  ·exact⟨w.heap.size+1,0,fun h=>absurd h h0,by omega,.inr rfl⟩
 have hch:∀(m:Nat) (W:World),CallsIn Fence.wide m Tryz.prog 125 #[.slice p st.length c,.int .i64 127] W fun e w'=>e = .returned (.func (.func 207) #[] #[.pointer (some ⟨W.heap.size,0,none⟩),.pointer (some ⟨W.heap.size+1,0,none⟩)]) ∧
  w'=(W.alloc (.cells #[.slice p st.length c] 37)).alloc (.cells #[.int .i64 127] 3):=fun m W=>(callsIn_wide (n:=m)).2 (Qpx p st.length c 127 (by omega) W)
 obtain⟨H_h,Hch,Ha⟩:=hid3 h hch ha
 have hst0:=((((Step.refl w τ nil).alloc (.cells #[Value.slice none 0 0] 52) tBox).alloc (.cells #[Value.slice p st.length c] 37) tBox).alloc (.cells #[Value.int .i64 127] 3) tBox)
 have hbox0:=((Own.new w τ tBox 52 [.slice none 0 0]).step_new (.cells #[Value.slice p st.length c] 37) tBox).step_new (.cells #[Value.int .i64 127] 3) tBox
 simp only[World.size_alloc] at hst0 hbox0
 have ht1:((τ.put w.heap.size tBox).put (w.heap.size+1) tBox).put (w.heap.size+1+1) tBox (w.heap.size+1)=tBox:=by rw[Tags.put_ne _ _ _ _ (by omega),Tags.put_same]
 have ht2:((τ.put w.heap.size tBox).put (w.heap.size+1) tBox).put (w.heap.size+1+1) tBox (w.heap.size+1+1)=tBox:=Tags.put_same _ _ _
 have cs0:(((w.alloc (.cells #[.slice none 0 0] 52)).alloc (.cells #[.slice p st.length c] 37)).alloc (.cells #[.int .i64 127] 3)).cell? ⟨w.heap.size+1,0,none⟩=some (.slice p st.length c):=by
  have:=(Own.new (w.alloc (.cells #[.slice none 0 0] 52)) τ tBox 37 [.slice p st.length c]).alloc (.cells #[Value.int .i64 127] 3)
  rw[World.size_alloc] at this
  exact this.at 0 rfl
 have cn0:(((w.alloc (.cells #[.slice none 0 0] 52)).alloc (.cells #[.slice p st.length c] 37)).alloc (.cells #[.int .i64 127] 3)).cell? ⟨w.heap.size+1+1,0,none⟩=some (.int .i64 127):=by
  have:=Own.new ((w.alloc (.cells #[.slice none 0 0] 52)).alloc (.cells #[.slice p st.length c] 37)) τ tBox 3 [.int .i64 127]
  rw[World.size_alloc,World.size_alloc] at this
  exact this.at 0 rfl
 have hsz0:(((w.alloc (.cells #[.slice none 0 0] 52)).alloc (.cells #[.slice p st.length c] 37)).alloc (.cells #[.int .i64 127] 3)).heap.size=w.heap.size+1+1+1:=by simp
 obtain⟨Hst0,Hbox0,H_cs0,H_cn0,Hsz0,Ht1,Ht2⟩:=hid7 hst0 hbox0 cs0 cn0 hsz0 ht1 ht2
 clear hst0 hbox0 cs0 cn0 hsz0 ht1 ht2 h hch ha
 refine(callsIn_wide (n:=4)).1 ?_
 refine callsIn_of_wp_marks Tryz.func58 rfl trivial ?_ rfl
 simp only[Tryz.ntmps58,List.size_toArray,List.length_cons,List.length_nil,Nat.reduceAdd,Nat.reduceSub,Array.replicate_succ,Array.replicate_zero,List.push_toArray,List.append_toArray,List.nil_append,List.cons_append]
 gi_wp2_with (refine⟨trivial,?_⟩;gi_at_call 125;refine(Hch.out _ _).mono ?_;rintro e w' ⟨rfl,rfl⟩)
 generalize ((w.alloc (.cells #[.slice none 0 0] 52)).alloc (.cells #[.slice p st.length c] 37)).alloc (.cells #[.int .i64 127] 3)=W0 at *
 refine wpIn_rangeFunc_ownG rfl (by omega) (gf := 207) (lb:=#[.pointer (some ⟨w.heap.size+1,0,none⟩),.pointer (some ⟨w.heap.size+1+1,0,none⟩)]) rfl trivial (enters_of Tryz.func207 (by kernel_rfl) rfl)
  (Qlx Fence.wide 3 trivial rfl (by omega) (w.heap.size+1) (w.heap.size+1+1) b off st.length c 127 p Ha.out (by omega) (by omega) (by omega) hc1 hc2 W0 H_cs0.out H_cn0.out)
  Qvn (Qvo (by have:=Hsz0.out;omega) (by have:=Hsz0.out;omega) (by have:=Hsz0.out;omega)) (Below.refl _ _) (fun _=>rfl)
  (LayI w W0 τ b st) (fun _ _ _=>False) ?hI (fun _ _ _ _ _ hs _ _=>hs) ?h0
  (fun j=>{tmps:=#[.slice p st.length c,undef,.slice none 0 0,.pointer (some ⟨w.heap.size,0,none⟩),partV b off st.length 127 j.1,undef,.slice p st.length c,.func (.func 207) #[] #[.pointer (some ⟨w.heap.size+1,0,none⟩),.pointer (some ⟨w.heap.size+1+1,0,none⟩)],partV b off st.length 127 j.1,undef,undef,undef,undef,undef,undef,undef,undef,undef,undef,undef,undef],defers:=[]}) ?assign ?body ?done ?stop
 case hI =>
  rintro pre W W' row ⟨τ',vo,h1,h2,h3,h4,ht1,ht2⟩ hg hr
  have hnc:Qeq W row:=fun r e=>(hr r e).2
  exact⟨τ',vo,h1.turn hg (fun r e=>by have:=(hr r e).1;rw[Hsz0.out] at this;omega),h2.turn hg hnc,h3.turn hg hnc,h4.turn (B:=w.heap.size+1+1+1) hg (fun r e=>by have:=(hr r e).1;rw[Hsz0.out] at this;exact this) (by omega) (by omega) (by omega) (by
   have h5:=h4 (w.heap.size+1+1) (.inr (.inr rfl))
   have h6:=cell_lt H_cn0.out
   have h7:=(Array.getElem?_eq_some_iff.1 (h5.trans (Array.getElem?_eq_getElem h6))).1
   omega),ht1,ht2⟩
 case h0=>exact⟨_,_,Hst0.out,Hbox0.out,NR.nil _ _ _ _,Keep3.refl _ _ _ _,Ht1.out,Ht2.out⟩
 case assign =>
  intro l x W K hK
  gi_wp2
  exact hK
 case body =>
  rintro l pre ⟨j,hjN⟩ W ⟨τ',vo,hst,hbox,hnr,hkp,ht1,ht2⟩ hlt
  obtain⟨po,co,rfl⟩:=hnr.val
  have hpl:=Qb5 st j
  have hbp:Bytes W τ' g (partV b off st.length 127 j) (stripPart st j):=(H_h.out.step hst (fun h=>h)).part Ha.out 127 j
  have hlx:=Ql5 st j
  have hBx:=Qqg H_h.out.isB j
  obtain⟨n,hn⟩:∃n,n=Nat.min (stripPart st j).length 128:=⟨_,rfl⟩
  have hrow:=Quy st j n hn
  have hn127:n≤127:=by rw[hn];exact Nat.le_trans (Nat.min_le_left _ _) (by omega)
  have hnr128:((pre.map (fun x=>Qbt st x.1)).length:Nat)≤1000000000:=by
   rw[List.length_map]
   have:parts st.length 127≤1000000:=by unfold parts;omega
   omega
  have hltb:=hbox.lt
  have c0:=hbox.at 0 rfl
  have z0:=hbox.fz 0
  have hb1:=(hbp.alloc (.cells (madeCells #[.int .u8 0] 128) 5))
  have ho1:Own (W.alloc (.cells (madeCells #[.int .u8 0] 128) 5)) (τ'.put W.heap.size tFill) W.heap.size tFill 5 (u8s (List.replicate 128 0)):=by
   have:=Own.born W τ' tFill 5 (madeCells #[.int .u8 0] 128)
   rwa [Qhm] at this
  have hs1:=hst.alloc (.cells (madeCells #[.int .u8 0] 128) 5) tFill
  have hW1:=(Step.refl W τ' nil).alloc (.cells (madeCells #[.int .u8 0] 128) 5) tFill
  have hb1':=hbp.step hW1 (fun h=>h)
  have hbox1:=hbox.step hW1 (fun h=>h)
  have hnr1:=hnr.step hW1 (fun h=>h) (fun h=>h)
  have rn:=Qcz
  have e128:(u8s (List.replicate 128 0)).length=128:=by rw[Qac,List.length_replicate]
  have hfit:0+n≤(u8s (List.replicate 128 0)).length:=by rw[e128];omega
  have hlow:nil tFill∨W.heap.size≤W.heap.size:=.inr (Nat.le_refl _)
  have hsz3:w.heap.size+1+1<W.heap.size:=by
   have h5:=hkp (w.heap.size+1+1) (.inr (.inr rfl))
   have h6:=cell_lt H_cn0.out
   exact(Array.getElem?_eq_some_iff.1 (h5.trans (Array.getElem?_eq_getElem h6))).1
  have hcb:=hbox.row
  have hcv:=fun k=>hnr.cells (k:=k)
  have hlow':=hst.size
  have hne:W.heap.size≠w.heap.size:=by omega
  have hne':w.heap.size≠W.heap.size:=by omega
  have hwr:IntKind.u8.wrap (n:Int)=(n:Int):=by
   have:IntKind.u8.wrap (n:Int)=(n:Int)%256:=by simp[IntKind.wrap,IntKind.bits,IntKind.signed]
   rw[this];omega
  have h127:∃u,(over (u8s (List.replicate 128 0)) 0 (u8s ((stripPart st j).take n)))[127]?=some u:=by
   refine⟨_,List.getElem?_eq_getElem ?_⟩
   rw[Qq0 _ _ _ (by rw[Qac,e128,List.length_take];omega),e128];omega
  have hmap:(pre++[(⟨j,hjN⟩:Ql1 st.length 127)]).map (fun x=>Qbt st x.1)=pre.map (fun x=>Qbt st x.1)++[Qbt st j]:=by simp
  generalize hpv:partV b off st.length 127 j=pv at *
  generalize hsp:stripPart st j=x at *
  generalize hso:Qbt st j=y at *
  generalize hml:pre.map (fun x=>Qbt st x.1)=ls at *
  generalize hcur:over (u8s (List.replicate 128 0)) 0 (u8s (x.take n))=cur at *
  obtain⟨u127,h127⟩:=h127
  have hts:tBox≠tFill:=by simp[tBox,tFill]
  have htd:¬tData=tFill:=by simp[tData,tFill]
  have hto:¬tOut=tFill:=by simp[tOut,tFill]
  have hodt:tOut≠tData:=by simp[tOut,tData]
  have hbo:¬tBox=tOut:=by simp[tOut,tBox]
  obtain⟨Hs1,Ho1,Hlow⟩:=hid3 hs1 ho1 hlow
  have Hb1':=Lib.hid hb1'
  obtain⟨Hn,Hfit,Hbox1,Hnr1,Hrow,Hlx,HBx,Hnr128,Hkp,Hcur,H127,HW1⟩:=hid12 hn hfit hbox1 hnr1 hrow hlx hBx hnr128 hkp hcur h127 hW1
  have Hlow':=Lib.hid hlow'
  obtain⟨Hmap,Hst,Hsz3,Hcb,Hcv,Ht1,Ht2⟩:=hid7 hmap hst hsz3 hcb hcv ht1 ht2
  clear hs1 ho1 hlow hb1' hn hfit hbox1 hnr1 hrow hlx hBx hnr128 hkp hcur h127 hW1 hlow' hmap hst hsz3 hcb hcv ht1 ht2 hbp hbox hb1 hnr H_h Ha hpl e128 hpv hsp hso hml
  gi_wp2_with (first
   | (refine Qjn HW1.out Ho1.out Hlow.out Hb1'.out n Hn.out Hfit.out rfl _ _ rfl rfl rfl ?_
      intro w2 ho2 hs2 hW2
      rw[Hcur.out] at ho2
      have c127:=ho2.at 127 H127.out
      have z127:=ho2.fz 127
      have hbox2:=Hbox1.out.step hW2 hts
      have c02:=hbox2.at 0 rfl
      have z02:=hbox2.fz 0
      have hnr2:=Hnr1.out.step hW2 hto htd
      have ho3:=ho2.set 127 (.int .u8 (n:Int))
      rw[Hrow.out] at ho3
      have hb2:=ho2.lt
      have hw2s:w2.heap.size=(w2.setCell ⟨W.heap.size,127,none⟩ (.int .u8 (n:Int))).heap.size:=by simp[World.setCell]
      have htag2:=ho2.tag
      have hW3:=(Step.refl w2 (τ'.put W.heap.size tFill) (fun t=>t=tFill)).set (o:=127) htag2 rfl (.int .u8 (n:Int))
      have hbox3:=(hbox2.step hW3 hts).agree (Agree.put htag2 tData) hts
      have hnr3:=(hnr2.step hW3 hto htd).agree (Agree.put htag2 tData) hto
      have hs3:=(hs2.setNew (b:=W.heap.size) (o:=127) (Nat.le_refl _) (.int .u8 (n:Int))).retag (Nat.le_refl _) tData
      have hst3:=Hst.out.trans hs3
      have hb3:=(ho3.retag tData).bytes HBx.out (by rw[Hlx.out];unfold maxLen;omega)
      rw[Hlx.out] at hb3
      have c03:=hbox3.at 0 rfl
      have z03:=hbox3.fz 0
      obtain⟨Hs2,HW2,Ho3,Hbox2,Hnr2,Htag2,HW3,Hbox3,Hnr3,Hs3,Hst3,Hb3⟩:=hid12 hs2 hW2 ho3 hbox2 hnr2 htag2 hW3 hbox3 hnr3 hs3 hst3 hb3
      have Hw2s:=Lib.hid hw2s
      clear hs2 hW2 ho3 hbox2 hnr2 htag2 hW3 hbox3 hnr3 hs3 hst3 hb3 hw2s
      clear ho2)
   | (refine Qg7 Hst3.out hodt Hnr3.out Hb3.out Hlx.out Hnr128.out Hw2s.out rfl _ _ rfl rfl rfl ?_
      intro v4 w4 τ4 hnr4 hs4 hW4 hM4
      obtain⟨p4,c4,rfl⟩:=hnr4.val
      have hbox4:=Hbox3.out.step hW4 hbo
      have c04:=hbox4.at 0 rfl
      have z04:=hbox4.fz 0
      have htag4:=hbox4.tag
      obtain⟨Hnr4,Hs4,HW4,HM4,Hbox4,Htag4⟩:=hid6 hnr4 hs4 hW4 hM4 hbox4 htag4
      clear hnr4 hs4 hW4 hM4 hbox4 htag4))
  have hmW:Mod W w4 (fun k=>(Value.slice po ls.length co).ownBlock=some k):=(Hs3.out.no.mono (fun _ _ h=>h.elim)).seq HM4.out (fun _ _ h=>h)
  have hmW':Mod W (w4.setCell ⟨w.heap.size,0,none⟩ (.slice p4 (ls.length+1) c4)) (fun k=>k=w.heap.size∨(Value.slice po ls.length co).ownBlock=some k):=(hmW.mono (fun _ _ h=>.inr h)).setCell (p:=⟨w.heap.size,0,none⟩) (fun _=>.inl rfl) _
  have heW:Ext W τ' τ4:=Hs3.out.ext.trans HW4.out.ext Hs3.out.size
  have hlen:(ls++[y]).length=ls.length+1:=by simp
  have hnr5:=Hnr4.out.step ((Step.refl w4 τ4 (fun t=>t=tBox)).set (o:=0) Htag4.out rfl (.slice p4 (ls.length+1) c4)) (fun h=>by simp[tOut,tBox] at h) (fun h=>by simp[tData,tBox] at h)
  rw[hlen] at hnr5
  have hk3:Keep3 b (w.heap.size+1) (w.heap.size+1+1) W (w4.setCell ⟨w.heap.size,0,none⟩ (.slice p4 (ls.length+1) c4)):=by
   intro k hk
   have h3:=Hsz3.out
   refine hmW'.block k (by omega) ?_
   rintro(h|h)
   ·omega
   ·obtain⟨h1,h2,_⟩:=Hcv.out k h
    have hn1:k≠w.heap.size+1:=fun e=>by rw[e,Ht1.out] at h1;simp[tBox,tOut] at h1
    have hn2:k≠w.heap.size+1+1:=fun e=>by rw[e,Ht2.out] at h1;simp[tBox,tOut] at h1
    omega
  refine⟨Qh4 hmW' ?_,hk3,τ4,.slice p4 (ls.length+1) c4,Hs4.out.setNew (Nat.le_refl _) _,Hbox4.out.set 0 _,?_,Hkp.out.trans hk3,?_,?_⟩
  ·rintro k o (rfl|hk) ho
   ·rw[Hcb.out] at ho;cases ho;rfl
   ·obtain⟨_,_,xs,hx⟩:=Hcv.out k hk
    rw[hx] at ho;cases ho;rfl
  ·rw[Hmap.out];exact hnr5
  ·rw[heW _ (by have:=Hsz3.out;omega)];exact Ht1.out
  ·rw[heW _ (by have:=Hsz3.out;omega)];exact Ht2.out
 case done =>
  rintro D ys W hD hys ⟨τ',vo,hst,hbox,hnr,hkp,ht1,ht2⟩ hK
  have hys2:ys.map (fun x=>Qbt st x.1)=(List.range (parts st.length 127)).map (Qbt st):=by rw[←hys,List.map_map];rfl
  rw[hys2] at hnr
  clear hys hys2
  obtain⟨po,co,rfl⟩:=hnr.val
  have c0:=hbox.at 0 rfl
  have hl:((List.range (parts st.length 127)).map (Qbt st)).length=parts st.length 127:=by simp
  obtain⟨Hst,Hnr,HK⟩:=hid3 hst hnr hK
  clear hst hnr hK
  gi_wp2
  refine⟨by simp,.inl ⟨_,_,rfl,run_takeDeferred HK.out,?_⟩⟩
  have hg:=grownBy_putObj' W D (.deferred none)
  have hnc:Qeq W (some D):=fun r e=>by cases e;exact⟨_,HK.out,rfl⟩
  exact⟨_,results_tmp rfl _ _ _,.slice po ((List.range (parts st.length 127)).map (Qbt st)).length co,τ',by first|rfl|(rw[hl];rfl),Hnr.out.turn hg hnc,Hst.out.turn hg (fun r e=>by cases e;have:=Hsz0.out;omega)⟩
 case stop =>
  rintro D c pre W _ _ h _
  exact h.elim
end Go.Proofs.YtemacanaihaldaaGreat
namespace Go.Proofs.YtemacanaihaldaaGreat
open Go.RowKit
def Jcu:List (List Int)→List Int
 | []=>[]
 | x::r=>if 127<x.getD 127 0 then [] else x.take (x.getD 127 0).toNat++(if x.getD 127 0<127 then [] else Jcu r)
theorem Bytes.fst {w:World}{τ:Tags}{g:Tag}{b o n c:Nat}{l:List Int}(h:Bytes w τ g (.slice (some ⟨b,o,none⟩) n c) l) (k:Nat) (hk:k≤n):Bytes w τ g (.slice (some ⟨b,o,none⟩) k c) (l.take k):=by
 obtain⟨p',c2,hv,h1,h2,hc⟩:=h.is
 simp only[Value.slice.injEq] at hv
 obtain⟨rfl,rfl,rfl⟩:=hv
 have hl:(l.take k).length=k:=by rw[List.length_take];omega
 refine⟨fun x hx=>h.isB x (List.mem_of_mem_take hx),_,c,by rw[hl],by omega,h2,fun h0=>?_⟩
 obtain⟨b',o',hp,ht,hcell⟩:=hc (by omega)
 refine⟨b',o',hp,ht,fun i hi=>?_⟩
 rw[hl] at hi
 rw[hcell i (by omega)]
 congr 2
 simp only[List.getD_eq_getElem?_getD,List.getElem?_take,if_pos hi]
theorem Jc4 (ls:List (List Int)):(Jcu ls).length≤127*ls.length:=by
 induction ls with
 | nil=>simp[Jcu]
 | cons y r ih =>
   unfold Jcu
   split
   ·simp
   ·rename_i h1
    have h3:(y.take (y.getD 127 0).toNat).length≤127:=by rw[List.length_take];omega
    rw[List.length_append,List.length_cons]
    split
    ·rw[List.length_nil];omega
    ·omega
theorem Jds {w:World}{τ:Tags}{g:Tag}{v:Value}{ls:List (List Int)}(h:Waits w τ g v ls) (g':Tag) (hbig:ls.length≤100000) :
 Calls Tryz.prog 55 #[v] w fun e w'=>∃u τ',e = .returned u∧NB w.heap.size w' τ' g' u (Jcu ls)∧Step w τ w' τ' nil:=by
 obtain⟨p,c,rfl,hm,hr⟩:=h.read
 generalize hn:ls.length=n at *
 generalize hres:Jcu ls=res
 have hle:=Jc4 ls
 rw[hres,hn] at hle
 obtain⟨Hr,Hn,Hres⟩:=hid3 hr hn hres
 clear hr hn hres hm h
 go_enter Tryz.func55,Tryz.ntmps55
 go_wp2_with fail
 go_loopw [3,9] (fun m v wr=>∃(i:Nat) (τr:Tags) (acc:List Int),i≤n∧v = .int .i64 (i:Int)∧NB w.heap.size wr τr g' m acc∧Step w τ wr τr nil∧Hid (acc++Jcu (ls.drop i)=res)) (fun _ v _=>n-(intOf v).toNat)
 case atStart=>exact⟨0,τ,[],Nat.zero_le _,rfl,NB.nil _ _ _ _,Step.refl _ _ _,Lib.hid (by simpa using Hres.out)⟩
 case round =>
  obtain⟨i,τr,acc,hi,rfl,hnb,hst,HO⟩:=hrel
  by_cases hlt:i<n
  ·obtain⟨x,hx⟩:∃x,ls[i]?=some x:=⟨_,List.getElem?_eq_getElem (by rw[Hn.out];exact hlt)⟩
   obtain⟨h128,b,u,rfl,hc,hb⟩:=Hr.out i x hx
   have c1:=(hst.no.cell b i (cell_lt hc) (fun h=>h)).trans hc
   have hb1:=hb.step hst (fun h=>h)
   obtain⟨bb,oo,cu,rfl,h1c,h2c,-,-,hcell⟩:=hb1.pos (by omega)
   have c127:=hcell 127 (by omega)
   have hB:=hb1.isB.at 127
   rw[h128] at hb1 c1 h1c
   have hdr:ls.drop i=x::ls.drop (i+1):=by
    rw[List.drop_eq_getElem_cons (by rw[Hn.out];exact hlt)]
    congr 1
    rw[List.getElem?_eq_getElem (by rw[Hn.out];exact hlt)] at hx
    exact Option.some.inj hx
   have hres2:=HO.out
   rw[hdr,Jcu] at hres2
   obtain⟨q,hq⟩:=Int.eq_ofNat_of_zero_le hB.1
   rw[hq] at c127 hres2 hB
   clear hb hcell hx hc h128 hdr hq HO
   by_cases hbad:127<q
   ·rw[if_pos (by omega),List.append_nil] at hres2
    subst hres2
    obtain⟨Hnb,Hst⟩:=hid2 hnb hst
    clear hnb hst hb1
    go_wp2_with fail
    go_returns
    exact⟨_,τr,rfl,Hnb.out,Hst.out⟩
   ·rw[if_neg (by omega)] at hres2
    have hf:=hb1.fst q (by omega)
    have htn:((q:Nat):Int).toNat=q:=by omega
    rw[htn] at hres2
    have hql:(x.take q).length≤127:=by rw[List.length_take];omega
    have hsz:acc.length+(x.take q).length≤100000000000:=by
     have:acc.length≤res.length:=by rw[←hres2,List.length_append];omega
     omega
    have hqc:q≤cu:=by omega
    have hqi:(q:Int)≤(cu:Int):=by omega
    obtain⟨pm,cm,rfl⟩:=hnb.val
    clear htn hql hB
    by_cases h7:q<127
    ·rw[if_pos (by omega),List.append_nil] at hres2
     obtain⟨Hnb,Hst,Hf,Hsz,Hres2⟩:=hid5 hnb hst hf hsz hres2
     clear hnb hst hf hsz hres2 hb1
     go_wp2_with (at_builtin;refine Qal Hst.out Hnb.out Hf.out Hsz.out rfl _ _ rfl rfl rfl ?_;intro v' w' τ' hb he hmo;obtain⟨Hb,He,Hmo⟩:=hid3 hb he hmo;clear hb he hmo)
     go_returns
     exact⟨_,τ',rfl,by rw[←Hres2.out];exact Hb.out,He.out⟩
    ·rw[if_neg (by omega),←List.append_assoc] at hres2
     obtain⟨Hnb,Hst,Hf,Hsz,Hres2⟩:=hid5 hnb hst hf hsz hres2
     clear hnb hst hf hsz hres2 hb1
     go_wp2_with (at_builtin;refine Qal Hst.out Hnb.out Hf.out Hsz.out rfl _ _ rfl rfl rfl ?_;intro v' w' τ' hb he hmo;obtain⟨Hb,He,Hmo⟩:=hid3 hb he hmo;clear hb he hmo)
     go_round
     case rel=>exact⟨i+1,τ',acc++x.take q,by omega,by simp,Hb.out,He.out,Lib.hid Hres2.out⟩
     case measure=>simp[intOf];omega
  ·have hin:i=n:=by omega
   subst hin
   have hres2:=HO.out
   rw[List.drop_eq_nil_of_le (by rw[Hn.out];omega),Jcu,List.append_nil] at hres2
   subst hres2
   obtain⟨Hnb,Hst⟩:=hid2 hnb hst
   clear hnb hst
   go_wp2_with fail
   go_returns
   exact⟨_,τr,rfl,Hnb.out,Hst.out⟩
def pw (k:Nat):Nat:=2 ^ k
theorem Qzg (k:Nat):pw (k+1)=pw k+pw k:=by unfold pw;rw[Nat.pow_succ];omega
theorem Jan (k:Nat):0<pw k:=Nat.pow_pos (by omega)
theorem pw_lt (k:Nat) (h:k<64):pw k<18446744073709551616:=by
 have:pw k≤2 ^ 63:=Nat.pow_le_pow_right (by omega) (by omega)
 have e:(2:Nat) ^ 63=9223372036854775808:=by decide
 omega
theorem Qzd (w:World) (n:Nat) (hn:n<64):Calls Tryz.prog 286 #[.int .u64 (n:Int)] w fun e w'=>e = .returned (.int .u64 (pw n:Int))∧w'=w:=by
 have h0:(1:Int)=(pw 0:Int):=rfl
 have H0:=Lib.hid h0
 clear h0
 go_enter Tryz.func286,Tryz.ntmps286
 go_wp2_with fail
 go_loop [3,4] (fun p v=>∃(i:Nat),i≤n∧v = .int .u64 (i:Int)∧p = .int .u64 (pw i:Int)) (fun _ v=>n-(intOf v).toNat)
 case atStart=>exact⟨0,Nat.zero_le _,rfl,by rw[←H0.out]⟩
 case round =>
  obtain⟨i,hi,rfl,rfl⟩:=hrel
  have hp:=Jan i
  have hs:=Qzg i
  have hw1:i<n→IntKind.u64.wrap ((pw i:Int)+(pw i:Int))=(pw (i+1):Int):=fun hlt=>by
   rw[←Int.natCast_add,←hs];exact Qam _ (pw_lt _ (by omega))
  have hw2:i<n→IntKind.u64.wrap ((i:Int)+1)=((i+1:Nat):Int):=fun hlt=>Qam (i+1) (by omega)
  generalize hpi:pw i=q at *
  obtain⟨Hs,Hpi⟩:=hid2 hs hpi
  clear hs hpi
  by_cases hlt:i<n
  ·have e1:=hw1 hlt
   have e2:=hw2 hlt
   clear hw1 hw2
   go_wp2_with fail
   go_round
   case rel=>exact⟨i+1,by omega,rfl,rfl⟩
   case measure=>simp[intOf];omega
  ·clear hw1 hw2
   obtain rfl:i=n:=by omega
   go_wp2_with fail
   go_returns
   exact⟨by rw[Hpi.out];rfl,rfl⟩
theorem Qez {w0 w:World}{τ0 τ:Tags}{S:Tag→Prop}(hst:Step w0 τ0 w τ S) {g:Tag}{v:Value}{l:List Int}(hown:NB w0.heap.size w τ g v l) (x:Int) (hx:0≤x∧x≤255) (hsz:l.length≤1000000000) {kb:Nat}(hkb:kb=w.heap.size)
 {ops:Array Oper} {rest:List Oper} {o:Oper} {a:Act} {Q:Exit→Act→World→Prop} (hgd:o.guard=none) (s y:Operand)
 (ho:o.op = .call {callee:=.builtin .append,args:=#[s,y],argTypes:=#[37,37]}) (hs:a.eval s=v) (hy:a.eval y = .slice (some ⟨kb,0,none⟩) 1 1)
 (h:∀v' w' τ',NB w0.heap.size w' τ' g v' (l++[x])→Step w0 τ0 w' τ' S→Step w τ w' τ' (fun t=>t=g)→wpList Tryz.prog ops Q rest (a.put o.dst v') w'):wpList Tryz.prog ops Q (o::rest) a (w.alloc (.cells #[.int .u8 x] 5)):=by
 subst hkb
 have hb:Bytes (w.alloc (.cells #[.int .u8 x] 5)) (τ.put w.heap.size tBox) tBox (.slice (some ⟨w.heap.size,0,none⟩) 1 1) [x] :=
  ⟨fun z hz=>by rw[List.mem_singleton.1 hz];exact hx,_,1,rfl,Nat.le_refl _,by unfold maxLen;omega,fun _=>⟨_,0,rfl,Tags.put_same _ _ _,fun i hi=>by
   have hi:i<1:=hi
   obtain rfl:i=0:=by omega
   exact(Own.new w τ tBox 5 [.int .u8 x]).at 0 rfl⟩⟩
 refine Qal (hst.alloc (.cells #[.int .u8 x] 5) tBox) (hown.step ((Step.refl w τ nil).alloc _ tBox) (fun h=>h)) hb (by simp;omega) hgd s y ho hs hy (fun v' w' τ' h1 h2 h3=>h v' w' τ' h1 h2 ?_)
 exact((Step.refl w τ _).alloc _ tBox).trans h3
theorem Qxr (n k:Nat):leB n (k+1)=leB n k++[Qep n k]:=by simp[leB,List.range_succ]
theorem Qt7 (n i:Nat):Qep n i=(((n/2 ^ (8*i))%256:Nat):Int):=by
 unfold Qep
 rw[Int.natCast_emod,Int.natCast_ediv,Int.natCast_pow];rfl
theorem Qx4 (n i:Nat):n/2 ^ (8*i)/256=n/2 ^ (8*(i+1)):=by
 rw[Qr9,Nat.div_div_eq_div_mul,Nat.mul_comm]
theorem r1put (w:World) (τ:Tags) (g:Tag) (n k:Nat) (hn:n<18446744073709551616) (h1:1≤k) (h8:k≤8) :
 Calls Tryz.prog 248 #[.int .u64 (n:Int),.int .i64 (k:Int)] w fun e w'=>∃v τ',e = .returned v∧NB w.heap.size w' τ' g v (leB n k)∧Step w τ w' τ' nil:=by
 have a0:decide ((k:Int)<1)=false:=by simp;omega
 have a1:decide ((8:Int)<(k:Int))=false:=by simp;omega
 have hnn:(n:Int)=((n/2 ^ (8*0):Nat):Int):=by simp
 obtain⟨Hn,Hnn⟩:=hid2 hn hnn
 clear hn hnn
 go_enter Tryz.func248,Tryz.ntmps248
 go_wp2_with fail
 go_loopw [0,5,6] (fun nv ov iv wr=>∃(i:Nat) (τr:Tags),i≤k∧iv = .int .i64 (i:Int)∧nv = .int .u64 ((n/2 ^ (8*i):Nat):Int)∧NB w.heap.size wr τr g ov (leB n i)∧Step w τ wr τr nil) (fun _ _ iv _=>k-(intOf iv).toNat)
 case atStart=>exact⟨0,τ,Nat.zero_le _,rfl,by rw[←Hnn.out],NB.nil _ _ _ _,Step.refl _ _ _⟩
 case round =>
  obtain⟨i,τr,hi,rfl,rfl,hnb,hst⟩:=hrel
  by_cases hlt:i<k
  ·have hby:=Qt7 n i
   have hdv:=Qx4 n i
   have hls:=Qxr n i
   have hlen:=Qaa n i
   have hq:n/2 ^ (8*i)<18446744073709551616:=Nat.lt_of_le_of_lt (Nat.div_le_self _ _) Hn.out
   generalize n/2 ^ (8*i)=q at *
   have e1:IntKind.u8.wrap ((q:Int)%256)=(q:Int)%256:=by
    have:IntKind.u8.wrap ((q:Int)%256)=((q:Int)%256)%256:=by simp[IntKind.wrap,IntKind.bits,IntKind.signed]
    rw[this];omega
   have e2:IntKind.u64.wrap ((q:Int)/256)=(q:Int)/256:=by have:=Qam (q/256) (by omega);rw[Int.natCast_ediv] at this;exact this
   have hby2:Qep n i=(q:Int)%256:=by rw[hby];omega
   obtain⟨pv,cv,rfl⟩:=hnb.val
   obtain⟨Hby2,Hdv,Hls,Hlen,Hnb,Hst,Hq⟩:=hid7 hby2 hdv hls hlen hnb hst hq
   clear hby2 hdv hls hlen hnb hst hq hby
   go_wp2_with (at_builtin;refine Qez Hst.out Hnb.out ((q:Int)%256) (by omega) (by rw[Hlen.out];omega) rfl rfl _ _ rfl rfl rfl ?_;intro v' w' τ' hb he hmo;obtain⟨Hb,He,Hmo⟩:=hid3 hb he hmo;clear hb he hmo)
   go_round
   case rel=>exact⟨i+1,τ',by omega,by simp,by rw[←Hdv.out];exact congrArg (Value.int .u64) (by omega),by rw[Hls.out,Hby2.out];exact Hb.out,He.out⟩
   case measure=>simp[intOf];omega
  ·obtain rfl:i=k:=by omega
   obtain⟨Hnb,Hst⟩:=hid2 hnb hst
   clear hnb hst
   go_wp2_with fail
   go_returns
   exact⟨_,τr,rfl,Hnb.out,Hst.out⟩
theorem Qxp {l:List Int}(h:IsB l) (i:Nat) (hi:i<8):∃x:Nat,l.getD i 0=(x:Int)∧x≤255∧x*pw (8*i)<18446744073709551616∧leN l i+x*pw (8*i)=leN l (i+1)∧leN l (i+1)<18446744073709551616:=by
 have hx:=h.at i
 obtain⟨x,hx'⟩:=Int.eq_ofNat_of_zero_le hx.1
 have hs:leN l (i+1)=leN l i+x*pw (8*i):=by
  show leN l i+(l.getD i 0).toNat*2 ^ (8*i)=_
  rw[hx'];rfl
 have hlt:=Qyq h (i+1) (by omega)
 exact⟨x,hx',by omega,by omega,hs.symm,hlt⟩
theorem Qsf (l:List Int) (k i:Nat) (h:i≤k):leN (l.take k) i=leN l i:=by
 induction i with
 | zero=>rfl
 | succ i ih =>
   show leN (l.take k) i+((l.take k).getD i 0).toNat*2 ^ (8*i)=leN l i+(l.getD i 0).toNat*2 ^ (8*i)
   rw[ih (by omega),List.getD_eq_getElem?_getD,List.getD_eq_getElem?_getD,List.getElem?_take,if_pos (by omega)]
theorem r1get {w:World}{τ:Tags}{g:Tag}{v:Value}{l:List Int}(h:Bytes w τ g v l) (h8:8≤l.length) :
 Calls Tryz.prog 253 #[v] w fun e w'=>e = .returned (.int .u64 (leN l 8:Int))∧∃n,w'=w.drewN n:=by
 obtain⟨b,o,c,rfl,hc1,hc2,ht,hlt,hcell⟩:=h.pos (by omega)
 have hB:=h.isB
 have hpw:=fun (W:World) (i:Nat) (hi:i<8)=>Qzd W (8*i) (by omega)
 generalize hm:l.length=m at *
 obtain⟨Hcell,HB,Hpw,Hm⟩:=hid4 hcell hB hpw hm
 clear hcell hB hpw hm h
 go_enter Tryz.func253,Tryz.ntmps253
 go_wp2_with fail
 go_loopw [3,4] (fun nv iv wr=>∃(i q:Nat),i≤8∧iv = .int .i64 (i:Int)∧nv = .int .u64 (leN l i:Int)∧wr=w.drewN q) (fun _ iv _=>8-(intOf iv).toNat)
 case atStart=>exact⟨0,0,Nat.zero_le _,rfl,rfl,rfl⟩
 case round =>
  obtain⟨i,q,hi,rfl,rfl,hwr⟩:=hrel
  by_cases hlt:i<8
  ·have c0:=Hcell.out i (by omega)
   obtain⟨x,hx,hx255,hxp,hsum,hs64⟩:=Qxp HB.out i hlt
   rw[hx] at c0
   have c1:wr.cell? ⟨b,o+i,none⟩=some (.int .u8 (x:Int)):=by rw[hwr];exact c0
   clear c0
   have hp:=fun W=>Hpw.out W i hlt
   generalize hpi:pw (8*i)=P at *
   generalize hli:leN l i=L at *
   generalize hls:leN l (i+1)=L1 at *
   rw[show ((8*i:Nat):Int)=8*(i:Int) by omega] at hp
   have e1:IntKind.u64.wrap (8*(i:Int))=8*(i:Int):=by have:=Qam (8*i) (by omega);push_cast at this;exact this
   have e2:IntKind.u64.wrap (x:Int)=(x:Int):=Qam x (by omega)
   have e3:IntKind.u64.wrap ((x:Int)*(P:Int))=(x:Int)*(P:Int):=by rw[←Int.natCast_mul];exact Qam _ hxp
   have e4:IntKind.u64.wrap ((L:Int)+(x:Int)*(P:Int))=(L1:Int):=by rw[←Int.natCast_mul,←Int.natCast_add,hsum];exact Qam _ hs64
   obtain⟨Hp,Hx,Hxp,Hsum,Hs64,Hpi,Hli,Hls,Hwr⟩:=hid9 hp hx hxp hsum hs64 hpi hli hls hwr
   clear hp hx hxp hsum hs64 hpi hli hls hwr
   go_wp2_with fail
   go_quiet ((go_at_call 286;exact Calls.quiet_of_same (Hp.out _)))
   go_wp2_with fail
   go_round
   case rel=>exact⟨i+1,q+nq,by omega,by simp,by rw[Hls.out],by rw[Hwr.out,World.drewN_drewN]⟩
   case measure=>simp[intOf];omega
  ·obtain rfl:i=8:=by omega
   have Hwr:=Lib.hid hwr
   clear hwr
   go_wp2_with fail
   all_goals go_ret
   all_goals exact⟨rfl,q,Hwr.out⟩
theorem Bytes.tail {w:World}{τ:Tags}{g:Tag}{b o c n:Nat}{l:List Int}(h:Bytes w τ g (.slice (some ⟨b,o,none⟩) n c) l) (k:Nat) (hk:k<l.length):Bytes w τ g (.slice (some ⟨b,o+k,none⟩) (l.length-k) (c-k)) (l.drop k):=by
 obtain⟨p',c',hv,h1,h2,hc⟩:=h.is
 simp only[Value.slice.injEq] at hv
 obtain⟨rfl,rfl,rfl⟩:=hv
 obtain⟨b',o',hb,ht,hcell⟩:=hc (by omega)
 cases hb
 refine⟨fun x hx=>h.isB x (List.mem_of_mem_drop hx),_,_,by rw[List.length_drop],by rw[List.length_drop];omega,by omega,fun _=>⟨b,o+k,rfl,ht,fun i hi=>?_⟩⟩
 rw[List.length_drop] at hi
 have:=hcell (k+i) (by omega)
 rw[show o+k+i=o+(k+i) by omega,this,List.getD_eq_getElem?_getD,List.getD_eq_getElem?_getD,List.getElem?_drop]
theorem Qq5 (l:List Int):leN l 8=lowMark l:=by
 unfold lowMark
 rw[List.drop_zero,Nat.sub_zero,Qsf l 8 8 (Nat.le_refl _)]
theorem Qpm (l:List Int):leN (l.drop 120) 8=highMark l:=by
 unfold highMark
 rw[show 128-120=8 from rfl,Qsf _ 8 8 (Nat.le_refl _)]
theorem Qnn {w:World}{τ:Tags}{g:Tag}{b o c:Nat}{l:List Int}(h:Bytes w τ g (.slice (some ⟨b,o,none⟩) 128 c) l) (h128:l.length=128) :
 (∀W,Step w τ W τ nil→Calls Tryz.prog 253 #[.slice (some ⟨b,o,none⟩) 128 c] W fun e w'=>e = .returned (.int .u64 (lowMark l:Int))∧∃n,w'=W.drewN n) ∧
 (∀W,Step w τ W τ nil→Calls Tryz.prog 253 #[.slice (some ⟨b,o+120,none⟩) 8 (c-120)] W fun e w'=>e = .returned (.int .u64 (highMark l:Int))∧∃n,w'=W.drewN n):=by
 refine⟨fun W hs=>?_,fun W hs=>?_⟩
 ·rw[←Qq5]
  exact r1get (h.step hs (fun h=>h)) (by omega)
 ·rw[←Qpm]
  have:=(h.step hs (fun h=>h)).tail 120 (by omega)
  rw[h128] at this
  exact r1get this (by rw[List.length_drop];omega)
theorem Qqs {w:World}{τ:Tags}{g:Tag}{v:Value}{ls:List (List Int)}(h:Waits w τ g v ls) :
 Calls Tryz.prog 179 #[v] w fun e w'=>e = .returned (.int .u64 (greatTo ls ls.length:Int))∧Step w τ w' τ nil:=by
 obtain⟨pv,cv,rfl,hm,hr⟩:=h.read
 generalize hn:ls.length=n at *
 obtain⟨Hr,Hn⟩:=hid2 hr hn
 clear hr hn h
 go_enter Tryz.func179,Tryz.ntmps179
 go_wp2_with fail
 go_loopw [3,4] (fun nv iv wr=>∃(i:Nat),i≤n∧iv = .int .i64 (i:Int)∧nv = .int .u64 (greatTo ls i:Int)∧Step w τ wr τ nil) (fun _ iv _=>n-(intOf iv).toNat)
 case atStart=>exact⟨0,Nat.zero_le _,rfl,rfl,Step.refl _ _ _⟩
 case round =>
  obtain⟨i,hi,rfl,rfl,hst⟩:=hrel
  have hmx:n≤9223372036854775807:=by unfold maxLen at hm;omega
  by_cases hlt:i<n
  ·obtain⟨x,hx⟩:∃x,ls[i]?=some x:=⟨_,List.getElem?_eq_getElem (by rw[Hn.out];exact hlt)⟩
   obtain⟨h128,b,u,rfl,hc,hb⟩:=Hr.out i x hx
   obtain⟨bu,ou,cu,rfl,hu1,hu2,-,-,-⟩:=hb.pos (by omega)
   rw[h128] at hb hc hu1
   have cc:=(Mod.cell hst.mod b i (cell_lt hc) (fun h=>h)).trans hc
   obtain⟨h1,h2⟩:=Qnn (hb.step hst (fun h=>h)) h128
   have hgd:ls.getD i []=x:=by rw[List.getD_eq_getElem?_getD,hx];rfl
   have hmax:greatTo ls (i+1)=max (max (greatTo ls i) (lowMark x)) (highMark x):=by
    show max (max (greatTo ls i) (lowMark (ls.getD i []))) (highMark (ls.getD i []))=_
    rw[hgd]
   have hmx3:=fun (W:World) (ts:Array TypeId) (t:TypeId)=>Qr3 (P:=Tryz.prog) W ts t _ _ _ _ hmax
   generalize greatTo ls i=G at *
   generalize hG1:greatTo ls (i+1)=G1 at *
   generalize lowMark x=lo at *
   generalize highMark x=hi' at *
   have h1':=fun q=>h1 (wr.drewN q) ((Step.refl wr τ nil).drews q)
   have h2':=fun q=>h2 (wr.drewN q) ((Step.refl wr τ nil).drews q)
   have H1':=Lib.hid h1'
   have H2':=Lib.hid h2'
   obtain⟨Hst,HG1,Hmax⟩:=hid3 hst hG1 hmax
   clear h1' h2' hst hG1 hmax h1 h2 hb hgd hx hc
   go_wp2_with fail
   go_quiet ((first|(go_at_call 253;with_reducible exact Calls.quiet_of (H1'.out _))|(go_at_call 253;with_reducible exact Calls.quiet_of (H2'.out _))))
   go_wp2_with fail
   go_round
   case rel=>exact⟨i+1,by omega,by simp,by rw[HG1.out],Hst.out.drews _⟩
   case measure=>simp[intOf];omega
  ·obtain rfl:i=n:=by omega
   have Hst:=Lib.hid hst
   clear hst
   go_wp2_with fail
   go_returns
   exact⟨rfl,Hst.out⟩
theorem Qzf {w:World}{τ:Tags}{g:Tag}{v:Value}{ls:List (List Int)}(h:Waits w τ g v ls) (g':Tag) (h4:ls.length=4) :
 Calls Tryz.prog 249 #[v] w (OpenD w τ g' ls):=by
 obtain⟨p,c,rfl,hm,hr⟩:=h.read
 have Hr:=Lib.hid hr
 rw[h4]
 obtain⟨x0,hx0⟩:∃x,ls[0]?=some x:=⟨_,List.getElem?_eq_getElem (by omega)⟩
 obtain⟨h128,b,u0,rfl,hc0,hb0⟩:=hr 0 x0 hx0
 have lb:=cell_lt hc0
 obtain⟨bu,ou,cu0,rfl,-,-,-,-,-⟩:=hb0.pos (by omega)
 rw[h128] at hb0 hc0
 have hm0:=(Qnn hb0 h128).1 w (Step.refl _ _ _)
 have hst:lowMark x0=sealStamp ls:=by unfold sealStamp;rw[List.getD_eq_getElem?_getD,hx0];rfl
 have hlen:∀(k:Nat) (x:List Int),ls[k]?=some x→x.length=128:=fun k x hx=>(hr k x hx).1
 rw[hst] at hm0
 generalize hs:sealStamp ls=s at *
 obtain⟨Hm0,H4,Hlen,Hs⟩:=hid4 hm0 h4 hlen hs
 clear hm0 h4 hlen hs hr hb0 hx0 hm h h128 hst
 go_enter Tryz.func249,Tryz.ntmps249
 go_wp2_with fail
 refine Hm0.out.mono ?_
 rintro e w0 ⟨rfl,q0,hw0⟩
 have hs0:Step w τ w0 τ nil:=by rw[hw0];exact(Step.refl w τ nil).drews q0
 have Hs0:=Lib.hid hs0
 clear hs0 hw0 Hm0
 go_wp2_with fail
 go_loopw [5,7] (fun m v wr=>∃(i:Nat) (τr:Tags),i≤4∧v = .int .i64 (i:Int)∧NB w.heap.size wr τr g' m (Qcu ls i)∧Step w τ wr τr nil∧Hid (okTo ls s i=true)) (fun _ v _=>4-(intOf v).toNat)
 case atStart=>exact⟨0,τ,Nat.zero_le _,rfl,NB.nil _ _ _ _,Hs0.out,Lib.hid rfl⟩
 case round =>
  obtain⟨i,τr,hi,rfl,hbuf,hst,HO⟩:=hrel
  by_cases hlt:i<4
  ·obtain⟨x,hx⟩:∃x,ls[i]?=some x:=⟨_,List.getElem?_eq_getElem (by rw[H4.out];exact hlt)⟩
   obtain⟨h128,b',u,hpe,hc,hb⟩:=Hr.out i x hx
   cases hpe
   have c1:=(hst.no.cell b i lb (fun h=>h)).trans hc
   have hb1:=hb.step hst (fun h=>h)
   obtain⟨bb,oo,cu,rfl,h1c,h2c,-⟩:=hb1.pos (by omega)
   rw[h128] at hb1 c1
   obtain⟨hmk1,hmk2⟩:=Qnn hb1 h128
   have hgx:ls.getD i []=x:=by rw[List.getD_eq_getElem?_getD,hx];rfl
   have hok:okTo ls s (i+1)=(lowMark x==s && highMark x==s):=by
    rw[Qh0,HO.out,hgx,Bool.true_and]
   have hbd:Qcu ls (i+1)=Qcu ls i++((x.drop 8).take (120-8)):=by
    show Qcu ls i++(((ls.getD i []).drop 8).take (120-8))=_
    rw[hgx]
   have hsb:=hb1.sub 8 120 (cu-8) (by omega) (by omega) (by omega) (by omega)
   have hlen2:((x.drop 8).take (120-8)).length=112:=by rw[List.length_take,List.length_drop];omega
   have hlb:=Qib Hlen.out i (by rw[H4.out];omega)
   have e1:112≤cu:=by omega
   have e2:120≤cu:=by omega
   have e3:(120:Int)≤(cu:Int):=by omega
   have e4:¬cu=8:=by omega
   have e5:¬cu=120:=by omega
   have e6:128≤cu:=by omega
   generalize hp:(x.drop 8).take (120-8)=part at *
   generalize lowMark x=m1 at *
   generalize highMark x=m2 at *
   have hsz:(Qcu ls i).length+part.length≤100000000000:=by omega
   obtain⟨pm,cm,rfl⟩:=hbuf.val
   rw[h128] at h1c
   have hmk1':=hmk1 wr (Step.refl _ _ _)
   by_cases h1:m1=s
   ·subst h1
    by_cases h2:m2=m1
    ·subst h2
     have hok2:okTo ls m2 (i+1)=true:=by rw[hok];simp
     rw[hlb] at hbuf
     have Hmk1':=Lib.hid hmk1'
     obtain⟨Hmk2,Hbuf,Hst,Hsb,Hok2,Hbd,Hsz,Hlb,Hlen2,Hp⟩:=hid10 hmk2 hbuf hst hsb hok2 hbd hsz hlb hlen2 hp
     clear hmk1' hmk2 hbuf hst hsb hok2 hbd hsz hlb hlen2 hp hb1 hb hc hx h128 hok hgx hmk1
     rw[Hlb.out]
     go_wp2_with fail
     refine Hmk1'.out.mono ?_
     rintro e w1 ⟨rfl,q1,hw1⟩
     have hs1:Step wr τr w1 τr nil:=by rw[hw1];exact(Step.refl wr τr nil).drews q1
     have hmk2':=Hmk2.out w1 hs1
     have Hmk2':=Lib.hid hmk2'
     have Hs1:=Lib.hid hs1
     clear hmk2' hs1 hw1
     go_wp2_with fail
     refine Hmk2'.out.mono ?_
     rintro e w2 ⟨rfl,q2,hw2⟩
     have hs2:Step wr τr w2 τr nil:=by rw[hw2];exact Hs1.out.drews q2
     have hst2:=Hst.out.trans hs2
     have hbuf2:=Hbuf.out.step hs2 (fun h=>h)
     have hsb2:=Hsb.out.step hs2 (fun h=>h)
     obtain⟨Hst2,Hbuf2,Hsb2⟩:=hid3 hst2 hbuf2 hsb2
     clear hst2 hbuf2 hsb2 hw2 hs2
     go_wp2_with (at_builtin;refine Qal Hst2.out Hbuf2.out Hsb2.out Hsz.out rfl _ _ rfl rfl rfl ?_;intro v' w' τ' hb he hmo;obtain⟨Hb,He,Hmo⟩:=hid3 hb he hmo;clear hb he hmo)
     go_round
     case rel=>exact⟨i+1,τ',by omega,by simp,by rw[Hbd.out];exact Hb.out,He.out,Lib.hid Hok2.out⟩
     case measure=>simp[intOf];omega
    ·have hok2:okTo ls m1 (i+1)=false:=by rw[hok];simp[h2]
     have hno:=Qq1 hok2 4 (by omega)
     have hno2:Qb3 ls=false:=by unfold Qb3;rw[Hs.out];exact hno
     have b1:((m2:Int) != (m1:Int))=true:=by rw[bne_iff_ne];omega
     have Hmk1':=Lib.hid hmk1'
     obtain⟨Hmk2,Hst,Hno2⟩:=hid3 hmk2 hst hno2
     clear hmk1' hmk2 hst hno2 hbuf hb1 hb hc hx h128 hok hgx hok2 hbd hsz hlb hlen2 hsb hno hp hmk1 h2
     go_wp2_with fail
     refine Hmk1'.out.mono ?_
     rintro e w1 ⟨rfl,q1,hw1⟩
     have hs1:Step wr τr w1 τr nil:=by rw[hw1];exact(Step.refl wr τr nil).drews q1
     have hmk2':=Hmk2.out w1 hs1
     have Hmk2':=Lib.hid hmk2'
     have Hs1:=Lib.hid hs1
     clear hmk2' hs1 hw1
     go_wp2_with fail
     refine Hmk2'.out.mono ?_
     rintro e w2 ⟨rfl,q2,hw2⟩
     have hst2:=Hst.out.trans (show Step wr τr w2 τr nil by rw[hw2];exact Hs1.out.drews q2)
     have Hst2:=Lib.hid hst2
     clear hst2 hw2
     go_wp2_with fail
     go_returns
     exact⟨τr,Hst2.out,.inr ⟨Hno2.out,rfl⟩⟩
   ·have hok2:okTo ls s (i+1)=false:=by rw[hok];simp[h1]
    have hno:=Qq1 hok2 4 (by omega)
    have hno2:Qb3 ls=false:=by unfold Qb3;rw[Hs.out];exact hno
    have b1:((m1:Int) != (s:Int))=true:=by rw[bne_iff_ne];omega
    have Hmk1':=Lib.hid hmk1'
    obtain⟨Hst,Hno2⟩:=hid2 hst hno2
    clear hmk1' hst hno2 hbuf hb1 hb hc hx h128 hok hgx hok2 hbd hsz hlb hlen2 hsb hno hp hmk1 hmk2 h1
    go_wp2_with fail
    refine Hmk1'.out.mono ?_
    rintro e w1 ⟨rfl,q1,hw1⟩
    have hst2:=Hst.out.trans (show Step wr τr w1 τr nil by rw[hw1];exact(Step.refl wr τr nil).drews q1)
    have Hst2:=Lib.hid hst2
    clear hst2 hw1
    go_wp2_with fail
    go_returns
    exact⟨τr,Hst2.out,.inr ⟨Hno2.out,rfl⟩⟩
  ·obtain rfl:i=4:=by omega
   have hok:Qb3 ls=true:=by unfold Qb3;rw[Hs.out];exact HO.out
   obtain⟨Hbuf,Hst,Hok⟩:=hid3 hbuf hst hok
   clear hbuf hst hok
   go_wp2_with fail
   go_returns
   exact⟨τr,Hst.out,.inl ⟨Hok.out,_,by rw[Hs.out];rfl,Hbuf.out.bytes⟩⟩
end Go.Proofs.YtemacanaihaldaaGreat