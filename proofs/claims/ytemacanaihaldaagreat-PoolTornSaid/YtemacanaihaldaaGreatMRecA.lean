/-
 Records: a record of the kind End: it may be;numbers laid by the writer.
-/
import Derived.Test.YtemacanaihaldaaGreatMPoolQ
set_option maxRecDepth 100000
set_option maxHeartbeats 4000000
set_option linter.all false
namespace Go.Proofs.YtemacanaihaldaaGreat
variable {l:List Int}{w:World}{τ:Tags}
open Go.RowKit
def Qgc (n:Nat):Array Value:=#[.int .u8 6,.int .u32 (n:Int),.int .u64 0,.int .u64 0,.int .u32 0,.int .u16 0,.bool false,.bool false,.slice none 0 0,.slice none 0 0,.slice none 0 0,.slice none 0 0]
theorem Qly (w:World) (τ:Tags) (n:Nat):Calls Tryz.prog 151 #[.agg (Qgc n)] w fun e w'=>e = .returned (.bool false)∧Step w τ w' τ nil:=by
 have hst:=(Step.refl w τ nil).alloc' (.cells (Qgc n) 127)
 unfold Qgc at *
 have Hst:=Lib.hid hst
 clear hst
 go_enter Tryz.func151,Tryz.ntmps151
 go_wp2_with fail
 go_ret
 exact⟨rfl,Hst.out⟩
theorem Qn8 (w:World) (f:Value):Calls Tryz.prog 269 #[.slice none 0 0,f] w fun e w'=>e = .returned (.int .i64 (-1))∧w=w':=by
 go_enter Tryz.func269,Tryz.ntmps269
 go_wp2_with fail
 go_loopw [8] (fun v wr=>v = .int .i64 0∧wr=w) (fun _ _=>0)
 case atStart=>exact⟨rfl,rfl⟩
 case round =>
  obtain⟨rfl,rfl⟩:=hrel
  go_wp2_with fail
  go_returns
  exact⟨rfl,rfl⟩
theorem Qjp (w:World) (f:Value):Calls Tryz.prog 228 #[.slice none 0 0,f] w fun e w'=>e = .returned (.bool false)∧w=w':=by
 have h1:=Qn8 w f
 have H1:=Lib.hid h1
 clear h1
 go_enter Tryz.func228,Tryz.ntmps228
 go_wp2_with fail
 refine H1.out.mono ?_
 rintro e w' ⟨rfl,rfl⟩
 go_wp2_with fail
 go_ret
 exact⟨rfl,rfl⟩
theorem Qn2 (w:World) (τ:Tags) (n:Nat):Calls Tryz.prog 227 #[.agg (Qgc n)] w fun e w'=>e = .returned (.bool true)∧Step w τ w' τ nil:=by
 have hch:=fun (W:World)=>Qly W τ n
 have hr:Qgc n=#[.int .u8 6,.int .u32 (n:Int),.int .u64 0,.int .u64 0,.int .u32 0,.int .u16 0,.bool false,.bool false,.slice none 0 0,.slice none 0 0,.slice none 0 0,.slice none 0 0]:=rfl
 simp only[hr] at hch ⊢
 have Hch:=Lib.hid hch
 clear hch hr
 go_enter Tryz.func227,Tryz.ntmps227
 go_wp2_with fail
 refine(Hch.out _).mono ?_
 rintro e w' ⟨rfl,hs⟩
 have ho:Own ((w.alloc (.cells #[.int .u8 6,.int .u32 (n:Int),.int .u64 0,.int .u64 0,.int .u32 0,.int .u16 0,.bool false,.bool false,.slice none 0 0,.slice none 0 0,.slice none 0 0,.slice none 0 0] 127)).alloc (.cells #[.int .u32 0,.int .u16 0,.bool false,.bool false,.slice none 0 0,.slice none 0 0] 124)) τ (w.heap.size+1) (τ (w.heap.size+1)) 124 [.int .u32 0,.int .u16 0,.bool false,.bool false,.slice none 0 0,.slice none 0 0]:=by
  refine⟨?_,rfl⟩
  have:=heap_alloc_new (w.alloc (.cells #[.int .u8 6,.int .u32 (n:Int),.int .u64 0,.int .u64 0,.int .u32 0,.int .u16 0,.bool false,.bool false,.slice none 0 0,.slice none 0 0,.slice none 0 0,.slice none 0 0] 127)) (.cells #[.int .u32 0,.int .u16 0,.bool false,.bool false,.slice none 0 0,.slice none 0 0] 124)
  rw[World.size_alloc] at this
  exact this
 have ho2:=ho.step hs (fun h=>h)
 have c0:=ho2.at 0 rfl
 have c1:=ho2.at 1 rfl
 have c2:=ho2.at 2 rfl
 have c3:=ho2.at 3 rfl
 have hall:=(((Step.refl w τ nil).alloc' (.cells #[.int .u8 6,.int .u32 (n:Int),.int .u64 0,.int .u64 0,.int .u32 0,.int .u16 0,.bool false,.bool false,.slice none 0 0,.slice none 0 0,.slice none 0 0,.slice none 0 0] 127)).alloc' (.cells #[.int .u32 0,.int .u16 0,.bool false,.bool false,.slice none 0 0,.slice none 0 0] 124)).trans hs
 have Hall:=Lib.hid hall
 clear hall ho ho2 hs
 go_wp2_with fail
 go_ret
 exact⟨rfl,Hall.out⟩
theorem Qzs (w:World) (τ:Tags) (n:Nat):Calls Tryz.prog 149 #[.agg (Qgc n)] w fun e w'=>e = .returned (.bool true)∧Step w τ w' τ nil:=by
 have hch:=fun (W:World)=>Qn2 W τ n
 have hcf:=fun (W:World) (f:Value)=>Qjp W f
 have hr:Qgc n=#[.int .u8 6,.int .u32 (n:Int),.int .u64 0,.int .u64 0,.int .u32 0,.int .u16 0,.bool false,.bool false,.slice none 0 0,.slice none 0 0,.slice none 0 0,.slice none 0 0]:=rfl
 simp only[hr] at hch ⊢
 obtain⟨Hch,Hcf⟩:=hid2 hch hcf
 clear hch hcf hr
 have ho:Own (w.alloc (.cells #[.int .u8 6,.int .u32 (n:Int),.int .u64 0,.int .u64 0,.int .u32 0,.int .u16 0,.bool false,.bool false,.slice none 0 0,.slice none 0 0,.slice none 0 0,.slice none 0 0] 127)) τ w.heap.size (τ w.heap.size) 127 [.int .u8 6,.int .u32 (n:Int),.int .u64 0,.int .u64 0,.int .u32 0,.int .u16 0,.bool false,.bool false,.slice none 0 0,.slice none 0 0,.slice none 0 0,.slice none 0 0]:=⟨heap_alloc_new _ _,rfl⟩
 have hst:=(Step.refl w τ nil).alloc' (.cells #[.int .u8 6,.int .u32 (n:Int),.int .u64 0,.int .u64 0,.int .u32 0,.int .u16 0,.bool false,.bool false,.slice none 0 0,.slice none 0 0,.slice none 0 0,.slice none 0 0] 127)
 obtain⟨Ho,Hst⟩:=hid2 ho hst
 clear ho hst
 go_enter Tryz.func149,Tryz.ntmps149
 go_wp2_with fail
 refine(Hch.out _).mono ?_
 rintro e w' ⟨rfl,hs⟩
 have c10:=(Ho.out.step hs (fun h=>h)).at 10 rfl
 have Hs:=Lib.hid hs
 clear hs
 go_wp2_with fail
 refine(Hcf.out _ _).mono ?_
 rintro e w' ⟨rfl,rfl⟩
 go_wp2_with fail
 go_ret
 exact⟨rfl,Hst.out.trans Hs.out⟩
def tWr:Tag:=(95,0)
def tWb:Tag:=(96,0)
structure WrAt (n0:Nat) (w:World) (τ:Tags) (bw:Nat) (l:List Int):Prop where
 is:∃v,Own w τ bw tWr 262 [v]∧NB n0 w τ tWb v l
 low:n0≤bw
theorem WrAt.step {n0:Nat} {w':World} {τ':Tags} {S:Tag→Prop} {bw:Nat}(h:WrAt n0 w τ bw l) (m:Step w τ w' τ' S) (h1:¬S tWr) (h2:¬S tWb):WrAt n0 w' τ' bw l:=by
 obtain⟨v,ho,hb⟩:=h.is
 exact⟨⟨v,ho.step m h1,hb.step m h2⟩,h.low⟩
theorem Qa4 {w0:World} {τ0:Tags} {bw:Nat}(hst:Step w0 τ0 w τ nil) (h:WrAt w0.heap.size w τ bw l) (hsz:l.length≤100000) (n k:Nat) (hn:n<2 ^ 64) (h1:1≤k) (h8:k≤8) :
 Calls Tryz.prog 150 #[.pointer (some ⟨bw,0,none⟩),.int .u64 (n:Int),.int .i64 (k:Int)] w fun e w'=>e = .returned (.tuple #[])∧∃τ',WrAt w0.heap.size w' τ' bw (l++leB n k)∧Step w0 τ0 w' τ' nil∧Step w τ w' τ' (fun t=>t=tWr∨t=tWb):=by
 obtain⟨v,ho,hb⟩:=h.is
 have hlow:=h.low
 obtain⟨p,c,rfl⟩:=hb.val
 have c0:=ho.at 0 rfl
 have hput:=Qeu w.drew τ tData n k hn h1 h8
 have hod:=ho.drew
 have hbd:=hb.drew
 have hst0:=hst.drew
 have hq0:=(Step.refl w τ (fun t=>t=tWr∨t=tWb)).drew
 have hll:(leB n k).length=k:=Qaa n k
 generalize leB n k=m at *
 obtain⟨Hput,Hod,Hbd,Hst0,Hll,Hq0⟩:=hid6 hput hod hbd hst0 hll hq0
 clear hput hod hbd hst0 hll hq0 h ho hb hst hn
 go_enter Tryz.func150,Tryz.ntmps150
 go_wp2_with fail
 refine Qaf (S:=fun w':World=>w'.cell? ⟨bw,0,none⟩=some (.slice p l.length c)) (by kernel_rfl) ?_
 have hSS:w.drew.cell? ⟨bw,0,none⟩=some (.slice p l.length c):=c0
 refine tk0 [0,1,2,3,4,5,6] ?_
 iterate 7
  refine tks (v:=?_) rfl (Or.inl ⟨by rfl,?_⟩) (by assumption) ?_
  rotate_left
  ·intro w hSw;(try dsimp only at hSw);go_simp
   all_goals with_reducible rfl
  try simp only[Act.put,lz1,lz2,lz3]
 refine tk9 ?_
 clear hSS
 refine tk1 7 rfl fun K hK=>?_
 go_simp
 go_at_call 154
 refine Hput.out.mono ?_
 rintro e w7 ⟨u7,τ7,rfl,hu7,he7,hm7⟩
 have hs7:=Step.of nil hm7 he7
 have ho7:=Hod.out.step hs7 (fun h=>h)
 have hb7:=Hbd.out.step hs7 (fun h=>h)
 have hst7:=Hst0.out.trans hs7
 have hq7:=Hq0.out.trans (hs7.mono (fun _ h=>h.elim))
 have d0:=ho7.at 0 rfl
 obtain⟨p7,c7,rfl,-,-⟩:=hu7.any
 obtain⟨Hu7,Ho7,Hb7,Hst7,Hq7⟩:=hid5 hu7 ho7 hb7 hst7 hq7
 clear hu7 ho7 hb7 hst7 hq7 he7 hm7 hs7
 refine hK.out _ _ (fun _=>d0) ?_
 clear hK K
 refine tk1 8 rfl fun K hK=>?_
 refine Ql7 Hst7.out Hb7.out Hu7.out (by rw[Hll.out];omega) rfl _ _ rfl rfl rfl ?_
 intro v8 w8 τ8 hb8 hst8 hs8
 obtain⟨p8,c8,rfl⟩:=hb8.val
 have ho8:=Ho7.out.step hs8 (by decide)
 have e0:=ho8.at 0 rfl
 have z0:=ho8.fz 0
 have hset:=ho8.set 0 (.slice p8 (l++m).length c8)
 have hst9:=hst8.setNew (b:=bw) (o:=0) hlow (.slice p8 (l++m).length c8)
 have hq9:Step w8 τ8 (w8.setCell ⟨bw,0,none⟩ (.slice p8 (l++m).length c8)) τ8 (fun t=>t=tWr):=(Step.refl w8 τ8 (fun t=>t=tWr)).set (o:=0) ho8.tag rfl _
 have hb9:=hb8.step hq9 (by decide)
 have hqq:=(Hq7.out.trans (hs8.mono (T:=fun t=>t=tWr∨t=tWb) (fun _ h=>.inr h))).trans (hq9.mono (fun _ h=>.inl h))
 generalize (l++m).length=lm at *
 obtain⟨Hset,Hst9,Hb9,Hqq⟩:=hid4 hset hst9 hb9 hqq
 clear hset hst9 hb9 hqq ho8 hb8 hst8 hs8 hq9
 refine hK.out _ _ (fun _=>e0) ?_
 clear hK K
 refine tk1 9 rfl fun K hK=>?_
 go_simp
 refine hK.out _ _ (fun _=>e0) ?_
 clear hK K
 refine tk1 10 rfl fun K hK=>?_
 go_simp
 refine hK.out _ _ (fun _=>e0) ?_
 clear hK K
 refine tk1 11 rfl fun K hK=>?_
 go_simp
 refine hK.out _ _ (fun h=>absurd h (by decide +kernel)) ?_
 clear hK K
 refine Qad (by kernel_rfl) ?_ _
 go_wp2_with fail
 go_returns
 exact⟨rfl,τ8,⟨⟨_,Hset.out,Hb9.out⟩,hlow⟩,Hst9.out,Hqq.out⟩
theorem Qgv (xs ys:List Value) (off:Nat) (cs:List Value) (h:off+cs.length≤xs.length):over (xs++ys) off cs=over xs off cs++ys:=by
 unfold over
 rw[List.take_append_of_le_length (by omega),List.drop_append_of_le_length h]
 simp only[List.append_assoc]
theorem NB.row {n0:Nat} {g:Tag} {v:Value}(h:NB n0 w τ g v l) (h0:0<l.length):∃b cap ys,v = .slice (some ⟨b,0,none⟩) l.length cap∧Own w τ b g 5 (u8s l++ys)∧cap≤l.length+ys.length∧l.length≤cap∧cap≤maxLen∧n0≤b:=by
 obtain⟨hx,⟨_,he⟩|⟨b,cap,ys,rfl,ho,h3,h4,h5⟩⟩:=h.buf
 ·omega
 ·rw[Qac,Nat.mul_one] at h3
  exact⟨b,cap,ys,rfl,ho,h3,h4,h5,h.low b rfl⟩
theorem NB.mk' {n0:Nat} {g:Tag} {b cap:Nat} {ys:List Value}(ho:Own w τ b g 5 (u8s l++ys)) (hB:IsB l) (h3:cap≤l.length+ys.length) (h4:l.length≤cap) (h5:cap≤maxLen) (hlow:n0≤b):NB n0 w τ g (.slice (some ⟨b,0,none⟩) l.length cap) l :=
 ⟨⟨by rw[Qac,Nat.mul_one],.inr ⟨b,cap,ys,rfl,ho,by rw[Qac,Nat.mul_one];exact h3,by omega,h5⟩⟩,hB,fun k hk=>by
   have:b=k:=by simpa [Value.ownBlock] using hk
   omega⟩
def Qkq (n:Nat):List Int:=List.replicate 6 0++leB 6 1++leB n 4++leB 0 8++leB 0 8
theorem Qat (n:Nat):(Qkq n).length=27:=by simp[Qkq,Qaa]
theorem Qs8 (n:Nat):IsB (Qkq n):=((((Qex 6).append (Qan _ _)).append (Qan _ _)).append (Qan _ _)).append (Qan _ _)
def Qdg (n:Nat):List Int:=layN (Qkq n) 0 (leB 27 2)
def recBytes (n:Nat):List Int:=layN (Qdg n) 2 (leB (crcTo ((Qdg n).drop 6) ((Qdg n).drop 6).length) 4)
theorem Qbd (n:Nat):(Qdg n).length=27:=by unfold Qdg;rw[Qae _ _ _ (by rw[Qaa,Qat];omega),Qat]
theorem Qdz (n:Nat):(recBytes n).length=27:=by unfold recBytes;rw[Qae _ _ _ (by rw[Qaa,Qbd];omega),Qbd]
theorem Qmp (n:Nat):IsB (Qdg n):=Qaw (Qs8 n) (Qan _ _) _
theorem Qi2 (n:Nat):IsB (recBytes n):=Qaw (Qmp n) (Qan _ _) _
theorem Qtu (w:World) (τ:Tags) (n:Nat) (hn:n<4294967296):Calls Tryz.prog 86 #[.agg (Qgc n)] w fun e w'=>∃v τ',e = .returned (.tuple #[v,.int .u16 0])∧NB w.heap.size w' τ' tWb v (recBytes n)∧Step w τ w' τ' nil:=by
 have hmay:=fun (W:World) (T:Tags)=>Qzs W T n
 have hch:=fun (W:World) (T:Tags)=>Qly W T n
 have hr:Qgc n=#[.int .u8 6,.int .u32 (n:Int),.int .u64 0,.int .u64 0,.int .u32 0,.int .u16 0,.bool false,.bool false,.slice none 0 0,.slice none 0 0,.slice none 0 0,.slice none 0 0]:=rfl
 simp only[hr] at hmay hch ⊢
 have hwn:=Qam n (by omega)
 have rn:∀W:World,(Instr.makeSlice 37 (.int .i64 6) (.int .i64 6)).run Tryz.prog W = .ok (.slice (some ⟨W.heap.size,0,none⟩) 6 6) (W.alloc (.cells (madeCells #[.int .u8 0] 6) 5)):=fun W=>Qko 6 (by omega) W
 obtain⟨Hmay,Hch⟩:=hid2 hmay hch
 clear hmay hch hr
 have ho:Own (w.alloc (.cells #[.int .u8 6,.int .u32 (n:Int),.int .u64 0,.int .u64 0,.int .u32 0,.int .u16 0,.bool false,.bool false,.slice none 0 0,.slice none 0 0,.slice none 0 0,.slice none 0 0] 127)) (τ.put w.heap.size tData) w.heap.size tData 127 [.int .u8 6,.int .u32 (n:Int),.int .u64 0,.int .u64 0,.int .u32 0,.int .u16 0,.bool false,.bool false,.slice none 0 0,.slice none 0 0,.slice none 0 0,.slice none 0 0]:=Own.born w τ tData 127 _
 have hst:=(Step.refl w τ nil).alloc (.cells #[.int .u8 6,.int .u32 (n:Int),.int .u64 0,.int .u64 0,.int .u32 0,.int .u16 0,.bool false,.bool false,.slice none 0 0,.slice none 0 0,.slice none 0 0,.slice none 0 0] 127) tData
 generalize hτ1:τ.put w.heap.size tData=τ1 at *
 obtain⟨Ho,Hst⟩:=hid2 ho hst
 clear ho hst hτ1
 go_enter Tryz.func86,Tryz.ntmps86
 go_wp2_with fail
 refine(Hmay.out _ τ1).mono ?_
 rintro e w1 ⟨rfl,hs1⟩
 have ho1:=Ho.out.step hs1 (fun h=>h)
 have hst1:=Hst.out.trans hs1
 have hob:=Own.born w1 τ1 tWb 5 (madeCells #[.int .u8 0] 6)
 rw[Qhm 6] at hob
 have hsb:=hst1.alloc (.cells (madeCells #[.int .u8 0] 6) 5) tWb
 have hor:=ho1.step_new (.cells (madeCells #[.int .u8 0] 6) 5) tWb
 have hnb:NB w.heap.size (w1.alloc (.cells (madeCells #[.int .u8 0] 6) 5)) (τ1.put w1.heap.size tWb) tWb (.slice (some ⟨w1.heap.size,0,none⟩) 6 6) (List.replicate 6 0):=by
  have:=NB.mk' (n0:=w.heap.size) (l:=List.replicate 6 0) (cap:=6) (ys:=[]) (by rw[List.append_nil];exact hob) (Qex 6) (by simp) (by simp) (by unfold maxLen;omega) hst1.size
  rw[List.length_replicate] at this
  exact this
 generalize hτ2:τ1.put w1.heap.size tWb=τ2 at *
 have how:=Own.born (w1.alloc (.cells (madeCells #[.int .u8 0] 6) 5)) τ2 tWr 262 #[.slice (some ⟨w1.heap.size,0,none⟩) 6 6]
 have hst3:=hsb.alloc (.cells #[.slice (some ⟨w1.heap.size,0,none⟩) 6 6] 262) tWr
 have hor3:=hor.step_new (.cells #[.slice (some ⟨w1.heap.size,0,none⟩) 6 6] 262) tWr
 have hnb3:=hnb.step ((Step.refl _ τ2 nil).alloc (.cells #[.slice (some ⟨w1.heap.size,0,none⟩) 6 6] 262) tWr) (fun h=>h)
 have hwl:=hsb.size
 rw[World.size_alloc] at how hwl hst3 hor3 hnb3
 generalize hτ3:τ2.put (w1.heap.size+1) tWr=τ3 at *
 have hW:WrAt w.heap.size ((w1.alloc (.cells (madeCells #[.int .u8 0] 6) 5)).alloc (.cells #[.slice (some ⟨w1.heap.size,0,none⟩) 6 6] 262)) τ3 (w1.heap.size+1) (List.replicate 6 0):=⟨⟨_,how,hnb3⟩,hwl⟩
 have q0:=hor3.at 0 rfl
 have hn1:=Qa4 hst3 hW (by simp) 6 1 (by omega) (by omega) (by omega)
 have hrn:∀W:World,WrAt w.heap.size W τ3 (w1.heap.size+1) (List.replicate 6 0)→True:=fun _ _=>trivial
 obtain⟨Hn1,Hor3⟩:=hid2 hn1 hor3
 clear hn1 hor3 how hst3 hnb3 hwl hW hnb hor hsb hob ho1 hst1 hs1 hrn Hmay Ho Hst hτ3 hτ2
 go_wp2_with fail
 refine Hn1.out.mono ?_
 rintro e w4 ⟨rfl,τ4,hw4,hst4,hq4⟩
 have ho4:=Hor3.out.step hq4 (by decide)
 have q1:=ho4.at 1 rfl
 have hn2:=Qa4 hst4 hw4 (by simp[Qaa]) n 4 (by omega) (by omega) (by omega)
 obtain⟨Hn2,Ho4⟩:=hid2 hn2 ho4
 clear hn2 ho4 hw4 hst4 hq4 Hn1 Hor3 q0
 go_wp2_with fail
 refine Hn2.out.mono ?_
 rintro e w5 ⟨rfl,τ5,hw5,hst5,hq5⟩
 have ho5:=Ho4.out.step hq5 (by decide)
 have q2:=ho5.at 2 rfl
 have hn3:=Qa4 hst5 hw5 (by simp[Qaa]) 0 8 (by omega) (by omega) (by omega)
 obtain⟨Hn3,Ho5⟩:=hid2 hn3 ho5
 clear hn3 ho5 hw5 hst5 hq5 Hn2 Ho4 q1
 go_wp2_with fail
 refine Hn3.out.mono ?_
 rintro e w6 ⟨rfl,τ6,hw6,hst6,hq6⟩
 have ho6:=Ho5.out.step hq6 (by decide)
 have q3:=ho6.at 3 rfl
 have hn4:=Qa4 hst6 hw6 (by simp[Qaa]) 0 8 (by omega) (by omega) (by omega)
 obtain⟨Hn4,Ho6⟩:=hid2 hn4 ho6
 clear hn4 ho6 hw6 hst6 hq6 Hn3 Ho5 q2
 go_wp2_with fail
 refine Hn4.out.mono ?_
 rintro e w7 ⟨rfl,τ7,hw7,hst7,hq7⟩
 have ho7:=Ho6.out.step hq7 (by decide)
 have k0:=ho7.at 0 rfl
 have k1:=ho7.at 1 rfl
 have k2:=ho7.at 2 rfl
 have k3:=ho7.at 3 rfl
 have k4:=ho7.at 4 rfl
 have k5:=ho7.at 5 rfl
 have k6:=ho7.at 6 rfl
 have k7:=ho7.at 7 rfl
 have k8:=ho7.at 8 rfl
 have k9:=ho7.at 9 rfl
 have k10:=ho7.at 10 rfl
 have k11:=ho7.at 11 rfl
 obtain⟨Hw7,Hst7,Ho7⟩:=hid3 hw7 hst7 ho7
 clear hw7 hst7 ho7 hq7 Hn4 Ho6 q3
 go_wp2_with fail
 refine(Hch.out _ τ7).mono ?_
 rintro e w8 ⟨rfl,hs8⟩
 have l0:=(Ho7.out.step hs8 (fun h=>h)).at 0 rfl
 have hw8:=Hw7.out.step hs8 (fun h=>h) (fun h=>h)
 have hst8:=Hst7.out.trans hs8
 clear k0 k1 k2 k3 k4 k5 k6 k7 k8 k9 k10 k11
 obtain⟨v8,hwo,hwb⟩:=hw8.is
 have hlow8:=hw8.low
 obtain⟨Hwo,Hwb,Hst8⟩:=hid3 hwo hwb hst8
 clear hwo hwb hst8 hw8 hs8
 have hwb2:NB w.heap.size w8 τ7 tWb v8 (Qkq n):=Hwb.out
 obtain⟨b,cap,ys,rfl,hob,hc1,hc2,hc3,hbl⟩:=hwb2.row (by rw[Qat];omega)
 rw[Qat] at hc1 hc2
 have c0:=Hwo.out.at 0 rfl
 rw[Qat] at c0
 have hput:=Qeu w8.drew τ7 tData 27 2 (by omega) (by omega) (by omega)
 have hob0:=hob.drew
 have hwo0:=Hwo.out.drew
 have hst0:=Hst8.out.drew
 have hmin:2=Nat.min (leB 27 2).length 27:=by rw[Qaa];decide
 have hft:0+2≤(u8s (Qkq n)++ys).length:=by rw[List.length_append,Qac,Qat];omega
 have hover:over (u8s (Qkq n)++ys) 0 (u8s ((leB 27 2).take 2))=u8s (Qdg n)++ys:=by
  rw[Qgv _ _ _ _ (by rw[Qac,Qac,Qat,List.length_take,Qaa];decide),Qby _ _ _ _ (Qaa 27 2).symm];rfl
 have hlowL:=Hwo.out.lt
 obtain⟨Hput,Hob0,Hwo0,Hst0,Hmin,Hft,Hover⟩:=hid7 hput hob0 hwo0 hst0 hmin hft hover
 clear hput hob0 hwo0 hst0 hmin hft hover hwb2 hob Hwb Hwo Hst8 Hw7 Hst7 Ho7 hlowL
 generalize hbwe:w1.heap.size+1=bw at *
 clear hbwe
 go_wp2_with fail
 have hSS:w8.drew.cell? ⟨bw,0,none⟩=some (.slice (some ⟨b,0,none⟩) 27 cap):=c0
 clear c0
 refine Qaf (S:=fun w':World=>w'.cell? ⟨bw,0,none⟩=some (.slice (some ⟨b,0,none⟩) 27 cap)) (by kernel_rfl) ?_
 refine tk0 [0,1,2,3,4,5,6,7,8,9] ?_
 iterate 10
  refine tks (v:=?_) rfl (Or.inl ⟨by rfl,?_⟩) (by assumption) ?_
  rotate_left
  ·intro w hSw;(try dsimp only at hSw);go_simp
   all_goals with_reducible rfl
  try simp only[Act.put,lz1,lz2,lz3]
 refine tk9 ?_
 clear hSS
 refine tk1 10 rfl fun K hK=>?_
 go_simp
 go_at_call 154
 refine Hput.out.mono ?_
 rintro e w9 ⟨u9,τ9,rfl,hu9,he9,hm9⟩
 have hs9:=Step.of nil hm9 he9
 have hwo9:=Hwo0.out.step hs9 (fun h=>h)
 have hob9:=Hob0.out.step hs9 (fun h=>h)
 have hst9:=Hst0.out.trans hs9
 have d0:=hwo9.at 0 rfl
 rw[Qat] at d0
 obtain⟨p9,c9,rfl,-,-⟩:=hu9.any
 obtain⟨Hu9,Hwo9,Hob9,Hst9⟩:=hid4 hu9 hwo9 hob9 hst9
 clear hu9 hwo9 hob9 hst9 he9 hm9 hs9 Hwo0 Hob0 Hst0 Hput
 refine hK.out _ _ (fun _=>d0) ?_
 clear hK K
 refine tk1 11 rfl fun K hK=>?_
 refine Qbb Hst9.out Hob9.out (.inr hbl) Hu9.out 2 Hmin.out Hft.out rfl _ _ rfl rfl rfl ?_
 intro w10 hob10 hst10 hq10
 rw[Hover.out] at hob10
 have hwo10:=Hwo9.out.step hq10 (by decide)
 have e0:=hwo10.at 0 rfl
 rw[Qat] at e0
 obtain⟨Hob10,Hst10,Hwo10⟩:=hid3 hob10 hst10 hwo10
 clear hob10 hst10 hwo10 hq10
 refine hK.out _ _ (fun _=>e0) ?_
 clear hK K
 refine Qad (by kernel_rfl) ?_ _
 have hnb10:=NB.mk' (n0:=w.heap.size) Hob10.out (Qmp n) (by rw[Qbd];exact hc1) (by rw[Qbd];exact hc2) hc3 hbl
 rw[Qbd] at hnb10
 have hsub:=(hnb10.bytes).sub 6 27 (cap-6) (by omega) (by omega) (by omega) (by omega)
 rw[Nat.zero_add,List.take_of_length_le (by rw[List.length_drop,Qbd];omega)] at hsub
 have hsl:((Qdg n).drop 6).length=21:=by rw[List.length_drop,Qbd]
 have hwoA:=Hwo10.out.drew
 have e1:=hwoA.at 0 rfl
 rw[Qat] at e1
 have hcell:(w10.drew.alloc (.cells #[.slice (some ⟨b,6,none⟩) 21 (cap-6)] 37)).cell? ⟨w10.drew.heap.size,0,none⟩=some (.slice (some ⟨b,6,none⟩) 21 (cap-6)):=(Own.new w10.drew τ9 tData 37 [.slice (some ⟨b,6,none⟩) 21 (cap-6)]).at 0 rfl
 have hsum:=Qqe hcell (hsub.drew.alloc (.cells #[.slice (some ⟨b,6,none⟩) 21 (cap-6)] 37)) (by rw[hsl];omega)
 have hcl:=Qh8 ((Qdg n).drop 6) ((Qdg n).drop 6).length
 have hrb:recBytes n=layN (Qdg n) 2 (leB (crcTo ((Qdg n).drop 6) ((Qdg n).drop 6).length) 4):=rfl
 generalize crcTo ((Qdg n).drop 6) ((Qdg n).drop 6).length=s at *
 have hsw:=Qam s (by omega)
 have hwoB:=hwoA.alloc (.cells #[.slice (some ⟨b,6,none⟩) 21 (cap-6)] 37)
 have f0:=hwoB.at 0 rfl
 rw[Qat] at f0
 have hobB:=Hob10.out.drew.alloc (.cells #[.slice (some ⟨b,6,none⟩) 21 (cap-6)] 37)
 have hstB:=Hst10.out.drew.alloc' (.cells #[.slice (some ⟨b,6,none⟩) 21 (cap-6)] 37)
 have hput:=Qeu (w10.drew.alloc (.cells #[.slice (some ⟨b,6,none⟩) 21 (cap-6)] 37)) τ9 tData s 4 (by omega) (by omega) (by omega)
 have hnim:4=Nat.min (leB s 4).length 25:=by rw[Qaa];decide
 have htf:2+4≤(u8s (Qdg n)++ys).length:=by rw[List.length_append,Qac,Qbd];omega
 have hrevo:over (u8s (Qdg n)++ys) 2 (u8s ((leB s 4).take 4))=u8s (recBytes n)++ys:=by
  rw[Qgv _ _ _ _ (by rw[Qac,Qac,Qbd,List.length_take,Qaa];decide),Qby _ _ _ _ (Qaa s 4).symm,hrb]
 have n1:¬2=cap:=by omega
 have n2:¬cap=2:=by omega
 have n3:¬6=cap:=by omega
 have n4:¬cap=6:=by omega
 have n5:2≤cap:=by omega
 have n6:6≤cap:=by omega
 obtain⟨Hsum,HwoB,HobB,HstB,Hput,Hnim,Htf,Hrevo⟩:=hid8 hsum hwoB hobB hstB hput hnim htf hrevo
 clear hsum hwoB hobB hstB hput hnim htf hrevo hnb10 hsub hsl hwoA hcell Hmin Hft Hover Hwo9 Hob9 Hst9 Hu9 hrb e0 d0 Hob10 Hst10
 have hSS:w10.drew.cell? ⟨bw,0,none⟩=some (.slice (some ⟨b,0,none⟩) 27 cap):=e1
 clear e1
 go_wp2_with fail
 refine Qaf (S:=fun w':World=>w'.cell? ⟨bw,0,none⟩=some (.slice (some ⟨b,0,none⟩) 27 cap)) (by kernel_rfl) ?_
 refine tk0 [0,1,2,3,4,5,6,7,8,9] ?_
 iterate 10
  refine tks (v:=?_) rfl (Or.inl ⟨by rfl,?_⟩) (by assumption) ?_
  rotate_left
  ·intro w hSw;(try dsimp only at hSw);go_simp
   all_goals with_reducible rfl
  try simp only[Act.put,lz1,lz2,lz3]
 refine tk9 ?_
 clear hSS
 refine tk1 10 rfl fun K hK=>?_
 go_simp
 refine hK.out _ _ (fun _=>f0) ?_
 clear hK K
 refine tk1 11 rfl fun K hK=>?_
 go_simp
 go_at_call 155
 refine Hsum.out.mono ?_
 rintro e w11 ⟨rfl,rfl⟩
 refine hK.out _ _ (fun _=>f0) ?_
 clear hK K
 refine tk1 12 rfl fun K hK=>?_
 go_simp
 refine hK.out _ _ (fun _=>f0) ?_
 clear hK K
 refine tk1 13 rfl fun K hK=>?_
 go_simp
 go_at_call 154
 refine Hput.out.mono ?_
 rintro e w12 ⟨u12,τ12,rfl,hu12,he12,hm12⟩
 have hs12:=Step.of nil hm12 he12
 have hwo12:=HwoB.out.step hs12 (fun h=>h)
 have hob12:=HobB.out.step hs12 (fun h=>h)
 have hst12:=HstB.out.trans hs12
 have g0:=hwo12.at 0 rfl
 rw[Qat] at g0
 obtain⟨p12,c12,rfl,-,-⟩:=hu12.any
 obtain⟨Hu12,Hwo12,Hob12,Hst12⟩:=hid4 hu12 hwo12 hob12 hst12
 clear hu12 hwo12 hob12 hst12 he12 hm12 hs12 HwoB HobB HstB Hput
 refine hK.out _ _ (fun _=>g0) ?_
 clear hK K
 refine tk1 14 rfl fun K hK=>?_
 refine Qbb Hst12.out Hob12.out (.inr hbl) Hu12.out 4 Hnim.out Htf.out rfl _ _ rfl rfl rfl ?_
 intro w13 hob13 hst13 hq13
 rw[Hrevo.out] at hob13
 have hwo13:=Hwo12.out.step hq13 (by decide)
 have h0:=hwo13.at 0 rfl
 rw[Qat] at h0
 obtain⟨Hob13,Hst13,Hwo13⟩:=hid3 hob13 hst13 hwo13
 clear hob13 hst13 hwo13 hq13
 refine hK.out _ _ (fun _=>h0) ?_
 clear hK K
 refine Qad (by kernel_rfl) ?_ _
 go_wp2_with fail
 go_ret2
 have hnb:=NB.mk' (n0:=w.heap.size) Hob13.out (Qi2 n) (by rw[Qdz];exact hc1) (by rw[Qdz];exact hc2) hc3 hbl
 rw[Qdz] at hnb
 exact⟨_,τ12,rfl,hnb,Hst13.out⟩
end Go.Proofs.YtemacanaihaldaaGreat