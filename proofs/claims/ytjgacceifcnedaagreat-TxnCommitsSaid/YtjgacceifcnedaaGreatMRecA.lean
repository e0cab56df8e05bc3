/-
 Records: a record of the kind End: it may be;numbers laid by the writer.
-/
import Derived.Test.YtjgacceifcnedaaGreatMPoolQ
set_option maxRecDepth 100000
set_option maxHeartbeats 4000000
set_option linter.all false
namespace Go.Proofs.YtjgacceifcnedaaGreat
variable {l:List Int}{w:World}{τ:Tags}
open Go.RowKit
def tWr:Tag:=(95,0)
def tWb:Tag:=(96,0)
structure WrAt (n0:Nat) (w:World) (τ:Tags) (bw:Nat) (l:List Int):Prop where
 is:∃v,Own w τ bw tWr 188 [v]∧NB n0 w τ tWb v l
 low:n0≤bw
theorem WrAt.step {n0:Nat} {w':World} {τ':Tags} {S:Tag→Prop} {bw:Nat}(h:WrAt n0 w τ bw l) (m:Step w τ w' τ' S) (h1:¬S tWr) (h2:¬S tWb):WrAt n0 w' τ' bw l:=by
 obtain⟨v,ho,hb⟩:=h.is
 exact⟨⟨v,ho.step m h1,hb.step m h2⟩,h.low⟩
theorem Qa4 {w0:World} {τ0:Tags} {bw:Nat}(hst:Step w0 τ0 w τ nil) (h:WrAt w0.heap.size w τ bw l) (hsz:l.length≤100000) (n k:Nat) (hn:n<2 ^ 64) (h1:1≤k) (h8:k≤8) :
 Calls Tryz.prog 99 #[.pointer (some ⟨bw,0,none⟩),.int .u64 (n:Int),.int .i64 (k:Int)] w fun e w'=>e = .returned (.tuple #[])∧∃τ',WrAt w0.heap.size w' τ' bw (l++leB n k)∧Step w0 τ0 w' τ' nil∧Step w τ w' τ' (fun t=>t=tWr∨t=tWb):=by
 obtain⟨v,ho,hb⟩:=h.is
 have hlow:=h.low
 obtain⟨p,c,rfl⟩:=hb.val
 have c0:=ho.at 0 rfl
 have hput:=Qeu w.drew τ tData n k hn h1 h8
 have hod:=ho.drew
 have hbd:=hb.drew
 have hst0:=hst.drew
 have hq0:=(Step.refl w τ (fun t=>t=tWr∨t=tWb)).drew
 have hll:(leB n k).length=k:=Qaa n k
 generalize leB n k=m at *
 obtain⟨Hput,Hod,Hbd,Hst0,Hll,Hq0⟩:=hid6 hput hod hbd hst0 hll hq0
 clear hput hod hbd hst0 hll hq0 h ho hb hst hn
 go_enter Tryz.func99,Tryz.ntmps99
 go_wp2_with fail
 refine Qaf (S:=fun w':World=>w'.cell? ⟨bw,0,none⟩=some (.slice p l.length c)) (by kernel_rfl) ?_
 have hSS:w.drew.cell? ⟨bw,0,none⟩=some (.slice p l.length c):=c0
 refine tk0 [0,1,2,3,4,5,6] ?_
 iterate 7
  refine tks (v:=?_) rfl (Or.inl ⟨by rfl,?_⟩) (by assumption) ?_
  rotate_left
  ·intro w hSw;(try dsimp only at hSw);go_simp
   all_goals with_reducible rfl
  try simp only[Act.put,lz1,lz2,lz3]
 refine tk9 ?_
 clear hSS
 refine tk1 7 rfl fun K hK=>?_
 go_simp
 go_at_call 103
 refine Hput.out.mono ?_
 rintro e w7 ⟨u7,τ7,rfl,hu7,he7,hm7⟩
 have hs7:=Step.of nil hm7 he7
 have ho7:=Hod.out.step hs7 (fun h=>h)
 have hb7:=Hbd.out.step hs7 (fun h=>h)
 have hst7:=Hst0.out.trans hs7
 have hq7:=Hq0.out.trans (hs7.mono (fun _ h=>h.elim))
 have d0:=ho7.at 0 rfl
 obtain⟨p7,c7,rfl,-,-⟩:=hu7.any
 obtain⟨Hu7,Ho7,Hb7,Hst7,Hq7⟩:=hid5 hu7 ho7 hb7 hst7 hq7
 clear hu7 ho7 hb7 hst7 hq7 he7 hm7 hs7
 refine hK.out _ _ (fun _=>d0) ?_
 clear hK K
 refine tk1 8 rfl fun K hK=>?_
 refine Ql7 Hst7.out Hb7.out Hu7.out (by rw[Hll.out];omega) rfl _ _ rfl rfl rfl ?_
 intro v8 w8 τ8 hb8 hst8 hs8
 obtain⟨p8,c8,rfl⟩:=hb8.val
 have ho8:=Ho7.out.step hs8 (by decide)
 have e0:=ho8.at 0 rfl
 have z0:=ho8.fz 0
 have hset:=ho8.set 0 (.slice p8 (l++m).length c8)
 have hst9:=hst8.setNew (b:=bw) (o:=0) hlow (.slice p8 (l++m).length c8)
 have hq9:Step w8 τ8 (w8.setCell ⟨bw,0,none⟩ (.slice p8 (l++m).length c8)) τ8 (fun t=>t=tWr):=(Step.refl w8 τ8 (fun t=>t=tWr)).set (o:=0) ho8.tag rfl _
 have hb9:=hb8.step hq9 (by decide)
 have hqq:=(Hq7.out.trans (hs8.mono (T:=fun t=>t=tWr∨t=tWb) (fun _ h=>.inr h))).trans (hq9.mono (fun _ h=>.inl h))
 generalize (l++m).length=lm at *
 obtain⟨Hset,Hst9,Hb9,Hqq⟩:=hid4 hset hst9 hb9 hqq
 clear hset hst9 hb9 hqq ho8 hb8 hst8 hs8 hq9
 refine hK.out _ _ (fun _=>e0) ?_
 clear hK K
 refine tk1 9 rfl fun K hK=>?_
 go_simp
 refine hK.out _ _ (fun _=>e0) ?_
 clear hK K
 refine tk1 10 rfl fun K hK=>?_
 go_simp
 refine hK.out _ _ (fun _=>e0) ?_
 clear hK K
 refine tk1 11 rfl fun K hK=>?_
 go_simp
 refine hK.out _ _ (fun h=>absurd h (by decide +kernel)) ?_
 clear hK K
 refine Qad (by kernel_rfl) ?_ _
 go_wp2_with fail
 go_returns
 exact⟨rfl,τ8,⟨⟨_,Hset.out,Hb9.out⟩,hlow⟩,Hst9.out,Hqq.out⟩
theorem Qgv (xs ys:List Value) (off:Nat) (cs:List Value) (h:off+cs.length≤xs.length):over (xs++ys) off cs=over xs off cs++ys:=by
 unfold over
 rw[List.take_append_of_le_length (by omega),List.drop_append_of_le_length h]
 simp only[List.append_assoc]
theorem NB.row {n0:Nat} {g:Tag} {v:Value}(h:NB n0 w τ g v l) (h0:0<l.length):∃b cap ys,v = .slice (some ⟨b,0,none⟩) l.length cap∧Own w τ b g 5 (u8s l++ys)∧l.length+ys.length=cap∧l.length≤cap∧cap≤maxLen∧n0≤b:=by
 obtain⟨hx,⟨_,he⟩|⟨b,cap,ys,rfl,ho,h3,h4,h5⟩⟩:=h.buf
 ·omega
 ·rw[Qac,Nat.mul_one] at h3
  exact⟨b,cap,ys,rfl,ho,h3,h4,h5,h.low b rfl⟩
theorem NB.mk' {n0:Nat} {g:Tag} {b cap:Nat} {ys:List Value}(ho:Own w τ b g 5 (u8s l++ys)) (hB:IsB l) (h3:l.length+ys.length=cap) (h5:cap≤maxLen) (hlow:n0≤b):NB n0 w τ g (.slice (some ⟨b,0,none⟩) l.length cap) l :=
 ⟨⟨by rw[Qac,Nat.mul_one],.inr ⟨b,cap,ys,rfl,ho,by rw[Qac,Nat.mul_one];exact h3,by omega,h5⟩⟩,hB,fun k hk=>by
   have:b=k:=by simpa [Value.ownBlock] using hk
   omega⟩
end Go.Proofs.YtjgacceifcnedaaGreat