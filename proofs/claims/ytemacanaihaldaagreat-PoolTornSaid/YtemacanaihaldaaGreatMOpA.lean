/-
 The log: which header a sector is.
-/
import Derived.Test.YtemacanaihaldaaGreatMRdA
import Derived.Test.YtemacanaihaldaaGreatMRegL
import Derived.Test.YtemacanaihaldaaGreatMPoolI
import Derived.BigQuiet
set_option maxRecDepth 100000
set_option maxHeartbeats 40000000
set_option linter.all false
namespace Go.Proofs.YtemacanaihaldaaGreat
open Go.RowKit
section
variable {P : Program} {ops : Array Oper} {Q : Exit → Act → World → Prop} {md : Region.Mode} {S : World → Prop}
end
structure HeadM where
 stamp:Nat
 base:Nat
 check:Nat
 area:Nat
def Jct (l:List Int):HeadM:=⟨leN (l.take 8) 8,leN ((l.drop 9).take 8) 8,leN ((l.drop 17).take 8) 8,(l.getD 8 0).toNat⟩
def Jc3 (l:List Int):Bool:=decide ((Jct l).stamp≠0) && decide (0<(Jct l).base∧(Jct l).base≤9223372036854775808) && decide ((Jct l).area<2) && decide (l=headB (Jct l).stamp (Jct l).base (Jct l).check (Jct l).area)
def Jdl (h:HeadM):Array Value:=#[.int .u64 (h.stamp:Int),.int .u64 (h.base:Int),.int .u64 (h.check:Int),.int .i64 (h.area:Int)]
theorem Jfo {w:World}{τ:Tags}{g:Tag}{v:Value}{l:List Int}(h:Bytes w τ g v l) (hl:l.length=128) (hk:(Jct l).stamp=0∨Jc3 l=true) :
 Calls Tryz.prog 119 #[v] w fun e w'=>e = .returned (.tuple #[.agg (Jdl (Jct l)),.bool (Jc3 l)])∧∃τ',Step w τ w' τ' nil:=by
 obtain⟨b,o,c,rfl,hb⟩:=h.lies (by omega)
 have hle:=hb.le
 have hcap:=hb.cap
 rw[hl] at hle
 have hB:=hb.isB
 have c8:=hb.cell 8 (by omega)
 obtain⟨ar,har⟩:∃ar,(l.getD 8 0).toNat=ar:=⟨_,rfl⟩
 have hb8:=hB.at 8
 have har2:l.getD 8 0=(ar:Int):=by omega
 have har3:ar<256:=by omega
 rw[har2] at c8
 have hq:=(Step.refl w τ nil).alloc (.cells #[.int .u64 0,.int .u64 0,.int .u64 0,.int .i64 0] 116) tOne
 have hx:=Own.born w τ tOne 116 #[.int .u64 0,.int .u64 0,.int .u64 0,.int .i64 0]
 have hb1:=hb.step hq (fun h=>h)
 obtain⟨bx,hbx⟩:∃bx,w.heap.size=bx:=⟨_,rfl⟩
 rw[hbx] at hx hb1 hq
 generalize τ.put bx tOne=τ1 at *
 obtain⟨w1,hw1⟩:∃w1,w.alloc (.cells #[.int .u64 0,.int .u64 0,.int .u64 0,.int .i64 0] 116)=w1:=⟨_,rfl⟩
 rw[hw1] at hx hb1 hq
 have hG:∀(i j:Nat),i+8=j→j≤128→∀W τ',Step w1 τ1 W τ' nil→Calls Tryz.prog 122 #[.slice (some ⟨b,o+i,none⟩) 8 (c-i)] W fun e w'=>e = .returned (.int .u64 (leN ((l.drop i).take 8) 8:Int))∧W=w':=fun i j hij hj W τ' hW=>by
  have:=Qip (((hb1.step hW (fun h=>h)).drop i (by omega)).take 8).bytes (by rw[List.length_take,List.length_drop];omega) (by rw[List.length_take,List.length_drop];omega)
  rwa [show ((l.drop i).take 8).length=8 by rw[List.length_take,List.length_drop];omega] at this
 have G1:=hG 0 8 rfl (by omega)
 have G2:=hG 9 17 rfl (by omega)
 have G3:=hG 17 25 rfl (by omega)
 have hw0:=(Step.refl w1 τ1 nil).drew
 have hoB:=Own.born w1.drew τ1 tOne 116 #[.int .u64 0,.int .u64 0,.int .u64 0,.int .i64 0]
 have hwB:=hw0.alloc (.cells #[.int .u64 0,.int .u64 0,.int .u64 0,.int .i64 0] 116) tOne
 have hxB:=hx.drew.step_new (.cells #[.int .u64 0,.int .u64 0,.int .u64 0,.int .i64 0] 116) tOne
 have cB:=(hb1.step hwB (fun h=>h)).cell 8 (by omega)
 have c1:=hb1.cell 8 (by omega)
 rw[har2] at cB c1
 rw[Nat.add_zero,Nat.sub_zero] at G1
 rw[List.drop_zero] at G1
 obtain⟨st,hst⟩:∃n,leN (l.take 8) 8=n:=⟨_,rfl⟩
 obtain⟨ba,hba⟩:∃n,leN ((l.drop 9).take 8) 8=n:=⟨_,rfl⟩
 obtain⟨ck,hck⟩:∃n,leN ((l.drop 17).take 8) 8=n:=⟨_,rfl⟩
 rw[hst] at G1
 rw[hba] at G2
 rw[hck] at G3
 have hst4:st<2 ^ 64:=hst▸Qle (fun x hx=>hB x (List.mem_of_mem_take hx)) 8
 have hba4:ba<2 ^ 64:=hba▸Qle (fun x hx=>hB x (List.mem_of_mem_drop (List.mem_of_mem_take hx))) 8
 have hck4:ck<2 ^ 64:=hck▸Qle (fun x hx=>hB x (List.mem_of_mem_drop (List.mem_of_mem_take hx))) 8
 have hhead:Jct l=⟨st,ba,ck,ar⟩:=by unfold Jct;rw[hst,hba,hck,har]
 have h128:¬((128:Int)<8):=by decide
 have hn9:¬c=9:=by omega
 have hn17:¬c=17:=by omega
 have hc8:(8:Int)≤(c:Int):=by omega
 have hc17:(17:Int)≤(c:Int):=by omega
 have hc25:(25:Int)≤(c:Int):=by omega
 have hk2:st=0∨(0<ba∧ba≤9223372036854775808∧ar<2∧l=headB st ba ck ar):=by
  rcases hk with hk|hk
  ·rw[hhead] at hk;exact .inl hk
  ·unfold Jc3 at hk
   rw[hhead] at hk
   simp only[Bool.and_eq_true,decide_eq_true_eq] at hk
   exact .inr ⟨hk.1.1.2.1,hk.1.1.2.2,hk.1.2,hk.2⟩
 obtain⟨R,hR⟩:∃R,Jc3 l=R:=⟨_,rfl⟩
 have hhc:Jdl (Jct l)=#[.int .u64 (st:Int),.int .u64 (ba:Int),.int .u64 (ck:Int),.int .i64 (ar:Int)]:=by rw[hhead];rfl
 rw[hl,hR,hhc]
 unfold Jc3 at hR
 rw[hhead] at hR
 have hsec:=fun W τ=>Qs5 W τ tFill st ba ck ar hst4 hba4 hck4 har3
 rw[hl] at h
 clear hhc hcap hle hb8 har2
 obtain⟨HR,Hsec,HB,Hk2⟩:=hid4 hR hsec hB hk2
 clear hR hsec hB hk2
 obtain⟨H_G1,H_G2,H_G3,Hw0,HoB,HwB,HxB,Hx,Hq,Hb1,Hhead,Hst⟩:=hid12 G1 G2 G3 hw0 hoB hwB hxB hx hq hb1 hhead hst
 obtain⟨Hba,Hck,H_h⟩:=hid3 hba hck h
 clear G1 G2 G3 hw0 hoB hwB hxB hx hq hb1 hhead hst hba hck h
 have hw1':=Lib.hid hw1
 clear hw1 hG
 go_enter Tryz.func119,Tryz.ntmps119
 go_wp2_with fail
 rw[hw1'.out]
 have hS0:(∃T,Step w1 τ1 w1.drew T nil)∧w1.drew.cell? ⟨b,o+8,none⟩=some (.int .u8 (ar:Int)):=⟨⟨τ1,Hw0.out⟩,c1⟩
 clear c1
 refine Qaf (S:=fun W:World=>(∃T,Step w1 τ1 W T nil)∧W.cell? ⟨b,o+8,none⟩=some (.int .u8 (ar:Int))) (by kernel_rfl) ?_
 refine tk0 [0,1,3,4,6,7,9,10,11,12] ?_
 iterate 10
  refine tks (v:=?_) rfl (Or.inl ⟨by rfl,?_⟩) (by assumption) ?_
  rotate_left
  ·intro w hSw;(try dsimp only at hSw);go_simp
   all_goals with_reducible rfl
  try simp only[Act.put,lz1,lz2,lz3]
 refine tk9 ?_
 try simp only[lz4,lz5,lz6,lz1,lz2,lz3]
 refine tkc (i:=2) (v:=.int .u64 (st:Int)) rfl ⟨by rfl,fun W hW=>⟨_,_,by simp[go_sem],H_G1.out W _ hW.1.choose_spec⟩⟩ hS0 ?_
 try simp only[Act.put]
 try simp only[lz4,lz5,lz6,lz1,lz2,lz3]
 refine tkc (i:=5) (v:=.int .u64 (ba:Int)) rfl ⟨by rfl,fun W hW=>⟨_,_,by simp[go_sem],H_G2.out W _ hW.1.choose_spec⟩⟩ hS0 ?_
 try simp only[Act.put]
 try simp only[lz4,lz5,lz6,lz1,lz2,lz3]
 refine tkc (i:=8) (v:=.int .u64 (ck:Int)) rfl ⟨by rfl,fun W hW=>⟨_,_,by simp[go_sem],H_G3.out W _ hW.1.choose_spec⟩⟩ hS0 ?_
 try simp only[Act.put]
 try simp only[lz4,lz5,lz6,lz1,lz2,lz3]
 refine tk (i:=13) (v:=?_) rfl (Or.inl ⟨by rfl,?_⟩) (by assumption) ?_
 rotate_left
 ·intro w hSw;(try dsimp only at hSw);go_simp
  all_goals with_reducible rfl
 try simp only[Act.put,lz1,lz2,lz3]
 try simp only[lz4,lz5,lz6,lz1,lz2,lz3]
 refine tk1 14 rfl fun K hK=>?_
 go_simp
 have hS1:(∃T,Step w1 τ1 (w1.drew.alloc (.cells #[.int .u64 0,.int .u64 0,.int .u64 0,.int .i64 0] 116)) T nil)∧(w1.drew.alloc (.cells #[.int .u64 0,.int .u64 0,.int .u64 0,.int .i64 0] 116)).cell? ⟨b,o+8,none⟩=some (.int .u8 (ar:Int)):=⟨⟨_,HwB.out⟩,cB⟩
 refine hK.out _ _ (fun _=>hS1) ?_
 clear hK K
 have hwr:IntKind.i64.wrap (ar:Int)=(ar:Int):=IntWalk.i64_in _ (by omega)
 have n0:=HoB.out.at 0 (v:=.int .u64 0) rfl
 have n1:=HoB.out.at 1 (v:=.int .u64 0) rfl
 have n2:=HoB.out.at 2 (v:=.int .u64 0) rfl
 have n3:=HoB.out.at 3 (v:=.int .i64 0) rfl
 have z0:=HoB.out.fz 0
 have z1:=HoB.out.fz 1
 have z2:=HoB.out.fz 2
 have z3:=HoB.out.fz 3
 refine tk1 15 rfl fun K hK=>?_
 go_simp
 refine hK.out _ _ (fun h=>absurd h (by decide +kernel)) ?_
 clear hK K
 refine Qad (by kernel_rfl) ?_ _
 have hlx:=Hx.out.lt
 have hoC:=Own.born w1 τ1 tOne 116 #[.int .u64 (st:Int),.int .u64 (ba:Int),.int .u64 (ck:Int),.int .i64 (ar:Int)]
 have hwC:=(Step.refl w1 τ1 nil).alloc (.cells #[.int .u64 (st:Int),.int .u64 (ba:Int),.int .u64 (ck:Int),.int .i64 (ar:Int)] 116) tOne
 have hxC:=Hx.out.step_new (.cells #[.int .u64 (st:Int),.int .u64 (ba:Int),.int .u64 (ck:Int),.int .i64 (ar:Int)] 116) tOne
 obtain⟨w2,hw2⟩:∃w2,w1.alloc (.cells #[.int .u64 (st:Int),.int .u64 (ba:Int),.int .u64 (ck:Int),.int .i64 (ar:Int)] 116)=w2:=⟨_,rfl⟩
 rw[hw2] at hoC hwC hxC
 have hwd:w1.drew.heap.size=w1.heap.size:=rfl
 try rw[hwd]
 rw[hw2]
 clear n0 n1 n2 n3 z0 z1 z2 z3 cB hS0 hS1 hw2 hwd HoB HwB HxB Hw0 H_G1 H_G2 H_G3 Hx
 generalize τ1.put w1.heap.size tOne=τ2 at *
 generalize w1.heap.size=bh at *
 have hn:bx≠bh:=by omega
 have hsx:=hwC.drew
 have hoD:=hoC.drew
 have hxD:=hxC.drew
 obtain⟨HoC,HxC,HwC⟩:=hid3 hoC hxC hwC
 have Hw1':=Lib.hid hw1'
 clear hoC hxC hwC hw1'
 generalize w2.drew=w3 at *
 have d0:=hoD.at 0 (v:=.int .u64 (st:Int)) rfl
 have d1:=hoD.at 1 (v:=.int .u64 (ba:Int)) rfl
 have d2:=hoD.at 2 (v:=.int .u64 (ck:Int)) rfl
 have d3:=hoD.at 3 (v:=.int .i64 (ar:Int)) rfl
 have x0:=hxD.at 0 (v:=.int .u64 0) rfl
 have x1:=hxD.at 1 (v:=.int .u64 0) rfl
 have x2:=hxD.at 2 (v:=.int .u64 0) rfl
 have x3:=hxD.at 3 (v:=.int .i64 0) rfl
 have z0:=hxD.fz 0
 have z1:=hxD.fz 1
 have z2:=hxD.fz 2
 have z3:=hxD.fz 3
 obtain⟨Hsx,HoD,HxD⟩:=hid3 hsx hoD hxD
 clear hsx hoD hxD
 by_cases hs0:st=0
 ·skip
  have hRe:R=false:=by rw[←HR.out];simp;omega
  have hz:(st:Int)=0:=by omega
  rw[hz] at d0 ⊢
  have hoZ:=HoD.out
  rw[hz] at hoZ
  obtain⟨HoZ,Hz,Hs0⟩:=hid3 hoZ hz hs0
  clear hoZ hz hs0
  go_wp2_with fail
  refine Qaf (S:=fun w':World=>w'.cell? ⟨bh,0,none⟩=some (.int .u64 0)∧w'.cell? ⟨bh,1,none⟩=some (.int .u64 (ba:Int))∧w'.cell? ⟨bh,2,none⟩=some (.int .u64 (ck:Int))∧w'.cell? ⟨bh,3,none⟩=some (.int .i64 (ar:Int))) (by kernel_rfl) ?_
  have hSS:w3.drew.cell? ⟨bh,0,none⟩=some (.int .u64 0)∧w3.drew.cell? ⟨bh,1,none⟩=some (.int .u64 (ba:Int))∧w3.drew.cell? ⟨bh,2,none⟩=some (.int .u64 (ck:Int))∧w3.drew.cell? ⟨bh,3,none⟩=some (.int .i64 (ar:Int)):=⟨HoZ.out.drew.at 0 rfl,HoZ.out.drew.at 1 rfl,HoZ.out.drew.at 2 rfl,HoZ.out.drew.at 3 rfl⟩
  have x0:=HxD.out.drew.at 0 (v:=.int .u64 0) rfl
  have z0:=HxD.out.drew.fz 0
  have x1:=HxD.out.drew.at 1 (v:=.int .u64 0) rfl
  have z1:=HxD.out.drew.fz 1
  have x2:=HxD.out.drew.at 2 (v:=.int .u64 0) rfl
  have z2:=HxD.out.drew.fz 2
  have x3:=HxD.out.drew.at 3 (v:=.int .i64 0) rfl
  have z3:=HxD.out.drew.fz 3
  have y0:=(HxD.out.set 0 (.int .u64 0)).at 0 (v:=.int .u64 0) rfl
  have y1:=((HxD.out.set 0 (.int .u64 0)).set 1 (.int .u64 (ba:Int))).at 1 (v:=.int .u64 (ba:Int)) rfl
  have y2:=(((HxD.out.set 0 (.int .u64 0)).set 1 (.int .u64 (ba:Int))).set 2 (.int .u64 (ck:Int))).at 2 (v:=.int .u64 (ck:Int)) rfl
  have y3:=((((HxD.out.set 0 (.int .u64 0)).set 1 (.int .u64 (ba:Int))).set 2 (.int .u64 (ck:Int))).set 3 (.int .i64 (ar:Int))).at 3 (v:=.int .i64 (ar:Int)) rfl
  have hoE:=((((HoZ.out.drew.set_ne (p:=⟨bx,0,none⟩) (by show bh≠bx;omega) (.int .u64 0)).set_ne (p:=⟨bx,1,none⟩) (by show bh≠bx;omega) (.int .u64 (ba:Int))).set_ne (p:=⟨bx,2,none⟩) (by show bh≠bx;omega) (.int .u64 (ck:Int))).set_ne (p:=⟨bx,3,none⟩) (by show bh≠bx;omega) (.int .i64 (ar:Int)))
  have hSE:Nat→((((w3.drew.setCell ⟨bx,0,none⟩ (.int .u64 0)).setCell ⟨bx,1,none⟩ (.int .u64 (ba:Int))).setCell ⟨bx,2,none⟩ (.int .u64 (ck:Int))).setCell ⟨bx,3,none⟩ (.int .i64 (ar:Int))).cell? ⟨bh,0,none⟩=some (.int .u64 0)∧((((w3.drew.setCell ⟨bx,0,none⟩ (.int .u64 0)).setCell ⟨bx,1,none⟩ (.int .u64 (ba:Int))).setCell ⟨bx,2,none⟩ (.int .u64 (ck:Int))).setCell ⟨bx,3,none⟩ (.int .i64 (ar:Int))).cell? ⟨bh,1,none⟩=some (.int .u64 (ba:Int))∧((((w3.drew.setCell ⟨bx,0,none⟩ (.int .u64 0)).setCell ⟨bx,1,none⟩ (.int .u64 (ba:Int))).setCell ⟨bx,2,none⟩ (.int .u64 (ck:Int))).setCell ⟨bx,3,none⟩ (.int .i64 (ar:Int))).cell? ⟨bh,2,none⟩=some (.int .u64 (ck:Int))∧((((w3.drew.setCell ⟨bx,0,none⟩ (.int .u64 0)).setCell ⟨bx,1,none⟩ (.int .u64 (ba:Int))).setCell ⟨bx,2,none⟩ (.int .u64 (ck:Int))).setCell ⟨bx,3,none⟩ (.int .i64 (ar:Int))).cell? ⟨bh,3,none⟩=some (.int .i64 (ar:Int)):=fun _=>⟨hoE.at 0 rfl,hoE.at 1 rfl,hoE.at 2 rfl,hoE.at 3 rfl⟩
  obtain⟨H_y0,H_y1,H_y2,H_y3,HSE,HoE⟩:=hid6 y0 y1 y2 y3 hSE hoE
  clear y0 y1 y2 y3 hSE hoE
  refine tk0 [0,1,2,3,4] ?_
  iterate 5
   refine tks (v:=?_) rfl (Or.inl ⟨by rfl,?_⟩) (by assumption) ?_
   rotate_left
   ·intro w hSw;(try dsimp only at hSw);go_simp
    all_goals with_reducible rfl
   try simp only[Act.put,lz1,lz2,lz3]
  refine tk9 ?_
  try simp only[lz4,lz5,lz6,lz1,lz2,lz3]
  refine tk0 [5,6,7,8] ?_
  iterate 4
   refine tks (v:=undef) rfl (Or.inr ⟨by rfl,rfl⟩) (by assumption) ?_
   try simp only[Act.put,lz1,lz2,lz3]
  refine tk9 ?_
  try simp only[lz4,lz5,lz6,lz1,lz2,lz3]
  refine tk0 [9,10] ?_
  iterate 2
   refine tks (v:=?_) rfl (Or.inl ⟨by rfl,?_⟩) (by assumption) ?_
   rotate_left
   ·intro w hSw;(try dsimp only at hSw);go_simp
    all_goals with_reducible rfl
   try simp only[Act.put,lz1,lz2,lz3]
  refine tk9 ?_
  try simp only[lz4,lz5,lz6,lz1,lz2,lz3]
  refine tk0 [11,12,13] ?_
  iterate 3
   refine tks (v:=undef) rfl (Or.inr ⟨by rfl,rfl⟩) (by assumption) ?_
   try simp only[Act.put,lz1,lz2,lz3]
  refine tk9 ?_
  try simp only[lz4,lz5,lz6,lz1,lz2,lz3]
  refine tk0 [14,15] ?_
  iterate 2
   refine tks (v:=?_) rfl (Or.inl ⟨by rfl,?_⟩) (by assumption) ?_
   rotate_left
   ·intro w hSw;(try dsimp only at hSw);go_simp
    all_goals with_reducible rfl
   try simp only[Act.put,lz1,lz2,lz3]
  refine tk9 ?_
  try simp only[lz4,lz5,lz6,lz1,lz2,lz3]
  refine tk0 [16,17,18,19] ?_
  iterate 4
   refine tks (v:=undef) rfl (Or.inr ⟨by rfl,rfl⟩) (by assumption) ?_
   try simp only[Act.put,lz1,lz2,lz3]
  refine tk9 ?_
  try simp only[lz4,lz5,lz6,lz1,lz2,lz3]
  refine tk (i:=20) (v:=?_) rfl (Or.inl ⟨by rfl,?_⟩) (by assumption) ?_
  rotate_left
  ·intro w hSw;(try dsimp only at hSw);go_simp
   all_goals with_reducible rfl
  try simp only[Act.put,lz1,lz2,lz3]
  try simp only[lz4,lz5,lz6,lz1,lz2,lz3]
  refine tk1 21 rfl fun K hK=>?_
  go_simp
  refine hK.out _ _ (fun _=>HSE.out 0) ?_
  clear hK K
  refine tk1 22 rfl fun K hK=>?_
  go_simp
  refine hK.out _ _ (fun h=>absurd h (by decide +kernel)) ?_
  clear hK K
  refine Qad (by kernel_rfl) ?_ _
  go_wp2_with fail
  try simp only[Exit.inBlock,Exit.then]
  refine bodyPost_ret (by simp[results,Tryz.results119,go_sem,H_y0.out,H_y1.out,H_y2.out,H_y3.out];try rfl) rfl ?_
  exact⟨by rw[hRe,Hz.out],_,(((((Hq.out.trans Hsx.out.drew).setNew (b:=bx) (o:=0) (by omega) _).setNew (b:=bx) (o:=1) (by omega) _).setNew (b:=bx) (o:=2) (by omega) _).setNew (b:=bx) (o:=3) (by omega) _)⟩
 ·skip
  have e0:¬(st:Int)=0:=by omega
  have hne:((st:Int) != 0)=true:=by simp;omega
  obtain⟨hb0,hb00,ha0,hleq⟩:=Hk2.out.resolve_left hs0
  have hbw:IntKind.u64.wrap ((ba:Int)-1)=(ba:Int)-1:=by
   simp[IntKind.wrap,IntKind.bits,IntKind.signed];omega
  have hb1:(ba:Int)-1<9223372036854775808:=by omega
  have ha:(ar:Int)<2:=by omega
  have hRe:R=true:=by rw[←HR.out];simp;exact⟨⟨⟨hs0,hb0,hb00⟩,ha0⟩,hleq⟩
  have hse:=Hsec.out w3.drew τ2
  have hbd:=(Hb1.out.step (Hsx.out.drew) (fun h=>h)).bytes
  obtain⟨HRe,Hs0,Hleq,Hse,Hbd⟩:=hid5 hRe hs0 hleq hse hbd
  clear hRe hs0 hleq hse hbd hb0 hb00 ha0
  go_wp2_with fail
  refine Qaf (S:=fun w':World=>w'.cell? ⟨bh,0,none⟩=some (.int .u64 (st:Int))∧w'.cell? ⟨bh,1,none⟩=some (.int .u64 (ba:Int))∧w'.cell? ⟨bh,2,none⟩=some (.int .u64 (ck:Int))∧w'.cell? ⟨bh,3,none⟩=some (.int .i64 (ar:Int))) (by kernel_rfl) ?_
  have hSS:w3.drew.cell? ⟨bh,0,none⟩=some (.int .u64 (st:Int))∧w3.drew.cell? ⟨bh,1,none⟩=some (.int .u64 (ba:Int))∧w3.drew.cell? ⟨bh,2,none⟩=some (.int .u64 (ck:Int))∧w3.drew.cell? ⟨bh,3,none⟩=some (.int .i64 (ar:Int)):=⟨HoD.out.drew.at 0 rfl,HoD.out.drew.at 1 rfl,HoD.out.drew.at 2 rfl,HoD.out.drew.at 3 rfl⟩
  refine tk0 [0,1,2,3,4] ?_
  iterate 5
   refine tks (v:=?_) rfl (Or.inl ⟨by rfl,?_⟩) (by assumption) ?_
   rotate_left
   ·intro w hSw;(try dsimp only at hSw);go_simp
    all_goals with_reducible rfl
   try simp only[Act.put,lz1,lz2,lz3]
  refine tk9 ?_
  try simp only[lz4,lz5,lz6,lz1,lz2,lz3]
  try simp only[hne]
  refine tk0 [5,6,7,8,9,10] ?_
  iterate 6
   refine tks (v:=?_) rfl (Or.inl ⟨by rfl,?_⟩) (by assumption) ?_
   rotate_left
   ·intro w hSw;(try dsimp only at hSw);go_simp
    all_goals with_reducible rfl
   try simp only[Act.put,lz1,lz2,lz3]
  refine tk9 ?_
  try simp only[lz4,lz5,lz6,lz1,lz2,lz3]
  try simp only[hne]
  refine tk0 [11,12,13,14,15] ?_
  iterate 5
   refine tks (v:=?_) rfl (Or.inl ⟨by rfl,?_⟩) (by assumption) ?_
   rotate_left
   ·intro w hSw;(try dsimp only at hSw);go_simp
    all_goals with_reducible rfl
   try simp only[Act.put,lz1,lz2,lz3]
  refine tk9 ?_
  try simp only[lz4,lz5,lz6,lz1,lz2,lz3]
  refine tk0 [16,17] ?_
  iterate 2
   refine tks (v:=?_) rfl (Or.inl ⟨by rfl,?_⟩) (by assumption) ?_
   rotate_left
   ·intro w hSw;(try dsimp only at hSw);go_simp
    all_goals with_reducible rfl
   try simp only[Act.put,lz1,lz2,lz3]
  refine tk9 ?_
  try simp only[lz4,lz5,lz6,lz1,lz2,lz3]
  refine tk1 18 rfl fun K hK=>?_
  go_simp
  go_at_call 193
  refine Hse.out.mono ?_
  rintro e w4 ⟨u,τ4,rfl,hu,hs4⟩
  have hx4:=HxD.out.drew.step hs4 (fun h=>h)
  have ho4:=HoD.out.drew.step hs4 (fun h=>h)
  have hS4:w4.cell? ⟨bh,0,none⟩=some (.int .u64 (st:Int))∧w4.cell? ⟨bh,1,none⟩=some (.int .u64 (ba:Int))∧w4.cell? ⟨bh,2,none⟩=some (.int .u64 (ck:Int))∧w4.cell? ⟨bh,3,none⟩=some (.int .i64 (ar:Int)):=⟨ho4.at 0 rfl,ho4.at 1 rfl,ho4.at 2 rfl,ho4.at 3 rfl⟩
  have x0:=hx4.at 0 (v:=.int .u64 0) rfl
  have z0:=hx4.fz 0
  have x1:=hx4.at 1 (v:=.int .u64 0) rfl
  have z1:=hx4.fz 1
  have x2:=hx4.at 2 (v:=.int .u64 0) rfl
  have z2:=hx4.fz 2
  have x3:=hx4.at 3 (v:=.int .i64 0) rfl
  have z3:=hx4.fz 3
  have y0:=(hx4.set 0 (.int .u64 (st:Int))).at 0 (v:=.int .u64 (st:Int)) rfl
  have y1:=((hx4.set 0 (.int .u64 (st:Int))).set 1 (.int .u64 (ba:Int))).at 1 (v:=.int .u64 (ba:Int)) rfl
  have y2:=(((hx4.set 0 (.int .u64 (st:Int))).set 1 (.int .u64 (ba:Int))).set 2 (.int .u64 (ck:Int))).at 2 (v:=.int .u64 (ck:Int)) rfl
  have y3:=((((hx4.set 0 (.int .u64 (st:Int))).set 1 (.int .u64 (ba:Int))).set 2 (.int .u64 (ck:Int))).set 3 (.int .i64 (ar:Int))).at 3 (v:=.int .i64 (ar:Int)) rfl
  have hoE:=((((ho4.set_ne (p:=⟨bx,0,none⟩) (by show bh≠bx;omega) (.int .u64 (st:Int))).set_ne (p:=⟨bx,1,none⟩) (by show bh≠bx;omega) (.int .u64 (ba:Int))).set_ne (p:=⟨bx,2,none⟩) (by show bh≠bx;omega) (.int .u64 (ck:Int))).set_ne (p:=⟨bx,3,none⟩) (by show bh≠bx;omega) (.int .i64 (ar:Int)))
  have hSE:Nat→((((w4.setCell ⟨bx,0,none⟩ (.int .u64 (st:Int))).setCell ⟨bx,1,none⟩ (.int .u64 (ba:Int))).setCell ⟨bx,2,none⟩ (.int .u64 (ck:Int))).setCell ⟨bx,3,none⟩ (.int .i64 (ar:Int))).cell? ⟨bh,0,none⟩=some (.int .u64 (st:Int))∧((((w4.setCell ⟨bx,0,none⟩ (.int .u64 (st:Int))).setCell ⟨bx,1,none⟩ (.int .u64 (ba:Int))).setCell ⟨bx,2,none⟩ (.int .u64 (ck:Int))).setCell ⟨bx,3,none⟩ (.int .i64 (ar:Int))).cell? ⟨bh,1,none⟩=some (.int .u64 (ba:Int))∧((((w4.setCell ⟨bx,0,none⟩ (.int .u64 (st:Int))).setCell ⟨bx,1,none⟩ (.int .u64 (ba:Int))).setCell ⟨bx,2,none⟩ (.int .u64 (ck:Int))).setCell ⟨bx,3,none⟩ (.int .i64 (ar:Int))).cell? ⟨bh,2,none⟩=some (.int .u64 (ck:Int))∧((((w4.setCell ⟨bx,0,none⟩ (.int .u64 (st:Int))).setCell ⟨bx,1,none⟩ (.int .u64 (ba:Int))).setCell ⟨bx,2,none⟩ (.int .u64 (ck:Int))).setCell ⟨bx,3,none⟩ (.int .i64 (ar:Int))).cell? ⟨bh,3,none⟩=some (.int .i64 (ar:Int)):=fun _=>⟨hoE.at 0 rfl,hoE.at 1 rfl,hoE.at 2 rfl,hoE.at 3 rfl⟩
  obtain⟨H_y0,H_y1,H_y2,H_y3,HSE,HoE⟩:=hid6 y0 y1 y2 y3 hSE hoE
  clear y0 y1 y2 y3 hSE hoE
  obtain⟨pu,cu,rfl,-,-⟩:=hu.any
  have hbq:=Hbd.out.step hs4 (fun h=>h)
  have heq:=Qh7 hbq hu
  rw[decide_eq_true Hleq.out,Qgm,hl] at heq
  rw[Qgm]
  have Heq:=Lib.hid heq
  clear heq
  have hq4:=(Hq.out.trans Hsx.out.drew).trans hs4
  have Hq4:=Lib.hid hq4
  clear hq4 hu hs4 hbq
  refine hK.out _ _ (fun _=>hS4) ?_
  clear hK K
  refine tk1 19 rfl fun K hK=>?_
  go_simp
  go_at_call 124
  refine Heq.out.mono ?_
  rintro e w5 ⟨rfl,rfl⟩
  refine hK.out _ _ (fun _=>hS4) ?_
  clear hK K
  refine tk (i:=20) (v:=?_) rfl (Or.inl ⟨by rfl,?_⟩) (by assumption) ?_
  rotate_left
  ·intro w hSw;(try dsimp only at hSw);go_simp
   all_goals with_reducible rfl
  try simp only[Act.put,lz1,lz2,lz3]
  try simp only[lz4,lz5,lz6,lz1,lz2,lz3]
  refine tk1 21 rfl fun K hK=>?_
  go_simp
  refine hK.out _ _ (fun _=>HSE.out 0) ?_
  clear hK K
  refine tk1 22 rfl fun K hK=>?_
  go_simp
  refine hK.out _ _ (fun h=>absurd h (by decide +kernel)) ?_
  clear hK K
  refine Qad (by kernel_rfl) ?_ _
  go_wp2_with fail
  try simp only[Exit.inBlock,Exit.then]
  refine bodyPost_ret (by simp[results,Tryz.results119,go_sem,H_y0.out,H_y1.out,H_y2.out,H_y3.out];try rfl) rfl ?_
  exact⟨by rw[HRe.out],_,((((Hq4.out.setNew (b:=bx) (o:=0) (by omega) _).setNew (b:=bx) (o:=1) (by omega) _).setNew (b:=bx) (o:=2) (by omega) _).setNew (b:=bx) (o:=3) (by omega) _)⟩
end Go.Proofs.YtemacanaihaldaaGreat
namespace Go.Proofs.YtemacanaihaldaaGreat
open Go.RowKit
def findTo (D:Dev):Nat→HeadM×Nat
 | 0=>(⟨0,0,0,0⟩,0)
 | i+1=>if Jc3 (D.last 0 i)=true∧(findTo D i).1.stamp<(Jct (D.last 0 i)).stamp then (Jct (D.last 0 i),i) else findTo D i
def LogM.withHead (L:LogM) (c:HeadM×Nat):LogM:={L with stamp:=c.1.stamp,base:=c.1.base,check:=c.1.check,area:=c.1.area,slot:=c.2}
theorem Jeh {l:List Int}(h:Jc3 l=true) (hB:IsB l):0<(Jct l).stamp∧(Jct l).stamp<2 ^ 64∧(Jct l).base≤9223372036854775808∧0<(Jct l).base∧(Jct l).check<2 ^ 64∧(Jct l).area<2:=by
 unfold Jc3 at h
 simp only[Bool.and_eq_true,decide_eq_true_eq] at h
 have h1:(Jct l).stamp<2 ^ 64:=Qle (fun x hx=>hB x (List.mem_of_mem_take hx)) 8
 have h2:(Jct l).check<2 ^ 64:=Qle (fun x hx=>hB x (List.mem_of_mem_drop (List.mem_of_mem_take hx))) 8
 exact⟨by have:=h.1.1.1;omega,h1,h.1.1.2.2,h.1.1.2.1,h2,h.1.2⟩
theorem Jgg {w:World}{τ:Tags}{bl bd n:Nat}{D:Dev}(hl:LogAt w τ bl bd (newLog n)) (hd:DevAt w τ bd D) (h2:2≤D.f0.length) (hk:∀i,i<2→(Jct (D.last 0 i)).stamp=0∨Jc3 (D.last 0 i)=true) :
 Calls Tryz.prog 52 #[.pointer (some ⟨bl,0,none⟩)] w fun e w'=>e = .returned (.bool (decide (0<(findTo D 2).1.stamp)))∧∃τ',LogAt w' τ' bl bd ((newLog n).withHead (findTo D 2))∧Step w τ w' τ' (fun g=>g=tLog):=by
 have hf0:D.file 0=D.f0:=rfl
 obtain⟨L,hL⟩:∃L,newLog n=L:=⟨_,rfl⟩
 have hL0:L.withHead (findTo D 0)=L:=by rw[←hL];rfl
 rw[hL] at hl ⊢
 obtain⟨Hl,Hd,Hk,HL0,HL⟩:=hid5 hl hd hk hL0 hL
 clear hl hd hk hL0 hL
 go_enter Tryz.func52,Tryz.ntmps52
 go_wp2_with fail
 go_loopw [8] (fun v wr=>∃(i:Nat) (τr:Tags),i≤2∧v = .int .i64 (i:Int)∧LogAt wr τr bl bd (L.withHead (findTo D i))∧DevAt wr τr bd D∧Step w τ wr τr (fun g=>g=tLog)) (fun v _=>2-(intOf v).toNat)
 case atStart=>exact⟨0,τ,Nat.zero_le _,rfl,by rw[HL0.out];exact Hl.out,Hd.out,Step.refl _ _ _⟩
 case round =>
  obtain⟨i,τr,hi,rfl,hlr,hdr,hst⟩:=hrel
  by_cases hlt:i<2
  ·have hrd:=Qnm hdr 0 (by omega) i (by rw[hf0];omega) tData
   have h128:=hdr.last128 0 i (by rw[hf0];omega)
   obtain⟨vs,vt,ho,hs1,hs2⟩:=hlr.is
   have c4:=ho.at 4 (v:=.pointer (some ⟨bd,0,none⟩)) rfl
   have hik:=Hk.out i hlt
   have hltI:(i:Int)<2:=by omega
   have hnext:findTo D (i+1)=if Jc3 (D.last 0 i)=true∧(findTo D i).1.stamp<(Jct (D.last 0 i)).stamp then (Jct (D.last 0 i),i) else findTo D i:=rfl
   generalize D.last 0 i=l at *
   generalize findTo D i=c at *
   obtain⟨Hlr,Hdr,Hst,Hrd,Hik,Ho,Hs1,Hs2,H128⟩:=hid9 hlr hdr hst hrd hik ho hs1 hs2 h128
   clear hlr hdr hst hrd hik ho hs1 hs2 h128
   go_wp2_with fail
   refine Hrd.out.mono ?_
   rintro e w1 ⟨u,τ1,rfl,hb,hq1⟩
   have hB:=hb.isB
   have hhd:=Jfo hb H128.out.1 Hik.out
   obtain⟨pu,cu,rfl,-,-⟩:=hb.any
   rw[H128.out.1] at hhd ⊢
   obtain⟨Hhd,Hq1,HB⟩:=hid3 hhd hq1 hB
   clear hhd hq1 hB hb
   go_wp2_with fail
   refine Hhd.out.mono ?_
   rintro e w2 ⟨rfl,τ2,hq2⟩
   have hcells:Jdl (Jct l)=#[.int .u64 ((Jct l).stamp:Int),.int .u64 ((Jct l).base:Int),.int .u64 ((Jct l).check:Int),.int .i64 ((Jct l).area:Int)]:=rfl
   rw[hcells]
   obtain⟨q,hq⟩:∃q,Jct l=q:=⟨_,rfl⟩
   obtain⟨r,hr⟩:∃r,Jc3 l=r:=⟨_,rfl⟩
   have hsp:=Jeh (l:=l) (hB:=HB.out)
   rw[hq,hr] at hsp
   rw[hq,hr] at hnext
   rw[hq,hr]
   have hal:=(Step.refl w2 τ2 nil).alloc (.cells #[.int .u64 (q.stamp:Int),.int .u64 (q.base:Int),.int .u64 (q.check:Int),.int .i64 (q.area:Int)] 116) tOne
   have hoh:=Own.born w2 τ2 tOne 116 #[.int .u64 (q.stamp:Int),.int .u64 (q.base:Int),.int .u64 (q.check:Int),.int .i64 (q.area:Int)]
   have hq3:=Hq1.out.trans (hq2.trans hal)
   generalize τ2.put w2.heap.size tOne=τ3 at *
   obtain⟨bh,hbh⟩:∃bh,w2.heap.size=bh:=⟨_,rfl⟩
   obtain⟨w3,hw3⟩:∃w3,w2.alloc (.cells #[.int .u64 (q.stamp:Int),.int .u64 (q.base:Int),.int .u64 (q.check:Int),.int .i64 (q.area:Int)] 116)=w3:=⟨_,rfl⟩
   rw[hbh,hw3] at hoh
   rw[hw3] at hq3
   have hl3:=Hlr.out.step hq3 (fun _ _ h=>h)
   have hd3:=Hdr.out.step hq3 (fun _ h=>h.elim)
   have ho3:=Ho.out.step hq3 (fun h=>h)
   have hs13:=Hs1.out.step hq3 (fun h=>h)
   have hs23:=Hs2.out.step hq3 (fun h=>h)
   have hst3:=Hst.out.trans (hq3.mono (fun _ h=>h.elim))
   have g0:=hoh.at 0 (v:=.int .u64 (q.stamp:Int)) rfl
   have g1:=hoh.at 1 (v:=.int .u64 (q.base:Int)) rfl
   have g2:=hoh.at 2 (v:=.int .u64 (q.check:Int)) rfl
   have g3:=hoh.at 3 (v:=.int .i64 (q.area:Int)) rfl
   have k0:=ho3.at 0 (v:=.int .u64 (c.1.stamp:Int)) rfl
   have k1:=ho3.at 1 (v:=.int .u64 (c.1.base:Int)) rfl
   have k2:=ho3.at 2 (v:=.int .u64 (c.1.check:Int)) rfl
   have k3:=ho3.at 3 (v:=.int .i64 (c.1.area:Int)) rfl
   have k6:=ho3.at 6 (v:=.int .i64 (c.2:Int)) rfl
   have f0:=ho3.fz 0
   have f1:=ho3.fz 1
   have f2:=ho3.fz 2
   have f3:=ho3.fz 3
   have f6:=ho3.fz 6
   have hok3:=hl3.ok
   have hB3:=hl3.isB
   have hw3':=Lib.hid hw3
   have hbh':=Lib.hid hbh
   obtain⟨Hl3,Hd3,Ho3,Hs13,Hs23,Hst3,Hnext,Hsp,Hok3,HB3⟩:=hid10 hl3 hd3 ho3 hs13 hs23 hst3 hnext hsp hok3 hB3
   clear hl3 hd3 ho3 hs13 hs23 hst3 hnext hsp hok3 hB3 hal hoh hq2 hq3 hw3 hbh hcells c4
   cases r with
   | false =>
     have hc':findTo D (i+1)=c:=by rw[Hnext.out,if_neg (fun h=>by cases h.1)]
     have Hc':=Lib.hid hc'
     clear hc'
     go_wp2_with fail
     rw[hw3'.out]
     go_quiet (fail)
     go_wp2_with fail
     go_round
     case rel=>exact⟨i+1,τ3,by omega,by simp,by rw[Hc'.out];exact Hl3.out.step ((Step.refl w3 τ3 nil).drews nq) (fun _ _ h=>h),Hd3.out.step ((Step.refl w3 τ3 nil).drews nq) (fun _ h=>h.elim),Hst3.out.trans (((Step.refl w3 τ3 nil).drews nq).mono (fun _ h=>h.elim))⟩
     case measure=>simp[intOf];omega
   | true =>
     by_cases hgt:c.1.stamp<q.stamp
     ·have hc':findTo D (i+1)=(q,i):=by rw[Hnext.out,if_pos ⟨rfl,hgt⟩]
      have hgtI:(c.1.stamp:Int)<(q.stamp:Int):=by omega
      have Hc':=Lib.hid hc'
      clear hc'
      go_wp2_with fail
      rw[hw3'.out,hbh'.out]
      go_quiet (fail)
      have hl4:=Hl3.out.step ((Step.refl w3 τ3 nil).drews nq) (fun _ _ h=>h)
      have hd4:=Hd3.out.step ((Step.refl w3 τ3 nil).drews nq) (fun _ h=>h.elim)
      have hst4:=Hst3.out.trans (((Step.refl w3 τ3 nil).drews nq).mono (T:=fun g=>g=tLog) (fun _ h=>h.elim))
      obtain⟨vs4,vt4,ho4,hs14,hs24⟩:=hl4.is
      have hoE:=((((ho4.set 0 (.int .u64 (q.stamp:Int))).set 1 (.int .u64 (q.base:Int))).set 2 (.int .u64 (q.check:Int))).set 3 (.int .i64 (q.area:Int))).set 6 (.int .i64 (i:Int))
      have hstE:=(((((Step.refl (w3.drewN nq) τ3 (fun g=>g=tLog)).set (b:=bl) (o:=0) ho4.tag rfl (.int .u64 (q.stamp:Int))).set (b:=bl) (o:=1) ho4.tag rfl (.int .u64 (q.base:Int))).set (b:=bl) (o:=2) ho4.tag rfl (.int .u64 (q.check:Int))).set (b:=bl) (o:=3) ho4.tag rfl (.int .i64 (q.area:Int))).set (b:=bl) (o:=6) ho4.tag rfl (.int .i64 (i:Int))
      have hsq:=Hsp.out (by first|trivial|rfl)
      have hk3:=Hok3.out
      have hlE:LogAt ((((((w3.drewN nq).setCell ⟨bl,0,none⟩ (.int .u64 (q.stamp:Int))).setCell ⟨bl,1,none⟩ (.int .u64 (q.base:Int))).setCell ⟨bl,2,none⟩ (.int .u64 (q.check:Int))).setCell ⟨bl,3,none⟩ (.int .i64 (q.area:Int))).setCell ⟨bl,6,none⟩ (.int .i64 (i:Int))) τ3 bl bd (L.withHead (q,i)) :=
       ⟨⟨vs4,vt4,hoE,hs14.step hstE (by simp[Qah,tLog]),hs24.step hstE (by simp[Qag,tLog])⟩,HB3.out,⟨hsq.2.1,by show q.base≤_;omega,hsq.2.2.2.2.1,hsq.2.2.2.2.2,hk3.strips,hlt,hk3.stream,hk3.starts,hk3.lasts⟩⟩
      have hdE:=hd4.step hstE (fun g hg=>by subst hg;exact⟨Qau _ (.inl rfl),by simp[tLog,tData]⟩)
      have hstF:=hst4.trans hstE
      obtain⟨HlE,HdE,HstF⟩:=hid3 hlE hdE hstF
      clear hlE hdE hstF ho4 hs14 hs24 hoE hstE hsq hk3 hl4 hd4 hst4
      go_wp2_with fail
      go_round
      case rel=>exact⟨i+1,τ3,by omega,by simp,by rw[Hc'.out];exact HlE.out,HdE.out,HstF.out⟩
      case measure=>simp[intOf];omega
     ·have hc':findTo D (i+1)=c:=by rw[Hnext.out,if_neg (fun h=>hgt h.2)]
      have hgtI:¬(c.1.stamp:Int)<(q.stamp:Int):=by omega
      have Hc':=Lib.hid hc'
      clear hc'
      go_wp2_with fail
      rw[hw3'.out,hbh'.out]
      go_quiet (fail)
      go_wp2_with fail
      go_round
      case rel=>exact⟨i+1,τ3,by omega,by simp,by rw[Hc'.out];exact Hl3.out.step ((Step.refl w3 τ3 nil).drews nq) (fun _ _ h=>h),Hd3.out.step ((Step.refl w3 τ3 nil).drews nq) (fun _ h=>h.elim),Hst3.out.trans (((Step.refl w3 τ3 nil).drews nq).mono (fun _ h=>h.elim))⟩
      case measure=>simp[intOf];omega
  ·have hin:i=2:=by omega
   subst hin
   obtain⟨c,hcc⟩:∃c,findTo D 2=c:=⟨_,rfl⟩
   rw[hcc] at hlr
   obtain⟨vs,vt,ho,hs1,hs2⟩:=hlr.is
   have c0:=ho.at 0 (v:=.int .u64 (c.1.stamp:Int)) rfl
   obtain⟨Hlr,Hst,Hcc⟩:=hid3 hlr hst hcc
   clear hlr hst hcc ho hs1 hs2 hdr
   go_wp2_with fail
   go_ret
   exact⟨by rw[Hcc.out];simp,τr,by rw[Hcc.out];exact Hlr.out,Hst.out⟩
end Go.Proofs.YtemacanaihaldaaGreat