/-
 Pools: bring a page that was never written into an empty frame.
-/
import Derived.Test.YtjgacceifcnedaaGreatMPoolD
import Derived.Maps.Own
import Derived.Test.YtjgacceifcnedaaGreatMInts
import Derived.Test.YtjgacceifcnedaaGreatMGrow
set_option maxRecDepth 100000
set_option linter.all false
namespace Go.Proofs.YtjgacceifcnedaaGreat
open Go.RowKit
theorem Qbo {g:Tag}(h:LogTag g):¬PoolTag g:=by
 rcases h with rfl|rfl|rfl <;> simp[PoolTag,tPool,tFr,tWhere,tClk,tPg,tLog,Qah,Qag]
theorem Qbg {g:Tag}(h:PoolTag g):¬DevTag g∧g≠tData:=by
 rcases h with rfl|rfl|rfl|rfl|⟨i,rfl⟩ <;> simp[DevTag,tPool,tFr,tWhere,tClk,tPg,tData]
theorem PoolAt.clk_n {s:Ck.Clk.St}(i:Int):(Ck.Clk.touchS s i).n=s.n∧(Ck.Clk.pinS s i).n=s.n∧(Ck.Clk.unpinS s i).n=s.n∧(Ck.Clk.takeS s i).n=s.n:=by
 refine⟨?_,?_,?_,?_⟩
 ·unfold Ck.Clk.touchS;split <;> rfl
 ·unfold Ck.Clk.pinS;split <;> rfl
 ·unfold Ck.Clk.unpinS;split <;> rfl
 ·unfold Ck.Clk.takeS;split <;> rfl
theorem Qqb (s:Ck.Clk.St) (i:Int):(Ck.Clk.touchS s i).p=s.p:=by unfold Ck.Clk.touchS;split <;> rfl
theorem Qzy {w:World}{τ:Tags}{bp bf:Nat}{H:PoolH}{F:List Fr}{s:Ck.Clk.St}(h:PoolAt w τ bp bf H F s) (n:Nat) (hn:n<H.n) {i:Nat}(hw:Qaq F n=some i) {f:Fr}(hf:F[i]?=some f) (hs:∀k,s.p k≤1000000) :
 Calls Tryz.prog 30 #[.pointer (some ⟨bp,0,none⟩),.int .u32 (n:Int)] w fun e w'=>e = .returned (.tuple #[.pointer (f.pg.map (fun x=>(⟨x.1,0,none⟩:Addr))),.int .u16 0])∧PoolAt w' τ bp bf H F (Ck.Clk.pinS (Ck.Clk.touchS s i) i)∧Step w τ w' τ (fun t=>t=tClk):=by
 have h512:=h.n1
 have hk:=h.k1
 have hil:i<F.length:=(List.getElem?_eq_some_iff.1 hf).1
 have d1:=h.hd.at 1 (v:=.int .i64 (H.n:Int)) rfl
 have d3:=h.hd.at 3 (v:=.map (some H.bm)) rfl
 have d4:=h.hd.at 4 (v:=.pointer (some ⟨H.bc,0,none⟩)) rfl
 have hwr:=Qb1 H.n (by omega)
 have hlk:=h.mp.look n (by omega)
 rw[hw] at hlk
 simp only[Option.getD_some,Option.isSome_some] at hlk
 have h1:=Qgo h.ck (i:Int)
 obtain⟨H_h,H1,Hf⟩:=hid3 h h1 hf
 clear h h1 hf
 go_enter Tryz.func30,Tryz.ntmps30
 go_wp2_with fail
 refine H1.out.mono ?_
 rintro e w1 ⟨rfl,hc1,hs1⟩
 have hp1:=H_h.out.clk hc1 hs1 (PoolAt.clk_n _).1
 have e4:=hp1.hd.at 4 (v:=.pointer (some ⟨H.bc,0,none⟩)) rfl
 have h2:=Qis hp1.ck (i:Int) (by rw[Qqb];exact hs)
 obtain⟨Hp1,Hs1,H2⟩:=hid3 hp1 hs1 h2
 clear hp1 hs1 h2 hc1
 go_wp2_with fail
 refine H2.out.mono ?_
 rintro e w2 ⟨rfl,hc2,hs2⟩
 have hp2:=Hp1.out.clk hc2 hs2 (PoolAt.clk_n _).2.1
 have e2:=hp2.hd.at 2 (v:=H.vf) rfl
 rw[hp2.vf] at e2
 obtain⟨c0,c1,c2⟩:=hp2.cells Hf.out
 generalize hl:F.length=k at *
 obtain⟨Hp2,Hs2⟩:=hid2 hp2 hs2
 clear hp2 hs2 hc2
 go_wp2_with fail
 go_ret2
 exact⟨rfl,Hp2.out,Hs1.out.trans Hs2.out⟩
theorem Qxd {w:World}{τ:Tags}{bp bf:Nat}{H:PoolH}{F:List Fr}{s:Ck.Clk.St}(h:PoolAt w τ bp bf H F s) (n:Nat) (hn:n<4294967296) {i:Nat}(hw:Qaq F n=some i) (hi:i<F.length) (hs:∀k,s.p k≤1000000) :
 Calls Tryz.prog 32 #[.pointer (some ⟨bp,0,none⟩),.int .u32 (n:Int),.int .u64 0] w fun e w'=>e = .returned (.bool (decide (Ck.Clk.pinsV s i≠0) && Ck.Clk.unpinB s i))∧PoolAt w' τ bp bf H F (if Ck.Clk.pinsV s i=0 then s else Ck.Clk.unpinS s i)∧Step w τ w' τ (fun t=>t=tClk):=by
 have hk:=h.k1
 have d2:=h.hd.at 2 (v:=H.vf) rfl
 rw[h.vf] at d2
 have d3:=h.hd.at 3 (v:=.map (some H.bm)) rfl
 have d4:=h.hd.at 4 (v:=.pointer (some ⟨H.bc,0,none⟩)) rfl
 have hlk:=h.mp.look n hn
 rw[hw] at hlk
 simp only[Option.getD_some,Option.isSome_some] at hlk
 have h1:=Qlw h.ck (i:Int)
 have h2:=Qjg h.ck (i:Int) hs
 generalize hq:Ck.Clk.pinsV s (i:Int)=q at *
 generalize F.length=k at *
 obtain⟨H_h,H1,H2⟩:=hid3 h h1 h2
 clear h h1 h2
 by_cases h0:q=0
 ·subst h0
  go_enter Tryz.func32,Tryz.ntmps32
  go_wp2_with fail
  refine H1.out.mono ?_
  rintro e w' ⟨rfl,rfl⟩
  go_wp2_with fail
  go_ret
  exact⟨by simp,H_h.out,Step.refl _ _ _⟩
 ·have hq0:¬(q:Int)=0:=by omega
  go_enter Tryz.func32,Tryz.ntmps32
  go_wp2_with fail
  refine H1.out.mono ?_
  rintro e w' ⟨rfl,rfl⟩
  go_wp2_with fail
  refine H2.out.mono ?_
  rintro e w2 ⟨rfl,hc2,hs2⟩
  have hp2:=H_h.out.clk hc2 hs2 (PoolAt.clk_n _).2.2.1
  obtain⟨Hp2,Hs2⟩:=hid2 hp2 hs2
  clear hp2 hs2 hc2
  go_wp2_with fail
  go_ret
  exact⟨by simp[],Hp2.out,Hs2.out⟩
theorem Qk2 {w:World}{τ:Tags}{bp bf:Nat}{H:PoolH}{F:List Fr}{s:Ck.Clk.St}(h:PoolAt w τ bp bf H F s) :
 Calls Tryz.prog 38 #[.pointer (some ⟨bp,0,none⟩)] w fun e w'=>e = .returned (.int .i64 (H.n:Int))∧w=w':=by
 have d1:=h.hd.at 1 (v:=.int .i64 (H.n:Int)) rfl
 clear h
 go_enter Tryz.func38,Tryz.ntmps38
 go_wp2_with fail
 go_ret
 exact⟨rfl,rfl⟩
theorem Qqt {w:World}{τ:Tags}{bp bf:Nat}{H:PoolH}{F:List Fr}{s:Ck.Clk.St}(h:PoolAt w τ bp bf H F s) :
 Calls Tryz.prog 177 #[.pointer (some ⟨bp,0,none⟩)] w fun e w'=>e = .returned (.pointer (some ⟨H.bl,0,none⟩))∧w=w':=by
 have d1:=h.hd.at 0 (v:=.pointer (some ⟨H.bl,0,none⟩)) rfl
 clear h
 go_enter Tryz.func177,Tryz.ntmps177
 go_wp2_with fail
 go_ret
 exact⟨rfl,rfl⟩
def i64z (l:List Int):List Value:=l.map (Value.int .i64)
def Fr.at (f:Fr):Int:=if f.pg.isSome then (f.n:Int) else -1
def atTo (F:List Fr) (i:Nat):List Int:=(F.take i).map Fr.at++List.replicate (F.length-i) 0
theorem Qrr (F:List Fr) (i:Nat) (hi:i≤F.length):(atTo F i).length=F.length:=by
 simp[atTo,Nat.min_eq_left hi];omega
theorem Qfq (l:List Int):(i64z l).length=l.length:=by simp[i64z]
theorem Qyh {F:List Fr}{i:Nat}{f:Fr}(hf:F[i]?=some f):(i64z (atTo F i)).set i (.int .i64 f.at)=i64z (atTo F (i+1)):=by
 obtain⟨hi,rfl⟩:=List.getElem?_eq_some_iff.1 hf
 have e:(i64z (atTo F i)).set i (.int .i64 (F[i]).at)=i64z ((atTo F i).set i (F[i]).at):=by simp[i64z,List.map_set]
 rw[e]
 congr 1
 unfold atTo
 rw[List.take_add_one,hf]
 have hl:((F.take i).map Fr.at).length=i:=by simp;omega
 rw[List.set_append_right _ _ (by rw[hl];exact Nat.le_refl _),hl,Nat.sub_self]
 rw[show F.length-i=(F.length-(i+1))+1 by omega,List.replicate_succ]
 simp only[List.map_append,List.set_cons_zero,Option.toList_some,List.map_cons,List.map_nil,List.append_assoc,List.cons_append,List.nil_append]
theorem Qnh (k:Nat) (hk:k≤64) (W:World):(Instr.makeSlice 123 (.int .i64 (k:Int)) (.int .i64 (k:Int))).run Tryz.prog W =
 .ok (.slice (some ⟨W.heap.size,0,none⟩) k k) (W.alloc (.cells (i64z (List.replicate k 0)).toArray 3)):=by
 obtain⟨i,hi,hz0,hz1,hz2⟩:=info_parts Tryz.infoInt
 have:=run_make (P:=Tryz.prog) W 123 3 i (.int .i64 0) Tryz.underlying123 hi hz0 .i64 .i64 k k (by omega) (Int.le_refl _) (by rw[hz2];omega) (by omega)
 simp only[Int.toNat_natCast,hz1] at this
 rw[this]
 congr 3
 apply Array.ext_getElem?
 intro j
 simp only[Nat.mul_one]
 by_cases hj:j<k
 ·have h1:=Ck.made_get #[Value.int .i64 0] k j hj
  have e:(Value.int .i64 0).cells=#[Value.int .i64 0]:=rfl
  rw[e,h1]
  simp[i64z,hj,Nat.mod_one]
 ·have l:(madeCells (Value.int .i64 0).cells k)[j]?=none:=by
   unfold madeCells
   rw[Array.getElem?_map,Array.getElem?_range,if_neg hj];rfl
  rw[l]
  simp[i64z,hj]
theorem Qz3 {w:World}{τ:Tags}{bp bf:Nat}{H:PoolH}{F:List Fr}{s:Ck.Clk.St}(h:PoolAt w τ bp bf H F s) :
 Calls Tryz.prog 173 #[.pointer (some ⟨bp,0,none⟩)] w fun e w'=>∃b τ',e = .returned (.slice (some ⟨b,0,none⟩) F.length F.length)∧w.heap.size≤b∧Own w' τ' b tOut 3 (i64z (F.map Fr.at))∧Step w τ w' τ' nil:=by
 have d2:=h.hd.at 2 (v:=H.vf) rfl
 rw[h.vf] at d2
 have hk:=h.k1
 have hmk:=Qnh F.length hk.2
 have ho:=Own.new w τ tOut 3 (i64z (List.replicate F.length 0))
 have hs:=(Step.refl w τ nil).alloc (.cells (i64z (List.replicate F.length 0)).toArray 3) tOut
 have hd1:=(h.hd.step hs (fun h=>h)).at 2 (v:=H.vf) rfl
 rw[h.vf] at hd1
 generalize hl:F.length=k at *
 obtain⟨H_h,Ho,Hs,Hl⟩:=hid4 h ho hs hl
 clear h ho hs hl
 go_enter Tryz.func173,Tryz.ntmps173
 go_wp2_with fail
 go_loopw [17] (fun v wr=>∃(i:Nat) (τr:Tags),i≤k∧v = .int .i64 (i:Int)∧Own wr τr w.heap.size tOut 3 (i64z (atTo F i))∧Step w τ wr τr nil) (fun v _=>k-(intOf v).toNat)
 case atStart=>exact⟨0,_,Nat.zero_le _,rfl,by
  have e:atTo F 0=List.replicate k 0:=by {simp[atTo,Hl.out]}
  rw[e];exact Ho.out,Hs.out⟩
 case round =>
  obtain⟨i,τr,hi,rfl,hob,hst⟩:=hrel
  by_cases hlt:i<k
  ·obtain⟨f,hf⟩:∃f,F[i]?=some f:=⟨_,List.getElem?_eq_getElem (by rw[Hl.out];exact hlt)⟩
   have hp:=H_h.out.step hst (fun _ _ h=>h)
   obtain⟨c0,c1,c2⟩:=hp.cells hf
   have hset:=Qyh hf
   have lb:=hp.fr.lt
   have lo:=hob.lt
   have z:=hob.fz i
   obtain⟨u,ci⟩:∃u,wr.cell? ⟨w.heap.size,i,none⟩=some u:=by
    rw[hob.cell i]
    exact⟨_,List.getElem?_eq_getElem (by rw[Qfq,Qrr F i (by rw[Hl.out];exact hi),Hl.out];exact hlt)⟩
   have hob1:=(hob.set i (.int .i64 (-1)))
   have hst1:=hst.setNew (o:=i) (Nat.le_refl _) (.int .i64 (-1))
   cases hpg:f.pg with
   | none =>
     have hv:f.at = -1:=by simp[Fr.at,hpg]
     rw[hv] at hset
     rw[hpg] at c0
     simp only[Option.map_none] at c0
     rw[hset] at hob1
     obtain⟨Hob,Hst,Hob1,Hst1,Hset,Hp,Hf⟩:=hid7 hob hst hob1 hst1 hset hp hf
     clear hob hst hob1 hst1 hset hp hf
     go_wp2_with fail
     go_round
     case rel=>exact⟨i+1,τr,by omega,by simp,Hob1.out.alloc _,Hst1.out.alloc' _⟩
     case measure=>simp[intOf];omega
   | some x =>
     have hv:f.at=(f.n:Int):=by simp[Fr.at,hpg]
     rw[hv] at hset
     rw[hpg] at c0
     simp only[Option.map_some] at c0
     have hlow:=hp.low i f.n f hf (by simp[Fr.has,hpg])
     have h512:=hp.n1
     have hwr:wrap64 (f.n:Int)=(f.n:Int):=by unfold wrap64;omega
     have hset2:((i64z (atTo F i)).set i (.int .i64 (-1))).set i (.int .i64 (f.n:Int))=i64z (atTo F (i+1)):=by rw[List.set_set];exact hset
     obtain⟨Hob,Hst,Hob1,Hst1,Hset2,Hp,Hf⟩:=hid7 hob hst hob1 hst1 hset2 hp hf
     clear hob hst hob1 hst1 hset2 hp hf hset
     go_wp2_with fail
     go_round
     case rel =>
      refine⟨i+1,τr,by omega,by simp,?_,?_⟩
      ·rw[←Hset2.out];try rw[hwr]
       exact(Hob1.out.set i _).alloc _
      ·exact(Hst1.out.setNew (Nat.le_refl _) _).alloc' _
     case measure=>simp[intOf];omega
  ·obtain rfl:i=k:=by omega
   obtain⟨Hob,Hst⟩:=hid2 hob hst
   clear hob hst
   go_wp2_with fail
   go_ret
   exact⟨w.heap.size,τr,rfl,Nat.le_refl _,by
    have e:atTo F i=F.map Fr.at:=by {unfold atTo;rw[Hl.out,Nat.sub_self,←Hl.out,List.take_length];simp}
    rw[←e];exact Hob.out,Hst.out⟩
theorem Qzu (w:World):Calls Tryz.prog 200 #[.int .u64 0] w fun e w'=>e = .returned (.int .i64 0)∧w=w':=by
 go_enter Tryz.func200,Tryz.ntmps200
 go_wp2_with fail
 go_ret
 exact⟨by kernel_rfl,rfl⟩
theorem len_0 (w:World):Calls Tryz.prog 138 #[.int .u64 0] w fun e w'=>e = .returned (.int .i64 0)∧w=w':=by
 have h1:=Qzu w
 have H1:=Lib.hid h1
 clear h1
 go_enter Tryz.func138,Tryz.ntmps138
 go_wp2_with fail
 refine H1.out.mono ?_
 rintro e w' ⟨rfl,rfl⟩
 go_wp2_with fail
 go_ret
 exact⟨rfl,rfl⟩
theorem Qn7 (w:World) (f:Value):Calls Tryz.prog 208 #[.slice none 0 0,.int .i64 0,.int .i64 0,f] w fun e w'=>e = .returned (.tuple #[])∧w=w':=by
 go_enter Tryz.func208,Tryz.ntmps208
 go_wp2_with fail
 go_loopw [8] (fun v wr=>v = .int .i64 1∧wr=w) (fun _ _=>0)
 case atStart=>exact⟨rfl,rfl⟩
 case round =>
  obtain⟨rfl,rfl⟩:=hrel
  go_wp2_with fail
  go_returns
  exact⟨rfl,rfl⟩
theorem Qzj (w:World) (f:Value):Calls Tryz.prog 147 #[.slice none 0 0,.int .i64 0,.int .i64 0,.int .i64 0,f] w fun e w'=>e = .returned (.tuple #[])∧w=w':=by
 have h1:=Qn7 w f
 have H1:=Lib.hid h1
 clear h1
 go_enter Tryz.func147,Tryz.ntmps147
 go_wp2_with fail
 go_loopw [1,2,3,10,11] (fun a b c d e wr=>a = .int .i64 0∧b = .int .i64 0∧c = .int .i64 0∧d = .bool true∧e = .bool true∧wr=w) (fun _ _ _ _ _ _=>0)
 case atStart=>exact⟨rfl,rfl,rfl,rfl,rfl,rfl⟩
 case round =>
  obtain⟨rfl,rfl,rfl,rfl,rfl,rfl⟩:=hrel
  go_wp2_with fail
  refine H1.out.mono ?_
  rintro e w' ⟨rfl,rfl⟩
  go_wp2_with fail
  go_returns
  exact⟨rfl,rfl⟩
theorem Qw4 (w:World) (f:Value):Calls Tryz.prog 95 #[.slice none 0 0,f] w fun e w'=>e = .returned (.tuple #[])∧w=w':=by
 have h1:=len_0 w
 have h2:=Qzj w f
 obtain⟨H1,H2⟩:=hid2 h1 h2
 clear h1 h2
 go_enter Tryz.func95,Tryz.ntmps95
 go_wp2_with fail
 refine H1.out.mono ?_
 rintro e w' ⟨rfl,rfl⟩
 go_wp2_with fail
 refine H2.out.mono ?_
 rintro e w' ⟨rfl,rfl⟩
 go_wp2_with fail
 go_returns
 exact⟨rfl,rfl⟩
theorem Qty {w:World}{τ:Tags}{bp bf:Nat}{H:PoolH}{F:List Fr}{s:Ck.Clk.St}(h:PoolAt w τ bp bf H F s) (h0:∀f∈F,f.first=0) :
 Calls Tryz.prog 51 #[.pointer (some ⟨bp,0,none⟩)] w fun e w'=>e = .returned (.slice none 0 0)∧∃τ',Step w τ w' τ' nil:=by
 have d2:=h.hd.at 2 (v:=H.vf) rfl
 rw[h.vf] at d2
 have hk:=h.k1
 have hso:=fun W f=>Qw4 W f
 generalize hl:F.length=k at *
 obtain⟨H_h,H0,Hl,Hso⟩:=hid4 h h0 hl hso
 clear h h0 hl hso
 go_enter Tryz.func51,Tryz.ntmps51
 go_wp2_with fail
 go_loopw [3,11] (fun m v wr=>∃(i:Nat) (τr:Tags),i≤k∧m = .slice none 0 0∧v = .int .i64 (i:Int)∧Step w τ wr τr nil) (fun _ v _=>k-(intOf v).toNat)
 case atStart=>exact⟨0,τ,Nat.zero_le _,rfl,rfl,Step.refl _ _ _⟩
 case round =>
  obtain⟨i,τr,hi,rfl,rfl,hst⟩:=hrel
  by_cases hlt:i<k
  ·obtain⟨f,hf⟩:∃f,F[i]?=some f:=⟨_,List.getElem?_eq_getElem (by rw[Hl.out];exact hlt)⟩
   have hp:=H_h.out.step hst (fun _ _ h=>h)
   obtain⟨c0,c1,c2⟩:=hp.cells hf
   have hz:=H0.out f (List.mem_of_getElem? hf)
   rw[hz] at c2
   generalize Option.map (fun x=>(⟨x.1,0,none⟩:Addr)) f.pg=pp at *
   generalize f.n=n at *
   obtain⟨Hst,Hf⟩:=hid2 hst hf
   clear hst hf hp hz
   go_wp2_with fail
   go_round
   case rel=>exact⟨i+1,τr,by omega,rfl,by simp,Hst.out.alloc' _⟩
   case measure=>simp[intOf];omega
  ·obtain rfl:i=k:=by omega
   have Hst:=Lib.hid hst
   clear hst
   go_wp2_with fail
   refine(Hso.out _ _).mono ?_
   rintro e w' ⟨rfl,rfl⟩
   go_wp2_with fail
   go_ret
   exact⟨rfl,τr,Hst.out⟩
structure PoolW (w:World) (τ:Tags) (bp bf bd:Nat) (H:PoolH) (L:LogM) (D:Dev) (F:List Fr) (s:Ck.Clk.St):Prop where
 pool:PoolAt w τ bp bf H F s
 log:LogAt w τ H.bl bd L
 dev:DevAt w τ bd D
theorem PoolW.step {w w':World}{τ τ':Tags}{S:Tag→Prop}{bp bf bd:Nat}{H:PoolH}{L:LogM}{D:Dev}{F:List Fr}{s:Ck.Clk.St}(h:PoolW w τ bp bf bd H L D F s) (m:Step w τ w' τ' S) (hs:∀g,S g→¬PoolTag g∧¬LogTag g∧¬DevTag g∧g≠tData):PoolW w' τ' bp bf bd H L D F s :=
 ⟨h.pool.step m (fun g hg hS=>(hs g hS).1 hg),h.log.step m (fun g hg hS=>(hs g hS).2.1 hg),h.dev.step m (fun g hS=>(hs g hS).2.2)⟩
theorem PoolW.turn {w w':World}{τ τ':Tags}{bp bf bd:Nat}{H:PoolH}{L:LogM}{D:Dev}{F F':List Fr}{s s':Ck.Clk.St}(h:PoolW w τ bp bf bd H L D F s) (hp:PoolAt w' τ' bp bf H F' s') (m:Step w τ w' τ' PoolTag):PoolW w' τ' bp bf bd H L D F' s' :=
 ⟨hp,h.log.step m (fun g hg=>Qbo hg),h.dev.step m (fun g hg=>Qbg hg)⟩
theorem Qik {s:Ck.Clk.St}(i:Int) (h:∀k,s.p k≤1000000):(∀k,(Ck.Clk.takeS s i).p k≤1000000)∧(∀k,(Ck.Clk.leaveS s i).p k≤1000000)∧(∀k,(Ck.Clk.pickS s).p k≤1000000)∧(∀k,(Ck.Clk.touchS s i).p k≤1000000):=by
 refine⟨fun k=>?_,fun k=>?_,fun k=>?_,fun k=>?_⟩
 ·unfold Ck.Clk.takeS
  split
  ·simp only[Ck.Clk.upd];split
   ·omega
   ·exact h k
  ·exact h k
 ·unfold Ck.Clk.leaveS
  split <;> exact h k
 ·unfold Ck.Clk.pickS
  split
  ·exact h k
  ·split <;> exact h k
 ·unfold Ck.Clk.touchS
  split <;> exact h k
def Dev.writes (D:Dev) (f a:Nat) (ls:List (List Int)):Nat→Dev
 | 0=>D
 | i+1=>(D.writes f a ls i).write f (a+i) (ls.getD i [])
def Dev.lay (D:Dev) (f a:Nat) (ls:List (List Int)):Dev:=(D.writes f a ls ls.length).sync f
theorem Dev.writes_length (D:Dev) (f a:Nat) (hf:f<2) (ls:List (List Int)) (i g:Nat):((D.writes f a ls i).file g).length=(D.file g).length:=by
 induction i with
 | zero=>rfl
 | succ i ih =>
   show (((D.writes f a ls i).write f _ _).file g).length=_
   rw[Dev.write_file _ _ _ hf];exact ih
theorem Dev.writes_lim {D:Dev}{b:Nat}(h:D.lim b) (f a:Nat) (hf:f<2) (ls:List (List Int)) (i:Nat):(D.writes f a ls i).lim (b+i):=by
 induction i with
 | zero=>exact h
 | succ i ih=>exact Dev.lim_write ih f _ hf _
theorem Dev.lay_length (D:Dev) (f a:Nat) (hf:f<2) (ls:List (List Int)) (g:Nat):((D.lay f a ls).file g).length=(D.file g).length:=by
 unfold Dev.lay
 rw[Dev.sync_file _ _ hf,Dev.writes_length _ _ _ hf]
structure Dev.Calm (D:Dev):Prop where
 left:D.left=none
 waits:∀(f k:Nat) (s:Sec),(D.file f)[k]?=some s→s.waits=[]
theorem Dev.go_free {D:Dev}(h:D.left=none):D.go=(true,D):=by unfold Dev.go;rw[h]
theorem Dev.write_free {D:Dev}(h:D.left=none) (f k:Nat) (l:List Int):(D.write f k l).left=none:=by
 unfold Dev.write
 rw[Dev.go_free h,if_pos rfl]
 cases (D.file f)[k]? with
 | none=>exact h
 | some s=>show (Dev.put _ _ _).left=none;unfold Dev.put;split <;> (try split) <;> exact h
theorem Dev.sync_free {D:Dev}(h:D.left=none) (f:Nat):(D.sync f).left=none:=by
 unfold Dev.sync
 rw[Dev.go_free h,if_pos rfl]
 show (Dev.put _ _ _).left=none;unfold Dev.put;split <;> (try split) <;> exact h
theorem Dev.write_get {D:Dev}(h:D.left=none) {f:Nat}(hf:f<2) (k:Nat) (l:List Int) (g j:Nat):((D.write f k l).file g)[j]?=if g=f∧j=k then (D.file g)[j]?.map (fun s=>s.add l) else (D.file g)[j]?:=by
 unfold Dev.write
 rw[Dev.go_free h,if_pos rfl]
 cases hs:(D.file f)[k]? with
 | none =>
   show (D.file g)[j]?=_
   by_cases e:g=f∧j=k
   ·rw[if_pos e,e.1,e.2,hs];rfl
   ·rw[if_neg e]
 | some s =>
   show ((Dev.put D f _).file g)[j]?=_
   rw[Dev.put_file _ _ hf]
   by_cases eg:g=f
   ·rw[if_pos eg]
    by_cases e:j=k
    ·rw[if_pos ⟨eg,e⟩,e,eg,hs,List.getElem?_set_self (List.getElem?_eq_some_iff.1 hs).1];rfl
    ·rw[if_neg (fun q=>e q.2),List.getElem?_set_ne (fun q=>e q.symm),eg]
   ·rw[if_neg eg,if_neg (fun q=>eg q.1)]
theorem Dev.sync_get {D:Dev}(h:D.left=none) {f:Nat}(hf:f<2) (g j:Nat):((D.sync f).file g)[j]?=if g=f then (D.file g)[j]?.map Sec.sync else (D.file g)[j]?:=by
 unfold Dev.sync
 rw[Dev.go_free h,if_pos rfl]
 show ((Dev.put D f _).file g)[j]?=_
 rw[Dev.put_file _ _ hf]
 by_cases eg:g=f
 ·rw[if_pos eg,if_pos eg,List.getElem?_map,eg]
 ·rw[if_neg eg,if_neg eg]
theorem Sec.add_newest (s:Sec) (l:List Int):(s.add l).newest=l:=by
 show (s.waits++[l]).getLastD s.last=l
 rw[List.getLastD_eq_getLast?,List.getLast?_append];rfl
theorem Dev.last_write {D:Dev}(h:D.left=none) {f:Nat}(hf:f<2) {k:Nat}(hk:k<(D.file f).length) (l:List Int) (g j:Nat):(D.write f k l).last g j=if g=f∧j=k then l else D.last g j:=by
 unfold Dev.last
 rw[Dev.write_get h hf]
 by_cases e:g=f∧j=k
 ·rw[if_pos e,if_pos e,e.1,e.2,List.getElem?_eq_getElem hk]
  show (Sec.add _ l).newest=l
  exact Sec.add_newest _ _
 ·rw[if_neg e,if_neg e]
theorem Dev.last_sync {D:Dev}(h:D.left=none) {f:Nat}(hf:f<2) (g j:Nat):(D.sync f).last g j=D.last g j:=by
 unfold Dev.last
 rw[Dev.sync_get h hf]
 by_cases e:g=f
 ·rw[if_pos e]
  cases (D.file g)[j]? with
  | none=>rfl
  | some s=>rfl
 ·rw[if_neg e]
theorem Dev.writes_free {D:Dev}(h:D.left=none) (f a:Nat) (ls:List (List Int)) (i:Nat):(D.writes f a ls i).left=none:=by
 induction i with
 | zero=>exact h
 | succ i ih=>exact Dev.write_free ih _ _ _
theorem Dev.lay_free {D:Dev}(h:D.left=none) (f a:Nat) (ls:List (List Int)):(D.lay f a ls).left=none:=Dev.sync_free (Dev.writes_free h _ _ _ _) _
theorem Dev.last_writes {D:Dev}(h:D.left=none) {f:Nat}(hf:f<2) (a:Nat) (ls:List (List Int)) (i:Nat) (hi:a+i≤(D.file f).length) (g j:Nat):(D.writes f a ls i).last g j=if g=f∧a≤j∧j<a+i then ls.getD (j-a) [] else D.last g j:=by
 induction i with
 | zero=>rw[if_neg (by omega)];rfl
 | succ i ih =>
   show ((D.writes f a ls i).write f (a+i) (ls.getD i [])).last g j=_
   rw[Dev.last_write (Dev.writes_free h _ _ _ _) hf (by rw[Dev.writes_length _ _ _ hf];omega),ih (by omega)]
   by_cases e:g=f∧j=a+i
   ·rw[if_pos e,if_pos ⟨e.1,by omega,by omega⟩,e.2,Nat.add_sub_cancel_left]
   ·rw[if_neg e]
    by_cases e2:g=f∧a≤j∧j<a+i
    ·rw[if_pos e2,if_pos ⟨e2.1,e2.2.1,by omega⟩]
    ·rw[if_neg e2,if_neg (by omega)]
theorem Dev.last_lay {D:Dev}(h:D.left=none) {f:Nat}(hf:f<2) (a:Nat) (ls:List (List Int)) (hi:a+ls.length≤(D.file f).length) (g j:Nat):(D.lay f a ls).last g j=if g=f∧a≤j∧j<a+ls.length then ls.getD (j-a) [] else D.last g j:=by
 unfold Dev.lay
 rw[Dev.last_sync (Dev.writes_free h _ _ _ _) hf,Dev.last_writes h hf a ls _ hi]
theorem Dev.writes_other {D:Dev}(h:D.left=none) {f:Nat}(hf:f<2) (a:Nat) (ls:List (List Int)) (i g:Nat) (hg:g≠f) (j:Nat):((D.writes f a ls i).file g)[j]?=(D.file g)[j]?:=by
 induction i with
 | zero=>rfl
 | succ i ih =>
   show (((D.writes f a ls i).write f _ _).file g)[j]?=_
   rw[Dev.write_get (Dev.writes_free h _ _ _ _) hf,if_neg (fun q=>hg q.1)];exact ih
theorem Dev.Calm.lay {D:Dev}(h:D.Calm) {f:Nat}(hf:f<2) (a:Nat) (ls:List (List Int)):(D.lay f a ls).Calm:=by
 refine⟨Dev.lay_free h.left _ _ _,fun g k s hs=>?_⟩
 unfold Dev.lay at hs
 rw[Dev.sync_get (Dev.writes_free h.left _ _ _ _) hf] at hs
 by_cases e:g=f
 ·rw[if_pos e] at hs
  obtain⟨s',_,rfl⟩:=Option.map_eq_some_iff.1 hs
  rfl
 ·rw[if_neg e,Dev.writes_other h.left hf _ _ _ _ e] at hs
  exact h.waits g k s hs
theorem Dev.Calm.lim {D:Dev}(h:D.Calm) (b:Nat):D.lim b:=fun f k s hs=>by rw[h.waits f k s hs];exact Nat.zero_le _
theorem Qm0 {D E:Dev}{n m:Nat}(h:∀i,i<4→D.last 1 (4*n+i)=E.last 1 (4*m+i)):lastTo D n 4=lastTo E m 4:=by
 unfold lastTo
 refine List.map_congr_left (fun k hk=>h k (List.mem_range.1 hk))
theorem Qmz {D:Dev}(h:D.left=none) (n:Nat) (ls:List (List Int)) (hl:ls.length=4) (hi:4*n+4≤D.f1.length) (m:Nat):lastTo (D.lay 1 (4*n) ls) m 4=if m=n then ls else lastTo D m 4:=by
 have hlay:=fun j=>Dev.last_lay h (f:=1) (by omega) (4*n) ls (by rw[hl];exact hi) 1 j
 by_cases e:m=n
 ·rw[if_pos e]
  apply List.ext_getElem?
  intro i
  by_cases hi4:i<4
  ·have e1:(lastTo (D.lay 1 (4*n) ls) m 4)[i]?=some ((D.lay 1 (4*n) ls).last 1 (4*m+i)):=by
    unfold lastTo
    rw[List.getElem?_map,List.getElem?_range hi4];rfl
   rw[e1,hlay,if_pos ⟨rfl,by omega,by omega⟩,show 4*m+i-4*n=i by omega,List.getD_eq_getElem?_getD,List.getElem?_eq_getElem (by omega)];rfl
  ·rw[List.getElem?_eq_none (by rw[Qbe];omega),List.getElem?_eq_none (by omega)]
 ·rw[if_neg e]
  refine Qm0 (fun i hi4=>?_)
  rw[hlay,if_neg (by omega)]
theorem Qq8 {D:Dev}(h:D.left=none) (a:Nat) (ls:List (List Int)) (hi:a+ls.length≤D.f0.length) (m:Nat):lastTo (D.lay 0 a ls) m 4=lastTo D m 4 :=
 Qm0 (fun i _=>by rw[Dev.last_lay h (f:=0) (by omega) a ls hi,if_neg (by omega)])
def IntsZ (w:World) (τ:Tags) (g:Tag) (v:Value) (l:List Int):Prop:=Buf w τ g 3 1 v l.length (i64z l)
theorem Qzw (l:List Int) (i:Nat) (h:i<l.length):(i64z l)[i]?=some (.int .i64 (l.getD i 0)):=by
 simp[i64z,List.getD,List.getElem?_eq_getElem h]
theorem IntsZ.step {w w':World}{τ τ':Tags}{S:Tag→Prop}{g:Tag}{v:Value}{l:List Int}(h:IntsZ w τ g v l) (m:Step w τ w' τ' S) (hs:¬S g):IntsZ w' τ' g v l:=Buf.step h m hs
theorem IntsZ.read {w:World}{τ:Tags}{g:Tag}{v:Value}{l:List Int}(h:IntsZ w τ g v l):∃p c,v = .slice p l.length c∧l.length≤maxLen∧∀i,i<l.length→∃b,p=some ⟨b,0,none⟩∧w.cell? ⟨b,i,none⟩=some (.int .i64 (l.getD i 0)):=by
 obtain⟨h1,⟨rfl,h2⟩|⟨b,cap,ys,rfl,ho,h3,h4,h5⟩⟩:=h
 ·exact⟨none,0,by rw[h2],by omega,fun i hi=>by omega⟩
 ·refine⟨_,_,rfl,by omega,fun i hi=>⟨b,rfl,ho.at i ?_⟩⟩
  rw[List.getElem?_append_left (by rw[Qfq];exact hi),Qzw l i hi]
theorem Qxn {l m:List Int}(h1:l.length=m.length) (h:∀i,i<l.length→l.getD i 0=m.getD i 0):l=m:=by
 apply List.ext_getElem h1
 intro i h2 h3
 have:=h i h2
 simpa [List.getD,List.getElem?_eq_getElem h2,List.getElem?_eq_getElem h3] using this
theorem Qo6 {w:World}{τ:Tags}{g g2:Tag}{v u:Value}{l m:List Int}(h:IntsZ w τ g v l) (k:IntsZ w τ g2 u m) :
 Calls Tryz.prog 172 #[v,u] w fun e w'=>e = .returned (.bool (decide (l=m)))∧∃q,w'=w.drewN q:=by
 obtain⟨p,c,rfl,h1,hr⟩:=h.read
 obtain⟨q,d,rfl,k1,kr⟩:=k.read
 clear h k
 by_cases hlen:l.length=m.length
 ·have hne:=@Qxn l m hlen
  have hno:∀i,i<l.length→l.getD i 0≠m.getD i 0→¬l=m:=fun i _ hi e=>hi (by rw[e])
  rw[←hlen] at kr ⊢
  generalize hn:l.length=n at *
  have hmx:n≤9223372036854775807:=by unfold maxLen at h1;omega
  obtain⟨Hr,H_kr,Hne,Hno,Hn,Hlen⟩:=hid6 hr kr hne hno hn hlen
  clear hr kr hne hno hn hlen h1 k1
  go_enter Tryz.func172,Tryz.ntmps172
  go_wp2_with fail
  go_loopw [5] (fun v wr=>∃i q:Nat,i≤n∧v = .int .i64 (i:Int)∧wr=w.drewN q∧Hid (∀j,j<i→l.getD j 0=m.getD j 0)) (fun v _=>n-(intOf v).toNat)
  case atStart=>exact⟨0,0,Nat.zero_le _,rfl,rfl,Lib.hid (fun j hj=>absurd hj (by omega))⟩
  case round =>
   obtain⟨i,q,hi,rfl,hwr,HE⟩:=hrel
   by_cases hlt:i<n
   ·obtain⟨b,rfl,ci⟩:=Hr.out i hlt
    obtain⟨b2,hb2,di⟩:=H_kr.out i hlt
    cases hb2
    have ci':wr.cell? ⟨b,i,none⟩=some (.int .i64 (l.getD i 0)):=by rw[hwr];exact ci
    have di':wr.cell? ⟨b2,i,none⟩=some (.int .i64 (m.getD i 0)):=by rw[hwr];exact di
    clear ci di
    have hin:(i:Int)<(n:Int):=by omega
    generalize hx:l.getD i 0=x at *
    generalize hy:m.getD i 0=y at *
    by_cases heq:x=y
    ·subst heq
     obtain⟨Hx,Hy,Hwr⟩:=hid3 hx hy hwr
     clear hx hy hwr
     go_wp2_with fail
     go_quiet (fail)
     go_wp2_with fail
     go_round
     case rel =>
      refine⟨i+1,q+nq,by omega,by simp,by rw[Hwr.out,World.drewN_drewN],Lib.hid (fun j hj=>?_)⟩
      by_cases e:j=i
      ·subst e;rw[Hx.out,Hy.out]
      ·exact HE.out j (by omega)
     case measure=>simp[intOf];omega
    ·have b1:(x != y)=true:=by rw[bne_iff_ne];exact heq
     have hlm:=Hno.out i hlt (by rw[hx,hy];exact heq)
     obtain⟨Hlm,Hx,Hy,Heq,Hwr⟩:=hid5 hlm hx hy heq hwr
     clear hlm hx hy heq hwr
     go_wp2_with fail
     go_quiet (fail)
     go_wp2_with fail
     go_ret
     exact⟨by rw[decide_eq_false Hlm.out];rfl,q+nq,by rw[Hwr.out,World.drewN_drewN]⟩
   ·obtain rfl:i=n:=by omega
    have hlm:=Hne.out HE.out
    obtain⟨Hlm,Hwr⟩:=hid2 hlm hwr
    clear hlm hwr
    go_wp2_with fail
    go_ret
    exact⟨by rw[decide_eq_true Hlm.out];rfl,q,Hwr.out⟩
 ·rw[decide_eq_false (fun e=>hlen (by rw[e]))]
  have b1:((l.length:Int) != (m.length:Int))=true:=by rw[bne_iff_ne];omega
  generalize l.length=n at *
  generalize m.length=k at *
  clear hr kr h1 k1 hlen
  go_enter Tryz.func172,Tryz.ntmps172
  go_wp2_with fail
  go_ret
  exact⟨rfl,0,rfl⟩
theorem Qne (w:World):Calls Tryz.prog 175 #[.slice none 0 0,.slice none 0 0] w fun e w'=>e = .returned (.bool true)∧w=w':=by
 go_enter Tryz.func175,Tryz.ntmps175
 go_wp2_with fail
 go_loopw [5] (fun v wr=>v = .int .i64 0∧wr=w) (fun _ _=>0)
 case atStart=>exact⟨rfl,rfl⟩
 case round =>
  obtain⟨rfl,rfl⟩:=hrel
  go_wp2_with fail
  go_ret
  exact⟨rfl,rfl⟩
end Go.Proofs.YtjgacceifcnedaaGreat
namespace Go.Proofs.YtjgacceifcnedaaGreat
open Go.RowKit
open Ck.Clk
end Go.Proofs.YtjgacceifcnedaaGreat