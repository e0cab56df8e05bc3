/-
 Transactions: who runs,where nobody does.
-/
import Derived.Test.YtjgacceifcnedaaGreatMTxA
import Derived.Test.YtjgacceifcnedaaGreatMConcat
import Derived.Test.YtjgacceifcnedaaGreatMPoolI
set_option linter.all false
namespace Go.Proofs.YtjgacceifcnedaaGreat
open Go.RowKit Go.Maps Go.Shelf
attribute [local go_sem] Oper.semAt_some
def NoKeys (w:World) (b:Nat):Prop:=∃n D,w.ownsMap Tryz.prog 28 rdPtr b n D∧∀kl,has D kl=false
theorem PMap.nobody {w:World}{τ:Tags}{b:Nat}{g:Tag}{N:Nat}{f:Nat→Option Nat}(h:PMap w τ b g N f) (hf:∀k,f k=none):NoKeys w b:=by
 obtain⟨n,D,ho,h1,h2,h3⟩:=h.is
 refine⟨n,D,ho,fun kl=>?_⟩
 cases hx:has D kl with
 | false=>rfl
 | true =>
   obtain⟨k,-,rfl⟩:=h1 kl hx
   rw[h2 k,hf k] at hx
   cases hx
theorem NoKeys.lt {w:World}{b:Nat}(h:NoKeys w b):b<w.heap.size:=by
 obtain⟨n,D,ho,_⟩:=h
 exact ho.lt
theorem NoKeys.same {w w':World}{b:Nat}(h:NoKeys w b) (e:w'.heap[b]?=w.heap[b]?):NoKeys w' b:=by
 obtain⟨n,D,⟨es,c,hb,r1⟩,r⟩:=h
 exact⟨n,D,⟨es,c,e.trans hb,r1⟩,r⟩
theorem NoKeys.range {w:World}{b:Nat}(h:NoKeys w b) :
 ∃w',(Instr.range 96 (.map (some b))).run Tryz.prog w = .ok (.pointer (some ⟨w.heap.size,0,none⟩)) w'∧w.grownBy w' none∧∀ty,(Instr.next (.pointer (some ⟨w.heap.size,0,none⟩)) false ty).run Tryz.prog w' = .ok (.tuple #[.bool false]) w':=by
 obtain⟨n,D,ho,h1⟩:=h
 obtain⟨w',hr,hrg,hg,hs⟩:=ho.range Qeo Tryz.underlying96
 refine⟨w',hr,hg,fun ty=>?_⟩
 rcases hrg.next Qeo ty with ⟨h0,hlf,hrun⟩|⟨key,v,kl,y,w'',cnt',hkey,hlk,hv,hat,hrun,hrg',hlt,hgr,hsz,hen⟩
 ·exact hrun
 ·rw[h1 kl] at hlk
  cases hlk
theorem Jce {W:World}{Bm b:Nat}(y:Value) (hc:W.cell? ⟨Bm,0,none⟩=some (.map (some b))) (h:NoKeys W b) :
 Calls Tryz.prog 87 #[y,.pointer (some ⟨Bm,0,none⟩)] W fun e w'=>e = .returned (.tuple #[])∧W.grownBy w' none:=by
 obtain⟨w1,hrun,hg,hnx⟩:=h.range
 have hn0:=hnx 0
 have Hg:=Lib.hid hg
 clear hg h
 go_enter Tryz.func87,Tryz.ntmps87
 go_wp2_with fail
 go_loopw [3] (fun a wr=>a=undef∧wr=w1) (fun _ _=>0)
 case atStart=>exact⟨rfl,rfl⟩
 case round =>
  obtain⟨rfl,rfl⟩:=hrel
  go_wp2_with fail
  go_returns
  exact⟨rfl,Hg.out⟩
theorem Jcn {w:World}{Bm b:Nat}(hc:w.cell? ⟨Bm,0,none⟩=some (.map (some b))) (h:NoKeys w b) (n:Nat) (Kp:World→World→Prop) :
 SeqStopsK (α:=Empty) Fence.wide n Tryz.prog 87 #[.pointer (some ⟨Bm,0,none⟩)] (fun x=>x.elim) Kp (fun _=>True) (fun _=>False) 0 w:=fun l J Jx W hW hJ hJx hY h0=>by
 have c1:=(hW.cell (p:=⟨Bm,0,none⟩) (cell_lt hc)).trans hc
 refine(callsIn_wide (n:=n)).2 ((Jce (.func (.yield l) #[] #[]) c1 (h.same (hW.block b h.lt))).mono ?_)
 rintro e w' ⟨rfl,hg⟩
 exact⟨⟨_,rfl⟩,.inl ⟨[],trivial,hJ [] W w' none h0 hg (fun r e=>by cases e)⟩⟩
theorem Jcc {w:World}{τ:Tags}{Bm b:Nat}(hc:w.cell? ⟨Bm,0,none⟩=some (.map (some b))) (h:NoKeys w b) :
 Calls Tryz.prog 136 #[.slice none 0 0,.func (.func 87) #[] #[.pointer (some ⟨Bm,0,none⟩)]] w fun e w'=>e = .returned (.slice none 0 0)∧∃τ',Step w τ w' τ' nil:=by
 have hst0:=(Step.refl w τ nil).alloc (.cells #[Value.slice none 0 0] 115) tBox
 have hbox0:=Own.new w τ tBox 115 [.slice none 0 0]
 have hc0:(w.alloc (.cells #[.slice none 0 0] 115)).cell? ⟨Bm,0,none⟩=some (.map (some b)):=by
  rw[←hc]
  exact World.cell?_alloc_some _ _ _ (by rw[hc];rfl)
 have hn0:NoKeys (w.alloc (.cells #[.slice none 0 0] 115)) b:=h.same ((MapKept.heap_alloc w _).2 b h.lt)
 have hsz0:(w.alloc (.cells #[.slice none 0 0] 115)).heap.size=w.heap.size+1:=by simp
 obtain⟨Hst0,Hbox0,Hc0,Hn0,Hsz0⟩:=hid5 hst0 hbox0 hc0 hn0 hsz0
 clear hst0 hbox0 hc0 hn0 hsz0 h hc
 refine(callsIn_wide (n:=4)).1 ?_
 refine callsIn_of_wp_marks Tryz.func136 rfl trivial ?_ rfl
 simp only[Tryz.ntmps136,List.size_toArray,List.length_cons,List.length_nil,Nat.reduceAdd,Nat.reduceSub,Array.replicate_succ,Array.replicate_zero,List.push_toArray,List.append_toArray,List.nil_append,List.cons_append]
 gi_wp2
 generalize w.alloc (.cells #[.slice none 0 0] 115)=W0 at *
 refine wpIn_rangeFunc_ownG rfl (by omega) (gf := 87) (lb:=#[.pointer (some ⟨Bm,0,none⟩)]) rfl trivial (enters_of Tryz.func87 (by kernel_rfl) rfl)
  (Jcn Hc0.out Hn0.out 3 (fun _ _=>True)) (fun _ _=>trivial) (fun _ _ _ _ _ _ _ _=>trivial) (Below.refl _ _) (fun x=>x.elim)
  (fun _ W=>∃τ',Step w τ W τ' nil∧Own W τ' w.heap.size tBox 115 [.slice none 0 0]) (fun _ _ _=>False) ?hI (fun _ _ _ _ _ hs _ _=>hs) ?h0
  (fun x=>x.elim) ?assign ?body ?done ?stop
 case hI =>
  rintro pre W W' row ⟨τ',h1,h2⟩ hg hr
  have hnc:Qeq W row:=fun r e=>(hr r e).2
  exact⟨τ',h1.turn hg (fun r e=>by have:=(hr r e).1;rw[Hsz0.out] at this;omega),h2.turn hg hnc⟩
 case h0=>exact⟨_,Hst0.out,Hbox0.out⟩
 case assign=>intro l x;exact x.elim
 case body=>intro l pre x;exact x.elim
 case done =>
  rintro D ys W hD hys ⟨τ',hst,hbox⟩ hK
  have c0:=hbox.at 0 rfl
  obtain⟨Hst,HK⟩:=hid2 hst hK
  clear hst hK
  gi_wp2
  refine⟨by simp,.inl ⟨_,_,rfl,run_takeDeferred HK.out,?_⟩⟩
  have hg:=grownBy_putObj' W D (.deferred none)
  exact⟨_,results_tmp rfl _ _ _,rfl,τ',Hst.out.turn hg (fun r e=>by cases e;have:=Hsz0.out;omega)⟩
 case stop =>
  rintro D c pre W _ _ h _
  exact h.elim
theorem Jcf (w:World):Calls Tryz.prog 190 #[.slice none 0 0,.int .i64 0,.int .i64 0] w fun e w'=>e = .returned (.tuple #[])∧w=w':=by
 go_enter Tryz.func190,Tryz.ntmps190
 go_wp2_with fail
 go_loopw [6] (fun v wr=>v = .int .i64 1∧wr=w) (fun _ _=>0)
 case atStart=>exact⟨rfl,rfl⟩
 case round =>
  obtain⟨rfl,rfl⟩:=hrel
  go_wp2_with fail
  go_returns
  exact⟨rfl,rfl⟩
theorem Jcd (w:World):Calls Tryz.prog 137 #[.slice none 0 0,.int .i64 0,.int .i64 0,.int .i64 0] w fun e w'=>e = .returned (.tuple #[])∧w=w':=by
 have h1:=Jcf w
 have H1:=Lib.hid h1
 clear h1
 go_enter Tryz.func137,Tryz.ntmps137
 go_wp2_with fail
 go_loopw [1,2,3,8,9] (fun a b c d e wr=>a = .int .i64 0∧b = .int .i64 0∧c = .int .i64 0∧d = .bool true∧e = .bool true∧wr=w) (fun _ _ _ _ _ _=>0)
 case atStart=>exact⟨rfl,rfl,rfl,rfl,rfl,rfl⟩
 case round =>
  obtain⟨rfl,rfl,rfl,rfl,rfl,rfl⟩:=hrel
  go_wp2_with fail
  refine H1.out.mono ?_
  rintro e w' ⟨rfl,rfl⟩
  go_wp2_with fail
  go_returns
  exact⟨rfl,rfl⟩
theorem Jb8 (w:World):Calls Tryz.prog 86 #[.slice none 0 0] w fun e w'=>e = .returned (.tuple #[])∧w=w':=by
 have h1:=len_0 w
 have h2:=Jcd w
 obtain⟨H1,H2⟩:=hid2 h1 h2
 clear h1 h2
 go_enter Tryz.func86,Tryz.ntmps86
 go_wp2_with fail
 refine H1.out.mono ?_
 rintro e w' ⟨rfl,rfl⟩
 go_wp2_with fail
 refine H2.out.mono ?_
 rintro e w' ⟨rfl,rfl⟩
 go_wp2_with fail
 go_returns
 exact⟨rfl,rfl⟩
theorem Jb9 {w:World}{τ:Tags}{Bm b:Nat}(hc:w.cell? ⟨Bm,0,none⟩=some (.map (some b))) (h:NoKeys w b) :
 Calls Tryz.prog 46 #[.func (.func 87) #[] #[.pointer (some ⟨Bm,0,none⟩)]] w fun e w'=>e = .returned (.slice none 0 0)∧∃τ',Step w τ w' τ' nil:=by
 have h1:Calls Tryz.prog 85 #[.func (.func 87) #[] #[.pointer (some ⟨Bm,0,none⟩)]] w fun e w'=>e = .returned (.slice none 0 0)∧∃τ',Step w τ w' τ' nil:=by
  have h2:=Jcc (τ:=τ) hc h
  have H2:=Lib.hid h2
  clear h2 hc h
  go_enter Tryz.func85,Tryz.ntmps85
  go_wp2_with fail
  refine H2.out.mono ?_
  rintro e w' ⟨rfl,τ',hs⟩
  have Hs:=Lib.hid hs
  clear hs
  go_wp2_with fail
  go_ret
  exact⟨rfl,τ',Hs.out⟩
 have H1:=Lib.hid h1
 clear h1 hc h
 go_enter Tryz.func46,Tryz.ntmps46
 go_wp2_with fail
 refine H1.out.mono ?_
 rintro e w' ⟨rfl,τ',hs⟩
 have h2:=Jb8 w'
 obtain⟨Hs,H2⟩:=hid2 hs h2
 clear hs h2
 go_wp2_with fail
 refine H2.out.mono ?_
 rintro e w2 ⟨rfl,rfl⟩
 go_wp2_with fail
 go_ret
 exact⟨rfl,τ',Hs.out⟩
theorem Jb5 {w:World}{τ:Tags}{bm bl bp:Nat}{bo:Nat→Nat}{next:Nat}(h:MgrAt w τ bm bl bp bo [] next) :
 Calls Tryz.prog 18 #[.pointer (some ⟨bm,0,none⟩)] w fun e w'=>e = .returned (.slice none 0 0)∧∃τ',Step w τ w' τ' nil:=by
 obtain⟨ba,ho,hp⟩:=h.is
 have c2:=ho.at 2 (v:=.map (some ba)) rfl
 have hst:=(Step.refl w τ nil).alloc (.cells #[.map (some ba)] 96) tBox
 have hbox:=Own.new w τ tBox 96 [.map (some ba)]
 have hn:NoKeys (w.alloc (.cells #[.map (some ba)] 96)) ba:=(hp.nobody (fun k=>by simp[fOf,OneP.ids])).same ((MapKept.heap_alloc w _).2 ba hp.lt)
 have h1:=Jb9 (τ:=τ.put w.heap.size tBox) (hbox.at 0 rfl) hn
 have hk:Calls Tryz.prog 47 #[.map (some ba)] w fun e w'=>e = .returned (.func (.func 87) #[] #[.pointer (some ⟨w.heap.size,0,none⟩)])∧w'=w.alloc (.cells #[.map (some ba)] 96):=by
  clear h1 hn hst hbox hp ho h c2
  have hmf:∀(fn:Fn) (first cap:Array Value) (w:World),(Instr.makeFunc fn first cap).run Tryz.prog w = .ok (.func fn first cap) w:=fun _ _ _ _=>rfl
  go_enter Tryz.func47,Tryz.ntmps47
  go_wp2_with fail
  go_ret
  exact⟨rfl,rfl⟩
 obtain⟨H1,Hst,Hk⟩:=hid3 h1 hst hk
 clear h1 hst hk hn hbox hp ho h
 go_enter Tryz.func18,Tryz.ntmps18
 go_wp2_with fail
 refine Hk.out.mono ?_
 rintro e w' ⟨rfl,rfl⟩
 go_wp2_with fail
 refine H1.out.mono ?_
 rintro e w2 ⟨rfl,τ2,hs2⟩
 have hst2:=Hst.out.trans hs2
 have Hst2:=Lib.hid hst2
 clear hst2 hs2
 go_wp2_with fail
 go_loopw [3,13] (fun o v wr=>o = .slice none 0 0∧v = .int .i64 0∧wr=w2) (fun _ _ _=>0)
 case atStart=>exact⟨rfl,rfl,rfl⟩
 case round =>
  obtain⟨rfl,rfl,rfl⟩:=hrel
  go_wp2_with fail
  go_ret
  exact⟨rfl,τ2,Hst2.out⟩
end Go.Proofs.YtjgacceifcnedaaGreat