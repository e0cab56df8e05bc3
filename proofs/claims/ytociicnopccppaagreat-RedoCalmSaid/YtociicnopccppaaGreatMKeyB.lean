/-
 The keys of a map,collected and sorted;who runs.
-/
import Derived.Test.YtociicnopccppaaGreatMKeyA
import Derived.Test.YtociicnopccppaaGreatMTxJ
set_option maxRecDepth 100000
set_option maxHeartbeats 4000000
set_option linter.all false
namespace Go.Proofs.YtociicnopccppaaGreat
open Go.RowKit Go.Maps Go.Shelf
attribute [local go_sem] Oper.semAt_some
theorem NS.cells {α:Type}{e:TypeId}{k:Nat}{enc:α->List Value}{n0:Nat}{w:World}{τ:qa1}{g:Tag}{v:Value}{l:List α}(h:NS e k enc n0 w τ g v l) {j:Nat}(a:v.ownBlock=some j):τ j=g/\n0<=j/\∃d,w.heap[j]?=some (.cells ⟨d⟩ e (0,0)):=by
 rcases h.buf.2 with ⟨rfl,_⟩|⟨b,cap,ys,rfl,c,_⟩
 ·simp[Value.ownBlock] at a
 ·have:b=j:=by simpa [Value.ownBlock] using a
  subst this
  exact⟨c.tag,h.low b rfl,_,c.row⟩
theorem NS.turn {α:Type}{e:TypeId}{k:Nat}{enc:α->List Value}{n0:Nat}{w a:World}{row:Option Nat}{τ:qa1}{g:Tag}{v:Value}{l:List α}(h:NS e k enc n0 w τ g v l) (c:w.grownBy a row) (d:Qeq w row):NS e k enc n0 a τ g v l:=by
 refine⟨⟨h.buf.1,?_⟩,h.low⟩
 rcases h.buf.2 with h2|⟨b,cap,ys,e1,i,j⟩
 ·exact .inl h2
 ·exact .inr ⟨b,cap,ys,e1,i.turn c d,j⟩
theorem Jg4 {α:Type}{enc:α->List Value}{t e:TypeId}{k i:Nat}{r:TypeInfo}{z:Value}(ht:Tryz.prog.underlying t=some (.slice e)) (hi:Tryz.prog.info? e=some r) (G:r.zero=some z) (I:r.size=k) (J:r.bytes=i) (L:z.cells.size=k) (M:0<k)
 {F:Fence} {nf:Nat} {D w:World} {B τ:qa1} {S:Tag->Prop} (O:Step D B w τ S) {g:Tag} {v:Value} {l:List α} (C:NS e k enc D.heap.size w τ g v l) (x:α) (R:(enc x).length=k) (U:∀u∈enc x,u.oneCell'=true) (hsz:l.length<=1000000) (X:i<=1000) {kb:Nat} (Y:kb=w.heap.size)
 {ops:Array Oper} {rest:List Oper} {o:Oper} {a:Act} {Q:Exit->Act->World->Prop} (Z:o.guard=none) (s y:Operand)
 (p:o.op = .call {callee:=.builtin .append,args:=#[s,y],argTypes:=#[t,t]}) (hs:a.eval s=v) (hy:a.eval y = .slice (some ⟨kb,0,none⟩) 1 1) {W:World} (hW:W=w.alloc (.cells (enc x).toArray e))
 (h:∀E q d,NS e k enc D.heap.size q d g E (l++[x])->Step D B q d S->Step w τ q d (fun t=>t=g)->Mod w q (fun j=>v.ownBlock=some j)->wpListIn F nf Tryz.prog ops Q rest (a.put o.dst E) q):wpListIn F nf Tryz.prog ops Q (o::rest) a W:=by
 subst Y
 subst hW
 refine wpListIn_plain Z fun K a0=>?_
 have b:=O.alloc' (.cells (enc x).toArray e)
 have n:=C.step ((Step.refl w τ Go.Proofs.YtociicnopccppaaGreat.nil).alloc' (.cells (enc x).toArray e)) id
 obtain⟨E,q,d,hr,a1,he,hm,a3⟩:=Qap (P:=Tryz.prog) (w.alloc (.cells (enc x).toArray e)) τ g t o.type e r z k i ht hi G I J L M v l.length (l.flatMap enc) n.buf
  (some ⟨w.heap.size,0,none⟩) 1 1 (enc x) (by rw[R,Nat.one_mul]) (fun h=>by cases h) (by
    intro ad had j u hu
    cases had
    exact World.news_of_block (cs:=(enc x).toArray) (t:=e) (fr:=(0,0)) (heap_alloc_new w _) j u (by simpa using hu)) U (by unfold maxLen;omega) (by
     have:(l.length+1)*i<=1000001*1000:=Nat.mul_le_mul oM X
     omega)
 unfold Oper.wpIn
 refine⟨?_,?_⟩
 ·simp[Oper.about,p,resolve,Target.leads,Sem.run_pure]
 ·rw[Oper.semAt_plain F _ _ (by rw[p];intro c a4;cases a4)]
  simp[execOp,p,resolve,invoke,builtin,hs,hy,hr,Result.andThen]
  refine a0 _ _ (h E q d ⟨?_,fun k hk=>?_⟩ ⟨b.mod.seq hm (fun k hk hS=>absurd (n.low k hS) oM),b.ext.trans he b.size⟩ (((Step.refl w τ _).alloc' _).trans ⟨hm.mono (fun k hk hS=>(n.buf.own k hS).1),he⟩) (((Mod.refl w _).alloc _).trans hm))
  ·rw[Z6,List.flatMap_append,show [x].flatMap enc=enc x by simp];exact a1
  ·rcases a3 k hk with h|h
   ·exact n.low k h
   ·have:=b.size;omega
theorem Tryz.infoU32:(Tryz.prog.info? 39).map (fun i=>(i.zero,i.size,i.bytes))=some (some (.int .u32 0),1,4):=kR
theorem Jhc {W b:World}{S:Nat->Prop}(m:Mod W b S) (c:∀k o,S k->W.heap[k]?=some o->o.isCells=true):KeepsWalks W b :=
 ⟨m.size,fun k o a d=>(m.block k (Array.getElem?_eq_some_iff.1 a).1 (fun h=>by
  have h1:=c k o h a
  rw[Obj.not_cells_of_walk d] at h1
  cases h1)).trans a⟩
abbrev keyV (k:Nat):Array Value:=#[.int .u32 k]
theorem Jh2 {w:World}{τ:qa1}{gf:Nat}{lb:Array Value}(eg:∀args w,(callFunc gf args).run Tryz.prog w = .ok (.enter gf args) w) {S:List Nat->Prop}{N:Nat}(hN:N<=1000000) (a2:SeqStopsK Fence.wide 3 Tryz.prog gf lb keyV KeepsWalks S (fun _=>True) N w) :
 Calls Tryz.prog 153 #[.slice none 0 0,.func (.func gf) #[] lb] w fun e w'=>∃v ss a,e = .returned v/\S ss/\NS 39 1 Jg2 w.heap.size w' a qga v ss/\Step w τ w' a nil:=by
 have C:=(zS w τ).alloc (.cells #[Value.slice none 0 0] 50) qay
 have q:=Own.new w τ qay 50 [.slice none 0 0]
 have E:(w.alloc (.cells #[.slice none 0 0] 50)).heap.size=w.heap.size+1:=sM
 have F:Below w.heap.size w (w.alloc (.cells #[.slice none 0 0] 50)):=(Below.refl _ w).alloc (Z0 _) _
 obtain⟨i0,hi,a3,a4,a5⟩:=info_parts Tryz.infoU32
 obtain⟨a6,L,G,a7,Hi,ak,al,am⟩:=qen C q E F hi a3 a4 a5
 clear C q E F hi a3 a4 a5
 refine(callsIn_wide (n:=4)).1 ?_
 refine callsIn_of_wp_marks Tryz.func153 rfl trivial ?_ rfl
 simp only[Tryz.ntmps153,List.size_toArray,Y4,List.length_nil,Nat.reduceAdd,Nat.reduceSub,Array.replicate_succ,Array.replicate_zero,List.push_toArray,List.append_toArray,List.nil_append,List.cons_append]
 gi_wp2
 generalize w.alloc (.cells #[.slice none 0 0] 50)=W0 at *
 refine wpIn_rangeFunc_ownG rfl oM (gf:=gf) (lb:=lb) rfl trivial eg
  a2 walksK_t (walksK_b) a7 (fun _=>rfl)
  (fun pre W=>∃a vo,Step w τ W a nil/\Own W a w.heap.size qay 50 [vo]/\NS 39 1 Jg2 w.heap.size W a qga vo pre) (fun _ _ _=>False) ?hI (fun _ _ _ _ _ hs _ _=>hs) ?h0
  (fun k=>{tmps:=#[.slice none 0 0,.func (.func gf) #[] lb,.pointer (some ⟨w.heap.size,0,none⟩),undef,.slice none 0 0,.int .u32 k,.func (.func gf) #[] lb,.int .u32 k,undef,undef,undef,undef,undef],defers:=[]}) ?assign ?body ?done ?stop
 case hI =>
  rintro pre W W' row ⟨a,vo,h1,h2,h3⟩ hg hr
  have B:Qeq W row:=fun r e=>(hr r e).2
  exact⟨a,vo,h1.turn hg (fun r e=>by have:=(hr r e).1;rw[G.out] at this;omega),h2.turn hg B,h3.turn hg B⟩
 case h0=>exact⟨_,_,a6,L,NS.nil _ _ _ _ _ _ _⟩
 case assign =>
  intro l x W K hK
  gi_wp2
  exact hK
 case body =>
  rintro l pre x W ⟨a,vo,s,d,g⟩ hlt
  obtain⟨po,co,rfl⟩:=g.val
  have c0:=d.at 0 rfl
  have M:=fun k=>g.cells (j:=k)
  have a8:=d.row
  have O:pre.length<=1000000:=oM
  obtain⟨np,R⟩:=gN pre.length
  rw[R] at g O M c0
  obtain⟨U,a9,X,an,ao,ap,aq⟩:=qdr s d g M a8 O R
  clear s d g M a8 O R
  gi_wp2_with (first
   | (refine Jg4 Tryz.underlying50 Hi ak al am rfl dC U X x rfl (by simp[Jg2,Value.oneCell']) (by rw[aq.out];exact ap) dC (kb:=W.heap.size) rfl rfl _ _ rfl rfl rfl rfl ?_
      intro v4 w4 aa y ab ac ad
      obtain⟨p4,c4,rfl⟩:=y.val
      have b:=a9.step ac (by simp[qay,qga])
      have c04:=b.at 0 rfl
      have z04:=b.fz 0
      have z:=b.tag
      obtain⟨ae,av,aw,Y,Z⟩:=qbq y ab ad b z
      clear y ab ac ad b z))
  have I:Mod W (w4.setCell ⟨w.heap.size,0,none⟩ (.slice p4 (pre.length+1) c4)) (fun k=>k=w.heap.size\/(Value.slice po np co).ownBlock=some k):=(aw.mono (fun _ _ h=>.inr h)).setCell (p:=⟨w.heap.size,0,none⟩) (fun _=>.inl rfl) _
  have af:(pre++[x]).length=pre.length+1:=sM
  have J:=ae.step ((Step.refl w4 aa (fun t=>t=qay)).set (o:=0) Z rfl (.slice p4 (pre.length+1) c4)) (fun h=>by simp[qga,qay] at h)
  rw[af] at J
  have i:∀k o,(k=w.heap.size\/(Value.slice po np co).ownBlock=some k)->W.heap[k]?=some o->o.isCells=true:=by
   rintro k o (rfl|hk) ho
   ·rw[ao.out] at ho;cases ho;rfl
   ·obtain⟨_,_,xs,hx⟩:=an k hk
    rw[hx] at ho;cases ho;rfl
  exact⟨Qh4 I i,Jhc I i,aa,.slice p4 (pre.length+1) c4,av.qa3 (Z0 _) _,Y.set 0 _,J⟩
 case done =>
  rintro D ys W hD ax ⟨a,vo,s,d,g⟩ hK
  obtain⟨po,co,rfl⟩:=g.val
  have c0:=d.at 0 rfl
  obtain⟨U,X,HK⟩:=qan s g hK
  clear s g hK
  gi_wp2
  refine⟨sM,.inl ⟨_,_,rfl,run_takeDeferred HK,?_⟩⟩
  have hg:=grownBy_putObj' W D (.deferred none)
  have B:Qeq W (some D):=fun r e=>by cases e;exact⟨_,HK,rfl⟩
  exact⟨_,results_tmp rfl _ _ _,.slice po ys.length co,ys,a,rfl,ax,X.turn hg B,U.turn hg (fun r e=>by cases e;have:=G.out;omega)⟩
 case stop =>
  rintro D c pre W _ _ h _
  exact h.elim
def qfo (B:Nat):Prop:=∀{w:World}{τ:qa1}{n0:Nat}{v:Value}{ss:List Nat},NS 39 1 Jg2 n0 w τ qga v ss->(∀k∈ss,k<4294967296)->ss.length<=B->Calls Tryz.prog 92 #[v] w fun e w'=>e = .returned (.tuple #[])/\∃ts,ts.Perm ss/\NS 39 1 Jg2 n0 w' τ qga v ts/\Mod w w' (fun j=>v.ownBlock=some j)
theorem Jhs {w:World}{τ:qa1}{gf:Nat}{lb:Array Value}(k:∀args w,(callFunc gf args).run Tryz.prog w = .ok (.enter gf args) w) {S:List Nat->Prop}{N:Nat}(l:N<=1000000) (b:SeqStopsK Fence.wide 3 Tryz.prog gf lb keyV KeepsWalks S (fun _=>True) N w) :
 Calls Tryz.prog 91 #[.func (.func gf) #[] lb] w fun e h=>∃v g a,e = .returned v/\S g/\NS 39 1 Jg2 w.heap.size h a qga v g/\Step w τ h a nil:=by
 have h2:=Jh2 (τ:=τ) k l b
 have n:=Z2 h2
 clear h2 b
 go_enter Tryz.func91,Tryz.ntmps91
 go_wp2_with fail
 refine n.mono ?_
 rintro e h ⟨v,g,a,rfl,o,d,j⟩
 obtain⟨p,c,rfl⟩:=d.val
 obtain⟨i,q⟩:=qaj d j
 clear d j
 go_wp2_with fail
 go_ret
 exact⟨_,g,a,rfl,o,i,q⟩
theorem Jhw {w:World}{τ:qa1}{gf:Nat}{lb:Array Value}(D:∀args w,(callFunc gf args).run Tryz.prog w = .ok (.enter gf args) w) {S:List Nat->Prop}{N B:Nat}(E:N<=1000000) (g:SeqStopsK Fence.wide 3 Tryz.prog gf lb keyV KeepsWalks S (fun _=>True) N w) (hB:qfo B) (y:∀b,S b->(∀k∈b,k<4294967296)/\b.length<=B) :
 Calls Tryz.prog 41 #[.func (.func gf) #[] lb] w fun e r=>∃v b ts a,e = .returned v/\S b/\ts.Perm b/\NS 39 1 Jg2 w.heap.size r a qga v ts/\Step w τ r a nil:=by
 have h1:=Jhs (τ:=τ) D E g
 have H1:=Z2 h1
 clear h1 g
 go_enter Tryz.func41,Tryz.ntmps41
 go_wp2_with fail
 refine H1.mono ?_
 rintro e r ⟨v,b,a,rfl,l,d,z⟩
 have h2:=hB d (y b l).1 (y b l).2
 have n:=fun k=>d.cells (j:=k)
 obtain⟨p,c,rfl⟩:=d.val
 obtain⟨C,F,s⟩:=qan z h2 n
 clear z h2 n d
 go_wp2_with fail
 refine F.mono ?_
 rintro e G ⟨rfl,ts,I,h,x⟩
 have i:Step w τ G a nil:=⟨C.mod.seq x (fun j hj e=>by have:=(s j e).2.1;omega),C.ext⟩
 obtain⟨o,q⟩:=qaj h i
 clear h i
 go_wp2_with fail
 go_ret
 exact⟨_,b,ts,a,rfl,l,I,o,q⟩
def qa9.act (x:qa9):qdb:=⟨x.txn,x.last,x.undo,x.state⟩
def qfx:Tag:=(331,0)
theorem Tryz.underKeysTxn (args:Array Value) (w:World):(callFunc 93 args).run Tryz.prog w = .ok (.enter 93 args) w:=enters_of Tryz.func93 kR rfl args w
theorem qa9.id_inj {X:List qa9}(hn:(qa9.ids X).Nodup) {x y:qa9}(c:x∈X) (d:y∈X) (e:x.txn=y.txn):x=y:=by
 induction X with
 | nil=>cases c
 | cons z X ih =>
   obtain⟨h1,h2⟩:=List.nodup_cons.1 hn
   rcases List.mem_cons.1 c with rfl|b
   ·rcases List.mem_cons.1 d with rfl|a
    ·rfl
    ·exact absurd (List.mem_map.2 ⟨y,a,e.symm⟩) h1
   ·rcases List.mem_cons.1 d with rfl|a
    ·exact absurd (List.mem_map.2 ⟨x,b,e⟩) h1
    ·exact ih h2 b a
def oneOf (X:List qa9) (k:Nat):qa9:=(X.find? (fun x=>x.txn==k)).getD ⟨0,0,0,0,0,[]⟩
theorem Jhi {X:List qa9}{k:Nat}(h:k∈qa9.ids X):oneOf X k∈X/\(oneOf X k).txn=k:=by
 unfold oneOf
 cases a:X.find? (fun x=>x.txn==k) with
 | none =>
   obtain⟨x,b,e⟩:=List.mem_map.1 h
   have:=List.find?_eq_none.1 a x b
   simp[e] at this
 | some x =>
   have h1:=List.mem_of_find?_eq_some a
   have h2:=List.find?_some a
   exact⟨h1,by simpa using h2⟩
theorem Jg6 {w:World}{τ:qa1}{bm bl bp:Nat}{bo:Nat->Nat}{X:List qa9}{next:Nat}(h:qbr w τ bm bl bp bo X next) {B:Nat}(hB:qfo B) (b4:X.length<=B) :
 Calls Tryz.prog 11 #[.pointer (some ⟨bm,0,none⟩)] w fun e w'=>∃(v:Value) (ts:List Nat) (R:qa1),e = .returned v/\ts.Perm (qa9.ids X)/\NS 42 4 Qct w.heap.size w' R qfx v (ts.map (fun k=>(oneOf X k).act))/\Step w τ w' R nil:=by
 obtain⟨ba,ho,hp⟩:=h.is
 have b5:=h.many
 have c2:=ho.at 2 rfl
 have a:=(zS w τ).alloc (.cells #[.map (some ba)] 102) qay
 have C:=Own.new w τ qay 102 [.map (some ba)]
 have U:=h.nil a
 obtain⟨Y,a3,a4⟩:=U.is
 have b6:Y=ba:=by
  have:=a3.at 2 rfl
  have h2:=(ho.step a id).at 2 rfl
  rw[this] at h2
  simpa using h2
 subst b6
 obtain⟨nn,D,d,E,s,-⟩:=a4.is
 have p:∀k,k<4294967296->(has D (qcw k)=true↔k∈qa9.ids X):=fun k _=>by rw[s k];exact(Qri k).symm
 have F:∀k∈qa9.ids X,k<4294967296:=fun k l=>by
  obtain⟨x,hx,rfl⟩:=List.mem_map.1 l
  have:=h.low x hx
  have:=h.nx
  omega
 have q:∀ss,Jhv D ss->ss.Perm (qa9.ids X):=fun ss hs=>(List.perm_ext_iff_of_nodup hs.1 h.nodup).2 fun k=>by
  constructor
  ·intro l
   have:=hs.2.1 k l
   exact(p k this).1 ((hs.2.2 k this).1 l)
  ·intro l
   have:=F k l
   exact(hs.2.2 k this).2 ((p k this).2 l)
 have G:(qa9.ids X).length=X.length:=Y0 ..
 have af:Maps.size D<=1000000:=by
  have:=(Qpa d E s oM).2.2.1
  have h2:=(Qpa d E s oM).1
  have h3:=Qk7 1000 _ h2 (Qpa d E s oM).2.2.2
  omega
 have I:=Jh0 Fence.wide 3 trivial rfl oM w.heap.size Y nn D _ (C.at 0 rfl) d
 have h1:=Jhw (τ:=τ.put w.heap.size qay) (gf := 93) (lb:=#[.pointer (some ⟨w.heap.size,0,none⟩)]) Tryz.underKeysTxn af I hB (fun ss hs=>⟨hs.2.1,by rw[(q ss hs).length_eq,G];exact b4⟩)
 have l:Calls Tryz.prog 42 #[.map (some Y)] w fun e w'=>e = .returned (.func (.func 93) #[] #[.pointer (some ⟨w.heap.size,0,none⟩)])/\w'=w.alloc (.cells #[.map (some Y)] 102):=by
  clear h1 I af q F p E s d U a3 a4 a C hp ho h c2
  go_enter Tryz.func42,Tryz.ntmps42
  go_wp2_with fail
  go_ret
  exact⟨rfl,rfl⟩
 obtain⟨H1,J,Hk,ag,ah,ai⟩:=qcq h1 a l q G U
 clear h1 a l q h G U C hp ho a3 a4 d I E s F p
 go_enter Tryz.func11,Tryz.ntmps11
 go_wp2_with fail
 refine Hk.mono ?_
 rintro e w' ⟨rfl,rfl⟩
 go_wp2_with fail
 refine H1.mono ?_
 rintro e w2 ⟨v,ss,ts,aj,rfl,hS,L,c,a7⟩
 have j:=J.trans a7
 have ak:=ai.nil a7
 have a8:=L.trans (ag ss hS)
 have al:=a8.length_eq
 obtain⟨pk,ck,rfl,b7,hck2,am⟩:=c.at (fun x _=>rfl) dC
 obtain⟨n,hn⟩:=gN ts.length
 have hn64:n<=64:=by rw[<-hn,al,ah.out];exact b5
 rw[hn] at b7
 rw[hn]
 obtain⟨i0,hi,an,ao,ap⟩:=info_parts Tryz.infoActive
 obtain⟨HN,r,aq,ar,b9,Hi,bb,bc,bd⟩:=qgw hn j ak a8 am hi an ao ap
 clear j ak a8 am hi an ao ap a7 c L hS H1 ai hn al
 go_wp2_with fail
 go_loopw [3,13] (fun o v wr=>∃(i:Nat) (y:qa1),i<=n/\v = .int .i64 i/\NS 42 4 Qct w.heap.size wr y qfx o ((ts.take i).map (fun k=>(oneOf X k).act))/\qbr wr y bm bl bp bo X next/\Step w τ wr y nil/\Step w2 aj wr y (fun g=>g=qfx)) (fun _ v _=>n-(intOf v).toNat)
 case atStart=>exact⟨0,aj,Z9 _,rfl,NS.nil _ _ _ _ _ _ _,aq,r,Step.refl _ _ _⟩
 case round =>
  clear aq r
  obtain⟨i,y,hi,rfl,c,hm,a,j⟩:=hrel
  obtain⟨po,co,rfl⟩:=c.val
  have Z:((ts.take i).map (fun k=>(oneOf X k).act)).length=i:=by rw[Y0,List.length_take,HN.out];omega
  by_cases be:i<n
  ·obtain⟨k,l⟩:∃k,ts[i]?=some k:=⟨_,Z3 (by rw[HN.out];exact be)⟩
   obtain⟨b,rfl,a1,hc⟩:=b9 i k l
   have av:k∈qa9.ids X:=ar.mem_iff.1 (List.mem_of_getElem? l)
   obtain⟨M,a0⟩:=Jhi av
   have b0:=cell_kept j (by simpa using hc 0 oM _ rfl) (fun e=>by rw[a1] at e;simp[qga,qfx] at e)
   obtain⟨x,hx⟩:=gN (oneOf X k)
   rw[hx] at M a0
   obtain⟨ba,ho,hp⟩:=hm.is
   have c2:=ho.at 2 rfl
   have aw:=hm.low x M
   have hnx:=hm.nx
   have a9:=hp.look k oM
   rw[<-a0,Qln M] at a9
   obtain⟨vc,z,-⟩:=(hm.ones x M).is
   obtain⟨bx,bf⟩:=gN (bo x.txn)
   rw[bf] at a9 z
   change _=Result.ok (Value.pointer (some ⟨bx,0,none⟩)) wr at a9
   have x0:=z.at 0 rfl
   have x1:=z.at 1 rfl
   have x2:=z.at 2 rfl
   have x3:=z.at 3 rfl
   rw[<-a0] at b0
   rw[Z]
   rw[Z] at c
   have hltI:(i:Int)<n:=oM
   have O:(ts.take (i+1)).map (fun k=>(oneOf X k).act)=(ts.take i).map (fun k=>(oneOf X k).act)++[x.act]:=by
    rw[List.take_add_one,l,Option.toList_some,List.map_append,List.map_singleton,hx]
   have ax:((ts.take i).map (fun k=>(oneOf X k).act)).length<=1000000:=by rw[Z];omega
   obtain⟨aa,Hm,J,r,ab,bg⟩:=qcq c hm a j O ax
   clear c hm a j O ax Z ho hp z hc a1 l av M a0 aw
   go_wp2_with (at_builtin;refine Jb4 Tryz.underlying34 Hi bb bc bd rfl dC J aa x.act rfl (by simp[Qct,Value.oneCell']) bg dC (kb:=wr.heap.size) rfl rfl _ _ rfl rfl rfl rfl ?_;intro v' w' R hb he ay;obtain⟨Hb,He,az⟩:=qan hb he ay;clear hb he ay)
   go_round
   case rel=>exact⟨i+1,R,oM,sM,by rw[ab.out];exact Hb,Hm.step az (fun g hg e=>by subst e;simp[Qai,qfx] at hg),He,r.trans az⟩
   case measure=>simp[intOf];omega
  ·have bh:i=n:=oM
   subst bh
   have b1:ts.take i=ts:=by rw[<-HN.out];exact List.take_length
   rw[b1] at c
   obtain⟨aa,J⟩:=qaj c a
   clear c a
   go_wp2_with fail
   go_ret
   rw[b1]
   exact⟨_,ts,y,rfl,ar,aa,J⟩
end Go.Proofs.YtociicnopccppaaGreat
namespace Go.Proofs.YtociicnopccppaaGreat
open Go.RowKit Go.Maps
def qgk (x:qdb):Value:=.agg #[.int .u32 x.txn,.int .u64 x.last,.int .u64 x.undo,.int .u8 x.state]
def qj7 (n:Nat):Value:=.int .u64 n
structure qb4 where
 f:Nat->Option qdb
 pg:Nat->Option Nat
 won:List Nat
def qff {α:Type}(f:Nat->Option α) (k:Nat) (v:Option α):Nat->Option α:=fun j=>if j=k then v else f j
def qb4.stain (S:qb4) (p n:Nat):qb4:={S with pg:=qff S.pg p (some (match S.pg p with|some o=>min n o|none=>n))}
def qb4.change (S:qb4) (k:Nat) (d:qdb->qdb):qb4:=match S.f k with
 | some x=>{S with f:=qff S.f k (some (d x))}
 | none=>S
def qfq:Tag:=(340,0)
def qd2:Tag:=(340,1)
def qe2:Tag:=(340,2)
def qe1:Tag:=(340,3)
def tCp:Tag:=(341,0)
def qeq (g:Tag):Prop:=g.1=340
def qbk (g:Tag):Prop:=qeq g\/g=tCp
structure TabAt (w:World) (τ:qa1) (bt c:Nat) (S:qb4):Prop where
 is:∃bx bp vw,Own w τ bt qfq 173 [.map (some bx),.map (some bp),vw,.slice none 0 0,.int .i64 0,.int .i64 0]/\qf6 w τ bx qd2 c (fun k=>(S.f k).map qgk)/\qf6 w τ bp qe2 c (fun k=>(S.pg k).map qj7)/\NS 39 1 Jg2 0 w τ qe1 vw S.won
theorem qf6.le {w:World}{τ:qa1}{b c d:Nat}{g:Tag}{f:Nat->Option Value}(h:qf6 w τ b g c f) (hd:c<=d):qf6 w τ b g d f:=by
 obtain⟨D,⟨es,k,a,e,a3,a4⟩,r⟩:=h.is
 exact⟨h.tag,D,⟨es,k,a,e,Y3 a3 hd,a4⟩,r⟩
theorem qf6.ext {w:World}{τ:qa1}{b c:Nat}{g:Tag}{f a:Nat->Option Value}(h:qf6 w τ b g c f) (e:∀k,f k=a k):qf6 w τ b g c a:=(funext e:f=a)▸h
theorem TabAt.step {w d:World}{τ a:qa1}{T:Tag->Prop}{bt c:Nat}{S:qb4}(h:TabAt w τ bt c S) (m:Step w τ d a T) (b:∀g,qeq g->¬T g):TabAt d a bt c S:=by
 obtain⟨bx,bp,e,h1,h2,i,j⟩:=h.is
 exact⟨bx,bp,e,h1.step m (b _ rfl),h2.step m (b _ rfl),i.step m (b _ rfl),j.step m (b _ rfl)⟩
theorem TabAt.le {w:World}{τ:qa1}{bt c d:Nat}{S:qb4}(h:TabAt w τ bt c S) (hd:c<=d):TabAt w τ bt d S:=by
 obtain⟨bx,bp,a,h1,h2,b,e⟩:=h.is
 exact⟨bx,bp,a,h1,h2.le hd,b.le hd,e⟩
def RtD (w:World) (τ:qa1) (bt c:Nat) (S:qb4) (e:Ending) (w':World):Prop:=e = .returned (.tuple #[])/\∃τ',TabAt w' τ' bt c S/\Step w τ w' τ' qbk
theorem Jl2 (a b:Nat):min (a:Int) (b:Int)=((min a b:Nat):Int):=oM
theorem Jj5 {w:World}{τ:qa1}{bt c:Nat}{S:qb4}(h:TabAt w τ bt c S) (p n:Nat) (y:p<4294967296) (hn:n<18446744073709551616) (B:c<maxLen) :
 Calls Tryz.prog 126 #[.pointer (some ⟨bt,0,none⟩),.int .u32 p,.int .u64 n] w (RtD w τ bt (c+1) (S.stain p n)):=by
 obtain⟨bx,bp,C,h1,h2,q,s⟩:=h.is
 have c1:=h1.at 1 rfl
 have j:=q.look Tryz.underlying171 (Tryz.zeroValue40 w) p y true
 cases x:S.pg p with
 | none =>
   rw[x] at j
   change _=Result.ok (Value.tuple #[Value.int .u64 0,Value.bool false]) w at j
   obtain⟨z,l,r,a⟩:=q.store Tryz.underlying171 p (qj7 n) B y
   have b:TabAt z τ bt (c+1) (S.stain p n):=⟨bx,bp,C,h1.step a (by simp[qfq,qe2]),(h2.step a (by simp[qd2,qe2])).le (Nat.le_succ _),r.ext (fun k=>by
    unfold qb4.stain qff qgj
    rw[x]
    dsimp only
    split <;> rfl),s.step a (by simp[qe1,qe2])⟩
   have d:=a.mono (T:=qbk) (fun g h=>by subst h;exact .inl rfl)
   unfold qj7 at l
   obtain⟨e,i⟩:=qaj b d
   clear b d h h1 h2 q s r a
   go_enter Tryz.func126,Tryz.ntmps126
   go_wp2_with fail
   go_end0
   exact⟨rfl,τ,e,i⟩
 | some o =>
   rw[x] at j
   change _=Result.ok (Value.tuple #[Value.int .u64 o,Value.bool true]) w at j
   obtain⟨z,l,r,a⟩:=q.store Tryz.underlying171 p (qj7 (min n o)) B y
   have b:TabAt z τ bt (c+1) (S.stain p n):=⟨bx,bp,C,h1.step a (by simp[qfq,qe2]),(h2.step a (by simp[qd2,qe2])).le (Nat.le_succ _),r.ext (fun k=>by
    unfold qb4.stain qff qgj
    rw[x]
    dsimp only
    split <;> rfl),s.step a (by simp[qe1,qe2])⟩
   have d:=a.mono (T:=qbk) (fun g h=>by subst h;exact .inl rfl)
   unfold qj7 at l
   have hmin:=Jl2 n o
   obtain⟨e,i⟩:=qaj b d
   clear b d h h1 h2 q s r a
   go_enter Tryz.func126,Tryz.ntmps126
   go_wp2_with fail
   go_end0
   exact⟨rfl,τ,e,i⟩
def tEb:Tag:=(341,1)
def tRb:Tag:=(341,2)
def Ji3 (x:qdb):List Value:=[.int .u32 x.txn,.int .u64 x.last,.int .u64 x.undo,.int .u8 x.state]
def qjz (W:World) (T:qa1) (b:Nat) (x:qdb) (e:Ending) (w':World):Prop:=e = .returned (.tuple #[])/\Own w' T b tCp 42 (Ji3 x)/\Step W T w' T (fun t=>t=tCp)
theorem Jk9 {W:World}{T:qa1}{b be br:Nat}{x:qdb}(h:Own W T b tCp 42 (Ji3 x)) {lsn kd nx:Nat} (he:W.cell? ⟨be,0,none⟩=some (.int .u64 lsn)) (h0:W.cell? ⟨br,0,none⟩=some (.int .u8 kd)) (h3:W.cell? ⟨br,3,none⟩=some (.int .u64 nx)) (hbe:be≠b) (hbr:br≠b) :
 Calls Tryz.prog 128 #[.pointer (some ⟨b,0,none⟩),.pointer (some ⟨be,0,none⟩),.pointer (some ⟨br,0,none⟩)] W (qjz W T b {x with last:=lsn,undo:=if kd=3 then nx else lsn}):=by
 unfold Ji3 at h
 have c1:=h.at 1 rfl
 have z1:=h.fz 1
 have c2:=h.at 2 rfl
 have z2:=h.fz 2
 have l:=h.set 1 (.int .u64 lsn)
 have g:=l.set 2 (.int .u64 lsn)
 have j:=g.set 2 (.int .u64 nx)
 have i:Step W T ((W.setCell ⟨b,1,none⟩ (.int .u64 lsn)).setCell ⟨b,2,none⟩ (.int .u64 lsn)) T (fun t=>t=tCp):=((Step.refl W T (fun t=>t=tCp)).set (o:=1) h.tag rfl _).set (o:=2) h.tag rfl _
 have k:Step W T (((W.setCell ⟨b,1,none⟩ (.int .u64 lsn)).setCell ⟨b,2,none⟩ (.int .u64 lsn)).setCell ⟨b,2,none⟩ (.int .u64 nx)) T (fun t=>t=tCp):=i.set (o:=2) h.tag rfl _
 by_cases n:kd=3
 ·subst n
  rw[if_pos rfl]
  obtain⟨a,c,d,e⟩:=qb9 g j i k
  clear g j i k h l
  go_enter Tryz.func128,Tryz.ntmps128
  go_wp2_with fail
  go_region
  go_wp2_with fail
  go_end0
  exact⟨rfl,c.step ((zS _ T).drew) id,e.drew⟩
 ·rw[if_neg n]
  have hb:((kd:Int)==3)=false:=by simp;omega
  obtain⟨a,c,d,e⟩:=qb9 g j i k
  clear g j i k h l
  go_enter Tryz.func128,Tryz.ntmps128
  go_wp2_with fail
  go_region
  go_wp2_with fail
  go_end0
  exact⟨rfl,a.step ((zS _ T).drew) id,d.drew⟩
theorem Jk8 {W:World}{T:qa1}{b be:Nat}{x:qdb}(h:Own W T b tCp 42 (Ji3 x)) {lsn:Nat} (he:W.cell? ⟨be,0,none⟩=some (.int .u64 lsn)) (hbe:be≠b) :
 Calls Tryz.prog 129 #[.pointer (some ⟨b,0,none⟩),.pointer (some ⟨be,0,none⟩)] W (qjz W T b {x with last:=lsn,state:=2}):=by
 unfold Ji3 at h
 have c1:=h.at 1 rfl
 have z1:=h.fz 1
 have c3:=h.at 3 rfl
 have z3:=h.fz 3
 have d:=(h.set 1 (.int .u64 lsn)).set 3 (.int .u8 2)
 have e:Step W T ((W.setCell ⟨b,1,none⟩ (.int .u64 lsn)).setCell ⟨b,3,none⟩ (.int .u8 2)) T (fun t=>t=tCp):=((Step.refl W T (fun t=>t=tCp)).set (o:=1) h.tag rfl _).set (o:=3) h.tag rfl _
 obtain⟨a,c⟩:=qaj d e
 clear d e h
 go_enter Tryz.func129,Tryz.ntmps129
 go_wp2_with fail
 go_end0
 exact⟨rfl,a,c⟩
theorem Jk7 {W:World}{T:qa1}{b be:Nat}{x:qdb}(h:Own W T b tCp 42 (Ji3 x)) {lsn:Nat} (he:W.cell? ⟨be,0,none⟩=some (.int .u64 lsn)) (hbe:be≠b) :
 Calls Tryz.prog 130 #[.pointer (some ⟨b,0,none⟩),.pointer (some ⟨be,0,none⟩)] W (qjz W T b {x with last:=lsn,state:=3}):=by
 unfold Ji3 at h
 have c1:=h.at 1 rfl
 have z1:=h.fz 1
 have c3:=h.at 3 rfl
 have z3:=h.fz 3
 have d:=(h.set 1 (.int .u64 lsn)).set 3 (.int .u8 3)
 have e:Step W T ((W.setCell ⟨b,1,none⟩ (.int .u64 lsn)).setCell ⟨b,3,none⟩ (.int .u8 3)) T (fun t=>t=tCp):=((Step.refl W T (fun t=>t=tCp)).set (o:=1) h.tag rfl _).set (o:=3) h.tag rfl _
 obtain⟨a,c⟩:=qaj d e
 clear d e h
 go_enter Tryz.func130,Tryz.ntmps130
 go_wp2_with fail
 go_end0
 exact⟨rfl,a,c⟩
end Go.Proofs.YtociicnopccppaaGreat
namespace Go.Proofs.YtociicnopccppaaGreat
open Go.RowKit
def qb4.know (S:qb4) (a:qdb):qb4:=match S.f a.txn with
 | some _=>S
 | none=>{S with f:=qff S.f a.txn (some a)}
def qb4.known (S:qb4) (r:qak):qb4:=r.pages.foldl (fun S p=>S.stain p.1 p.2) (r.qbm.foldl qb4.know S)
def qb4.take (S:qb4) (x:Nat×qak):qb4 :=
 if x.2.kind=8 then S.known x.2
 else if x.2.kind=1 then {S with f:=qff S.f x.2.txn (some ⟨x.2.txn,x.1,x.1,1⟩)}
 else if x.2.kind=2\/x.2.kind=3 then (if (x.2.change.had || x.2.change.has)=true then S.stain x.2.change.page x.1 else S).change x.2.txn (fun a=>{a with last:=x.1,undo:=if x.2.kind=3 then x.2.next else x.1})
 else if x.2.kind=4 then ({S with won:=S.won++[x.2.txn]}:qb4).change x.2.txn (fun a=>{a with last:=x.1,state:=2})
 else if x.2.kind=5 then S.change x.2.txn (fun a=>{a with last:=x.1,state:=3})
 else if x.2.kind=6 then {S with f:=qff S.f x.2.txn none}
 else S
def qb4.zero:qb4:=⟨fun _=>none,fun _=>none,[]⟩
structure qdt (A:Nat->Prop) (N:Nat) (S:qb4):Prop where
 f:∀k,(S.f k).isSome=true->A k
 pg:∀k,(S.pg k).isSome=true->k<N
theorem qdt.stain {A:Nat->Prop}{N:Nat}{S:qb4}(h:qdt A N S) {p:Nat}(b:p<N) (n:Nat):qdt A N (S.stain p n):=⟨h.f,fun k a=>by
 by_cases e:k=p
 ·rw[e];exact b
 ·unfold qb4.stain qff at a
  dsimp only at a
  rw[if_neg e] at a
  exact h.pg k a⟩
theorem qdt.change {A:Nat->Prop}{N:Nat}{S:qb4}(h:qdt A N S) (j:Nat) (d:qdb->qdb):qdt A N (S.change j d):=by
 unfold qb4.change
 cases b:S.f j with
 | none=>exact h
 | some x =>
   refine⟨fun k a=>?_,h.pg⟩
   by_cases e:k=j
   ·rw[e];exact h.f j (by rw[b];rfl)
   ·unfold qff at a
    dsimp only at a
    rw[if_neg e] at a
    exact h.f k a
theorem qdt.put {A B:Nat->Prop}{N:Nat}{S:qb4}(h:qdt A N S) {j:Nat}(v:Option qdb) (b:∀k,k≠j->A k->B k) (c:v.isSome=true->B j):qdt B N {S with f:=qff S.f j v}:=⟨fun k a=>by
 unfold qff at a
 dsimp only at a
 by_cases e:k=j
 ·rw[if_pos e] at a
  rw[e];exact c a
 ·rw[if_neg e] at a
  exact b k e (h.f k a),h.pg⟩
theorem qdt.take {A:Nat->Prop}{N:Nat}{S:qb4}(h:qdt A N S) (x:Nat×qak) (d:(x.2.change.had=true\/x.2.change.has=true)->x.2.change.page<N) (g:∀p∈x.2.pages,p.1<N):qdt (Ji1 A x.2) N (S.take x):=by
 unfold qb4.take Ji1
 by_cases k8:x.2.kind=8
 ·simp only[if_pos k8]
  unfold qb4.known
  have h1:∀(l:List qdb) (S:qb4),qdt (fun k=>A k\/∃t∈x.2.qbm,t.txn=k) N S->(∀t∈l,t∈x.2.qbm)->qdt (fun k=>A k\/∃t∈x.2.qbm,t.txn=k) N (l.foldl qb4.know S):=fun l=>by
   induction l with
   | nil=>exact fun S h _=>h
   | cons a l ih =>
     intro S h hl
     refine ih _ ?_ (fun t b=>hl t (Y2 _ b))
     unfold qb4.know
     cases hs:S.f a.txn with
     | some _=>exact h
     | none=>exact h.put _ (fun _ _ q=>q) (fun _=>.inr ⟨a,hl a sM,rfl⟩)
  have h2:∀(B:Nat->Prop) (l:List (Nat×Nat)) (S:qb4),qdt B N S->(∀p∈l,p.1<N)->qdt B N (l.foldl (fun S p=>S.stain p.1 p.2) S):=fun B l=>by
   induction l with
   | nil=>exact fun S h _=>h
   | cons a l ih=>exact fun S h hl=>ih _ (h.stain (hl a sM) _) (fun t b=>hl t (Y2 _ b))
  exact h2 _ _ _ (h1 _ _ ⟨fun k i=>.inl (h.f k i),h.pg⟩ (fun _ q=>q)) g
 simp only[if_neg k8]
 by_cases k1:x.2.kind=1
 ·simp only[if_pos k1]
  exact h.put _ (fun _ _ q=>.inl q) (fun _=>.inr rfl)
 simp only[if_neg k1]
 by_cases c:x.2.kind=6
 ·simp only[if_pos c]
  rw[if_neg oM,if_neg oM,if_neg oM]
  exact h.put _ (fun k e q=>⟨q,e⟩) (fun q=>by cases q)
 simp only[if_neg c]
 split
 ·refine qdt.change ?_ _ _
  split
  ·next q=>exact h.stain (d (by simpa using q)) _
  ·exact h
 ·split
  ·exact qdt.change (S:={S with won:=S.won++[x.2.txn]}) ⟨h.f,h.pg⟩ _ _
  ·split
   ·exact h.change _ _
   ·exact h
theorem qdt.takes {N:Nat}(l:List (Nat×qak)):∀{A:Nat->Prop}{S:qb4},qdt A N S->(∀x∈l,((x.2.change.had=true\/x.2.change.has=true)->x.2.change.page<N)/\∀p∈x.2.pages,p.1<N)->qdt (alive A (l.map Prod.snd)) N (l.foldl qb4.take S):=by
 induction l with
 | nil=>exact fun h _=>h
 | cons a l ih=>exact fun h hl=>ih (h.take a (hl a sM).1 (hl a sM).2) (fun x b=>hl x (Y2 _ b))
end Go.Proofs.YtociicnopccppaaGreat
namespace Go.Proofs.YtociicnopccppaaGreat
open Go.RowKit Go.Maps
theorem TabAt.born {w:World}{τ:qa1}{bt c:Nat}{S:qb4}(h:TabAt w τ bt c S) (o:Obj) (g:Tag):TabAt (w.alloc o) (τ.put w.heap.size g) bt c S:=h.step ((zS w τ).alloc o g) (fun _ _ q=>q)
theorem Jkp {w:World}{τ:qa1}{bt c be br:Nat}{S:qb4}(h:TabAt w τ bt c S) (k:Nat) (hk:k<4294967296) (hc:c<maxLen) {lsn kd nx nz:Nat}(he:w.cell? ⟨be,0,none⟩=some (.int .u64 lsn)) (h0:w.cell? ⟨br,0,none⟩=some (.int .u8 kd)) (Z:w.cell? ⟨br,3,none⟩=some (.int .u64 nx)) (a0:(if kd=3 then nx else lsn)=nz) :
 Calls Tryz.prog 127 #[.pointer (some ⟨bt,0,none⟩),.int .u32 k,.func (.func 128) #[] #[.pointer (some ⟨be,0,none⟩),.pointer (some ⟨br,0,none⟩)]] w (RtD w τ bt (c+1) (S.change k (fun a=>{a with last:=lsn,undo:=nz}))):=by
 obtain⟨bx,bp,vw,h1,h2,I,J⟩:=h.is
 have c0:=h1.at 0 rfl
 have s:=h2.look Tryz.underlying170 (Tryz.zeroValue42 w) k hk true
 have hlt:=qb0 he
 have hlt2:=qb0 h0
 obtain⟨b,hb⟩:=gN w.heap.size
 cases L:S.f k with
 | none =>
   rw[L] at s
   change _=Result.ok (Value.tuple #[Value.agg #[.int .u32 0,.int .u64 0,.int .u64 0,.int .u8 0],Value.bool false]) w at s
   have y:S.change k (fun a=>{a with last:=lsn,undo:=nz})=S:=by unfold qb4.change;rw[L]
   rw[y]
   have d:=(h.born (.cells #[.int .u32 0,.int .u64 0,.int .u64 0,.int .u8 0] 42) tCp).le (Nat.le_succ c)
   have M:=(Step.refl w τ qbk).alloc (.cells #[.int .u32 0,.int .u64 0,.int .u64 0,.int .u8 0] 42) tCp
   obtain⟨p,a2⟩:=qaj d M
   clear d M h h1 h2 I J
   go_enter Tryz.func127,Tryz.ntmps127
   go_wp2_with fail
   go_end0
   exact⟨rfl,_,p,a2⟩
 | some x =>
   rw[L] at s
   change _=Result.ok (Value.tuple #[Value.agg #[.int .u32 x.txn,.int .u64 x.last,.int .u64 x.undo,.int .u8 x.state],Value.bool true]) w at s
   have o:=(zS w τ).alloc (.cells #[.int .u32 x.txn,.int .u64 x.last,.int .u64 x.undo,.int .u8 x.state] 42) tCp
   have z:Own _ _ _ tCp 42 (Ji3 x):=Own.born w τ tCp 42 #[.int .u32 x.txn,.int .u64 x.last,.int .u64 x.undo,.int .u8 x.state]
   have E:=h.born (.cells #[.int .u32 x.txn,.int .u64 x.last,.int .u64 x.undo,.int .u8 x.state] 42) tCp
   generalize τ.put w.heap.size tCp=τ1 at *
   obtain⟨w1,F⟩:=gN (w.alloc (.cells #[.int .u32 x.txn,.int .u64 x.last,.int .u64 x.undo,.int .u8 x.state] 42))
   rw[F] at o z E
   rw[hb] at z
   have n:=Jk9 z (cell_kept o he (fun q=>q)) (cell_kept o h0 (fun q=>q)) (cell_kept o Z (fun q=>q)) oM oM
   rw[a0] at n
   obtain⟨O,R,G,a3,Hb,Hs⟩:=qcq o E n F hb L
   clear o E n F hb L h h1 h2 I J z
   go_enter Tryz.func127,Tryz.ntmps127
   go_wp2_with fail
   rw[Hb.out]
   rw[a3.out]
   refine G.mono ?_
   rintro e w2 ⟨rfl,i,r⟩
   have B:=(zS w2 τ1).drew
   have C:=(R.step r (fun g Y q=>by subst q;cases Y)).step B (fun _ _ q=>q)
   have i:=i.step B (fun q=>q)
   have r:=r.trans (B.mono (T:=fun t=>t=tCp) (fun _ q=>q.elim))
   obtain⟨a4,a5,a6,h1,h2,I,J⟩:=C.is
   have e0:=h1.at 0 rfl
   unfold Ji3 at i
   have f0:=i.at 0 rfl
   have f1:=i.at 1 rfl
   have f2:=i.at 2 rfl
   have f3:=i.at 3 rfl
   obtain⟨w3,U,Y,l⟩:=h2.store Tryz.underlying170 k (qgk ({x with last:=lsn,undo:=nz})) hc hk
   have y:S.change k (fun a=>{a with last:=lsn,undo:=nz})={S with f:=qff S.f k (some ({x with last:=lsn,undo:=nz}))}:=by unfold qb4.change;rw[Hs.out]
   have d:TabAt w3 τ1 bt (c+1) {S with f:=qff S.f k (some ({x with last:=lsn,undo:=nz}))}:=⟨a4,a5,a6,h1.step l (by simp[qfq,qd2]),Y.ext (fun j=>by
    unfold qff qgj
    dsimp only
    split <;> rfl),(I.step l (by simp[qd2,qe2])).le (Nat.le_succ _),J.step l (by simp[qe1,qd2])⟩
   have D:Step w τ w3 τ1 qbk:=((O.mono (T:=qbk) (fun _ q=>q.elim)).trans (r.mono (T:=qbk) (fun _ q=>.inr q))).trans (l.mono (T:=qbk) (fun g q=>by subst q;exact .inl rfl))
   unfold qgk at U
   dsimp only at f0 f1 f2 f3 U
   obtain⟨p,X,a7⟩:=qan d D y
   clear d D y h1 h2 I J C i Y l r R O B
   go_wp2_with fail
   go_region
   go_wp2_with fail
   go_end0
   exact⟨rfl,τ1,by rw[a7.out];exact p,X⟩
theorem Jko {w:World}{τ:qa1}{bt c be:Nat}{S:qb4}(h:TabAt w τ bt c S) (k:Nat) (hk:k<4294967296) (hc:c<maxLen) {lsn:Nat}(he:w.cell? ⟨be,0,none⟩=some (.int .u64 lsn)) :
 Calls Tryz.prog 127 #[.pointer (some ⟨bt,0,none⟩),.int .u32 k,.func (.func 129) #[] #[.pointer (some ⟨be,0,none⟩)]] w (RtD w τ bt (c+1) (S.change k (fun a=>{a with last:=lsn,state:=2}))):=by
 obtain⟨bx,bp,vw,h1,h2,J,L⟩:=h.is
 have c0:=h1.at 0 rfl
 have r:=h2.look Tryz.underlying170 (Tryz.zeroValue42 w) k hk true
 have hlt:=qb0 he
 obtain⟨b,Z⟩:=gN w.heap.size
 cases M:S.f k with
 | none =>
   rw[M] at r
   change _=Result.ok (Value.tuple #[Value.agg #[.int .u32 0,.int .u64 0,.int .u64 0,.int .u8 0],Value.bool false]) w at r
   have s:S.change k (fun a=>{a with last:=lsn,state:=2})=S:=by unfold qb4.change;rw[M]
   rw[s]
   have d:=(h.born (.cells #[.int .u32 0,.int .u64 0,.int .u64 0,.int .u8 0] 42) tCp).le (Nat.le_succ c)
   have O:=(Step.refl w τ qbk).alloc (.cells #[.int .u32 0,.int .u64 0,.int .u64 0,.int .u8 0] 42) tCp
   obtain⟨n,a0⟩:=qaj d O
   clear d O h h1 h2 J L
   go_enter Tryz.func127,Tryz.ntmps127
   go_wp2_with fail
   go_end0
   exact⟨rfl,_,n,a0⟩
 | some x =>
   rw[M] at r
   change _=Result.ok (Value.tuple #[Value.agg #[.int .u32 x.txn,.int .u64 x.last,.int .u64 x.undo,.int .u8 x.state],Value.bool true]) w at r
   have y:=(zS w τ).alloc (.cells #[.int .u32 x.txn,.int .u64 x.last,.int .u64 x.undo,.int .u8 x.state] 42) tCp
   have z:Own _ _ _ tCp 42 (Ji3 x):=Own.born w τ tCp 42 #[.int .u32 x.txn,.int .u64 x.last,.int .u64 x.undo,.int .u8 x.state]
   have E:=h.born (.cells #[.int .u32 x.txn,.int .u64 x.last,.int .u64 x.undo,.int .u8 x.state] 42) tCp
   generalize τ.put w.heap.size tCp=τ1 at *
   obtain⟨w1,F⟩:=gN (w.alloc (.cells #[.int .u32 x.txn,.int .u64 x.last,.int .u64 x.undo,.int .u8 x.state] 42))
   rw[F] at y z E
   rw[Z] at z
   have o:=Jk8 z (cell_kept y he (fun q=>q)) oM
   obtain⟨R,U,G,a1,Hb,Hs⟩:=qcq y E o F Z M
   clear y E o F Z M h h1 h2 J L z
   go_enter Tryz.func127,Tryz.ntmps127
   go_wp2_with fail
   rw[Hb.out]
   rw[a1.out]
   refine G.mono ?_
   rintro e w2 ⟨rfl,i,p⟩
   have B:=(zS w2 τ1).drew
   have C:=(U.step p (fun g Y q=>by subst q;cases Y)).step B (fun _ _ q=>q)
   have i:=i.step B (fun q=>q)
   have p:=p.trans (B.mono (T:=fun t=>t=tCp) (fun _ q=>q.elim))
   obtain⟨a2,a3,a4,h1,h2,J,L⟩:=C.is
   have e0:=h1.at 0 rfl
   unfold Ji3 at i
   have f0:=i.at 0 rfl
   have f1:=i.at 1 rfl
   have f2:=i.at 2 rfl
   have f3:=i.at 3 rfl
   obtain⟨w3,I,Y,l⟩:=h2.store Tryz.underlying170 k (qgk ({x with last:=lsn,state:=2})) hc hk
   have s:S.change k (fun a=>{a with last:=lsn,state:=2})={S with f:=qff S.f k (some ({x with last:=lsn,state:=2}))}:=by unfold qb4.change;rw[Hs.out]
   have d:TabAt w3 τ1 bt (c+1) {S with f:=qff S.f k (some ({x with last:=lsn,state:=2}))}:=⟨a2,a3,a4,h1.step l (by simp[qfq,qd2]),Y.ext (fun j=>by
    unfold qff qgj
    dsimp only
    split <;> rfl),(J.step l (by simp[qd2,qe2])).le (Nat.le_succ _),L.step l (by simp[qe1,qd2])⟩
   have D:Step w τ w3 τ1 qbk:=((R.mono (T:=qbk) (fun _ q=>q.elim)).trans (p.mono (T:=qbk) (fun _ q=>.inr q))).trans (l.mono (T:=qbk) (fun g q=>by subst q;exact .inl rfl))
   unfold qgk at I
   dsimp only at f0 f1 f2 f3 I
   rw[show ((2:Nat):Int)=2 from rfl] at I f3
   obtain⟨n,X,a5⟩:=qan d D s
   clear d D s h1 h2 J L C i Y l p U R B
   go_wp2_with fail
   go_region
   go_wp2_with fail
   go_end0
   exact⟨rfl,τ1,by rw[a5.out];exact n,X⟩
theorem Jkn {w:World}{τ:qa1}{bt c be:Nat}{S:qb4}(h:TabAt w τ bt c S) (k:Nat) (hk:k<4294967296) (hc:c<maxLen) {lsn:Nat}(he:w.cell? ⟨be,0,none⟩=some (.int .u64 lsn)) :
 Calls Tryz.prog 127 #[.pointer (some ⟨bt,0,none⟩),.int .u32 k,.func (.func 130) #[] #[.pointer (some ⟨be,0,none⟩)]] w (RtD w τ bt (c+1) (S.change k (fun a=>{a with last:=lsn,state:=3}))):=by
 obtain⟨bx,bp,vw,h1,h2,J,L⟩:=h.is
 have c0:=h1.at 0 rfl
 have r:=h2.look Tryz.underlying170 (Tryz.zeroValue42 w) k hk true
 have hlt:=qb0 he
 obtain⟨b,Z⟩:=gN w.heap.size
 cases M:S.f k with
 | none =>
   rw[M] at r
   change _=Result.ok (Value.tuple #[Value.agg #[.int .u32 0,.int .u64 0,.int .u64 0,.int .u8 0],Value.bool false]) w at r
   have s:S.change k (fun a=>{a with last:=lsn,state:=3})=S:=by unfold qb4.change;rw[M]
   rw[s]
   have d:=(h.born (.cells #[.int .u32 0,.int .u64 0,.int .u64 0,.int .u8 0] 42) tCp).le (Nat.le_succ c)
   have O:=(Step.refl w τ qbk).alloc (.cells #[.int .u32 0,.int .u64 0,.int .u64 0,.int .u8 0] 42) tCp
   obtain⟨n,a0⟩:=qaj d O
   clear d O h h1 h2 J L
   go_enter Tryz.func127,Tryz.ntmps127
   go_wp2_with fail
   go_end0
   exact⟨rfl,_,n,a0⟩
 | some x =>
   rw[M] at r
   change _=Result.ok (Value.tuple #[Value.agg #[.int .u32 x.txn,.int .u64 x.last,.int .u64 x.undo,.int .u8 x.state],Value.bool true]) w at r
   have y:=(zS w τ).alloc (.cells #[.int .u32 x.txn,.int .u64 x.last,.int .u64 x.undo,.int .u8 x.state] 42) tCp
   have z:Own _ _ _ tCp 42 (Ji3 x):=Own.born w τ tCp 42 #[.int .u32 x.txn,.int .u64 x.last,.int .u64 x.undo,.int .u8 x.state]
   have E:=h.born (.cells #[.int .u32 x.txn,.int .u64 x.last,.int .u64 x.undo,.int .u8 x.state] 42) tCp
   generalize τ.put w.heap.size tCp=τ1 at *
   obtain⟨w1,F⟩:=gN (w.alloc (.cells #[.int .u32 x.txn,.int .u64 x.last,.int .u64 x.undo,.int .u8 x.state] 42))
   rw[F] at y z E
   rw[Z] at z
   have o:=Jk7 z (cell_kept y he (fun q=>q)) oM
   obtain⟨R,U,G,a1,Hb,Hs⟩:=qcq y E o F Z M
   clear y E o F Z M h h1 h2 J L z
   go_enter Tryz.func127,Tryz.ntmps127
   go_wp2_with fail
   rw[Hb.out]
   rw[a1.out]
   refine G.mono ?_
   rintro e w2 ⟨rfl,i,p⟩
   have B:=(zS w2 τ1).drew
   have C:=(U.step p (fun g Y q=>by subst q;cases Y)).step B (fun _ _ q=>q)
   have i:=i.step B (fun q=>q)
   have p:=p.trans (B.mono (T:=fun t=>t=tCp) (fun _ q=>q.elim))
   obtain⟨a2,a3,a4,h1,h2,J,L⟩:=C.is
   have e0:=h1.at 0 rfl
   unfold Ji3 at i
   have f0:=i.at 0 rfl
   have f1:=i.at 1 rfl
   have f2:=i.at 2 rfl
   have f3:=i.at 3 rfl
   obtain⟨w3,I,Y,l⟩:=h2.store Tryz.underlying170 k (qgk ({x with last:=lsn,state:=3})) hc hk
   have s:S.change k (fun a=>{a with last:=lsn,state:=3})={S with f:=qff S.f k (some ({x with last:=lsn,state:=3}))}:=by unfold qb4.change;rw[Hs.out]
   have d:TabAt w3 τ1 bt (c+1) {S with f:=qff S.f k (some ({x with last:=lsn,state:=3}))}:=⟨a2,a3,a4,h1.step l (by simp[qfq,qd2]),Y.ext (fun j=>by
    unfold qff qgj
    dsimp only
    split <;> rfl),(J.step l (by simp[qd2,qe2])).le (Nat.le_succ _),L.step l (by simp[qe1,qd2])⟩
   have D:Step w τ w3 τ1 qbk:=((R.mono (T:=qbk) (fun _ q=>q.elim)).trans (p.mono (T:=qbk) (fun _ q=>.inr q))).trans (l.mono (T:=qbk) (fun g q=>by subst q;exact .inl rfl))
   unfold qgk at I
   dsimp only at f0 f1 f2 f3 I
   rw[show ((3:Nat):Int)=3 from rfl] at I f3
   obtain⟨n,X,a5⟩:=qan d D s
   clear d D s h1 h2 J L C i Y l p U R B
   go_wp2_with fail
   go_region
   go_wp2_with fail
   go_end0
   exact⟨rfl,τ1,by rw[a5.out];exact n,X⟩
theorem Jj9 (S:qb4) {l:List qdb}{i:Nat}{a:qdb}(h:l[i]?=some a):(l.take (i+1)).foldl qb4.know S=((l.take i).foldl qb4.know S).know a:=by
 rw[List.take_add_one,h,Option.toList_some,List.foldl_append];rfl
theorem Jly {S:qb4}{a x:qdb}(h:S.f a.txn=some x):S.know a=S:=by unfold qb4.know;rw[h]
theorem TabAt.know {w:World}{τ:qa1}{bt c:Nat}{S:qb4}(h:TabAt w τ bt c S) (a:qdb) (l:a.txn<4294967296) (n:c<maxLen):(∃x,S.f a.txn=some x/\S.know a=S)\/(S.f a.txn=none/\∃bx d,(∃o p v3 v4 v5,Own w τ bt qfq 173 [.map (some bx),o,p,v3,v4,v5])/\(Instr.mapUpdate 170 (.map (some bx)) (.int .u32 a.txn) (qgk a)).run Tryz.prog w = .ok () d/\TabAt d τ bt (c+1) (S.know a)/\Step w τ d τ qbk):=by
 cases k:S.f a.txn with
 | some x=>exact .inl ⟨x,rfl,by unfold qb4.know;rw[k]⟩
 | none =>
   obtain⟨bx,bp,r,h1,h2,s,y⟩:=h.is
   obtain⟨z,i,B,b⟩:=h2.store Tryz.underlying170 a.txn (qgk a) n l
   refine .inr ⟨rfl,bx,z,⟨_,_,_,_,_,h1⟩,i,?_,b.mono (fun g q=>by subst q;exact .inl rfl)⟩
   have e:S.know a={S with f:=qff S.f a.txn (some a)}:=by unfold qb4.know;rw[k]
   rw[e]
   exact⟨bx,bp,r,h1.step b (by simp[qfq,qd2]),B.ext (fun j=>by
    unfold qff qgj
    dsimp only
    split <;> rfl),(s.step b (by simp[qd2,qe2])).le (Nat.le_succ _),y.step b (by simp[qe1,qd2])⟩
def tZk:Tag:=(341,3)
theorem Jlm {w:World}{τ:qa1}{bt c:Nat}{S:qb4}(h:TabAt w τ bt c S) {r:qak}{nt np:Nat}{pt pp:Option Addr}{ct cp:Nat}{kv tv pv nv gv sv hv av vb va:Value}(hvs:∀u∈[kv,tv,pv,nv,gv,sv,hv,av,vb,va],u.oneCell'=true) (af:r.qbm.length=nt) (ag:r.pages.length=np) (ht:NS 42 4 Qct 0 w τ tTxO (.slice pt nt ct) r.qbm) (hp:NS 84 2 Qgn 0 w τ qjh (.slice pp np cp) r.pages)
 (bw:∀a∈r.qbm,a.txn<4294967296) (bz:∀a∈r.pages,a.1<4294967296/\a.2<18446744073709551616) (hc:c+nt+np<maxLen) (hnt6:nt<=1000000) (hnp6:np<=1000000) :
 Calls Tryz.prog 125 #[.pointer (some ⟨bt,0,none⟩),.agg #[kv,tv,pv,nv,gv,sv,hv,av,vb,va,.slice pt nt ct,.slice pp np cp]] w (RtD w τ bt (c+nt+np) (S.known r)):=by
 have b:=(zS w τ).alloc (.cells #[kv,tv,pv,nv,gv,sv,hv,av,vb,va,.slice pt nt ct,.slice pp np cp] 73) tRb
 have o:=Own.born w τ tRb 73 #[kv,tv,pv,nv,gv,sv,hv,av,vb,va,.slice pt nt ct,.slice pp np cp]
 have h1:=h.step b (fun _ _ q=>q)
 have ah:=ht.step b (fun q=>q)
 have ai:=hp.step b (fun q=>q)
 have I:=b.mono (T:=qbk) (fun _ q=>q.elim)
 generalize τ.put w.heap.size tRb=τ1 at *
 obtain⟨b3,aj⟩:=gN w.heap.size
 obtain⟨w1,ak⟩:=gN (w.alloc (.cells #[kv,tv,pv,nv,gv,sv,hv,av,vb,va,.slice pt nt ct,.slice pp np cp] 73))
 rw[ak] at h1 ah ai I o
 rw[aj] at o
 have al:=o.at 11 rfl
 obtain⟨H1,b1,b2,a5,c3,c4,b4⟩:=qdr h1 ah ai I ak aj o
 clear h1 ah ai I ak aj o h ht hp b
 go_enter Tryz.func125,Tryz.ntmps125
 go_wp2_with fail
 rw[c3.out,c4.out]
 go_wp2_with fail
 go_loopw [13] (fun v wr=>∃(i:Nat) (k:qa1),i<=nt/\v = .int .i64 i/\TabAt wr k bt (c+i) ((r.qbm.take i).foldl qb4.know S)/\NS 42 4 Qct 0 wr k tTxO (.slice pt nt ct) r.qbm/\NS 84 2 Qgn 0 wr k qjh (.slice pp np cp) r.pages/\Own wr k b3 tRb 73 [kv,tv,pv,nv,gv,sv,hv,av,vb,va,.slice pt nt ct,.slice pp np cp]/\Step w τ wr k qbk) (fun v _=>nt-(intOf v).toNat)
 case atStart=>exact⟨0,τ1,Z9 _,rfl,H1,b1,b2,b4,a5⟩
 case round =>
  clear H1 b1 b2 a5 b4 al
  obtain⟨i,k,hi,rfl,D,B,d,o,s⟩:=hrel
  by_cases c5:i<nt
  ·obtain⟨a,ha⟩:∃a,r.qbm[i]?=some a:=⟨_,Z3 (by rw[af];exact c5)⟩
   obtain⟨p',c',J,-,F⟩:=B.txn
   rw[af] at J
   cases J
   obtain⟨ba,rfl,e0,e1,e2,e3⟩:=F i a ha
   have hltI:(i:Int)<nt:=oM
   have am:=bw a (List.mem_of_getElem? ha)
   have b:=(zS wr k).alloc (.cells #[.int .u32 a.txn,.int .u64 a.last,.int .u64 a.undo,.int .u8 a.state] 42) tZk
   have C:=Own.born wr k tZk 42 #[.int .u32 a.txn,.int .u64 a.last,.int .u64 a.undo,.int .u8 a.state]
   generalize k.put wr.heap.size tZk=l at *
   obtain⟨b5,c8⟩:=gN wr.heap.size
   obtain⟨X,c9⟩:=gN (wr.alloc (.cells #[.int .u32 a.txn,.int .u64 a.last,.int .u64 a.undo,.int .u8 a.state] 42))
   rw[c9] at b C
   rw[c8] at C
   have L:=(zS X l).drew
   obtain⟨bx,bp,vw,r1,r2,r3,r4⟩:=id D.is
   have u1:=(r1.step b (fun q=>q)).step L (fun q=>q)
   have u2:=(r2.step b (fun q=>q)).step L (fun q=>q)
   have cd:=u1.at 0 rfl
   have fd:=(C.step L (fun q=>q)).at 0 rfl
   have b6:=u2.look Tryz.underlying170 (Tryz.zeroValue42 X.drew) a.txn am true
   have M:Step X l (X.alloc (.cells #[.int .u32 0,.int .u64 0,.int .u64 0,.int .u8 0] 42)).drew l nil:=((zS X l).alloc' _).drew
   have an:=(r1.step b (fun q=>q)).step M (fun q=>q)
   have ao:=(r2.step b (fun q=>q)).step M (fun q=>q)
   have cz:=an.at 0 rfl
   have fz:=(C.step M (fun q=>q)).at 0 rfl
   have a6:=ao.look Tryz.underlying170 (Tryz.zeroValue42 _) a.txn am true
   obtain⟨y,hy⟩:∃y:qdb,(((((r.qbm.take i).foldl qb4.know S).f a.txn).map qgk).getD (Value.agg #[.int .u32 0,.int .u64 0,.int .u64 0,.int .u8 0]))=qgk y:=by
    cases ((r.qbm.take i).foldl qb4.know S).f a.txn with
    | none=>exact⟨⟨0,0,0,0⟩,rfl⟩
    | some x=>exact⟨x,rfl⟩
   obtain⟨bI,Y⟩:=gN ((((r.qbm.take i).foldl qb4.know S).f a.txn).isSome)
   rw[if_pos rfl,hy,Option.isSome_map,Y] at b6 a6
   unfold qgk at b6 a6
   have n:Step wr k (X.alloc (.cells #[.int .u32 y.txn,.int .u64 y.last,.int .u64 y.undo,.int .u8 y.state] 42)).drew l nil:=(b.trans ((zS X l).alloc' _)).drew
   have ap:Step X l (X.alloc (.cells #[.int .u32 y.txn,.int .u64 y.last,.int .u64 y.undo,.int .u8 y.state] 42)).drew.drew l nil:=(((zS X l).alloc' _).drew).drew
   have Z:=D.step n (fun _ _ q=>q)
   have aq:=B.step n (fun q=>q)
   have ar:=d.step n (fun q=>q)
   have aw:=o.step n (fun q=>q)
   have E:=s.trans (n.mono (T:=qbk) (fun _ q=>q.elim))
   cases bI with
   | true =>
     have ce:((r.qbm.take i).foldl qb4.know S).know a=(r.qbm.take i).foldl qb4.know S:=by
      obtain⟨x,hx⟩:=Option.isSome_iff_exists.1 Y
      exact Jly hx
     have z:=Jj9 S ha
     rw[ce] at z
     have G:=Z.le (show c+i<=c+(i+1) by omega)
     obtain⟨a0,b7,b8,b9,a7,a1⟩:=qcq G aq ar aw E z
     clear G aq ar aw E z D r1 r2 r3 r4 u1 u2 an ao M b F hy L C Z ap n B d o s
     go_wp2_with fail
     go_region
     go_wp2_with fail
     go_round
     case rel=>exact⟨i+1,l,oM,sM,by rw[a1.out];exact a0,b7,b8,b9,a7⟩
     case measure=>simp[intOf];omega
     go_round
     case rel=>exact⟨i+1,l,oM,sM,by rw[a1.out];exact a0,b7,b8,b9,a7⟩
     case measure=>simp[intOf];omega
   | false =>
     have bb:=Z.step ((zS _ l).drew) (fun _ _ q=>q)
     have O:=C.step ap (fun q=>q)
     have f0:=O.at 0 rfl
     have f1:=O.at 1 rfl
     have f2:=O.at 2 rfl
     have f3:=O.at 3 rfl
     rcases bb.know a am oM with ⟨x,hx,-⟩|⟨-,bx2,w4,⟨_,_,_,_,_,bc⟩,cf,R,U⟩
     ·rw[hx] at Y;cases Y
     have c0:=bc.at 0 rfl
     unfold qgk at cf
     have z:=Jj9 S ha
     have a2:=n.drew
     have rt:∀g:Tag,g.1=212\/g.1=341/\0<g.2->¬qbk g:=fun g hg q=>by
      rcases q with q|q
      ·unfold qeq at q;omega
      ·subst q;simp[tCp] at hg
     have bd:=(B.step a2 (fun q=>q)).step U (rt tTxO (.inl rfl))
     have be:=(d.step a2 (fun q=>q)).step U (rt qjh (.inl rfl))
     have bf:=(o.step a2 (fun q=>q)).step U (rt tRb (.inr ⟨rfl,dC⟩))
     have bg:=(E.drew).trans U
     have R:=R.le (show c+i+1<=c+(i+1) by omega)
     rw[<-z] at R
     obtain⟨cg,ch,ci,cj,ck⟩:=qbq R bd be bf bg
     clear R bd be bf bg D r1 r2 r3 r4 u1 u2 an ao M b F hy L C Z ap n B d o s aq ar aw E bb O bc U a2 rt z
     go_wp2_with fail
     go_region
     all_goals go_wp2_with fail
     all_goals go_region
     all_goals go_wp2_with fail
     all_goals go_round
     all_goals first
      | exact⟨i+1,l,oM,sM,cg,ch,ci,cj,ck⟩
      | (simp[intOf];omega)
  ·have cm:i=nt:=oM
   subst cm
   have cn:r.qbm.take i=r.qbm:=by rw[<-af];exact List.take_length
   rw[cn] at D
   obtain⟨S1,ay⟩:=gN (r.qbm.foldl qb4.know S)
   rw[ay] at D
   have al:=o.at 11 rfl
   obtain⟨HT,a8,a3,cq⟩:=qb9 D d s ay
   clear D d s ay B o
   go_wp2_with fail
   go_loopw [40] (fun v wr=>∃(j:Nat) (k:qa1),j<=np/\v = .int .i64 j/\TabAt wr k bt (c+i+j) ((r.pages.take j).foldl (fun S p=>S.stain p.1 p.2) S1)/\NS 84 2 Qgn 0 wr k qjh (.slice pp np cp) r.pages/\Step w τ wr k qbk) (fun v _=>np-(intOf v).toNat)
   case atStart=>exact⟨0,k,Z9 _,rfl,HT,a8,a3⟩
   case round =>
    clear HT a8 a3 al
    obtain⟨j,bh,hj,rfl,D,d,s⟩:=hrel
    by_cases cr:j<np
    ·have a9:j<r.pages.length:=by rw[ag];exact cr
     obtain⟨p',c',J,-,F⟩:=ND.read ⟨d.buf,d.low⟩
     rw[ag] at J
     cases J
     obtain⟨ba,rfl,e0,e1⟩:=F j a9
     obtain⟨x,hx⟩:=gN (r.pages[j])
     have az:=bz x (by rw[<-hx];exact List.getElem_mem _)
     have z:(r.pages.take (j+1)).foldl (fun S p=>S.stain p.1 p.2) S1=((r.pages.take j).foldl (fun S p=>S.stain p.1 p.2) S1).stain x.1 x.2:=by
      rw[List.take_add_one,Z3 a9,hx,Option.toList_some,List.foldl_append];rfl
     rw[hx] at e0 e1
     obtain⟨n1,n2⟩:=x
     dsimp only at e0 e1 az z
     have hljI:(j:Int)<np:=oM
     have b:=(zS wr bh).alloc' (.cells #[.int .u32 n1,.int .u64 n2] 84)
     have bi:=Jj5 (D.step b (fun _ _ q=>q)) n1 n2 az.1 az.2 oM
     have aa:=d.step b (fun q=>q)
     have ab:=s.trans (b.mono (T:=qbk) (fun _ q=>q.elim))
     obtain⟨cs,bj,bk,a1⟩:=qb9 bi aa ab z
     clear bi aa ab z D F d s b
     go_wp2_with fail
     refine cs.mono ?_
     rintro e w4 ⟨rfl,cv,G,b0⟩
     have ac:=bj.step b0 (fun q=>by
      rcases q with q|q
      ·unfold qeq at q;simp[qjh] at q
      ·simp[qjh,tCp] at q)
     have ad:=bk.trans b0
     rw[<-a1.out] at G
     obtain⟨a0,bl,bm⟩:=qan G ac ad
     clear G ac ad b0
     go_wp2_with fail
     go_round
     case rel=>exact⟨j+1,cv,oM,sM,a0,bl,bm⟩
     case measure=>simp[intOf];omega
    ·have cw:j=np:=oM
     subst cw
     have bn:r.pages.take j=r.pages:=by rw[<-ag];exact List.take_length
     rw[bn] at D
     obtain⟨HT,a3⟩:=qaj D s
     clear D s
     go_wp2_with fail
     go_end0
     refine⟨rfl,bh,?_,a3⟩
     unfold qb4.known
     rw[cq.out]
     exact HT
theorem Step.bare (w:World) (τ:qa1):Step {w with heap:=#[]} τ w τ nil:=⟨⟨rfl,rfl,rfl,Z9 _,fun k a=>absurd a sM⟩,fun k a=>absurd a sM⟩
structure qj2 (x:Nat×qak):Prop where
 lsn:x.1<18446744073709551616
 kind:x.2.kind<256
 txn:x.2.txn<4294967296
 page:x.2.change.page<4294967296
 nt:x.2.qbm.length<=64
 np:x.2.pages.length<=64
 tx:∀a∈x.2.qbm,a.txn<4294967296
 px:∀a∈x.2.pages,a.1<4294967296/\a.2<18446744073709551616
theorem Jjx {g:Tag}(h:g=tEb\/g=tRb):¬qbk g:=fun q=>by
 rcases q with q|q
 ·unfold qeq at q;rcases h with rfl|rfl <;> simp[tEb,tRb] at q
 ·rcases h with rfl|rfl <;> simp[tEb,tRb,tCp] at q
theorem Jkf {g:Tag}(h:g.1=211\/g.1=212):¬qbk g:=fun q=>by
 rcases q with q|q
 ·unfold qeq at q;omega
 ·subst q;simp[tCp] at h
theorem TabAt.set {w:World}{τ:qa1}{bt c:Nat}{S:qb4}(h:TabAt w τ bt c S) (k:Nat) (v:qdb) (e:k<4294967296) (i:c<maxLen):∃bx b,(∃l n v3 v4 v5,Own w τ bt qfq 173 [.map (some bx),l,n,v3,v4,v5])/\(Instr.mapUpdate 170 (.map (some bx)) (.int .u32 k) (qgk v)).run Tryz.prog w = .ok () b/\TabAt b τ bt (c+1) {S with f:=qff S.f k (some v)}/\Step w τ b τ qbk:=by
 obtain⟨bx,bp,o,h1,h2,p,r⟩:=h.is
 obtain⟨s,d,x,a⟩:=h2.store Tryz.underlying170 k (qgk v) i e
 refine⟨bx,s,⟨_,_,_,_,_,h1⟩,d,?_,a.mono (fun g q=>by subst q;exact .inl rfl)⟩
 exact⟨bx,bp,o,h1.step a (by simp[qfq,qd2]),x.ext (fun j=>by
  unfold qff qgj
  dsimp only
  split <;> rfl),(p.step a (by simp[qd2,qe2])).le (Nat.le_succ _),r.step a (by simp[qe1,qd2])⟩
theorem TabAt.drop {w:World}{τ:qa1}{bt c:Nat}{S:qb4}(h:TabAt w τ bt c S) (k:Nat) (e:k<4294967296):∃bx b,(∃i l v3 v4 v5,Own w τ bt qfq 173 [.map (some bx),i,l,v3,v4,v5])/\(Builtin.delete_ #[170,39] 0 #[.map (some bx),.int .u32 k]).run Tryz.prog w = .ok (.tuple #[]) b/\TabAt b τ bt c {S with f:=qff S.f k none}/\Step w τ b τ qbk:=by
 obtain⟨bx,bp,n,h1,h2,o,p⟩:=h.is
 obtain⟨r,d,s,a⟩:=h2.drop Tryz.underlying170 k e 0
 refine⟨bx,r,⟨_,_,_,_,_,h1⟩,d,?_,a.mono (fun g q=>by subst q;exact .inl rfl)⟩
 exact⟨bx,bp,n,h1.step a (by simp[qfq,qd2]),s.ext (fun j=>by
  unfold qff qgj
  dsimp only
  split <;> rfl),o.step a (by simp[qd2,qe2]),p.step a (by simp[qe1,qd2])⟩
theorem qgs {w:World}{τ:qa1}{bt c:Nat}{S:qb4}(h:TabAt w τ bt c S) {x:Nat×qak}(hx:qj2 x) {vb va vt vp:Value}(hr:qeh w τ x.2 vb va vt vp) (hc:c+200<maxLen) (bl:S.won.length<=1000000) :
 Calls Tryz.prog 74 #[.pointer (some ⟨bt,0,none⟩),.agg #[.int .u64 x.1,.int .u8 x.2.kind,.int .u32 x.2.txn,.int .u64 x.2.prev,.int .u64 x.2.next,.int .u32 x.2.change.page,.int .u16 x.2.change.slot,.bool x.2.change.had,.bool x.2.change.has,vb,va,vt,vp]] w (RtD w τ bt (c+200) (S.take x)):=by
 obtain⟨lsn,⟨kd,tx,pv,nx,⟨pg,sl,had,has,bf,af⟩,ts,ps⟩⟩:=x
 obtain⟨o1,o2,o3,o4,o5,o6,o7,o8⟩:=hx
 dsimp only at hr o1 o2 o3 o4 o5 o6 o7 o8 ⊢
 obtain⟨pb,nb,cb,rfl⟩:=hr.b
 obtain⟨pa,na,ca,rfl⟩:=hr.a
 obtain⟨pt,ct,cs⟩:=hr.t.val
 obtain⟨pp,cp,cv⟩:=hr.p.val
 subst cs cv
 obtain⟨nt,bm⟩:=gN ts.length
 obtain⟨np,bn⟩:=gN ps.length
 have R:=hr.t
 have U:=hr.p
 dsimp only at R U
 rw[bm] at o5 R
 rw[bn] at o6 U
 have s:=(zS w τ).alloc (.cells #[.int .u64 lsn,.int .u8 kd,.int .u32 tx,.int .u64 pv,.int .u64 nx,.int .u32 pg,.int .u16 sl,.bool had,.bool has,.slice pb nb cb,.slice pa na ca,.slice pt nt ct,.slice pp np cp] 75) tEb
 have j:=Own.born w τ tEb 75 #[.int .u64 lsn,.int .u8 kd,.int .u32 tx,.int .u64 pv,.int .u64 nx,.int .u32 pg,.int .u16 sl,.bool had,.bool has,.slice pb nb cb,.slice pa na ca,.slice pt nt ct,.slice pp np cp]
 generalize τ.put w.heap.size tEb=τ1 at *
 obtain⟨be,cx⟩:=gN w.heap.size
 rw[cx] at j
 obtain⟨w1,X⟩:=gN (w.alloc (.cells #[.int .u64 lsn,.int .u8 kd,.int .u32 tx,.int .u64 pv,.int .u64 nx,.int .u32 pg,.int .u16 sl,.bool had,.bool has,.slice pb nb cb,.slice pa na ca,.slice pt nt ct,.slice pp np cp] 75))
 rw[X] at s j
 have n:=(zS w1 τ1).alloc (.cells #[.int .u8 kd,.int .u32 tx,.int .u64 pv,.int .u64 nx,.int .u32 pg,.int .u16 sl,.bool had,.bool has,.slice pb nb cb,.slice pa na ca,.slice pt nt ct,.slice pp np cp] 73) tRb
 have d:=Own.born w1 τ1 tRb 73 #[.int .u8 kd,.int .u32 tx,.int .u64 pv,.int .u64 nx,.int .u32 pg,.int .u16 sl,.bool had,.bool has,.slice pb nb cb,.slice pa na ca,.slice pt nt ct,.slice pp np cp]
 generalize τ1.put w1.heap.size tRb=G at *
 obtain⟨br,cy⟩:=gN w1.heap.size
 rw[cy] at d
 obtain⟨w2,Y⟩:=gN (w1.alloc (.cells #[.int .u8 kd,.int .u32 tx,.int .u64 pv,.int .u64 nx,.int .u32 pg,.int .u16 sl,.bool had,.bool has,.slice pb nb cb,.slice pa na ca,.slice pt nt ct,.slice pp np cp] 73))
 rw[Y] at n d
 have l:=j.step n (fun q=>q)
 have J:=s.trans n
 have hT:=h.step J (fun _ _ q=>q)
 have k:=J.mono (T:=qbk) (fun _ q=>q.elim)
 have B:=R.step J (fun q=>q)
 have C:=U.step J (fun q=>q)
 have e1:=j.at 1 rfl
 have e2:=j.at 2 rfl
 have e3:=j.at 3 rfl
 have e4:=j.at 4 rfl
 have e5:=j.at 5 rfl
 have e6:=j.at 6 rfl
 have e7:=j.at 7 rfl
 have e8:=j.at 8 rfl
 have e9:=j.at 9 rfl
 have e10:=j.at 10 rfl
 have e11:=j.at 11 rfl
 have e12:=j.at 12 rfl
 have bq:S.take (lsn,⟨kd,tx,pv,nx,⟨pg,sl,had,has,bf,af⟩,ts,ps⟩)=if kd=8 then S.known ⟨kd,tx,pv,nx,⟨pg,sl,had,has,bf,af⟩,ts,ps⟩ else if kd=1 then {S with f:=qff S.f tx (some ⟨tx,lsn,lsn,1⟩)} else if kd=2\/kd=3 then (if (had || has)=true then S.stain pg lsn else S).change tx (fun a=>{a with last:=lsn,undo:=if kd=3 then nx else lsn}) else if kd=4 then ({S with won:=S.won++[tx]}:qb4).change tx (fun a=>{a with last:=lsn,state:=2}) else if kd=5 then S.change tx (fun a=>{a with last:=lsn,state:=3}) else if kd=6 then {S with f:=qff S.f tx none} else S:=rfl
 rw[bq]
 clear bq
 have g0:=d.at 0 rfl
 have g1:=d.at 1 rfl
 have g2:=d.at 2 rfl
 have g3:=d.at 3 rfl
 have g4:=d.at 4 rfl
 have g5:=d.at 5 rfl
 have g6:=d.at 6 rfl
 have g7:=d.at 7 rfl
 have g8:=d.at 8 rfl
 have g9:=d.at 9 rfl
 have g10:=d.at 10 rfl
 have g11:=d.at 11 rfl
 have q0:=l.at 0 rfl
 by_cases k8:kd=8
 ·subst k8
  rw[if_pos rfl]
  rw[show ((8:Nat):Int)=8 from rfl] at X Y e1 g0
  have bs:=Jlm hT (r:=⟨8,tx,pv,nx,⟨pg,sl,had,has,bf,af⟩,ts,ps⟩) (kv:=.int .u8 8) (tv:=.int .u32 tx) (pv:=.int .u64 pv) (nv:=.int .u64 nx) (gv:=.int .u32 pg) (sv:=.int .u16 sl) (hv:=.bool had) (av:=.bool has) (vb:=.slice pb nb cb) (va:=.slice pa na ca) (by simp[Value.oneCell']) bm bn B C o7 o8 oM oM oM
  obtain⟨cz,D⟩:=qaj bs k
  clear bs k h hr R U s n J j l d hT B C
  go_enter Tryz.func74,Tryz.ntmps74
  go_wp2_with fail
  refine cz.mono ?_
  rintro e w3 ⟨rfl,aw,ae,aa⟩
  have L:=ae.le (show c+nt+np<=c+200 by omega)
  have y:=D.trans aa
  obtain⟨d2,a1⟩:=qaj L y
  clear L y ae aa
  go_wp2_with fail
  go_end0
  exact⟨rfl,aw,d2,a1⟩
 have b8:((kd:Int)==8)=false:=by simp;omega
 rw[if_neg k8]
 by_cases k1:kd=1
 ·subst k1
  rw[if_pos rfl]
  rw[show ((1:Nat):Int)=1 from rfl] at X Y e1 g0
  have z:=(zS w2 G).drew
  obtain⟨bx,w4,⟨_,_,_,_,_,ah⟩,ax,a2,a3⟩:=(hT.step z (fun _ _ q=>q)).set tx ⟨tx,lsn,lsn,1⟩ o3 oM
  have c0:=ah.at 0 rfl
  have ai:=d.step z (fun q=>q)
  have a0:=l.step z (fun q=>q)
  have d1:=ai.at 1 rfl
  have d0:=a0.at 0 rfl
  unfold qgk at ax
  dsimp only at ax
  rw[show ((1:Nat):Int)=1 from rfl] at ax
  have M:=a2.le (show c+1<=c+200 by omega)
  have E:=(k.drew).trans a3
  obtain⟨ab,a4⟩:=qaj M E
  clear M E h hr R U s n J j l d hT B C z ah a2 a3 ai a0 k
  go_enter Tryz.func74,Tryz.ntmps74
  go_wp2_with fail
  go_region
  go_wp2_with fail
  go_end0
  exact⟨rfl,G,ab,a4⟩
 have b1:((kd:Int)==1)=false:=by simp;omega
 rw[if_neg k1]
 by_cases az:kd=2\/kd=3
 ·rw[if_pos az]
  obtain⟨nz,bv⟩:=gN ((if kd=3 then nx else lsn))
  rw[bv]
  have bw:=Jj5 hT pg lsn o4 o1 oM
  have bz:=fun (W:World) (T:qa1) (S1:qb4) (c1:Nat) (hm:Step w2 G W T qbk) (d3:TabAt W T bt c1 S1) (d4:c1<maxLen)=>Jkp (be:=be) (br:=br) (lsn:=lsn) (kd:=kd) (nx:=nx) (nz:=nz) d3 tx o3 d4 ((l.step hm (Jjx (.inl rfl))).at 0 rfl) ((d.step hm (Jjx (.inr rfl))).at 0 rfl) ((d.step hm (Jjx (.inr rfl))).at 3 rfl) bv
  have c5:=fun (W:World) (T:qa1) (hm:Step w2 G W T qbk)=>(d.step hm (Jjx (.inr rfl))).at 1 rfl
  obtain⟨d5,c6,D,HT,d6⟩:=qbq bw bz k hT c5
  clear bw bz k hT c5 h hr R U s n J j l d B C
  cases hB:(had || has) with
  | true =>
    rcases az with rfl|rfl
    case' inl=>rw[show ((2:Nat):Int)=2 from rfl] at X Y e1 g0
    case' inr=>rw[show ((3:Nat):Int)=3 from rfl] at X Y e1 g0
    all_goals (
     cases had
     case' false=>obtain rfl:has=true:=by simpa using hB
     all_goals (
      go_enter Tryz.func74,Tryz.ntmps74
      go_wp2_with fail
      refine d5.mono ?_
      rintro e w3 ⟨rfl,aw,ae,aa⟩
      have a5:=c6 w3 aw _ _ aa ae oM
      have hg1:=d6 w3 aw aa
      have y:=D.trans aa
      obtain⟨aj,a1⟩:=qaj a5 y
      clear a5 y ae aa
      go_wp2_with fail
      refine aj.mono ?_
      rintro e w4 ⟨rfl,I,L,Z⟩
      have O:=L.le (show c+1+1<=c+200 by omega)
      have F:=a1.trans Z
      obtain⟨ak,a6⟩:=qaj O F
      clear O F L Z
      go_wp2_with fail
      go_end0
      exact⟨rfl,I,ak,a6⟩))
  | false =>
    obtain⟨rfl,rfl⟩:had=false/\has=false:=by simpa using hB
    have a5:=c6 w2 G _ _ (Step.refl _ _ _) HT oM
    have aj:=Z2 a5
    clear a5
    rcases az with rfl|rfl
    case' inl=>rw[show ((2:Nat):Int)=2 from rfl] at X Y e1 g0
    case' inr=>rw[show ((3:Nat):Int)=3 from rfl] at X Y e1 g0
    all_goals (
     go_enter Tryz.func74,Tryz.ntmps74
     go_wp2_with fail
     refine aj.mono ?_
     rintro e w4 ⟨rfl,I,L,Z⟩
     have O:=L.le (show c+1<=c+200 by omega)
     have F:=D.trans Z
     obtain⟨ak,a6⟩:=qaj O F
     clear O F L Z
     go_wp2_with fail
     go_end0
     exact⟨rfl,I,ak,a6⟩)
 have b2:((kd:Int)==2)=false:=by simp;omega
 have b3:((kd:Int)==3)=false:=by simp;omega
 rw[if_neg az]
 by_cases k4:kd=4
 ·subst k4
  rw[if_pos rfl]
  rw[show ((4:Nat):Int)=4 from rfl] at X Y e1 g0
  have z:=(zS w2 G).drew
  obtain⟨bx,bp,vw,r1,r2,r3,r4⟩:=(hT.step z (fun _ _ q=>q)).is
  obtain⟨pw,cw,rfl⟩:=r4.val
  have a7:=d.step z (fun q=>q)
  have a0:=l.step z (fun q=>q)
  obtain⟨w3,bd⟩:=gN w2.drew
  rw[bd] at r1 r2 r3 r4 a7 a0
  obtain⟨nw,am⟩:=gN S.won.length
  have c2:=r1.at 2 (v:=.slice pw nw cw) (by rw[<-am];rfl)
  have d1:=a7.at 1 rfl
  have hS0:w3.cell? ⟨bt,2,none⟩=some (.slice pw nw cw)/\w3.cell? ⟨br,1,none⟩=some (.int .u32 tx):=⟨c2,d1⟩
  have hA:=fun o=>(zS w3 G).alloc' o
  have da:=fun o=>(r1.step (hA o) (fun q=>q)).at 2 (v:=.slice pw nw cw) (by rw[<-am];rfl)
  have db:=fun o=>(a7.step (hA o) (fun q=>q)).at 1 rfl
  rw[am] at r1 r4
  obtain⟨i0,hi,c8,c9,cc⟩:=info_parts Tryz.infoU32
  have y:=k.drew
  rw[bd] at y
  have cd:S.won.length<=1000000:=bl
  obtain⟨ce,cf,cg,ch,b9,ci,a1,dc,Hi,dd,de,df⟩:=qds r1 r2 r3 r4 a7 a0 y am hi c8 c9 cc
  have dh:=Z2 cd
  clear r1 r2 r3 r4 a7 a0 y am hi c8 c9 cc cd h hr R U s n J j l d hT B C z k hA
  go_enter Tryz.func74,Tryz.ntmps74
  go_wp2_with fail
  refine Qaf (S:=fun W:World=>W.cell? ⟨bt,2,none⟩=some (.slice pw nw cw)/\W.cell? ⟨br,1,none⟩=some (.int .u32 tx)) kR ?_
  rw[bd]
  refine tk0 [0,1,2,3,4,5,6,7] ?_
  iterate 8
   refine tkv (v:=?_) ?_ ?_
   rotate_left
   ·intro w di;(try dsimp only at di);go_simp
    all_goals with_reducible rfl
   try simp only[Act.put,lz1,lz2,lz3]
  refine tk9 ?_
  try simp only[lz4,lz5,lz6,lz1,lz2,lz3]
  clear c2 d1
  refine Qst (i:=8) dK rfl (fun K hK=>?_)
  go_simp
  refine hK.out _ _ (fun _=>⟨da _,db _⟩) ?_
  clear hK K
  try simp only[lz4,lz5,lz6,lz1,lz2,lz3]
  refine Qst (i:=9) dK rfl (fun K hK=>?_)
  refine Qg3 Tryz.underlying50 Hi dd de df rfl dC (Step.bare w3 G) ch tx rfl (by simp[Jg2,Value.oneCell']) dh dC (kb:=w3.heap.size) rfl rfl _ _ rfl rfl rfl ?_
  intro v4 w4 I b0 Z ad
  obtain⟨p4,c4,rfl⟩:=b0.val
  have cj:(S.won++[tx]).length=nw+1:=by rw[Z6,dc.out];rfl
  rw[cj] at b0 ⊢
  have an:=ce.step ad (by simp[qfq,qe1])
  have c2:=an.at 2 rfl
  have z2:=an.fz 2
  have d1:=(b9.step ad (by simp[tRb,qe1])).at 1 rfl
  have ck:=an.set 2 (.slice p4 (nw+1) c4)
  have ao:Step w4 I (w4.setCell ⟨bt,2,none⟩ (.slice p4 (nw+1) c4)) I (fun g=>g=qfq):=(Step.refl w4 I (fun g=>g=qfq)).set (o:=2) an.tag rfl _
  have b7:Step w3 G (w4.setCell ⟨bt,2,none⟩ (.slice p4 (nw+1) c4)) I qbk:=(ad.mono (T:=qbk) (fun g q=>by subst q;exact .inl rfl)).trans (ao.mono (T:=qbk) (fun g q=>by subst q;exact .inl rfl))
  have cm:NS 39 1 Jg2 0 (w4.setCell ⟨bt,2,none⟩ (.slice p4 (nw+1) c4)) I qe1 (.slice p4 (nw+1) c4) (S.won++[tx]):=(b0.step ao (by simp[qfq,qe1])).zero
  have O:TabAt (w4.setCell ⟨bt,2,none⟩ (.slice p4 (nw+1) c4)) I bt c {S with won:=S.won++[tx]}:=⟨bx,bp,_,ck,(cf.step ad (by simp[qd2,qe1])).step ao (by simp[qfq,qd2]),(cg.step ad (by simp[qe2,qe1])).step ao (by simp[qfq,qe2]),cm⟩
  have cn:=Jko (be:=be) O tx o3 oM ((ci.step b7 (Jjx (.inl rfl))).at 0 rfl)
  have ba:=a1.trans b7
  have g1':=(b9.step b7 (Jjx (.inr rfl))).at 1 rfl
  obtain⟨dj,co⟩:=qaj cn ba
  clear cn ba an ck ao b7 cm O b0 Z ad cj
  refine hK.out _ _ (fun _=>⟨c2,d1⟩) ?_
  clear hK K
  try simp only[lz4,lz5,lz6,lz1,lz2,lz3]
  refine Qst (i:=10) dK rfl (fun K hK=>?_)
  go_simp
  refine hK.out _ _ (fun _=>⟨c2,d1⟩) ?_
  clear hK K
  refine Qst (i:=11) dK rfl (fun K hK=>?_)
  go_simp
  refine hK.out _ _ (fun _=>⟨c2,d1⟩) ?_
  clear hK K
  refine Qst (i:=12) dK rfl (fun K hK=>?_)
  go_simp
  refine hK.out _ _ (fun _=>⟨c2,d1⟩) ?_
  clear hK K
  refine Qst (i:=13) dK rfl (fun K hK=>?_)
  go_simp
  refine hK.out _ _ (fun h=>absurd h dK) ?_
  clear hK K
  refine Qad kR ?_ _
  go_wp2_with fail
  refine dj.mono ?_
  rintro e w6 ⟨rfl,dk,a2,a3⟩
  have M:=a2.le (show c+1<=c+200 by omega)
  have E:=co.trans a3
  obtain⟨ab,a4⟩:=qaj M E
  clear M E a2 a3
  go_wp2_with fail
  go_end0
  exact⟨rfl,dk,ab,a4⟩
 have b4:((kd:Int)==4)=false:=by simp;omega
 rw[if_neg k4]
 by_cases k5:kd=5
 ·subst k5
  rw[if_pos rfl]
  rw[show ((5:Nat):Int)=5 from rfl] at X Y e1 g0
  have a5:=Jkn (be:=be) hT tx o3 oM q0
  obtain⟨aj,D⟩:=qaj a5 k
  clear a5 k h hr R U s n J j l d hT B C
  go_enter Tryz.func74,Tryz.ntmps74
  go_wp2_with fail
  refine aj.mono ?_
  rintro e w4 ⟨rfl,I,L,Z⟩
  have O:=L.le (show c+1<=c+200 by omega)
  have F:=D.trans Z
  obtain⟨ak,a6⟩:=qaj O F
  clear O F L Z
  go_wp2_with fail
  go_end0
  exact⟨rfl,I,ak,a6⟩
 have b5:((kd:Int)==5)=false:=by simp;omega
 rw[if_neg k5]
 by_cases k6:kd=6
 ·subst k6
  rw[if_pos rfl]
  rw[show ((6:Nat):Int)=6 from rfl] at X Y e1 g0
  have z:=(zS w2 G).drew
  obtain⟨bx,w4,⟨_,_,_,_,_,ah⟩,ax,a2,a3⟩:=(hT.step z (fun _ _ q=>q)).drop tx o3
  have c0:=ah.at 0 rfl
  have ai:=d.step z (fun q=>q)
  have d1:=ai.at 1 rfl
  have M:=a2.le (show c<=c+200 by omega)
  have E:=(k.drew).trans a3
  obtain⟨ab,a4⟩:=qaj M E
  clear M E h hr R U s n J j l d hT B C z ah a2 a3 ai k
  go_enter Tryz.func74,Tryz.ntmps74
  go_wp2_with fail
  go_region
  go_wp2_with fail
  go_end0
  exact⟨rfl,G,ab,a4⟩
 have b6:((kd:Int)==6)=false:=by simp;omega
 rw[if_neg k6]
 have M:=hT.le (show c<=c+200 by omega)
 obtain⟨ab,D⟩:=qaj M k
 clear M k h hr R U s n J j l d hT B C
 go_enter Tryz.func74,Tryz.ntmps74
 go_wp2_with fail
 go_end0
 exact⟨rfl,G,ab,D⟩
end Go.Proofs.YtociicnopccppaaGreat
namespace Go.Proofs.YtociicnopccppaaGreat
open Go.RowKit Go.Maps Go.Shelf
attribute [local go_sem] Oper.semAt_some
theorem Jl0 (F:Fence) (n:Nat) (hf:F.fn 131) (z:F.round=none) (hn:1<=n) (l Z b nn:Nat) (g:DataW Value) (J Jx:List Nat->World->Prop)
 (hY:∀pre (x:Nat) W,J pre W->pre.length<Maps.size g->YieldAt F (n-1) Tryz.prog l #[.int .u32 x] W fun e i =>
   (e = .returned (.bool true)/\J (pre++[x]) i/\KeepsWalks W i)\/(e = .returned (.bool false)/\Jx (pre++[x]) i))
 (W:World) (hJ:AbidesFrom W.heap.size J) (hm:W.cell? ⟨Z,0,none⟩=some (.map (some b))) (j:W.ownsMap Tryz.prog 39 rdV b nn g) (h0:J [] W) :
 CallsIn F n Tryz.prog 131 #[.func (.yield l) #[] #[],.pointer (some ⟨Z,0,none⟩)] W fun e i=>(∃v,e = .returned v) /\
  ((∃a,Jhv g a/\J a i)\/(∃pre,True/\Jx pre i)):=by
 refine callsIn_of_wp Tryz.func131 rfl hf ?_ z
 simp only[Tryz.ntmps131,List.size_toArray,Y4,List.length_nil,Nat.reduceAdd,Nat.reduceSub,Array.replicate_succ,Array.replicate_zero,List.push_toArray,List.append_toArray,List.nil_append,List.cons_append]
 gi_wp2_with (first
  | (gi_at_range;refine wpListIn_range_own _ rfl _ 170 rfl 39 42 Qeo Tryz.underlying170 _ b nn _ rfl j ?_;intro w0 o B hs0)
  | gi_in)
 go_frame
 gi_loopw [3] (fun _ wr=>∃(left:Lit->Bool) (cnt:Nat) (a:List Nat),wr.ranges Tryz.prog 39 rdV b W.heap.size nn g left cnt/\a.length+cnt<=Maps.size g/\qik g left a/\J a wr)
  (fun _ wr=>wr.rangeLeft b W.heap.size)
 case atStart =>
  exact⟨_,_,[],o,sM,qik.start g,hJ [] W w0 none h0 B (fun r e=>by cases e)⟩
 case round =>
  obtain⟨left,cnt,a,h,hcs,hC,p⟩:=hrel
  gi_wp2_with (first
   | (gi_at_next;refine wpListIn_next_ranges _ rfl _ rfl 39 Qeo rdV (fun k:Nat=>Value.int .u32 k) id (fun key kl hk=>by obtain⟨k,_,e,_⟩:=Jhe hk;exact⟨k,e⟩) (fun v _ _=>⟨v,rfl⟩) b W.heap.size nn _ _ _ rfl h ?_ ?_)
   | gi_in)
  ·intro hc0 C
   gi_wp2
   go_end0
   exact⟨⟨_,rfl⟩,.inl ⟨a,hC.done C,p⟩⟩
  ·intro x c kl yd yp D q s E hv hat w G I L hen
   obtain⟨x',M,ex,rfl⟩:=Jhe s
   have O:x=x':=by have:(x:Int)=x':=by {simpa using ex};omega
   subst O
   have R:J a D:=hJ a wr D (some W.heap.size) p I (fun r e=>by cases e;exact⟨Z0 _,h.iter_walk⟩)
   obtain⟨fn,tmps,assign,body,hy,hR⟩:=hY a x D R oM
   have U:=hC.step M E
   clear L
   gi_wp2
   refine hR.mono ?_
   rintro e W3 (⟨rfl,X,Y⟩|⟨rfl,y⟩)
   ·gi_wp2
    have d:=w.of_walks Y
    go_roundw
    case rel=>exact⟨_,q,a++[x],d,by simp;omega,U,X⟩
    case measure=>rw[d.left_eq,h.left_eq];exact G
   ·gi_wp2
    refine bodyPost_ret (results_none rfl _ _ _) rfl ?_
    exact⟨⟨_,rfl⟩,.inr ⟨a++[x],trivial,y⟩⟩
theorem Jkk (F:Fence) (n:Nat) (i:F.fn 131) (g:F.round=none) (hn:1<=n) (e b nn:Nat) (d:DataW Value) (w:World) (h:w.cell? ⟨e,0,none⟩=some (.map (some b))) (a:w.ownsMap Tryz.prog 39 rdV b nn d) :
 SeqStopsK F n Tryz.prog 131 #[.pointer (some ⟨e,0,none⟩)] (fun k:Nat=>#[Value.int .u32 k]) KeepsWalks (Jhv d) (fun _=>True) (Maps.size d) w:=fun l J j W hW o _ q h0=>by
 have c:W.ownsMap Tryz.prog 39 rdV b nn d:=by
  have hbl:=a.lt
  obtain⟨es,clock,r,s,x,y⟩:=a
  exact⟨es,clock,(hW.block b hbl).trans r,s,x,y⟩
 exact Jl0 F n i g hn l e b nn d J j q W o ((hW.cell (p:=⟨e,0,none⟩) (qb0 h)).trans h) c h0
theorem Jlo {w:World}{τ:qa1}{bm c:Nat}{g:Tag}{f:Nat->Option Value}(h:qf6 w τ bm g c f) {B:Nat}(hB:qfo B) (hc:c<=1000000) {l:List Nat}(hl:l.length<=B) (M:∀k,(f k).isSome=true->k∈l) {C:Ending->World->Prop}(O:∀v ts x y,ts.Nodup->(∀k,k∈ts↔(f k).isSome=true)->NS 39 1 Jg2 w.heap.size y x qga v ts->Step w τ y x nil->C (.returned v) y) :
 ∃D:Value,Calls Tryz.prog 75 #[.map (some bm)] w (fun e y=>e = .returned D/\y=w.alloc (.cells #[.map (some bm)] 170))/\Calls Tryz.prog 41 #[D] (w.alloc (.cells #[.map (some bm)] 170)) C:=by
 have o:=(zS w τ).alloc (.cells #[.map (some bm)] 170) qay
 have q:=Own.new w τ qay 170 [.map (some bm)]
 have z:=h.step o id
 obtain⟨D,b,E,p,-⟩:=z.is
 have F:∀k,(f k).isSome=true->k<4294967296:=fun k d=>by
  obtain⟨j,hj,e⟩:=E (qcw k) (by rw[p k];exact d)
  have:k=j:=by
   by_cases R:k=j
   ·exact R
   ·exact absurd e (Qev R)
  omega
 have a:∀n,Jhv D n->n.Nodup/\∀k,k∈n↔(f k).isSome=true:=fun n r=>⟨r.1,fun k=>by
  constructor
  ·intro d
   rw[<-p k]
   exact(r.2.2 k (r.2.1 k d)).1 d
  ·intro d
   exact(r.2.2 k (F k d)).2 (by rw[p k];exact d)⟩
 have G:Maps.size D<=1000000:=by
  obtain⟨es,c0,a1,a2,a3,rfl⟩:=b
  simp[Maps.size,length_sorted]
  omega
 have s:=Jkk Fence.wide 3 trivial rfl oM w.heap.size bm c D _ (q.at 0 rfl) b
 have X:∀args w,(callFunc 131 args).run Tryz.prog w = .ok (.enter 131 args) w:=fun args w=>enters_of Tryz.func131 kR rfl args w
 have h1:=Jhw (τ:=τ.put w.heap.size qay) (gf := 131) (lb:=#[.pointer (some ⟨w.heap.size,0,none⟩)]) X G s hB (fun n r=>⟨r.2.1,Y3 (Qph n l r.1 (fun k d=>M k (((a n r).2 k).1 d))) hl⟩)
 refine⟨.func (.func 131) #[] #[.pointer (some ⟨w.heap.size,0,none⟩)],?_,?_⟩
 ·clear O h1 s G a F E p b z q o h M
  go_enter Tryz.func75,Tryz.ntmps75
  go_wp2_with fail
  go_ret
  exact⟨rfl,rfl⟩
 ·refine h1.mono ?_
  rintro e Y ⟨v,n,ts,J,rfl,U,i,I,L⟩
  refine O v ts J Y (i.nodup_iff.2 (a n U).1) (fun k=>(i.mem_iff).trans ((a n U).2 k)) ⟨I.buf,fun k d=>?_⟩ (o.trans L)
  exact Y3 o.size (I.low k d)
theorem Jlz (F:Fence) (n:Nat) (hf:F.fn 132) (z:F.round=none) (hn:1<=n) (l Z b nn:Nat) (g:DataW Value) (J Jx:List Nat->World->Prop)
 (hY:∀pre (x:Nat) W,J pre W->pre.length<Maps.size g->YieldAt F (n-1) Tryz.prog l #[.int .u32 x] W fun e i =>
   (e = .returned (.bool true)/\J (pre++[x]) i/\KeepsWalks W i)\/(e = .returned (.bool false)/\Jx (pre++[x]) i))
 (W:World) (hJ:AbidesFrom W.heap.size J) (hm:W.cell? ⟨Z,0,none⟩=some (.map (some b))) (j:W.ownsMap Tryz.prog 39 rdV b nn g) (h0:J [] W) :
 CallsIn F n Tryz.prog 132 #[.func (.yield l) #[] #[],.pointer (some ⟨Z,0,none⟩)] W fun e i=>(∃v,e = .returned v) /\
  ((∃a,Jhv g a/\J a i)\/(∃pre,True/\Jx pre i)):=by
 refine callsIn_of_wp Tryz.func132 rfl hf ?_ z
 simp only[Tryz.ntmps132,List.size_toArray,Y4,List.length_nil,Nat.reduceAdd,Nat.reduceSub,Array.replicate_succ,Array.replicate_zero,List.push_toArray,List.append_toArray,List.nil_append,List.cons_append]
 gi_wp2_with (first
  | (gi_at_range;refine wpListIn_range_own _ rfl _ 171 rfl 39 40 Qeo Tryz.underlying171 _ b nn _ rfl j ?_;intro w0 o B hs0)
  | gi_in)
 go_frame
 gi_loopw [3] (fun _ wr=>∃(left:Lit->Bool) (cnt:Nat) (a:List Nat),wr.ranges Tryz.prog 39 rdV b W.heap.size nn g left cnt/\a.length+cnt<=Maps.size g/\qik g left a/\J a wr)
  (fun _ wr=>wr.rangeLeft b W.heap.size)
 case atStart =>
  exact⟨_,_,[],o,sM,qik.start g,hJ [] W w0 none h0 B (fun r e=>by cases e)⟩
 case round =>
  obtain⟨left,cnt,a,h,hcs,hC,p⟩:=hrel
  gi_wp2_with (first
   | (gi_at_next;refine wpListIn_next_ranges _ rfl _ rfl 39 Qeo rdV (fun k:Nat=>Value.int .u32 k) id (fun key kl hk=>by obtain⟨k,_,e,_⟩:=Jhe hk;exact⟨k,e⟩) (fun v _ _=>⟨v,rfl⟩) b W.heap.size nn _ _ _ rfl h ?_ ?_)
   | gi_in)
  ·intro hc0 C
   gi_wp2
   go_end0
   exact⟨⟨_,rfl⟩,.inl ⟨a,hC.done C,p⟩⟩
  ·intro x c kl yd yp D q s E hv hat w G I L hen
   obtain⟨x',M,ex,rfl⟩:=Jhe s
   have O:x=x':=by have:(x:Int)=x':=by {simpa using ex};omega
   subst O
   have R:J a D:=hJ a wr D (some W.heap.size) p I (fun r e=>by cases e;exact⟨Z0 _,h.iter_walk⟩)
   obtain⟨fn,tmps,assign,body,hy,hR⟩:=hY a x D R oM
   have U:=hC.step M E
   clear L
   gi_wp2
   refine hR.mono ?_
   rintro e W3 (⟨rfl,X,Y⟩|⟨rfl,y⟩)
   ·gi_wp2
    have d:=w.of_walks Y
    go_roundw
    case rel=>exact⟨_,q,a++[x],d,by simp;omega,U,X⟩
    case measure=>rw[d.left_eq,h.left_eq];exact G
   ·gi_wp2
    refine bodyPost_ret (results_none rfl _ _ _) rfl ?_
    exact⟨⟨_,rfl⟩,.inr ⟨a++[x],trivial,y⟩⟩
theorem Jkj (F:Fence) (n:Nat) (i:F.fn 132) (g:F.round=none) (hn:1<=n) (e b nn:Nat) (d:DataW Value) (w:World) (h:w.cell? ⟨e,0,none⟩=some (.map (some b))) (a:w.ownsMap Tryz.prog 39 rdV b nn d) :
 SeqStopsK F n Tryz.prog 132 #[.pointer (some ⟨e,0,none⟩)] (fun k:Nat=>#[Value.int .u32 k]) KeepsWalks (Jhv d) (fun _=>True) (Maps.size d) w:=fun l J j W hW o _ q h0=>by
 have c:W.ownsMap Tryz.prog 39 rdV b nn d:=by
  have hbl:=a.lt
  obtain⟨es,clock,r,s,x,y⟩:=a
  exact⟨es,clock,(hW.block b hbl).trans r,s,x,y⟩
 exact Jlz F n i g hn l e b nn d J j q W o ((hW.cell (p:=⟨e,0,none⟩) (qb0 h)).trans h) c h0
theorem Jln {w:World}{τ:qa1}{bm c:Nat}{g:Tag}{f:Nat->Option Value}(h:qf6 w τ bm g c f) {B:Nat}(hB:qfo B) (hc:c<=1000000) {l:List Nat}(hl:l.length<=B) (M:∀k,(f k).isSome=true->k∈l) {C:Ending->World->Prop}(O:∀v ts x y,ts.Nodup->(∀k,k∈ts↔(f k).isSome=true)->NS 39 1 Jg2 w.heap.size y x qga v ts->Step w τ y x nil->C (.returned v) y) :
 ∃D:Value,Calls Tryz.prog 76 #[.map (some bm)] w (fun e y=>e = .returned D/\y=w.alloc (.cells #[.map (some bm)] 171))/\Calls Tryz.prog 41 #[D] (w.alloc (.cells #[.map (some bm)] 171)) C:=by
 have o:=(zS w τ).alloc (.cells #[.map (some bm)] 171) qay
 have q:=Own.new w τ qay 171 [.map (some bm)]
 have z:=h.step o id
 obtain⟨D,b,E,p,-⟩:=z.is
 have F:∀k,(f k).isSome=true->k<4294967296:=fun k d=>by
  obtain⟨j,hj,e⟩:=E (qcw k) (by rw[p k];exact d)
  have:k=j:=by
   by_cases R:k=j
   ·exact R
   ·exact absurd e (Qev R)
  omega
 have a:∀n,Jhv D n->n.Nodup/\∀k,k∈n↔(f k).isSome=true:=fun n r=>⟨r.1,fun k=>by
  constructor
  ·intro d
   rw[<-p k]
   exact(r.2.2 k (r.2.1 k d)).1 d
  ·intro d
   exact(r.2.2 k (F k d)).2 (by rw[p k];exact d)⟩
 have G:Maps.size D<=1000000:=by
  obtain⟨es,c0,a1,a2,a3,rfl⟩:=b
  simp[Maps.size,length_sorted]
  omega
 have s:=Jkj Fence.wide 3 trivial rfl oM w.heap.size bm c D _ (q.at 0 rfl) b
 have X:∀args w,(callFunc 132 args).run Tryz.prog w = .ok (.enter 132 args) w:=fun args w=>enters_of Tryz.func132 kR rfl args w
 have h1:=Jhw (τ:=τ.put w.heap.size qay) (gf := 132) (lb:=#[.pointer (some ⟨w.heap.size,0,none⟩)]) X G s hB (fun n r=>⟨r.2.1,Y3 (Qph n l r.1 (fun k d=>M k (((a n r).2 k).1 d))) hl⟩)
 refine⟨.func (.func 132) #[] #[.pointer (some ⟨w.heap.size,0,none⟩)],?_,?_⟩
 ·clear O h1 s G a F E p b z q o h M
  go_enter Tryz.func76,Tryz.ntmps76
  go_wp2_with fail
  go_ret
  exact⟨rfl,rfl⟩
 ·refine h1.mono ?_
  rintro e Y ⟨v,n,ts,J,rfl,U,i,I,L⟩
  refine O v ts J Y (i.nodup_iff.2 (a n U).1) (fun k=>(i.mem_iff).trans ((a n U).2 k)) ⟨I.buf,fun k d=>?_⟩ (o.trans L)
  exact Y3 o.size (I.low k d)
end Go.Proofs.YtociicnopccppaaGreat
namespace Go.Proofs.YtociicnopccppaaGreat
open Go.RowKit Go.Maps
theorem Jll (S:qb4) (r:qak):(S.known r).won=S.won:=by
 unfold qb4.known
 have h1:∀(l:List qdb) (S:qb4),(l.foldl qb4.know S).won=S.won:=fun l=>by
  induction l with
  | nil=>exact fun S=>rfl
  | cons a l ih =>
    intro S
    refine(ih _).trans ?_
    unfold qb4.know
    split <;> rfl
 have h2:∀(l:List (Nat×Nat)) (S:qb4),(l.foldl (fun S p=>S.stain p.1 p.2) S).won=S.won:=fun l=>by
  induction l with
  | nil=>exact fun S=>rfl
  | cons a l ih=>exact fun S=>ih _
 rw[h2,h1]
theorem Jjj (S:qb4) (k:Nat) (d:qdb->qdb):(S.change k d).won=S.won:=by
 unfold qb4.change
 split <;> rfl
theorem Jlr (S:qb4) (x:Nat×qak):(S.take x).won.length<=S.won.length+1:=by
 unfold qb4.take
 split
 ·rw[Jll];omega
 split
 ·show S.won.length<=_;omega
 split
 ·rw[Jjj]
  split <;> (show S.won.length<=_;omega)
 split
 ·rw[Jjj]
  show (S.won++[x.2.txn]).length<=_
  rw[Z6];exact Z0 _
 split
 ·rw[Jjj];omega
 split
 ·show S.won.length<=_;omega
 ·omega
theorem Jk6 (l:List (Nat×qak)):∀S:qb4,(l.foldl qb4.take S).won.length<=S.won.length+l.length:=by
 induction l with
 | nil=>exact fun S=>Z0 _
 | cons a l ih =>
   intro S
   refine Y3 (ih _) ?_
   have:=Jlr S a
   rw[Y4]
   omega
theorem qf6.key32 {w:World}{τ:qa1}{b c:Nat}{g:Tag}{f:Nat->Option Value}(h:qf6 w τ b g c f) {k:Nat}(d:(f k).isSome=true):k<4294967296:=by
 obtain⟨D,ho,h1,h2,-⟩:=h.is
 obtain⟨j,hj,e⟩:=h1 (qcw k) (by rw[h2 k];exact d)
 have:k=j:=by
  by_cases a:k=j
  ·exact a
  ·exact absurd e (Qev a)
 omega
theorem Jk5 (o:Option qdb):(o.map qgk).getD (Value.agg #[.int .u32 0,.int .u64 0,.int .u64 0,.int .u8 0])=qgk (o.getD ⟨0,0,0,0⟩):=by cases o <;> rfl
theorem Jk4 (o:Option Nat):(o.map qj7).getD (Value.int .u64 0)=qj7 (o.getD 0):=by cases o <;> rfl
def tRp:Tag:=(341,4)
structure AnR (w:World) (τ:qa1) (S:qb4) (va vd vr:Value) (ts ps:List Nat):Prop where
 a:NS 42 4 Qct 0 w τ qfx va (ts.map (fun k=>(S.f k).getD ⟨0,0,0,0⟩))
 tn:ts.Nodup
 ti:∀k,k∈ts↔(S.f k).isSome=true
 d:NS 84 2 Qgn 0 w τ qch vd (ps.map (fun k=>(k,(S.pg k).getD 0)))
 pn:ps.Nodup
 pi:∀k,k∈ps↔(S.pg k).isSome=true
 r:NS 39 1 Jg2 0 w τ qe1 vr S.won
def AnD (w:World) (τ:qa1) (S:qb4) (e:Ending) (w':World):Prop :=
 ∃va vd vr τ' ts ps,e = .returned (.tuple #[va,vd,.agg #[vr,.slice none 0 0,.int .i64 0,.int .i64 0]])/\AnR w' τ' S va vd vr ts ps/\Step w τ w' τ' qbk
theorem Jjf {w:World}{τ:qa1}{v:Value}{l:List (Nat×qak)}(h:qdw w τ v l) (hx:∀x∈l,qj2 x) (hl:l.length<=5000) {B:Nat}(hB:qfo B) {fx px:List Nat}(hf:∀k,((l.foldl qb4.take qb4.zero).f k).isSome=true->k∈fx) (d4:fx.length<=B) (hp:∀k,((l.foldl qb4.take qb4.zero).pg k).isSome=true->k∈px) (d5:px.length<=B) (hBm:B<=1000) :
 Calls Tryz.prog 27 #[v] w (AnD w τ (l.foldl qb4.take qb4.zero)):=by
 obtain⟨p,c,rfl,fw,a2⟩:=id h.is
 obtain⟨n,hn⟩:=gN l.length
 rw[hn] at fw h hl
 have a9:=(zS w τ).alloc (.cells #[.slice none 0 0,.slice none 0 0,.int .i64 0,.int .i64 0] 52) tRp
 have ar:=Own.born w τ tRp 52 #[.slice none 0 0,.slice none 0 0,.int .i64 0,.int .i64 0]
 generalize τ.put w.heap.size tRp=ce at *
 obtain⟨b0,d6⟩:=gN w.heap.size
 obtain⟨w0,fy⟩:=gN (w.alloc (.cells #[.slice none 0 0,.slice none 0 0,.int .i64 0,.int .i64 0] 52))
 rw[fy] at a9 ar
 rw[d6] at ar
 have av:=qf6.made w0 ce qd2
 have a3:=(zS w0 ce).alloc (.map #[] 0) qd2
 generalize ce.put w0.heap.size qd2=τ1 at *
 obtain⟨bx,g0⟩:=gN w0.heap.size
 obtain⟨w1,g1⟩:=gN (w0.alloc (.map #[] 0))
 rw[g1] at a3 av
 rw[g0] at av
 have aw:=qf6.made w1 τ1 qe2
 have M:=(zS w1 τ1).alloc (.map #[] 0) qe2
 generalize τ1.put w1.heap.size qe2=cf at *
 obtain⟨bp,g2⟩:=gN w1.heap.size
 obtain⟨w2,g3⟩:=gN (w1.alloc (.map #[] 0))
 rw[g3] at M aw
 rw[g2] at aw
 have J:=(zS w2 cf).alloc (.cells #[.map (some bx),.map (some bp),.slice none 0 0,.slice none 0 0,.int .i64 0,.int .i64 0] 173) qfq
 have ax:=Own.born w2 cf qfq 173 #[.map (some bx),.map (some bp),.slice none 0 0,.slice none 0 0,.int .i64 0,.int .i64 0]
 generalize cf.put w2.heap.size qfq=da at *
 obtain⟨bt,g4⟩:=gN w2.heap.size
 obtain⟨w3,g5⟩:=gN (w2.alloc (.cells #[.map (some bx),.map (some bp),.slice none 0 0,.slice none 0 0,.int .i64 0,.int .i64 0] 173))
 rw[g5] at J ax
 rw[g4] at ax
 have db:TabAt w3 da bt 0 qb4.zero:=⟨bx,bp,_,ax,((av.step M (fun q=>q)).step J (fun q=>q)).ext (fun _=>rfl),(aw.step J (fun q=>q)).ext (fun _=>rfl),NS.nil _ _ _ _ _ _ _⟩
 have G:=((a9.trans a3).trans M).trans J
 have bd:=((ar.step a3 (fun q=>q)).step M (fun q=>q)).step J (fun q=>q)
 have bf:=G.mono (T:=qbk) (fun _ q=>q.elim)
 have dc:=h.step G (fun _ _ q=>q)
 obtain⟨dd,bg,bh,de⟩:=qb9 db bd bf dc
 clear db bd bf dc a9 a3 M J G ar av aw ax a2 h
 have hmm:=@run_makeMap Tryz.prog
 go_enter Tryz.func27,Tryz.ntmps27
 go_wp2_with fail
 go_loopw [20] (fun v wr=>∃(i:Nat) (O:qa1),i<=n/\v = .int .i64 i/\TabAt wr O bt (200*i) ((l.take i).foldl qb4.take qb4.zero)/\qdw wr O (.slice p n c) l/\Own wr O b0 tRp 52 [.slice none 0 0,.slice none 0 0,.int .i64 0,.int .i64 0]/\Step w τ wr O qbk) (fun v _=>n-(intOf v).toNat)
 case atStart=>exact⟨0,da,Z9 _,rfl,dd,de,bg,bh⟩
 case round =>
  clear dd bg bh de
  obtain⟨i,O,hi,rfl,hT,hE,ho,aa⟩:=hrel
  by_cases g6:i<n
  ·obtain⟨x,ay⟩:∃x,l[i]?=some x:=⟨_,Z3 (by rw[hn];exact g6)⟩
   obtain⟨p',c',df,-,a2⟩:=hE.is
   rw[hn] at df
   cases df
   obtain⟨be,cs,rfl,g7,g8,⟨vb,va,vt,vp,rfl,a4⟩,z⟩:=a2 i x ay
   have dh:=hx x (List.mem_of_getElem? ay)
   have bi:(i:Int)<n:=oM
   have di:(l.take (i+1)).foldl qb4.take qb4.zero=((l.take i).foldl qb4.take qb4.zero).take x:=by
    rw[List.take_add_one,ay,Option.toList_some,List.foldl_append];rfl
   have dj:=Jk6 (l.take i) qb4.zero
   rw[List.length_take] at dj
   have az:qb4.zero.won.length=0:=rfl
   obtain⟨pb,nb,cb,rfl⟩:=a4.b
   obtain⟨pa,na,ca,rfl⟩:=a4.a
   obtain⟨pt,ct,g9⟩:=a4.t.val
   obtain⟨pp,cp,ga⟩:=a4.p.val
   subst g9 ga
   have e0:=z 0 _ rfl
   have e1:=z 1 _ rfl
   have e2:=z 2 _ rfl
   have e3:=z 3 _ rfl
   have e4:=z 4 _ rfl
   have e5:=z 5 _ rfl
   have e6:=z 6 _ rfl
   have e7:=z 7 _ rfl
   have e8:=z 8 _ rfl
   have e9:=z 9 _ rfl
   have e10:=z 10 _ rfl
   have e11:=z 11 _ rfl
   have e12:=z 12 _ rfl
   rw[Nat.add_zero] at e0
   have G:=(zS wr O).alloc' (.cells #[.int .u64 x.1,.int .u8 x.2.kind,.int .u32 x.2.txn,.int .u64 x.2.prev,.int .u64 x.2.next,.int .u32 x.2.change.page,.int .u16 x.2.change.slot,.bool x.2.change.had,.bool x.2.change.has,.slice pb nb cb,.slice pa na ca,.slice pt x.2.qbm.length ct,.slice pp x.2.pages.length cp] 75)
   have b1:=qgs (hT.step G (fun _ _ q=>q)) dh (a4.step G (fun _ _ q=>q)) (by unfold maxLen;omega) oM
   have dk:=hE.step G (fun _ _ q=>q)
   have dl:=ho.step G (fun q=>q)
   have bj:=aa.trans (G.mono (T:=qbk) (fun _ q=>q.elim))
   obtain⟨gb,gd,ge,dm,gf⟩:=qbq b1 dk dl bj di
   clear b1 dk dl bj di hT hE ho aa a2 a4 z G ay dh dj az g7 g8
   go_wp2_with fail
   refine gb.mono ?_
   rintro e w4 ⟨rfl,b2,ab,D⟩
   rw[<-gf.out] at ab
   have ab:=ab.le (show 200*i+200<=200*(i+1) by omega)
   have dn:=gd.step D (fun g hg=>Jkf hg)
   have ac:=ge.step D (fun q=>by
    rcases q with q|q
    ·unfold qeq at q;simp[tRp] at q
    ·simp[tRp,tCp] at q)
   have R:=dm.trans D
   obtain⟨gg,gh,b3,ad⟩:=qb9 ab dn ac R
   clear ab dn ac R D
   go_wp2_with fail
   go_round
   case rel=>exact⟨i+1,b2,oM,sM,gg,gh,b3,ad⟩
   case measure=>simp[intOf];omega
  ·have gi:i=n:=oM
   subst gi
   have b1:l.take i=l:=by rw[<-hn];exact List.take_length
   rw[b1] at hT
   obtain⟨wA,gj⟩:∃W,W=wr:=⟨_,rfl⟩
   subst gj
   obtain⟨S,hS⟩:=gN (l.foldl qb4.take qb4.zero)
   rw[hS] at hT hf hp ⊢
   obtain⟨bx,bp,vw,ht,cg,dp,dq⟩:=hT.is
   obtain⟨D1,dr,ds⟩:=Jlo cg hB oM d4 (fun k L=>hf k (by rw[Option.isSome_map] at L;exact L)) (C:=fun e w'=>∃(v:Value) (ts:List Nat) (E:qa1),e = .returned v/\ts.Nodup/\(∀k,k∈ts↔(S.f k).isSome=true)/\NS 39 1 Jg2 wA.heap.size w' E qga v ts/\Step wA O w' E nil) (fun v ts E w' h1 h2 h3 h4=>⟨v,ts,E,rfl,h1,fun k=>by rw[h2 k,Option.isSome_map],h3,h4⟩)
   have c0:=ht.at 0 rfl
   have bk:=aa
   obtain⟨dt,dv,Ht,dw,dx,dy,Ho,dz,Hf,Hp,ea⟩:=qg6 dr ds ht cg dp dq ho aa hf hp bk
   clear dr ds ht cg dp dq ho aa hf hp bk hT hE
   go_wp2_with fail
   refine dt.mono ?_
   rintro e w' ⟨rfl,rfl⟩
   go_wp2_with fail
   refine dv.mono ?_
   rintro e w4 ⟨v,ts,b2,rfl,ch,ci,eb,D⟩
   obtain⟨pk,ck,rfl,gn,hck2,ec⟩:=eb.at (fun x _=>rfl) dC
   have ed:ts.length<=B:=Y3 (Qph ts fx ch (fun k L=>Hf k ((ci k).1 L))) d4
   obtain⟨m,hm⟩:=gN ts.length
   rw[hm] at gn ed
   rw[hm]
   obtain⟨i0,ee,az,ef,eg⟩:=info_parts Tryz.infoActive
   have eh:=Ht.step D (fun q=>q)
   have bl:=dw.step D (fun q=>q)
   have bm:=dx.step D (fun q=>q)
   have bn:=dy.step D (fun q=>q)
   have ac:=Ho.step D (fun q=>q)
   have R:=dz.trans (D.mono (T:=qbk) (fun _ q=>q.elim))
   obtain⟨HM,cj,af,bo,bq,b3,ad,gq,ei,gr,gs,gt⟩:=qds hm eh bl bm bn ac R ch ci ec ee az
   obtain⟨gv,gw,ej⟩:=qan ef eg D
   clear eh bl bm bn ac R ch ci ec ee az ef eg D eb hm dt dv c0 Ht dw dx dy Ho dz
   go_wp2_with fail
   go_loopw [8,35] (fun o v wq=>∃(j:Nat) (Z:qa1),j<=m/\v = .int .i64 j/\NS 42 4 Qct wA.heap.size wq Z qfx o ((ts.take j).map (fun k=>(S.f k).getD ⟨0,0,0,0⟩))/\Step wA O wq Z nil/\Step w4 b2 wq Z (fun g=>g=qfx)) (fun _ v _=>m-(intOf v).toNat)
   case atStart=>exact⟨0,b2,Z9 _,rfl,NS.nil _ _ _ _ _ _ _,ej,Step.refl _ _ _⟩
   case round =>
    obtain⟨wq,gx⟩:∃W,W=wr:=⟨_,rfl⟩
    subst gx
    obtain⟨j,Z,hj,rfl,U,b4,s⟩:=hrel
    obtain⟨po,co,rfl⟩:=U.val
    have b5:((ts.take j).map (fun k=>(S.f k).getD ⟨0,0,0,0⟩)).length=j:=by rw[Y0,List.length_take,HM.out];omega
    by_cases ek:j<m
    ·obtain⟨k,L⟩:∃k,ts[j]?=some k:=⟨_,Z3 (by rw[HM.out];exact ek)⟩
     obtain⟨b,rfl,X,hc⟩:=gr j k L
     have ag:=(ei k).1 (List.mem_of_getElem? L)
     have b0:=cell_kept s (by simpa using hc 0 oM _ rfl) (fun e=>by rw[X] at e;simp[qga,qfx] at e)
     have ah:=cj.step s (by simp[qfq,qfx])
     have c0:=ah.at 0 rfl
     have ai:=af.step s (by simp[qd2,qfx])
     have aj:k<4294967296:=af.key32 (by rw[Option.isSome_map];exact ag)
     have F:=ai.look Tryz.underlying170 (Tryz.zeroValue42 wq) k aj false
     rw[if_neg sM] at F
     change _=Result.ok (((S.f k).map qgk).getD (Value.agg #[.int .u32 0,.int .u64 0,.int .u64 0,.int .u8 0])) wq at F
     rw[Jk5] at F
     have y:(ts.take (j+1)).map (fun k=>(S.f k).getD ⟨0,0,0,0⟩)=(ts.take j).map (fun k=>(S.f k).getD ⟨0,0,0,0⟩)++[(S.f k).getD ⟨0,0,0,0⟩]:=by
      rw[List.take_add_one,L,Option.toList_some,List.map_append,List.map_singleton]
     obtain⟨x,ak⟩:∃x,(S.f k).getD ⟨0,0,0,0⟩=x:=⟨_,rfl⟩
     rw[ak] at F y
     unfold qgk at F
     rw[b5]
     rw[b5] at U
     have bi:(j:Int)<m:=oM
     have al:((ts.take j).map (fun k=>(S.f k).getD ⟨0,0,0,0⟩)).length<=1000000:=by rw[b5];omega
     obtain⟨b6,gy,en,a0,cm⟩:=qbq U b4 s y al
     clear U b4 s y al b5 ah ai hc X L ag ak
     go_wp2_with (at_builtin;refine Jb4 Tryz.underlying34 gs gt gv gw rfl dC gy b6 x rfl (by simp[Qct,Value.oneCell']) cm dC (kb:=wq.heap.size) rfl rfl _ _ rfl rfl rfl rfl ?_;intro v' w' E hb he am;obtain⟨Hb,He,cn⟩:=qan hb he am;clear hb he am)
     go_round
     case rel=>exact⟨j+1,E,oM,sM,by rw[a0.out];exact Hb,He,en.trans cn⟩
     case measure=>simp[intOf];omega
    ·have h5:j=m:=oM
     subst h5
     have br:ts.take j=ts:=by rw[<-HM.out];exact List.take_length
     rw[br] at U
     have cr:=cj.step s (by simp[qfq,qfx])
     have an:=bo.step s (by simp[qe2,qfx])
     have bs:=bq.step s (by simp[qe1,qfx])
     have er:=b3.step s (by simp[tRp,qfx])
     have bv:Step w τ wq Z qbk:=ea.trans (b4.mono (T:=qbk) (fun _ q=>q.elim))
     obtain⟨D2,et,ev⟩:=Jln an hB oM d5 (fun k L=>Hp k (by rw[Option.isSome_map] at L;exact L)) (C:=fun e w'=>∃(v:Value) (ps:List Nat) (E:qa1),e = .returned v/\ps.Nodup/\(∀k,k∈ps↔(S.pg k).isSome=true)/\NS 39 1 Jg2 wq.heap.size w' E qga v ps/\Step wq Z w' E nil) (fun v ps E w' h1 h2 h3 h4=>⟨v,ps,E,rfl,h1,fun k=>by rw[h2 k,Option.isSome_map],h3,h4⟩)
     have c1:=cr.at 1 rfl
     obtain⟨na,ew⟩:=gN ((ts.map (fun k=>(S.f k).getD ⟨0,0,0,0⟩)).length)
     rw[ew] at U
     obtain⟨ey,ez,f4,bw,bz,f5,f6,b6⟩:=qen et ev cr an bs er bv U
     clear et ev cr an bs er bv U cj af bo bq b3 ad b4 s ej
     rw[br,ew]
     go_wp2_with fail
     refine ey.mono ?_
     rintro e w' ⟨rfl,rfl⟩
     go_wp2_with fail
     refine ez.mono ?_
     rintro e w5 ⟨v,ps,f7,rfl,cw,cx,c3,a1⟩
     obtain⟨pq,cq,rfl,h6,hcq2,c4⟩:=c3.at (fun x _=>rfl) dC
     have f8:ps.length<=B:=Y3 (Qph ps px cw (fun k L=>Hp k ((cx k).1 L))) d5
     obtain⟨m5,b7⟩:=gN ps.length
     rw[b7] at h6 f8
     rw[b7]
     obtain⟨i1,fa,fb,fc,fe⟩:=info_parts Tryz.infoDirty
     have ff:=f4.step a1 (fun q=>q)
     have c5:=bw.step a1 (fun q=>q)
     have c6:=bz.step a1 (fun q=>q)
     have fg:=f5.step a1 (fun q=>q)
     have c7:=b6.step a1 (fun q=>q)
     obtain⟨cy,d0,c8,ao,d1,c9,h7,fh,fi,h8,h9,ha⟩:=qds b7 ff c5 c6 fg c7 cw cx c4 fa fb fc
     obtain⟨hd,hh⟩:=qaj fe a1
     clear ff c5 c6 fg c7 cw cx c4 fa fb fc fe a1 c3 b7 ey ez c1 f4 bw bz f5 b6
     go_wp2_with fail
     go_loopw [11,56] (fun o v wz=>∃(k:Nat) (I:qa1),k<=m5/\v = .int .i64 k/\NS 84 2 Qgn wq.heap.size wz I qch o ((ps.take k).map (fun k=>(k,(S.pg k).getD 0)))/\Step wq Z wz I nil/\Step w5 f7 wz I (fun g=>g=qch)) (fun _ v _=>m5-(intOf v).toNat)
     case atStart=>exact⟨0,f7,Z9 _,rfl,NS.nil _ _ _ _ _ _ _,hh,Step.refl _ _ _⟩
     case round =>
      obtain⟨wz,hr⟩:∃W,W=wr:=⟨_,rfl⟩
      subst hr
      obtain⟨q,I,hq,rfl,Y,b8,d⟩:=hrel
      obtain⟨pz,cz,rfl⟩:=Y.val
      have b9:((ps.take q).map (fun k=>(k,(S.pg k).getD 0))).length=q:=by rw[Y0,List.length_take,cy.out];omega
      by_cases fj:q<m5
      ·obtain⟨k,L⟩:∃k,ps[q]?=some k:=⟨_,Z3 (by rw[cy.out];exact fj)⟩
       obtain⟨b,rfl,X,hc⟩:=fi q k L
       have ag:=(fh k).1 (List.mem_of_getElem? L)
       have b0:=cell_kept d (by simpa using hc 0 oM _ rfl) (fun e=>by rw[X] at e;simp[qga,qch] at e)
       have ah:=d0.step d (by simp[qfq,qch])
       have c1:=ah.at 1 rfl
       have ai:=c8.step d (by simp[qe2,qch])
       have aj:k<4294967296:=c8.key32 (by rw[Option.isSome_map];exact ag)
       have F:=ai.look Tryz.underlying171 (Tryz.zeroValue40 wz) k aj false
       rw[if_neg sM] at F
       change _=Result.ok (((S.pg k).map qj7).getD (Value.int .u64 0)) wz at F
       rw[Jk4] at F
       have y:(ps.take (q+1)).map (fun k=>(k,(S.pg k).getD 0))=(ps.take q).map (fun k=>(k,(S.pg k).getD 0))++[(k,(S.pg k).getD 0)]:=by
        rw[List.take_add_one,L,Option.toList_some,List.map_append,List.map_singleton]
       obtain⟨x,ak⟩:∃x,(S.pg k).getD 0=x:=⟨_,rfl⟩
       rw[ak] at F y
       unfold qj7 at F
       rw[b9]
       rw[b9] at Y
       have bi:(q:Int)<m5:=oM
       have al:((ps.take q).map (fun k=>(k,(S.pg k).getD 0))).length<=1000000:=by rw[b9];omega
       obtain⟨hs,hv,fk,a0,cm⟩:=qbq Y b8 d y al
       clear Y b8 d y al b9 ah ai hc X L ag ak
       go_wp2_with (at_builtin;refine Jb4 Tryz.underlying71 h8 h9 ha hd rfl dC hv hs (k,x) rfl (by simp[Qgn,Value.oneCell']) cm dC (kb:=wz.heap.size) rfl rfl _ _ rfl rfl rfl rfl ?_;intro v' w' E hb he am;obtain⟨Hb,He,cn⟩:=qan hb he am;clear hb he am)
       go_round
       case rel=>exact⟨q+1,E,oM,sM,by rw[a0.out];exact Hb,He,fk.trans cn⟩
       case measure=>simp[intOf];omega
      ·have hw:q=m5:=oM
       subst hw
       have cc:ps.take q=ps:=by rw[<-cy.out];exact List.take_length
       rw[cc] at Y
       obtain⟨np,fm⟩:=gN ((ps.map (fun k=>(k,(S.pg k).getD 0))).length)
       rw[fm] at Y
       rw[cc,fm]
       have ba:=(zS wz I).drew
       have a5:=(d0.step d (by simp[qfq,qch])).step ba (fun q=>q)
       have d2:=(d1.step d (by simp[tRp,qch])).step ba (fun q=>q)
       have ap:=(ao.step d (by simp[qe1,qch])).step ba (fun q=>q)
       obtain⟨pv,cv,rfl⟩:=ap.val
       obtain⟨nv,fn⟩:=gN S.won.length
       rw[fn] at a5 ap
       have x2:=a5.at 2 rfl
       have x3:=a5.at 3 rfl
       have x4:=a5.at 4 rfl
       have x5:=a5.at 5 rfl
       have y0:=d2.at 0 rfl
       have z0:=d2.fz 0
       have r:=d1.step d (by simp[tRp,qch])
       have y1w:=r.at 1 rfl
       have z1w:=r.fz 1
       have y2w:=r.at 2 rfl
       have z2w:=r.fz 2
       have y3w:=r.at 3 rfl
       have z3w:=r.fz 3
       have aq:=((((r.set 0 (.slice pv nv cv)).set 1 (.slice none 0 0)).set 2 (.int .i64 0)).set 3 (.int .i64 0)).drew
       have f0:=aq.at 0 rfl
       have f1:=aq.at 1 rfl
       have f2:=aq.at 2 rfl
       have f3:=aq.at 3 rfl
       have bb:w.heap.size<=b0:=Nat.le_of_eq d6
       have bc:Step wz I (((((wz.setCell ⟨b0,0,none⟩ (.slice pv nv cv)).setCell ⟨b0,1,none⟩ (.slice none 0 0)).setCell ⟨b0,2,none⟩ (.int .i64 0)).setCell ⟨b0,3,none⟩ (.int .i64 0)).drew) I (fun g=>g=tRp):=((((((Step.refl wz I (fun g=>g=tRp)).set (o:=0) r.tag rfl _).set (o:=1) r.tag rfl _).set (o:=2) r.tag rfl _).set (o:=3) r.tag rfl _)).drew
       have cd:Step w τ (((((wz.setCell ⟨b0,0,none⟩ (.slice pv nv cv)).setCell ⟨b0,1,none⟩ (.slice none 0 0)).setCell ⟨b0,2,none⟩ (.int .i64 0)).setCell ⟨b0,3,none⟩ (.int .i64 0)).drew) I qbk:=(((((f6.trans (b8.mono (T:=qbk) (fun _ q=>q.elim))).qa3 (o:=0) bb _).qa3 (o:=1) bb _).qa3 (o:=2) bb _).qa3 (o:=3) bb _).drew
       have hA:=((c9.step d (by simp[qfx,qch])).step bc (by simp[qfx,tRp])).zero
       have hD:=(Y.step bc (by simp[qch,tRp])).zero
       have hR:=(ao.step d (by simp[qe1,qch])).step bc (by simp[qe1,tRp])
       rw[fn] at hR
       obtain⟨fo,HA,HD,HR⟩:=qb9 cd hA hD hR
       clear a5 d2 ap cd hA hD hR Y b8 d d0 d1 ao c9 ba r aq bc
       go_wp2_with fail
       go_region
       go_wp2_with fail
       refine bodyPost_ret (by simp[results,Tryz.results27,go_sem,f0,f1,f2,f3];try rfl) rfl ?_
       refine⟨_,_,_,I,ts,ps,rfl,?_,fo⟩
       rw[hS]
       exact⟨HA,gq,ei,HD,h7,fh,HR⟩
end Go.Proofs.YtociicnopccppaaGreat
namespace Go.Proofs.YtociicnopccppaaGreat
open Go.RowKit Go.Lib Go.Sort
theorem Jhm (n:Nat) (hn:n<18446744073709551616) (w:World):Calls Tryz.prog 155 #[.int .u64 n] w fun e a=>e = .returned (.int .i64 ((Lib.bitLen n:Nat):Int))/\a=w:=by
 have h:=Any.bits_Len (SlLaysF0.n15.bits (P:=Tryz.prog) (ρ:=Tryz.sortD_ren) {Tryz.sortD with}) (n:Int) w oM oM
 rwa [Int.toNat_natCast] at h
theorem Jmj {w wr:World}{τ:qa1}{b off:Nat}{ys:List Value}{c:List Nat}{n cap lim:Nat}(h:Srt w τ b off ys c wr) (hn:c.length=n) (h12:n<=12) :
 Calls Tryz.prog 154 #[.slice (some ⟨b,off,none⟩) n cap,.int .i64 0,.int .i64 n,.int .i64 lim] wr fun e g=>e = .returned (.tuple #[])/\Srt w τ b off ys c g:=by
 have a:=Jhr h hn (cap:=cap) (lo:=0) (hi:=n) (Z0 _) (Z9 _) oM
 rw[show ((0:Nat):Int)=0 from rfl] at a
 have hmI:(n:Int)<=12:=oM
 have d:=Z2 a
 clear a h
 go_enter Tryz.func154,Tryz.ntmps154
 go_wp2_with fail
 go_loopw [1,2] (fun v j k=>v = .int .i64 0/\j = .int .i64 n/\k=wr) (fun v _ _=>0)
 case atStart=>exact⟨rfl,rfl,rfl⟩
 case round =>
  obtain⟨rfl,rfl,rfl⟩:=hrel
  go_wp2_with fail
  refine d.mono ?_
  rintro e g ⟨rfl,i⟩
  have l:=Z2 i
  clear i
  go_wp2_with fail
  (try simp only[Exit.inBlock,Exit.then])
  refine bodyPost_ret (results_none rfl _ _ _) rfl ?_
  exact⟨rfl,l⟩
theorem Jmi {w wr:World}{τ:qa1}{b off:Nat}{ys:List Value}{c:List Nat}{n cap:Nat}(h:Srt w τ b off ys c wr) (hn:c.length=n) (hcap:n<=cap) (d:n<=12) :
 Calls Tryz.prog 92 #[.slice (some ⟨b,off,none⟩) n cap] wr fun e g=>e = .returned (.tuple #[])/\Srt w τ b off ys c g:=by
 have hl:=Jhm n oM
 obtain⟨k,a⟩:∃k,Lib.bitLen n=k:=⟨_,rfl⟩
 rw[a] at hl
 have i:=Jmj (lim:=k) (cap:=cap) h hn d
 obtain⟨l,o⟩:=qaj hl i
 clear hl i h a
 go_enter Tryz.func92,Tryz.ntmps92
 go_wp2_with (first|(go_at_call 155;refine(l _).mono ?_;rintro e g ⟨rfl,rfl⟩))
 refine o.mono ?_
 rintro e g ⟨rfl,j⟩
 have p:=Z2 j
 clear j
 go_wp2_with fail
 go_returns
 exact⟨rfl,p⟩
theorem Jiq (w:World):Calls Tryz.prog 190 #[.slice none 0 0,.int .i64 0,.int .i64 0] w fun e a=>e = .returned (.tuple #[])/\w=a:=by
 go_enter Tryz.func190,Tryz.ntmps190
 go_wp2_with fail
 go_loopw [6] (fun v wr=>v = .int .i64 1/\wr=w) (fun v _=>0)
 case atStart=>exact⟨rfl,rfl⟩
 case round =>
  obtain⟨rfl,rfl⟩:=hrel
  go_wp2_with fail
  go_returns
  exact⟨rfl,rfl⟩
theorem Jh5 (w:World):Calls Tryz.prog 154 #[.slice none 0 0,.int .i64 0,.int .i64 0,.int .i64 0] w fun e c=>e = .returned (.tuple #[])/\w=c:=by
 have a:=Jiq w
 have b:=Z2 a
 clear a
 go_enter Tryz.func154,Tryz.ntmps154
 go_wp2_with fail
 go_loopw [1,2] (fun v d wr=>v = .int .i64 0/\d = .int .i64 0/\wr=w) (fun v _ _=>0)
 case atStart=>exact⟨rfl,rfl,rfl⟩
 case round =>
  obtain⟨rfl,rfl,rfl⟩:=hrel
  go_wp2_with fail
  refine zC b ?_
  go_wp2_with fail
  (try simp only[Exit.inBlock,Exit.then])
  refine bodyPost_ret (results_none rfl _ _ _) rfl ?_
  exact⟨rfl,rfl⟩
theorem Jhx (w:World):Calls Tryz.prog 92 #[.slice none 0 0] w fun e a=>e = .returned (.tuple #[])/\w=a:=by
 have hl:=Jhm 0 oM
 rw[show Lib.bitLen 0=0 by decide] at hl
 have b:=Jh5 w
 obtain⟨c,d⟩:=qaj hl b
 clear hl b
 go_enter Tryz.func92,Tryz.ntmps92
 go_wp2_with (first|(go_at_call 155;refine(c _).mono ?_;rintro e a ⟨rfl,rfl⟩))
 refine zC d ?_
 go_wp2_with fail
 go_returns
 exact⟨rfl,rfl⟩
theorem Jmh {B:Nat}(hB:B<=12):qfo B:=by
 intro w τ n0 v d h hk hl
 obtain⟨q,h0⟩:=h.buf
 rcases h0 with ⟨rfl,h0⟩|⟨b,cap,ys,rfl,o,r,s,x⟩
 ·refine zC (Jhx w) ?_
  exact⟨rfl,d,List.Perm.refl _,h,Mod.refl _ _⟩
 ·have a:=o.row
  rw[Jg7] at a
  have l:KR w (fun k=>if k=b then qga else qay) b ys d:=⟨⟨a,if_pos rfl⟩⟩
  refine(Jmi (cap:=cap) (⟨rfl,_,d,List.Perm.refl _,l,Step.refl _ _ _⟩:Srt w (fun k=>if k=b then qga else qay) b 0 ys d w) rfl s oM).mono ?_
  rintro e w' ⟨rfl,-,τ',ts,p,n,y⟩
  have c:ts.length=d.length:=p.length_eq
  have g:(ts.flatMap Jg2).length=(d.flatMap Jg2).length:=by rw[Jg7,Jg7,Jg1,Jg1,c]
  refine⟨rfl,ts,p,⟨⟨by rw[g,c];exact q,.inr ⟨b,cap,ys,by rw[c],⟨?_,o.tag⟩,by rw[g];exact r,oM,x⟩⟩,h.low⟩,y.mod.mono (fun j _ z=>?_)⟩
  ·rw[Jg7];exact n.own.row
  ·by_cases e:j=b
   ·rw[e];rfl
   ·exfalso
    have i:qid (if j=b then qga else qay):=z
    rw[if_neg e] at i
    rcases i with h|h <;> simp[qay,qga,Jgx] at h
