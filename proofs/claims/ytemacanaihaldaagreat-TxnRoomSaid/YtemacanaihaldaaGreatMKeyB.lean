/-
 The keys of a map,collected and sorted;who runs.
-/
import Derived.Test.YtemacanaihaldaaGreatMKeyA
import Derived.Test.YtemacanaihaldaaGreatMTxL
set_option maxRecDepth 100000
set_option maxHeartbeats 4000000
set_option linter.all false
namespace Go.Proofs.YtemacanaihaldaaGreat
open Go.RowKit Go.Maps Go.Shelf
attribute [local go_sem] Oper.semAt_some
theorem NS.cells {α:Type}{e:TypeId}{k:Nat}{enc:α->List Value}{n0:Nat}{w:World}{τ:Tags}{g:Tag}{v:Value}{l:List α}(h:NS e k enc n0 w τ g v l) {j:Nat}(d:v.ownBlock=some j):τ j=g/\n0<=j/\∃m,w.heap[j]?=some (.cells ⟨m⟩ e (0,0)):=by
 rcases h.buf.2 with ⟨rfl,_⟩|⟨b,cap,ys,rfl,i,_⟩
 ·simp[Value.ownBlock] at d
 ·have:b=j:=by simpa [Value.ownBlock] using d
  subst this
  exact⟨i.tag,h.low b rfl,_,i.row⟩
theorem NS.turn {α:Type}{e:TypeId}{k:Nat}{enc:α->List Value}{n0:Nat}{w d:World}{row:Option Nat}{τ:Tags}{g:Tag}{v:Value}{l:List α}(h:NS e k enc n0 w τ g v l) (i:w.grownBy d row) (j:Qeq w row):NS e k enc n0 d τ g v l:=by
 refine⟨⟨h.buf.1,?_⟩,h.low⟩
 rcases h.buf.2 with h2|⟨b,cap,ys,e1,m,o⟩
 ·exact .inl h2
 ·exact .inr ⟨b,cap,ys,e1,m.turn i j,o⟩
theorem Jg4 {α:Type}{enc:α->List Value}{t e:TypeId}{k i:Nat}{i0:TypeInfo}{z:Value}(ht:Tryz.prog.underlying t=some (.slice e)) (hi:Tryz.prog.info? e=some i0) (E:i0.zero=some z) (G:i0.size=k) (I:i0.bytes=i) (J:z.cells.size=k) (L:0<k)
 {F:Fence} {nf:Nat} {C w:World} {r τ:Tags} {S:Tag->Prop} (M:Step C r w τ S) {g:Tag} {v:Value} {l:List α} (B:NS e k enc C.heap.size w τ g v l) (x:α) (N:(enc x).length=k) (O:∀u∈enc x,u.oneCell'=true) (hsz:l.length<=1000000) (R:i<=1000) {kb:Nat} (U:kb=w.heap.size)
 {ops:Array Oper} {rest:List Oper} {o:Oper} {a:Act} {Q:Exit->Act->World->Prop} (X:o.guard=none) (s y:Operand)
 (p:o.op = .call {callee:=.builtin .append,args:=#[s,y],argTypes:=#[t,t]}) (hs:a.eval s=v) (hy:a.eval y = .slice (some ⟨kb,0,none⟩) 1 1) {W:World} (hW:W=w.alloc (.cells (enc x).toArray e))
 (h:∀D q d,NS e k enc C.heap.size q d g D (l++[x])->Step C r q d S->Step w τ q d (fun t=>t=g)->Mod w q (fun j=>v.ownBlock=some j)->wpListIn F nf Tryz.prog ops Q rest (a.put o.dst D) q):wpListIn F nf Tryz.prog ops Q (o::rest) a W:=by
 subst U
 subst hW
 refine wpListIn_plain X fun K Y=>?_
 have b:=M.alloc' (.cells (enc x).toArray e)
 have m:=B.step ((Step.refl w τ Go.Proofs.YtemacanaihaldaaGreat.nil).alloc' (.cells (enc x).toArray e)) (fun h=>h)
 obtain⟨D,q,d,hr,Z,he,hm,a6⟩:=Qap (P:=Tryz.prog) (w.alloc (.cells (enc x).toArray e)) τ g t o.type e i0 z k i ht hi E G I J L v l.length (l.flatMap enc) m.buf
  (some ⟨w.heap.size,0,none⟩) 1 1 (enc x) (by rw[N,Nat.one_mul]) (fun h=>by cases h) (by
    intro ad had j u hu
    cases had
    exact World.news_of_block (cs:=(enc x).toArray) (t:=e) (fr:=(0,0)) (heap_alloc_new w _) j u (by simpa using hu)) O (by unfold maxLen;omega) (by
     have:(l.length+1)*i<=1000001*1000:=Nat.mul_le_mul (by omega) R
     omega)
 unfold Oper.wpIn
 refine⟨?_,?_⟩
 ·simp[Oper.about,p,resolve,Target.leads,Sem.run_pure]
 ·rw[Oper.semAt_plain F _ _ (by rw[p];intro c a7;cases a7)]
  simp[execOp,p,resolve,invoke,builtin,hs,hy,hr,Result.andThen]
  refine Y _ _ (h D q d ⟨?_,fun k hk=>?_⟩ ⟨b.mod.seq hm (fun k hk hS=>absurd (m.low k hS) (by omega)),b.ext.trans he b.size⟩ (((Step.refl w τ _).alloc' _).trans ⟨hm.mono (fun k hk hS=>(m.buf.own k hS).1),he⟩) (((Mod.refl w _).alloc _).trans hm))
  ·rw[Z6,List.flatMap_append,show [x].flatMap enc=enc x by simp];exact Z
  ·rcases a6 k hk with h|h
   ·exact m.low k h
   ·have:=b.size;omega
theorem Tryz.infoU32:(Tryz.prog.info? 36).map (fun i=>(i.zero,i.size,i.bytes))=some (some (.int .u32 0),1,4):=by kernel_rfl
theorem Jhc {W b:World}{S:Nat->Prop}(m:Mod W b S) (d:∀k o,S k->W.heap[k]?=some o->o.isCells=true):KeepsWalks W b :=
 ⟨m.size,fun k o hk e=>(m.block k (Array.getElem?_eq_some_iff.1 hk).1 (fun h=>by
  have h1:=d k o h hk
  rw[Obj.not_cells_of_walk e] at h1
  cases h1)).trans hk⟩
abbrev keyV (k:Nat):Array Value:=#[.int .u32 (k:Int)]
theorem Jh2 {w:World}{τ:Tags}{gf:Nat}{lb:Array Value}(eg:∀args w,(callFunc gf args).run Tryz.prog w = .ok (.enter gf args) w) {S:List Nat->Prop}{N:Nat}(hN:N<=1000000) (aa:SeqStopsK Fence.wide 3 Tryz.prog gf lb keyV KeepsWalks S (fun _=>True) N w) :
 Calls Tryz.prog 233 #[.slice none 0 0,.func (.func gf) #[] lb] w fun e w'=>∃v ss b,e = .returned v/\S ss/\NS 36 1 Jg2 w.heap.size w' b tKey v ss/\Step w τ w' b nil:=by
 have E:=(Step.refl w τ nil).alloc (.cells #[Value.slice none 0 0] 83) tBox
 have s:=Own.new w τ tBox 83 [.slice none 0 0]
 have F:(w.alloc (.cells #[.slice none 0 0] 83)).heap.size=w.heap.size+1:=by simp
 have G:Below w.heap.size w (w.alloc (.cells #[.slice none 0 0] 83)):=(Below.refl _ w).alloc (Z0 _) _
 obtain⟨i0,hi,ab,ac,ad⟩:=info_parts Tryz.infoU32
 obtain⟨ae,M,I,af,Hi,ar,av,aw⟩:=hid8 E s F G hi ab ac ad
 clear E s F G hi ab ac ad
 refine(callsIn_wide (n:=4)).1 ?_
 refine callsIn_of_wp_marks Tryz.func233 rfl trivial ?_ rfl
 simp only[Tryz.ntmps233,List.size_toArray,Y4,List.length_nil,Nat.reduceAdd,Nat.reduceSub,Array.replicate_succ,Array.replicate_zero,List.push_toArray,List.append_toArray,List.nil_append,List.cons_append]
 gi_wp2
 generalize w.alloc (.cells #[.slice none 0 0] 83)=W0 at *
 refine wpIn_rangeFunc_ownG rfl (by omega) (gf:=gf) (lb:=lb) rfl trivial eg
  aa walksK_t (walksK_b) af.out (fun _=>rfl)
  (fun pre W=>∃b vo,Step w τ W b nil/\Own W b w.heap.size tBox 83 [vo]/\NS 36 1 Jg2 w.heap.size W b tKey vo pre) (fun _ _ _=>False) ?hI (fun _ _ _ _ _ hs _ _=>hs) ?h0
  (fun k=>{tmps:=#[.slice none 0 0,.func (.func gf) #[] lb,.pointer (some ⟨w.heap.size,0,none⟩),undef,.slice none 0 0,.int .u32 (k:Int),.func (.func gf) #[] lb,.int .u32 (k:Int),undef,undef,undef,undef,undef],defers:=[]}) ?assign ?body ?done ?stop
 case hI =>
  rintro pre W W' row ⟨b,vo,h1,h2,h3⟩ hg hr
  have C:Qeq W row:=fun r e=>(hr r e).2
  exact⟨b,vo,h1.turn hg (fun r e=>by have:=(hr r e).1;rw[I.out] at this;omega),h2.turn hg C,h3.turn hg C⟩
 case h0=>exact⟨_,_,ae.out,M.out,NS.nil _ _ _ _ _ _ _⟩
 case assign =>
  intro l x W K hK
  gi_wp2
  exact hK
 case body =>
  rintro l pre x W ⟨b,vo,y,d,m⟩ hlt
  obtain⟨po,co,rfl⟩:=m.val
  have c0:=d.at 0 rfl
  have z0:=d.fz 0
  have O:=fun k=>m.cells (j:=k)
  have ag:=d.row
  have R:pre.length<=1000000:=by omega
  obtain⟨np,U⟩:∃n,pre.length=n:=⟨_,rfl⟩
  rw[U] at m R O c0
  obtain⟨X,ah,Y,ax,ay,az,b0⟩:=hid7 y d m O ag R U
  clear y d m O ag R U
  gi_wp2_with (first
   | (refine Jg4 Tryz.underlying83 Hi.out ar.out av.out aw.out rfl (by decide) X.out Y.out x rfl (by simp[Jg2,Value.oneCell']) (by rw[b0.out];exact az.out) (by decide) (kb:=W.heap.size) rfl rfl _ _ rfl rfl rfl rfl ?_
      intro v4 w4 ai z aj Z ak
      obtain⟨p4,c4,rfl⟩:=z.val
      have i:=ah.out.step Z (by simp[tBox,tKey])
      have c04:=i.at 0 rfl
      have z04:=i.fz 0
      have B:=i.tag
      obtain⟨al,b2,HW4,b3,a1,a6⟩:=hid6 z aj Z ak i B
      clear z aj Z ak i B))
  have J:Mod W (w4.setCell ⟨w.heap.size,0,none⟩ (.slice p4 (pre.length+1) c4)) (fun k=>k=w.heap.size\/(Value.slice po np co).ownBlock=some k):=(b3.out.mono (fun _ _ h=>.inr h)).setCell (p:=⟨w.heap.size,0,none⟩) (fun _=>.inl rfl) _
  have am:(pre++[x]).length=pre.length+1:=by simp
  have L:=al.out.step ((Step.refl w4 ai (fun t=>t=tBox)).set (o:=0) a6.out rfl (.slice p4 (pre.length+1) c4)) (fun h=>by simp[tKey,tBox] at h)
  rw[am] at L
  have q:∀k o,(k=w.heap.size\/(Value.slice po np co).ownBlock=some k)->W.heap[k]?=some o->o.isCells=true:=by
   rintro k o (rfl|hk) ho
   ·rw[ay.out] at ho;cases ho;rfl
   ·obtain⟨_,_,xs,hx⟩:=ax.out k hk
    rw[hx] at ho;cases ho;rfl
  exact⟨Qh4 J q,Jhc J q,ai,.slice p4 (pre.length+1) c4,b2.out.setNew (Z0 _) _,a1.out.set 0 _,L⟩
 case done =>
  rintro D ys W hD b4 ⟨b,vo,y,d,m⟩ hK
  obtain⟨po,co,rfl⟩:=m.val
  have c0:=d.at 0 rfl
  obtain⟨X,Y,HK⟩:=hid3 y m hK
  clear y m hK
  gi_wp2
  refine⟨by simp,.inl ⟨_,_,rfl,run_takeDeferred HK.out,?_⟩⟩
  have hg:=grownBy_putObj' W D (.deferred none)
  have C:Qeq W (some D):=fun r e=>by cases e;exact⟨_,HK.out,rfl⟩
  exact⟨_,results_tmp rfl _ _ _,.slice po ys.length co,ys,b,rfl,b4,Y.out.turn hg C,X.out.turn hg (fun r e=>by cases e;have:=I.out;omega)⟩
 case stop =>
  rintro D c pre W _ _ h _
  exact h.elim
def SortC (B:Nat):Prop:=∀{w:World}{τ:Tags}{n0:Nat}{v:Value}{ss:List Nat},NS 36 1 Jg2 n0 w τ tKey v ss->(∀k∈ss,k<4294967296)->ss.length<=B->Calls Tryz.prog 159 #[v] w fun e w'=>e = .returned (.tuple #[])/\∃ts,ts.Perm ss/\NS 36 1 Jg2 n0 w' τ tKey v ts/\Mod w w' (fun j=>v.ownBlock=some j)
theorem Jhs {w:World}{τ:Tags}{gf:Nat}{lb:Array Value}(m:∀args w,(callFunc gf args).run Tryz.prog w = .ok (.enter gf args) w) {S:List Nat->Prop}{N:Nat}(o:N<=1000000) (d:SeqStopsK Fence.wide 3 Tryz.prog gf lb keyV KeepsWalks S (fun _=>True) N w) :
 Calls Tryz.prog 158 #[.func (.func gf) #[] lb] w fun e j=>∃v i b,e = .returned v/\S i/\NS 36 1 Jg2 w.heap.size j b tKey v i/\Step w τ j b nil:=by
 have h2:=Jh2 (τ:=τ) m o d
 have q:=Z2 h2
 clear h2 d
 go_enter Tryz.func158,Tryz.ntmps158
 go_wp2_with fail
 refine q.out.mono ?_
 rintro e j ⟨v,i,b,rfl,r,h,l⟩
 obtain⟨p,c,rfl⟩:=h.val
 obtain⟨k,s⟩:=hid2 h l
 clear h l
 go_wp2_with fail
 go_ret
 exact⟨_,i,b,rfl,r,k.out,s.out⟩
theorem Jhw {w:World}{τ:Tags}{gf:Nat}{lb:Array Value}(G:∀args w,(callFunc gf args).run Tryz.prog w = .ok (.enter gf args) w) {S:List Nat->Prop}{N B:Nat}(I:N<=1000000) (i:SeqStopsK Fence.wide 3 Tryz.prog gf lb keyV KeepsWalks S (fun _=>True) N w) (J:SortC B) (D:∀d,S d->(∀k∈d,k<4294967296)/\d.length<=B) :
 Calls Tryz.prog 91 #[.func (.func gf) #[] lb] w fun e x=>∃v d ts b,e = .returned v/\S d/\ts.Perm d/\NS 36 1 Jg2 w.heap.size x b tKey v ts/\Step w τ x b nil:=by
 have h1:=Jhs (τ:=τ) G I i
 have L:=Z2 h1
 clear h1 i
 go_enter Tryz.func91,Tryz.ntmps91
 go_wp2_with fail
 refine L.out.mono ?_
 rintro e x ⟨v,d,b,rfl,o,h,E⟩
 have h2:=J h (D d o).1 (D d o).2
 have q:=fun k=>h.cells (j:=k)
 obtain⟨p,c,rfl⟩:=h.val
 obtain⟨y,M,z⟩:=hid3 E h2 q
 clear E h2 q h
 go_wp2_with fail
 refine M.out.mono ?_
 rintro e O ⟨rfl,ts,F,l,C⟩
 have hl:=F.length_eq
 have hlw:=y.out.size
 have m:Step w τ O b nil:=⟨y.out.mod.seq C (fun j hj e=>by have:=(z.out j e).2.1;omega),y.out.ext⟩
 obtain⟨r,s⟩:=hid2 l m
 clear l m
 go_wp2_with fail
 go_ret
 exact⟨_,d,ts,b,rfl,o,F,r.out,s.out⟩
def OneP.act (x:OneP):TxnP:=⟨x.txn,x.last,x.undo,x.state⟩
def tAct:Tag:=(331,0)
theorem Tryz.underKeysTxn (args:Array Value) (w:World):(callFunc 160 args).run Tryz.prog w = .ok (.enter 160 args) w:=enters_of Tryz.func160 (by kernel_rfl) rfl args w
theorem OneP.id_inj {X:List OneP}(hn:(OneP.ids X).Nodup) {x y:OneP}(h:x∈X) (i:y∈X) (e:x.txn=y.txn):x=y:=by
 induction X with
 | nil=>cases h
 | cons z X ih =>
   obtain⟨h1,h2⟩:=List.nodup_cons.1 hn
   rcases List.mem_cons.1 h with rfl|d
   ·rcases List.mem_cons.1 i with rfl|b
    ·rfl
    ·exact absurd (List.mem_map.2 ⟨y,b,e.symm⟩) h1
   ·rcases List.mem_cons.1 i with rfl|b
    ·exact absurd (List.mem_map.2 ⟨x,d,e⟩) h1
    ·exact ih h2 d b
def oneOf (X:List OneP) (k:Nat):OneP:=(X.find? (fun x=>x.txn==k)).getD ⟨0,0,0,0,0,[]⟩
theorem Jhi {X:List OneP}{k:Nat}(h:k∈OneP.ids X):oneOf X k∈X/\(oneOf X k).txn=k:=by
 unfold oneOf
 cases b:X.find? (fun x=>x.txn==k) with
 | none =>
   obtain⟨x,d,e⟩:=List.mem_map.1 h
   have:=List.find?_eq_none.1 b x d
   simp[e] at this
 | some x =>
   have h1:=List.mem_of_find?_eq_some b
   have h2:=List.find?_some b
   exact⟨h1,by simpa using h2⟩
theorem Jg6 {w:World}{τ:Tags}{bm bl bp:Nat}{bo:Nat->Nat}{X:List OneP}{next:Nat}(h:MgrAt w τ bm bl bp bo X next) {B:Nat}(hB:SortC B) (bc:X.length<=B) :
 Calls Tryz.prog 31 #[.pointer (some ⟨bm,0,none⟩)] w fun e w'=>∃(v:Value) (ts:List Nat) (U:Tags),e = .returned v/\ts.Perm (OneP.ids X)/\NS 75 4 Qct w.heap.size w' U tAct v (ts.map (fun k=>(oneOf X k).act))/\Step w τ w' U nil:=by
 obtain⟨ba,ho,hp⟩:=h.is
 have bd:=h.many
 have c2:=ho.at 2 (v:=.map (some ba)) rfl
 have d:=(Step.refl w τ nil).alloc (.cells #[.map (some ba)] 169) tBox
 have C:=Own.new w τ tBox 169 [.map (some ba)]
 have Y:=h.nil d
 obtain⟨E,aa,ab⟩:=Y.is
 have be:E=ba:=by
  have:=aa.at 2 (v:=.map (some E)) rfl
  have h2:=(ho.step d (fun h=>h)).at 2 (v:=.map (some ba)) rfl
  rw[this] at h2
  simpa using h2
 subst be
 obtain⟨nn,D,l,F,s,-⟩:=ab.is
 have p:∀k,k<4294967296->(has D (litK k)=true↔k∈OneP.ids X):=fun k _=>by rw[s k];exact(Qri k).symm
 have G:∀k∈OneP.ids X,k<4294967296:=fun k hk=>by
  obtain⟨x,hx,rfl⟩:=List.mem_map.1 hk
  have:=h.low x hx
  have:=h.nx
  omega
 have q:∀ss,Jhv D ss->ss.Perm (OneP.ids X):=fun ss hs=>(List.perm_ext_iff_of_nodup hs.1 h.nodup).2 fun k=>by
  constructor
  ·intro hk
   have:=hs.2.1 k hk
   exact(p k this).1 ((hs.2.2 k this).1 hk)
  ·intro hk
   have:=G k hk
   exact(hs.2.2 k this).2 ((p k this).2 hk)
 have I:(OneP.ids X).length=X.length:=Y0 ..
 have am:Maps.size D<=1000000:=by
  have:=(Qpa l F s (by omega)).2.2.1
  have h2:=(Qpa l F s (by omega)).1
  have h3:=Qk7 1000 _ h2 (Qpa l F s (by omega)).2.2.2
  omega
 have J:=Jh0 Fence.wide 3 trivial rfl (by omega) w.heap.size E nn D _ (C.at 0 rfl) l
 have h1:=Jhw (τ:=τ.put w.heap.size tBox) (gf := 160) (lb:=#[.pointer (some ⟨w.heap.size,0,none⟩)]) Tryz.underKeysTxn am J hB (fun ss hs=>⟨hs.2.1,by rw[(q ss hs).length_eq,I];exact bc⟩)
 have hk:Calls Tryz.prog 92 #[.map (some E)] w fun e w'=>e = .returned (.func (.func 160) #[] #[.pointer (some ⟨w.heap.size,0,none⟩)])/\w'=w.alloc (.cells #[.map (some E)] 169):=by
  clear h1 J am q G p F s l Y aa ab d C hp ho h c2
  have hmf:∀(fn:Fn) (first cap:Array Value) (w:World),(Instr.makeFunc fn first cap).run Tryz.prog w = .ok (.func fn first cap) w:=fun _ _ _ _=>rfl
  go_enter Tryz.func92,Tryz.ntmps92
  go_wp2_with fail
  go_ret
  exact⟨rfl,rfl⟩
 have a1:=h.nodup
 obtain⟨H1,L,Hk,an,H_h,ao,ap,HndX⟩:=hid8 h1 d hk q h I Y a1
 clear h1 d hk q h I Y a1 C hp ho aa ab l J F s G p
 go_enter Tryz.func31,Tryz.ntmps31
 go_wp2_with fail
 refine Hk.out.mono ?_
 rintro e w' ⟨rfl,rfl⟩
 go_wp2_with fail
 refine H1.out.mono ?_
 rintro e w2 ⟨v,ss,ts,aq,rfl,hS,M,j,ae⟩
 have m:=L.out.trans ae
 have ar:=ap.out.nil ae
 have af:=M.trans (an.out ss hS)
 have av:=af.length_eq
 obtain⟨pk,ck,rfl,bf,hck2,aw⟩:=j.at (fun x _=>rfl) (by decide)
 obtain⟨n,hn⟩:∃n,ts.length=n:=⟨_,rfl⟩
 have hn64:n<=64:=by rw[<-hn,av,ao.out];exact bd
 rw[hn] at bf
 rw[hn]
 obtain⟨i0,hi,ax,ay,az⟩:=info_parts Tryz.infoActive
 obtain⟨HN,r,b1,b2,bh,Hi,bi,bj,bk⟩:=hid9 hn m ar af aw hi ax ay az
 clear m ar af aw hi ax ay az ae j M hS H1 ap hn av
 go_wp2_with fail
 go_loopw [3,13] (fun o v wr=>∃(i:Nat) (y:Tags),i<=n/\v = .int .i64 (i:Int)/\NS 75 4 Qct w.heap.size wr y tAct o ((ts.take i).map (fun k=>(oneOf X k).act))/\MgrAt wr y bm bl bp bo X next/\Step w τ wr y nil/\Step w2 aq wr y (fun g=>g=tAct)) (fun _ v _=>n-(intOf v).toNat)
 case atStart=>exact⟨0,aq,Z9 _,rfl,NS.nil _ _ _ _ _ _ _,b1.out,r.out,Step.refl _ _ _⟩
 case round =>
  clear b1 r
  obtain⟨i,y,hi,rfl,j,hm,d,m⟩:=hrel
  obtain⟨po,co,rfl⟩:=j.val
  have N:((ts.take i).map (fun k=>(oneOf X k).act)).length=i:=by rw[Y0,List.length_take,HN.out];omega
  by_cases bn:i<n
  ·obtain⟨k,hk⟩:∃k,ts[i]?=some k:=⟨_,Z3 (by rw[HN.out];exact bn)⟩
   obtain⟨b,rfl,a6,hc⟩:=bh.out i k hk
   have b3:k∈OneP.ids X:=b2.out.mem_iff.1 (List.mem_of_getElem? hk)
   obtain⟨O,Z⟩:=Jhi b3
   have b0:=cell_kept m (by simpa using hc 0 (by omega) _ rfl) (fun e=>by rw[a6] at e;simp[tKey,tAct] at e)
   obtain⟨x,hx⟩:∃x,oneOf X k=x:=⟨_,rfl⟩
   rw[hx] at O Z
   obtain⟨ba,ho,hp⟩:=hm.is
   have c2:=ho.at 2 (v:=.map (some ba)) rfl
   have b4:=hm.low x O
   have hnx:=hm.nx
   have ag:=hp.look k (by omega)
   rw[<-Z,Qln O] at ag
   obtain⟨vc,z,-⟩:=(hm.ones x O).is
   obtain⟨bx,bq⟩:∃b,bo x.txn=b:=⟨_,rfl⟩
   rw[bq] at ag z
   change _=Result.ok (Value.pointer (some ⟨bx,0,none⟩)) wr at ag
   have x0:=z.at 0 (v:=.int .u32 (x.txn:Int)) rfl
   have x1:=z.at 1 (v:=.int .u64 (x.last:Int)) rfl
   have x2:=z.at 2 (v:=.int .u64 (x.undo:Int)) rfl
   have x3:=z.at 3 (v:=.int .u8 (x.state:Int)) rfl
   rw[<-Z] at b0
   rw[N]
   rw[N] at j
   have hltI:(i:Int)<(n:Int):=by omega
   have hckI:(n:Int)<=(ck:Int):=by omega
   have R:(ts.take (i+1)).map (fun k=>(oneOf X k).act)=(ts.take i).map (fun k=>(oneOf X k).act)++[x.act]:=by
    rw[List.take_add_one,hk,Option.toList_some,List.map_append,List.map_singleton,hx]
   have b5:((ts.take i).map (fun k=>(oneOf X k).act)).length<=1000000:=by rw[N];omega
   obtain⟨ah,Hm,L,r,ai,br,Hli⟩:=hid7 j hm d m R b5 N
   clear j hm d m R b5 N ho hp z hc a6 hk b3 O Z b4
   go_wp2_with (at_builtin;refine Jb4 Tryz.underlying72 Hi.out bi.out bj.out bk.out rfl (by decide) L.out ah.out x.act rfl (by simp[Qct,Value.oneCell']) br.out (by decide) (kb:=wr.heap.size) rfl rfl _ _ rfl rfl rfl rfl ?_;intro v' w' U hb he b6;obtain⟨Hb,He,b7⟩:=hid3 hb he b6;clear hb he b6)
   go_round
   case rel=>exact⟨i+1,U,by omega,by simp,by rw[ai.out];exact Hb.out,Hm.out.step b7.out (fun g hg e=>by subst e;simp[Qai,tAct] at hg),He.out,r.out.trans b7.out⟩
   case measure=>simp[intOf];omega
  ·have bs:i=n:=by omega
   subst bs
   have b8:ts.take i=ts:=by rw[<-HN.out];exact List.take_length
   rw[b8] at j
   obtain⟨ah,L⟩:=hid2 j d
   clear j d
   go_wp2_with fail
   go_ret
   rw[b8]
   exact⟨_,ts,y,rfl,b2.out,ah.out,L.out⟩
