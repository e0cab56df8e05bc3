/-
 Seals: Seal: a page's bytes as four sectors.
-/
import Derived.Test.YtemacanaihaldaaGreatMConcat
import Derived.Test.YtemacanaihaldaaGreatMRegL
set_option maxRecDepth 100000
set_option maxHeartbeats 4000000
set_option linter.all false
namespace Go.Proofs.YtemacanaihaldaaGreat
open Go.RowKit Go.Shelf
attribute [local go_sem] Oper.semAt_some
def Qcl (b:List Int) (j:Nat):List Int:=(b.drop (j*112)).take 112
def sealOf (b:List Int) (stamp:Nat) (j:Nat):List Int:=leB stamp 8++Qcl b j++leB stamp 8
def sealAll (b:List Int) (stamp:Nat):List (List Int):=(List.range 4).map (sealOf b stamp)
theorem Qdy (b:List Int) (j:Nat):(Qcl b j).length=min 112 (b.length-j*112):=by
 unfold Qcl;rw[List.length_take,List.length_drop]
def SealI (w W0:World) (τ:Tags) (b s2:Nat) (mk:Value) (bs:List Int) (s:Nat) (pre:List (Ql1 448 112)) (W:World):Prop :=
 ∃τ' vo,Step w τ W τ' nil/\Own W τ' w.heap.size tBox 52 [vo]/\NR w.heap.size W τ' tOut vo (pre.map (fun x=>sealOf bs s x.1))/\Keep3 b (s2+1) (s2+1+1) W0 W/\Own W τ' s2 tBox 37 [mk]/\Bytes W τ' tData mk (leB s 8)/\τ' (s2+1)=tBox/\τ' (s2+1+1)=tBox
theorem Qw5 {w:World}{τ:Tags}{g:Tag}{v:Value}{q:List Int}(h:Bytes w τ g v q) (ae:q.length=448) (s:Nat) (bg:s<2 ^ 64) :
 Calls Tryz.prog 157 #[v,.int .u64 (s:Int)] w fun e w'=>∃u d,e = .returned u/\NR w.heap.size w' d tOut u (sealAll q s)/\Step w τ w' d nil:=by
 obtain⟨b,off,c,rfl,ch,cs,-,hbl,-⟩:=h.pos (by omega)
 rw[ae] at h ch ⊢
 have ct:∀(m:Nat) (W:World),CallsIn Fence.wide m Tryz.prog 125 #[.slice (some ⟨b,off,none⟩) 448 c,.int .i64 112] W fun e w'=>e = .returned (.func (.func 207) #[] #[.pointer (some ⟨W.heap.size,0,none⟩),.pointer (some ⟨W.heap.size+1,0,none⟩)]) /\
  w'=(W.alloc (.cells #[.slice (some ⟨b,off,none⟩) 448 c] 37)).alloc (.cells #[.int .i64 112] 3):=fun m W=>(callsIn_wide (n:=m)).2 (Qpx (some ⟨b,off,none⟩) 448 c 112 (by omega) W)
 have cv:∀(m:Nat) (W:World),CallsIn Fence.wide m Tryz.prog 154 #[.int .u64 (s:Int),.int .i64 8] W (NewB W (τ.put w.heap.size tBox) tData (leB s 8)):=fun m W=>(callsIn_wide (n:=m)).2 (Qeu W (τ.put w.heap.size tBox) tData s 8 bg (by omega) (by omega))
 obtain⟨cw,cx,cy,af⟩:=hid4 h ct cv ae
 clear h ct cv ae bg
 refine(callsIn_wide (n:=4)).1 ?_
 refine callsIn_of_wp_marks Tryz.func157 rfl trivial ?_ rfl
 simp only[Tryz.ntmps157,List.size_toArray,Y4,List.length_nil,Nat.reduceAdd,Nat.reduceSub,Array.replicate_succ,Array.replicate_zero,List.push_toArray,List.append_toArray,List.nil_append,List.cons_append]
 gi_wp2_with (first
  | (refine⟨trivial,?_⟩;gi_at_call 154;refine(cy.out _ _).mono ?_;rintro e E ⟨mk,X,rfl,R,cz,da⟩;obtain⟨bm,F,G,rfl,db,ek,-,em,-⟩:=R.pos (by rw[Qaa];omega);have dc:=Qaa s 8;rw[dc] at R db ⊢;clear dc;obtain⟨en,dd,de⟩:=hid3 R cz da;clear R cz da)
  | (refine⟨trivial,?_⟩;gi_at_call 125;refine(cx.out _ _).mono ?_;rintro e w' ⟨rfl,rfl⟩))
 have bi:Step w τ E X nil:=((Step.refl w τ nil).alloc (.cells #[Value.slice none 0 0] 52) tBox).trans (Step.of nil de.out dd.out)
 have Y:Own E X w.heap.size tBox 52 [.slice none 0 0]:=(Own.new w τ tBox 52 [.slice none 0 0]).step (Step.of nil de.out dd.out) (fun h=>h)
 have ag:=((bi.alloc (.cells #[Value.slice (some ⟨bm,F,none⟩) 8 G] 37) tBox).alloc (.cells #[Value.slice (some ⟨b,off,none⟩) 448 c] 37) tBox).alloc (.cells #[Value.int .i64 112] 3) tBox
 have Z:=((Y.step_new (.cells #[Value.slice (some ⟨bm,F,none⟩) 8 G] 37) tBox).step_new (.cells #[Value.slice (some ⟨b,off,none⟩) 448 c] 37) tBox).step_new (.cells #[Value.int .i64 112] 3) tBox
 have ah:=((Own.new E X tBox 37 [Value.slice (some ⟨bm,F,none⟩) 8 G]).step_new (.cells #[Value.slice (some ⟨b,off,none⟩) 448 c] 37) tBox).step_new (.cells #[Value.int .i64 112] 3) tBox
 have ai:=(Own.new (E.alloc (.cells #[Value.slice (some ⟨bm,F,none⟩) 8 G] 37)) (X.put E.heap.size tBox) tBox 37 [Value.slice (some ⟨b,off,none⟩) 448 c]).step_new (.cells #[Value.int .i64 112] 3) tBox
 have aj:=Own.new ((E.alloc (.cells #[Value.slice (some ⟨bm,F,none⟩) 8 G] 37)).alloc (.cells #[Value.slice (some ⟨b,off,none⟩) 448 c] 37)) ((X.put E.heap.size tBox).put (E.heap.size+1) tBox) tBox 3 [Value.int .i64 112]
 have ak:=en.out.step (((((Step.refl E X nil).alloc (.cells #[Value.slice (some ⟨bm,F,none⟩) 8 G] 37) tBox).alloc (.cells #[Value.slice (some ⟨b,off,none⟩) 448 c] 37) tBox).alloc (.cells #[Value.int .i64 112] 3) tBox)) (fun h=>h)
 simp only[World.size_alloc] at ag Z ah ai aj ak
 have bj:(((E.alloc (.cells #[Value.slice (some ⟨bm,F,none⟩) 8 G] 37)).alloc (.cells #[Value.slice (some ⟨b,off,none⟩) 448 c] 37)).alloc (.cells #[Value.int .i64 112] 3)).heap.size=E.heap.size+1+1+1:=by simp
 have bk:w.heap.size<E.heap.size:=Y.lt
 generalize ((X.put E.heap.size tBox).put (E.heap.size+1) tBox).put (E.heap.size+1+1) tBox=b9 at *
 have al:Bytes (((E.alloc (.cells #[Value.slice (some ⟨bm,F,none⟩) 8 G] 37)).alloc (.cells #[Value.slice (some ⟨b,off,none⟩) 448 c] 37)).alloc (.cells #[Value.int .i64 112] 3)) b9 tData (.slice (some ⟨bm,F,none⟩) 8 G) (leB s 8):=ak
 have am:Own (((E.alloc (.cells #[Value.slice (some ⟨bm,F,none⟩) 8 G] 37)).alloc (.cells #[Value.slice (some ⟨b,off,none⟩) 448 c] 37)).alloc (.cells #[Value.int .i64 112] 3)) b9 E.heap.size tBox 37 [.slice (some ⟨bm,F,none⟩) 8 G]:=ah
 have an:Own (((E.alloc (.cells #[Value.slice (some ⟨bm,F,none⟩) 8 G] 37)).alloc (.cells #[Value.slice (some ⟨b,off,none⟩) 448 c] 37)).alloc (.cells #[Value.int .i64 112] 3)) b9 (E.heap.size+1) tBox 37 [.slice (some ⟨b,off,none⟩) 448 c]:=ai
 have ao:Own (((E.alloc (.cells #[Value.slice (some ⟨bm,F,none⟩) 8 G] 37)).alloc (.cells #[Value.slice (some ⟨b,off,none⟩) 448 c] 37)).alloc (.cells #[Value.int .i64 112] 3)) b9 (E.heap.size+1+1) tBox 3 [.int .i64 112]:=aj
 clear ak ah ai aj
 generalize ((E.alloc (.cells #[Value.slice (some ⟨bm,F,none⟩) 8 G] 37)).alloc (.cells #[Value.slice (some ⟨b,off,none⟩) 448 c] 37)).alloc (.cells #[Value.int .i64 112] 3)=W0 at *
 generalize eo:E.heap.size=s2 at *
 clear eo Y bi
 obtain⟨bl,ap⟩:=hid2 ag Z
 have aq:=Z2 am
 have a1:=Z2 an
 have I:=Z2 ao
 have ar:=Z2 al
 have J:=Z2 bj
 clear ag Z am an ao al bj
 have df:b<s2:=by omega
 refine wpIn_rangeFunc_ownG rfl (by omega) (gf := 207) (lb:=#[.pointer (some ⟨s2+1,0,none⟩),.pointer (some ⟨s2+1+1,0,none⟩)]) rfl trivial (enters_of Tryz.func207 (by kernel_rfl) rfl)
  (Qlx Fence.wide 3 trivial rfl (by omega) (s2+1) (s2+1+1) b off 448 c 112 (some ⟨b,off,none⟩) (fun _=>rfl) (by omega) (by omega) (by omega) ch cs W0 (a1.out.at 0 rfl) (I.out.at 0 rfl))
  Qvn (Qvo (by have:=J.out;omega) (by have:=J.out;omega) (by have:=J.out;omega)) (Below.refl _ _) (fun _=>rfl)
  (SealI w W0 τ b s2 (.slice (some ⟨bm,F,none⟩) 8 G) q s) (fun _ _ _=>False) ?hI (fun _ _ _ _ _ hs _ _=>hs) ?h0
  (fun j=>{tmps:=#[.slice (some ⟨b,off,none⟩) 448 c,.int .u64 (s:Int),undef,undef,.slice none 0 0,.pointer (some ⟨w.heap.size,0,none⟩),.pointer (some ⟨s2,0,none⟩),partV b off 448 112 j.1,.slice (some ⟨b,off,none⟩) 448 c,.int .i64 448,.bool false,.int .u64 (s:Int),.slice (some ⟨bm,F,none⟩) 8 G,.slice (some ⟨b,off,none⟩) 448 c,
    .func (.func 207) #[] #[.pointer (some ⟨s2+1,0,none⟩),.pointer (some ⟨s2+1+1,0,none⟩)],partV b off 448 112 j.1,undef,undef,undef,undef,undef,undef,undef,undef,undef],defers:=[]}) ?assign ?body ?done ?stop
 case hI =>
  rintro pre W W' row ⟨d,vo,h1,h2,h3,h4,h5,h6,av,aw⟩ hg hr
  have ac:Qeq W row:=fun r e=>(hr r e).2
  exact⟨d,vo,h1.turn hg (fun r e=>by have:=(hr r e).1;rw[J.out] at this;omega),h2.turn hg ac,h3.turn hg ac,h4.turn (B:=s2+1+1+1) hg (fun r e=>by have:=(hr r e).1;rw[J.out] at this;exact this) (by omega) (by omega) (by omega) (by
   have h5:=h4 (s2+1+1) (.inr (.inr rfl))
   have h6:=I.out.lt
   have h7:=(Array.getElem?_eq_some_iff.1 (h5.trans (Array.getElem?_eq_getElem h6))).1
   omega),h5.turn hg ac,h6.turn hg ac,av,aw⟩
 case h0=>exact⟨_,_,bl.out,ap.out,NR.nil _ _ _ _,Keep3.refl _ _ _ _,aq.out,ar.out,a1.out.tag,I.out.tag⟩
 case assign =>
  intro l x W K N
  gi_wp2
  exact N
 case body =>
  rintro l pre ⟨j,di⟩ W ⟨d,vo,ad,z,O,bb,bc,R,av,aw⟩ ev
  obtain⟨po,co,rfl⟩:=O.val
  have ew:Tryz.prog.follows .mixedOrders=true:=by kernel_rfl
  have c0:=z.at 0 rfl
  have z0:=z.fz 0
  have ey:=bc.at 0 rfl
  have ez:j<4:=by unfold parts at di;omega
  have dj:partV b off 448 112 j = .slice (some ⟨b,off+j*112,none⟩) 112 112:=by
   unfold partV
   rw[show min 112 (448-j*112)=112 by omega]
  have bd:=Qdy q j
  rw[af.out,show min 112 (448-j*112)=112 by omega] at bd
  have be:Bytes W d g (partV b off 448 112 j) (Qcl q j):=by
   have h1:=cw.out.step ad (fun h=>h)
   have h2:=af.out
   have h3:Bytes W d g (.slice (some ⟨b,off,none⟩) q.length c) q:=by rw[h2];exact h1
   have:=h3.part (b:=b) (off:=off) (fun _=>rfl) 112 j
   rw[h2] at this
   exact this
  rw[dj] at be ⊢
  clear dj
  have dk:(sealOf q s j).length=128:=by unfold sealOf;simp only[Z6,Qaa,bd]
  have dl:IsB (sealOf q s j):=by unfold sealOf;exact((Qan s 8).append be.isB).append (Qan s 8)
  have a8:((pre.map (fun x=>sealOf q s x.1)).length:Nat)<=1000000000:=by
   rw[Y0]
   have:parts 448 112<=1000000:=by unfold parts;omega
   omega
  have bn:s2+1+1<W.heap.size:=by
   have h5:=bb (s2+1+1) (.inr (.inr rfl))
   have h6:=I.out.lt
   exact(Array.getElem?_eq_some_iff.1 (h5.trans (Array.getElem?_eq_getElem h6))).1
  have dm:=z.row
  have dn:=fun k=>O.cells (k:=k)
  have bo:(pre++[(⟨j,di⟩:Ql1 448 112)]).map (fun x=>sealOf q s x.1)=pre.map (fun x=>sealOf q s x.1)++[sealOf q s j]:=by simp
  have C:=(((Step.refl W d nil).alloc (.cells #[Value.slice (some ⟨bm,F,none⟩) 8 G,Value.slice (some ⟨b,off+j*112,none⟩) 112 112,Value.slice (some ⟨bm,F,none⟩) 8 G] 37) tBox).drew)
  have aa:=(Own.new W d tBox 37 [Value.slice (some ⟨bm,F,none⟩) 8 G,Value.slice (some ⟨b,off+j*112,none⟩) 112 112,Value.slice (some ⟨bm,F,none⟩) 8 G]).drew
  have ab:=R.step C (fun h=>h)
  have bp:=be.step C (fun h=>h)
  have bq:=Qt2 (w:=(W.alloc (.cells #[Value.slice (some ⟨bm,F,none⟩) 8 G,Value.slice (some ⟨b,off+j*112,none⟩) 112 112,Value.slice (some ⟨bm,F,none⟩) 8 G] 37)).drew) (τ:=d.put W.heap.size tBox) (br:=W.heap.size) (c:=3) (ls:=[leB s 8,Qcl q j,leB s 8]) (by
   intro i hi
   have hi:i<3:=hi
   rcases (by omega:i=0\/i=1\/i=2) with rfl|rfl|rfl
   ·exact⟨_,aa.at 0 rfl,_,ab⟩
   ·exact⟨_,aa.at 1 rfl,_,bp⟩
   ·exact⟨_,aa.at 2 rfl,_,ab⟩) tData (by simp) (by simp) (by simp[catTo,Qaa];omega) (by simp[catTo,Qaa,bd])
  have dp:catTo [leB s 8,Qcl q j,leB s 8] 3=sealOf q s j:=by simp[catTo,sealOf]
  have a6:=(callsIn_wide (n:=1)).2 bq
  have dq:[leB s 8,Qcl q j,leB s 8].length=3:=rfl
  rw[dq,dp] at a6
  have ax:=z.step C (fun h=>h)
  have bv:=O.step C (fun h=>h) (fun h=>h)
  have bw:=bc.step C (fun h=>h)
  have bz:=ad.trans C
  generalize sealOf q s j=y at *
  generalize hml:pre.map (fun x=>sealOf q s x.1)=ls at *
  have hmn:w.heap.size≠W.heap.size:=by have:=z.lt;omega
  obtain⟨dr,ds⟩:=hid2 C ab
  have ci:=Z2 a6
  obtain⟨ay,dt,c3,dv,dw,HBx,bf,dx,fa,dy,fb,dz⟩:=hid12 ax bv bw bz dk dl a8 dn dm bo bb av
  obtain⟨e0,az⟩:=hid2 aw bn
  clear C ab a6 ax bv bw bz dk dl a8 dn dm bo bb av aw bn aa be bp bq dp dq ad z O bc R bd cw cx cy af
  have c4:tOut≠tData:=by simp[tOut,tData]
  have e1:¬tBox=tOut:=by simp[tOut,tBox]
  obtain⟨fc,c7⟩:=hid2 hbl bk
  clear hbl bk aq a1 I ar J bl ap df ch cs db ek em ez ev
  gi_wp2
  refine Qm8 (S:=fun w':World=>w'.cell? ⟨w.heap.size,0,none⟩=some (.slice po ls.length co)/\w'.cell? ⟨s2,0,none⟩=some (.slice (some ⟨bm,F,none⟩) 8 G)) ew ?_
  have fe:W.drew.cell? ⟨w.heap.size,0,none⟩=some (.slice po ls.length co)/\W.drew.cell? ⟨s2,0,none⟩=some (.slice (some ⟨bm,F,none⟩) 8 G):=⟨c0,ey⟩
  refine Qfg (i:=0) (v:=?_) (by decide +kernel) rfl (by decide +kernel) (by decide +kernel) (by decide +kernel) (by decide +kernel) (fun _ _ _ h=>h) ⟨Or.inl ⟨by rfl,?_⟩,fun _=>rfl⟩ (by assumption) ?_
  rotate_left
  ·intro w a7
   (try dsimp only at a7)
   go_simp
   all_goals with_reducible rfl
  try simp only[Act.put]
  try simp only[List.setIfInBounds_toArray]
  try simp only[List.set_cons_succ]
  try simp only[List.set_cons_zero]
  refine Qfg (i:=1) (v:=?_) (by decide +kernel) rfl (by decide +kernel) (by decide +kernel) (by decide +kernel) (by decide +kernel) (fun _ _ _ h=>h) ⟨Or.inl ⟨by rfl,?_⟩,fun _=>rfl⟩ (by assumption) ?_
  rotate_left
  ·intro w a7
   (try dsimp only at a7)
   go_simp
   all_goals with_reducible rfl
  try simp only[Act.put]
  try simp only[List.setIfInBounds_toArray]
  try simp only[List.set_cons_succ]
  try simp only[List.set_cons_zero]
  refine Qfg (i:=2) (v:=?_) (by decide +kernel) rfl (by decide +kernel) (by decide +kernel) (by decide +kernel) (by decide +kernel) (fun _ _ _ h=>h) ⟨Or.inl ⟨by rfl,?_⟩,fun _=>rfl⟩ (by assumption) ?_
  rotate_left
  ·intro w a7
   (try dsimp only at a7)
   go_simp
   all_goals with_reducible rfl
  try simp only[Act.put]
  try simp only[List.setIfInBounds_toArray]
  try simp only[List.set_cons_succ]
  try simp only[List.set_cons_zero]
  refine Qfg (i:=3) (v:=?_) (by decide +kernel) rfl (by decide +kernel) (by decide +kernel) (by decide +kernel) (by decide +kernel) (fun _ _ _ h=>h) ⟨Or.inl ⟨by rfl,?_⟩,fun _=>rfl⟩ (by assumption) ?_
  rotate_left
  ·intro w a7
   (try dsimp only at a7)
   go_simp
   all_goals with_reducible rfl
  try simp only[Act.put]
  try simp only[List.setIfInBounds_toArray]
  try simp only[List.set_cons_succ]
  try simp only[List.set_cons_zero]
  clear fe
  refine Qe1 (i:=4) (by decide +kernel) rfl (fun K N=>?_)
  go_simp
  refine N.out _ _ (fun _=>⟨ay.out.at 0 rfl,c3.out.at 0 rfl⟩) ?_
  clear N K
  refine Qe1 (i:=5) (by decide +kernel) rfl (fun K N=>?_)
  go_simp
  gi_wp2_with (refine⟨trivial,?_⟩
               gi_at_call 232
               refine(CallsIn.inRound l ci.out).mono ?_
               rintro e w5 ⟨v5,τ5,rfl,b0,U⟩
               obtain⟨p5,c5,rfl⟩:=b0.val
               rw[dw.out] at b0 ⊢
               have L:=ay.out.step U (fun h=>h)
               have ff:=L.at 0 rfl
               have z05:=L.fz 0
               have hmn5:w.heap.size<w5.heap.size:=L.lt
               have c8:=dt.out.step U (fun h=>h) (fun h=>h)
               have c9:=c3.out.step U (fun h=>h)
               have ca:=ds.out.step U (fun h=>h)
               have cb:=dv.out.trans U
               have cc:=dr.out.trans U
               have e2:=b0.bytes
               obtain⟨Hnb,Hs5,b1,e3,b2,e4,e5,b3,fg⟩:=hid9 b0 U L c8 c9 ca cb cc e2
               clear b0 U L c8 c9 ca cb cc e2)
  refine N.out _ _ (fun _=>⟨ff,b2.out.at 0 rfl⟩) ?_
  clear N K
  refine Qe1 (i:=6) (by decide +kernel) rfl (fun K N=>?_)
  go_simp
  refine N.out _ _ (fun _=>⟨(b1.out.alloc _).at 0 rfl,(b2.out.alloc _).at 0 rfl⟩) ?_
  clear N K
  refine Qe1 (i:=7) (by decide +kernel) rfl (fun K N=>?_)
  refine Qih e5.out c4 e3.out fg.out dw.out bf.out rfl rfl _ _ rfl rfl rfl ?_
  intro v6 w6 b4 b5 e6 b6 e7
  obtain⟨p6,c6,rfl⟩:=b5.val
  have M:=b1.out.step b6 e1
  have fh:=M.at 0 rfl
  have z06:=M.fz 0
  have b7:=M.tag
  have b8:=b2.out.step b6 e1
  have fi:=b8.at 0 rfl
  have cd:=e4.out.step b6 (fun h=>c4 h.symm)
  obtain⟨e9,fj,fk,fl,cj,ck,ea,eb⟩:=hid8 b5 e6 b6 e7 M b7 b8 cd
  clear b5 e6 b6 e7 M b7 b8 cd
  refine N.out _ _ (fun _=>⟨fh,fi⟩) ?_
  clear N K
  refine Qe1 (i:=8) (by decide +kernel) rfl (fun K N=>?_)
  go_simp
  refine N.out _ _ (fun h=>absurd h (by decide +kernel)) ?_
  clear N K
  refine Qp1 (by kernel_rfl) ?_ _
  have fm:Mod W w6 (fun k=>(Value.slice po ls.length co).ownBlock=some k):=(b3.out.no.mono (fun _ _ h=>h.elim)).seq fl.out (fun _ _ h=>h)
  have ce:Mod W (w6.setCell ⟨w.heap.size,0,none⟩ (.slice p6 (ls.length+1) c6)) (fun k=>k=w.heap.size\/(Value.slice po ls.length co).ownBlock=some k):=(fm.mono (fun _ _ h=>.inr h)).setCell (p:=⟨w.heap.size,0,none⟩) (fun _=>.inl rfl) _
  have ec:Ext W d b4:=b3.out.ext.trans fk.out.ext b3.out.size
  have ed:(ls++[y]).length=ls.length+1:=by simp
  have hq:Step w6 b4 (w6.setCell ⟨w.heap.size,0,none⟩ (.slice p6 (ls.length+1) c6)) b4 (fun t=>t=tBox):=(Step.refl w6 b4 (fun t=>t=tBox)).set (o:=0) ck.out rfl _
  have cf:=e9.out.step hq (fun h=>by simp[tOut,tBox] at h) (fun h=>by simp[tData,tBox] at h)
  have ee:=eb.out.step hq (fun h=>by simp[tData,tBox] at h)
  have ef:=ea.out.set_ne (p:=⟨w.heap.size,0,none⟩) (by have:=c7.out;show s2≠w.heap.size;omega) (.slice p6 (ls.length+1) c6)
  rw[ed] at cf
  have eg:Keep3 b (s2+1) (s2+1+1) W (w6.setCell ⟨w.heap.size,0,none⟩ (.slice p6 (ls.length+1) c6)):=by
   intro k hk
   have h3:=az.out
   have h4:=fc.out
   have h5:=c7.out
   refine ce.block k (by omega) ?_
   rintro(h|h)
   ·omega
   ·obtain⟨h1,h2,_⟩:=dx.out k h
    have hn1:k≠s2+1:=fun e=>by rw[e,dz.out] at h1;simp[tBox,tOut] at h1
    have hn2:k≠s2+1+1:=fun e=>by rw[e,e0.out] at h1;simp[tBox,tOut] at h1
    omega
  refine⟨Qh4 ce ?_,eg,b4,.slice p6 (ls.length+1) c6,fj.out.setNew (Z0 _) _,cj.out.set 0 _,?_,fb.out.trans eg,ef,ee,?_,?_⟩
  ·rintro k o (rfl|hk) ho
   ·rw[fa.out] at ho;cases ho;rfl
   ·obtain⟨_,_,xs,hx⟩:=dx.out k hk
    rw[hx] at ho;cases ho;rfl
  ·rw[dy.out];exact cf
  ·rw[ec _ (by have:=az.out;omega)];exact dz.out
  ·rw[ec _ (by have:=az.out;omega)];exact e0.out
 case done =>
  rintro D ys W hD eh ⟨d,vo,ad,z,O,bb,bc,R,av,aw⟩ N
  have cg:ys.map (fun x=>sealOf q s x.1)=sealAll q s:=by
   have h1:ys.map (fun x=>sealOf q s x.1)=(ys.map (fun x=>x.1)).map (sealOf q s):=by rw[List.map_map];rfl
   rw[h1,eh];rfl
  rw[cg] at O
  clear eh cg
  obtain⟨po,co,rfl⟩:=O.val
  have c0:=z.at 0 rfl
  obtain⟨fo,fp,HK⟩:=hid3 ad O N
  clear ad O N
  gi_wp2
  refine⟨by simp,.inl ⟨_,_,rfl,run_takeDeferred HK.out,?_⟩⟩
  have hg:=grownBy_putObj' W D (.deferred none)
  have ac:Qeq W (some D):=fun r e=>by cases e;exact⟨_,HK.out,rfl⟩
  have hl:(sealAll q s).length=4:=by simp[sealAll]
  exact⟨_,results_tmp rfl _ _ _,.slice po (sealAll q s).length co,d,by first|rfl|(rw[hl];rfl),fp.out.turn hg ac,fo.out.turn hg (fun r e=>by cases e;have:=J.out;omega)⟩
 case stop =>
  rintro D c pre W _ _ h _
  exact h.elim
end Go.Proofs.YtemacanaihaldaaGreat
namespace Go.Proofs.YtemacanaihaldaaGreat
open Go.RowKit
theorem Qet (b:List Int) (s:Nat):(sealAll b s).length=4:=by simp[sealAll]
theorem Qqk (b:List Int) (s i:Nat) (hi:i<4):(sealAll b s).getD i []=sealOf b s i:=by
 unfold sealAll
 rw[Z5,List.getElem?_map,List.getElem?_range hi];rfl
theorem Qii (b:List Int) (s i:Nat) (d:s<2 ^ 64):lowMark (sealOf b s i)=s:=by
 unfold lowMark sealOf
 rw[List.drop_zero,X0,List.take_append_of_le_length (by rw[Qaa];omega),List.take_of_length_le (by rw[Qaa];omega),Qdl s 8 8 (Z0 _)]
 exact Nat.mod_eq_of_lt d
theorem Qkm {b:List Int}(d:b.length=448) (s i:Nat) (hi:i<4) (e:s<2 ^ 64):highMark (sealOf b s i)=s:=by
 have hl:(leB s 8++Qcl b i).length=120:=by
  rw[Z6,Qaa,Qdy,d];omega
 unfold highMark sealOf
 rw[List.drop_append_of_le_length (by rw[hl];exact Z0 _),List.drop_eq_nil_of_le (by rw[hl];exact Z0 _),List.nil_append,List.take_of_length_le (by rw[Qaa];omega),Qdl s 8 8 (Z0 _)]
 exact Nat.mod_eq_of_lt e
theorem Qqj {b:List Int}(d:b.length=448) (s i:Nat) (hi:i<4):((sealOf b s i).drop 8).take (120-8)=Qcl b i:=by
 have hp:(Qcl b i).length=112:=by rw[Qdy,d];omega
 unfold sealOf
 rw[X0,List.drop_append_of_le_length (by rw[Qaa];omega),List.drop_eq_nil_of_le (by rw[Qaa];omega),List.nil_append,List.take_append_of_le_length (by omega),List.take_of_length_le (by omega)]
theorem Qs6 {b:List Int}(h:b.length=448) (s:Nat) (d:s<2 ^ 64):Qb3 (sealAll b s)=true/\sealStamp (sealAll b s)=s/\Qjt (sealAll b s)=b/\greatTo (sealAll b s) 4=s:=by
 have g:=fun i (hi:i<4)=>Qqk b s i hi
 have e:sealStamp (sealAll b s)=s:=by
  unfold sealStamp
  rw[g 0 (by omega),Qii b s 0 d]
 refine⟨?_,e,?_,?_⟩
 ·unfold Qb3
  rw[e]
  have key:∀i,i<=4->okTo (sealAll b s) s i=true:=by
   intro i
   induction i with
   | zero=>intro _;rfl
   | succ i ih =>
     intro hi
     rw[Qh0,ih (by omega),Bool.true_and,g i (by omega),Qii b s i d,Qkm h s i (by omega) d]
     simp
  exact key 4 (Z0 _)
 ·have key:∀i,i<=4->Qcu (sealAll b s) i=b.take (i*112):=by
   intro i
   induction i with
   | zero=>intro _;simp[Qcu]
   | succ i ih =>
     intro hi
     show Qcu (sealAll b s) i++_=_
     rw[ih (by omega),g i (by omega),Qqj h s i (by omega)]
     unfold Qcl
     rw[show (i+1)*112=i*112+112 by omega,List.take_add]
  show Qcu (sealAll b s) 4=b
  rw[key 4 (Z0 _),List.take_of_length_le (by omega)]
 ·have key:∀i,i<=4->greatTo (sealAll b s) i=if i=0 then 0 else s:=by
   intro i
   induction i with
   | zero=>intro _;rfl
   | succ i ih =>
     intro hi
     show max (max (greatTo (sealAll b s) i) (lowMark ((sealAll b s).getD i []))) (highMark ((sealAll b s).getD i []))=_
     rw[ih (by omega),g i (by omega),Qii b s i d,Qkm h s i (by omega) d,if_neg (show ¬i+1=0 by omega)]
     by_cases h0:i=0
     ·rw[if_pos h0];omega
     ·rw[if_neg h0];omega
  rw[key 4 (Z0 _),if_neg (by omega)]
