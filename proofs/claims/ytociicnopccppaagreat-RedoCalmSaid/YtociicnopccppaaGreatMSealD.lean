/-
 Seals: Seal: a page's bytes as four sectors.
-/
import Derived.Test.YtociicnopccppaaGreatMConcat
import Derived.Test.YtociicnopccppaaGreatMRegL
set_option maxRecDepth 100000
set_option maxHeartbeats 4000000
set_option linter.all false
namespace Go.Proofs.YtociicnopccppaaGreat
open Go.RowKit Go.Shelf
attribute [local go_sem] Oper.semAt_some
def Qcl (b:List Int) (j:Nat):List Int:=(b.drop (j*112)).take 112
def qcc (b:List Int) (stamp:Nat) (j:Nat):List Int:=leB stamp 8++Qcl b j++leB stamp 8
def qao (b:List Int) (stamp:Nat):List (List Int):=(List.range 4).map (qcc b stamp)
theorem Qdy (b:List Int) (j:Nat):(Qcl b j).length=min 112 (b.length-j*112):=by
 unfold Qcl;rw[List.length_take,List.length_drop]
def SealI (w W0:World) (τ:qa1) (b s2:Nat) (mk:Value) (bs:List Int) (s:Nat) (pre:List (Ql1 448 112)) (W:World):Prop :=
 ∃τ' vo,Step w τ W τ' nil/\Own W τ' w.heap.size qay 31 [vo]/\NR w.heap.size W τ' qe3 vo (pre.map (fun x=>qcc bs s x.1))/\qcy b (s2+1) (s2+1+1) W0 W/\Own W τ' s2 qay 58 [mk]/\Bytes W τ' qa2 mk (leB s 8)/\τ' (s2+1)=qay/\τ' (s2+1+1)=qay
theorem Qw5 {w:World}{τ:qa1}{g:Tag}{v:Value}{q:List Int}(h:Bytes w τ g v q) (a8:q.length=448) (s:Nat) (b9:s<2 ^ 64) :
 Calls Tryz.prog 149 #[v,.int .u64 s] w fun e w'=>∃u a,e = .returned u/\NR w.heap.size w' a qe3 u (qao q s)/\Step w τ w' a nil:=by
 obtain⟨b,off,c,rfl,ca,cj,-,hbl,-⟩:=h.pos oM
 rw[a8] at h ca ⊢
 have ck:∀(m:Nat) (W:World),CallsIn Fence.wide m Tryz.prog 101 #[.slice (some ⟨b,off,none⟩) 448 c,.int .i64 112] W fun e w'=>e = .returned (.func (.func 163) #[] #[.pointer (some ⟨W.heap.size,0,none⟩),.pointer (some ⟨W.heap.size+1,0,none⟩)]) /\
  w'=(W.alloc (.cells #[.slice (some ⟨b,off,none⟩) 448 c] 58)).alloc (.cells #[.int .i64 112] 3):=fun m W=>(callsIn_wide (n:=m)).2 (Qpx (some ⟨b,off,none⟩) 448 c 112 oM W)
 have cn:∀(m:Nat) (W:World),CallsIn Fence.wide m Tryz.prog 147 #[.int .u64 s,.int .i64 8] W (NewB W (τ.put w.heap.size qay) qa2 (leB s 8)):=fun m W=>(callsIn_wide (n:=m)).2 (Qeu W (τ.put w.heap.size qay) qa2 s 8 b9 oM oM)
 obtain⟨cp,cq,cr,a9⟩:=qb9 h ck cn a8
 clear h ck cn a8 b9
 refine(callsIn_wide (n:=4)).1 ?_
 refine callsIn_of_wp_marks Tryz.func149 rfl trivial ?_ rfl
 simp only[Tryz.ntmps149,List.size_toArray,Y4,List.length_nil,Nat.reduceAdd,Nat.reduceSub,Array.replicate_succ,Array.replicate_zero,List.push_toArray,List.append_toArray,List.nil_append,List.cons_append]
 gi_wp2_with (first
  | (refine⟨trivial,?_⟩;gi_at_call 147;refine(cr _ _).mono ?_;rintro e z ⟨mk,R,rfl,O,cs,ct⟩;obtain⟨bm,C,E,rfl,cv,e3,-,e4,-⟩:=O.pos (by rw[Qaa];omega);have cw:=Qaa s 8;rw[cw] at O cv ⊢;clear cw;obtain⟨e5,cx,cy⟩:=qan O cs ct;clear O cs ct)
  | (refine⟨trivial,?_⟩;gi_at_call 101;refine(cq _ _).mono ?_;rintro e w' ⟨rfl,rfl⟩))
 have bb:Step w τ z R nil:=((zS w τ).alloc (.cells #[Value.slice none 0 0] 31) qay).trans (Step.of nil cy cx)
 have U:Own z R w.heap.size qay 31 [.slice none 0 0]:=(Own.new w τ qay 31 [.slice none 0 0]).step (Step.of nil cy cx) id
 have aa:=((bb.alloc (.cells #[Value.slice (some ⟨bm,C,none⟩) 8 E] 58) qay).alloc (.cells #[Value.slice (some ⟨b,off,none⟩) 448 c] 58) qay).alloc (.cells #[Value.int .i64 112] 3) qay
 have X:=((U.qbn (.cells #[Value.slice (some ⟨bm,C,none⟩) 8 E] 58) qay).qbn (.cells #[Value.slice (some ⟨b,off,none⟩) 448 c] 58) qay).qbn (.cells #[Value.int .i64 112] 3) qay
 have ab:=((Own.new z R qay 58 [Value.slice (some ⟨bm,C,none⟩) 8 E]).qbn (.cells #[Value.slice (some ⟨b,off,none⟩) 448 c] 58) qay).qbn (.cells #[Value.int .i64 112] 3) qay
 have ac:=(Own.new (z.alloc (.cells #[Value.slice (some ⟨bm,C,none⟩) 8 E] 58)) (R.put z.heap.size qay) qay 58 [Value.slice (some ⟨b,off,none⟩) 448 c]).qbn (.cells #[Value.int .i64 112] 3) qay
 have ad:=Own.new ((z.alloc (.cells #[Value.slice (some ⟨bm,C,none⟩) 8 E] 58)).alloc (.cells #[Value.slice (some ⟨b,off,none⟩) 448 c] 58)) ((R.put z.heap.size qay).put (z.heap.size+1) qay) qay 3 [Value.int .i64 112]
 have ae:=e5.step (((((zS z R).alloc (.cells #[Value.slice (some ⟨bm,C,none⟩) 8 E] 58) qay).alloc (.cells #[Value.slice (some ⟨b,off,none⟩) 448 c] 58) qay).alloc (.cells #[Value.int .i64 112] 3) qay)) id
 simp only[World.size_alloc] at aa X ab ac ad ae
 have bc:(((z.alloc (.cells #[Value.slice (some ⟨bm,C,none⟩) 8 E] 58)).alloc (.cells #[Value.slice (some ⟨b,off,none⟩) 448 c] 58)).alloc (.cells #[Value.int .i64 112] 3)).heap.size=z.heap.size+1+1+1:=sM
 have bd:w.heap.size<z.heap.size:=U.lt
 generalize ((R.put z.heap.size qay).put (z.heap.size+1) qay).put (z.heap.size+1+1) qay=b2 at *
 have af:Bytes (((z.alloc (.cells #[Value.slice (some ⟨bm,C,none⟩) 8 E] 58)).alloc (.cells #[Value.slice (some ⟨b,off,none⟩) 448 c] 58)).alloc (.cells #[Value.int .i64 112] 3)) b2 qa2 (.slice (some ⟨bm,C,none⟩) 8 E) (leB s 8):=ae
 have ag:Own (((z.alloc (.cells #[Value.slice (some ⟨bm,C,none⟩) 8 E] 58)).alloc (.cells #[Value.slice (some ⟨b,off,none⟩) 448 c] 58)).alloc (.cells #[Value.int .i64 112] 3)) b2 z.heap.size qay 58 [.slice (some ⟨bm,C,none⟩) 8 E]:=ab
 have ah:Own (((z.alloc (.cells #[Value.slice (some ⟨bm,C,none⟩) 8 E] 58)).alloc (.cells #[Value.slice (some ⟨b,off,none⟩) 448 c] 58)).alloc (.cells #[Value.int .i64 112] 3)) b2 (z.heap.size+1) qay 58 [.slice (some ⟨b,off,none⟩) 448 c]:=ac
 have ai:Own (((z.alloc (.cells #[Value.slice (some ⟨bm,C,none⟩) 8 E] 58)).alloc (.cells #[Value.slice (some ⟨b,off,none⟩) 448 c] 58)).alloc (.cells #[Value.int .i64 112] 3)) b2 (z.heap.size+1+1) qay 3 [.int .i64 112]:=ad
 clear ae ab ac ad
 generalize ((z.alloc (.cells #[Value.slice (some ⟨bm,C,none⟩) 8 E] 58)).alloc (.cells #[Value.slice (some ⟨b,off,none⟩) 448 c] 58)).alloc (.cells #[Value.int .i64 112] 3)=W0 at *
 generalize e6:z.heap.size=s2 at *
 clear e6 U bb
 obtain⟨be,aj⟩:=qaj aa X
 have ak:=Z2 ag
 have Y:=Z2 ah
 have F:=Z2 ai
 have al:=Z2 af
 have G:=Z2 bc
 clear aa X ag ah ai af bc
 have cz:b<s2:=oM
 refine wpIn_rangeFunc_ownG rfl oM (gf := 163) (lb:=#[.pointer (some ⟨s2+1,0,none⟩),.pointer (some ⟨s2+1+1,0,none⟩)]) rfl trivial (enters_of Tryz.func163 kR rfl)
  (Qlx Fence.wide 3 trivial rfl oM (s2+1) (s2+1+1) b off 448 c 112 (some ⟨b,off,none⟩) (fun _=>rfl) oM oM oM ca cj W0 (Y.at 0 rfl) (F.at 0 rfl))
  Qvn (Qvo (by have:=G.out;omega) (by have:=G.out;omega) (by have:=G.out;omega)) (Below.refl _ _) (fun _=>rfl)
  (SealI w W0 τ b s2 (.slice (some ⟨bm,C,none⟩) 8 E) q s) (fun _ _ _=>False) ?hI (fun _ _ _ _ _ hs _ _=>hs) ?h0
  (fun j=>{tmps:=#[.slice (some ⟨b,off,none⟩) 448 c,.int .u64 s,undef,undef,.slice none 0 0,.pointer (some ⟨w.heap.size,0,none⟩),.pointer (some ⟨s2,0,none⟩),qf8 b off 448 112 j.1,.slice (some ⟨b,off,none⟩) 448 c,.int .i64 448,.bool false,.int .u64 s,.slice (some ⟨bm,C,none⟩) 8 E,.slice (some ⟨b,off,none⟩) 448 c,
    .func (.func 163) #[] #[.pointer (some ⟨s2+1,0,none⟩),.pointer (some ⟨s2+1+1,0,none⟩)],qf8 b off 448 112 j.1,undef,undef,undef,undef,undef,undef,undef,undef,undef],defers:=[]}) ?assign ?body ?done ?stop
 case hI =>
  rintro pre W W' row ⟨a,vo,h1,h2,h3,h4,h5,h6,am,an⟩ hg hr
  have a6:Qeq W row:=fun r e=>(hr r e).2
  exact⟨a,vo,h1.turn hg (fun r e=>by have:=(hr r e).1;rw[G.out] at this;omega),h2.turn hg a6,h3.turn hg a6,h4.turn (B:=s2+1+1+1) hg (fun r e=>by have:=(hr r e).1;rw[G.out] at this;exact this) oM oM oM (by
   have h5:=h4 (s2+1+1) (.inr (.inr rfl))
   have h6:=F.lt
   have h7:=(Array.getElem?_eq_some_iff.1 (h5.trans (Array.getElem?_eq_getElem h6))).1
   omega),h5.turn hg a6,h6.turn hg a6,am,an⟩
 case h0=>exact⟨_,_,be,aj,NR.nil _ _ _ _,qcy.refl _ _ _ _,ak,al,Y.tag,F.tag⟩
 case assign =>
  intro l x W K L
  gi_wp2
  exact L
 case body =>
  rintro l pre ⟨j,d1⟩ W ⟨a,vo,a7,J,M,b4,b5,O,am,an⟩ ea
  obtain⟨po,co,rfl⟩:=M.val
  have eb:Tryz.prog.follows .mixedOrders=true:=kR
  have c0:=J.at 0 rfl
  have ec:=b5.at 0 rfl
  have ed:j<4:=by unfold parts at d1;omega
  have d2:qf8 b off 448 112 j = .slice (some ⟨b,off+j*112,none⟩) 112 112:=by
   unfold qf8
   rw[show min 112 (448-j*112)=112 by omega]
  have b6:=Qdy q j
  rw[a9.out,show min 112 (448-j*112)=112 by omega] at b6
  have cb:Bytes W a g (qf8 b off 448 112 j) (Qcl q j):=by
   have h1:=cp.step a7 id
   have h2:=a9.out
   have h3:Bytes W a g (.slice (some ⟨b,off,none⟩) q.length c) q:=by rw[h2];exact h1
   have:=h3.part (b:=b) (off:=off) (fun _=>rfl) 112 j
   rw[h2] at this
   exact this
  rw[d2] at cb ⊢
  clear d2
  have d3:(qcc q s j).length=128:=by unfold qcc;simp only[Z6,Qaa,b6]
  have a3:((pre.map (fun x=>qcc q s x.1)).length:Nat)<=1000000000:=by
   rw[Y0]
   have:parts 448 112<=1000000:=by unfold parts;omega
   omega
  have bf:s2+1+1<W.heap.size:=by
   have h5:=b4 (s2+1+1) (.inr (.inr rfl))
   have h6:=F.lt
   exact(Array.getElem?_eq_some_iff.1 (h5.trans (Array.getElem?_eq_getElem h6))).1
  have d4:=J.row
  have d5:=fun k=>M.cells (k:=k)
  have bg:(pre++[(⟨j,d1⟩:Ql1 448 112)]).map (fun x=>qcc q s x.1)=pre.map (fun x=>qcc q s x.1)++[qcc q s j]:=sM
  have d:=(((zS W a).alloc (.cells #[Value.slice (some ⟨bm,C,none⟩) 8 E,Value.slice (some ⟨b,off+j*112,none⟩) 112 112,Value.slice (some ⟨bm,C,none⟩) 8 E] 58) qay).drew)
  have a4:=(Own.new W a qay 58 [Value.slice (some ⟨bm,C,none⟩) 8 E,Value.slice (some ⟨b,off+j*112,none⟩) 112 112,Value.slice (some ⟨bm,C,none⟩) 8 E]).drew
  have a5:=O.step d id
  have bh:=cb.step d id
  have bi:=Qt2 (w:=(W.alloc (.cells #[Value.slice (some ⟨bm,C,none⟩) 8 E,Value.slice (some ⟨b,off+j*112,none⟩) 112 112,Value.slice (some ⟨bm,C,none⟩) 8 E] 58)).drew) (τ:=a.put W.heap.size qay) (br:=W.heap.size) (c:=3) (ls:=[leB s 8,Qcl q j,leB s 8]) (by
   intro i hi
   have hi:i<3:=hi
   rcases (by omega:i=0\/i=1\/i=2) with rfl|rfl|rfl
   ·exact⟨_,a4.at 0 rfl,_,a5⟩
   ·exact⟨_,a4.at 1 rfl,_,bh⟩
   ·exact⟨_,a4.at 2 rfl,_,a5⟩) qa2 sM sM (by simp[qe9,Qaa];omega) (by simp[qe9,Qaa,b6])
  have d6:qe9 [leB s 8,Qcl q j,leB s 8] 3=qcc q s j:=by simp[qe9,qcc]
  have Z:=(callsIn_wide (n:=1)).2 bi
  have d7:[leB s 8,Qcl q j,leB s 8].length=3:=rfl
  rw[d7,d6] at Z
  have ao:=J.step d id
  have bj:=M.step d id id
  have bk:=b5.step d id
  have bl:=a7.trans d
  generalize qcc q s j=y at *
  generalize hml:pre.map (fun x=>qcc q s x.1)=ls at *
  obtain⟨d8,d9⟩:=qaj d a5
  have cc:=Z2 Z
  obtain⟨ap,da,bn,db,dc,b7,dd,ee,de,ef,df,dh⟩:=qds ao bj bk bl d3 a3 d5 d4 bg b4 am an
  have aq:=Z2 bf
  clear d a5 Z ao bj bk bl d3 a3 d5 d4 bg b4 am an bf a4 cb bh bi d6 d7 a7 J M b5 O b6 cp cq cr a9
  have bo:qe3≠qa2:=by simp[qe3,qa2]
  have di:¬qay=qe3:=by simp[qe3,qay]
  obtain⟨eg,bp⟩:=qaj hbl bd
  clear hbl bd ak Y F al G be aj cz ca cj cv e3 e4 ed ea
  gi_wp2
  refine Qm8 (S:=fun w':World=>w'.cell? ⟨w.heap.size,0,none⟩=some (.slice po ls.length co)/\w'.cell? ⟨s2,0,none⟩=some (.slice (some ⟨bm,C,none⟩) 8 E)) eb ?_
  have eh:W.drew.cell? ⟨w.heap.size,0,none⟩=some (.slice po ls.length co)/\W.drew.cell? ⟨s2,0,none⟩=some (.slice (some ⟨bm,C,none⟩) 8 E):=⟨c0,ec⟩
  refine Qfg (i:=0) (v:=?_) dK rfl dK dK dK dK (fun _ _ _ h=>h) ⟨Or.inl ⟨by rfl,?_⟩,fun _=>rfl⟩ (by assumption) ?_
  rotate_left
  ·intro w a0
   (try dsimp only at a0)
   go_simp
   all_goals with_reducible rfl
  try simp only[Act.put]
  try simp only[List.setIfInBounds_toArray]
  try simp only[List.set_cons_succ]
  try simp only[List.set_cons_zero]
  refine Qfg (i:=1) (v:=?_) dK rfl dK dK dK dK (fun _ _ _ h=>h) ⟨Or.inl ⟨by rfl,?_⟩,fun _=>rfl⟩ (by assumption) ?_
  rotate_left
  ·intro w a0
   (try dsimp only at a0)
   go_simp
   all_goals with_reducible rfl
  try simp only[Act.put]
  try simp only[List.setIfInBounds_toArray]
  try simp only[List.set_cons_succ]
  try simp only[List.set_cons_zero]
  refine Qfg (i:=2) (v:=?_) dK rfl dK dK dK dK (fun _ _ _ h=>h) ⟨Or.inl ⟨by rfl,?_⟩,fun _=>rfl⟩ (by assumption) ?_
  rotate_left
  ·intro w a0
   (try dsimp only at a0)
   go_simp
   all_goals with_reducible rfl
  try simp only[Act.put]
  try simp only[List.setIfInBounds_toArray]
  try simp only[List.set_cons_succ]
  try simp only[List.set_cons_zero]
  refine Qfg (i:=3) (v:=?_) dK rfl dK dK dK dK (fun _ _ _ h=>h) ⟨Or.inl ⟨by rfl,?_⟩,fun _=>rfl⟩ (by assumption) ?_
  rotate_left
  ·intro w a0
   (try dsimp only at a0)
   go_simp
   all_goals with_reducible rfl
  try simp only[Act.put]
  try simp only[List.setIfInBounds_toArray]
  try simp only[List.set_cons_succ]
  try simp only[List.set_cons_zero]
  clear eh
  refine Qe1 (i:=4) dK rfl (fun K L=>?_)
  go_simp
  refine L.out _ _ (fun _=>⟨ap.at 0 rfl,bn.at 0 rfl⟩) ?_
  clear L K
  refine Qe1 (i:=5) dK rfl (fun K L=>?_)
  go_simp
  gi_wp2_with (refine⟨trivial,?_⟩
               gi_at_call 188
               refine(CallsIn.inRound l cc).mono ?_
               rintro e w5 ⟨v5,τ5,rfl,b8,a1⟩
               obtain⟨p5,c5,rfl⟩:=b8.val
               rw[dc.out] at b8 ⊢
               have a2:=ap.step a1 id
               have ei:=a2.at 0 rfl
               have bq:=da.step a1 id id
               have bv:=bn.step a1 id
               have bw:=d9.step a1 id
               have bz:=db.trans a1
               have c3:=d8.trans a1
               have dj:=b8.bytes
               obtain⟨ar,dk,av,dl,dm,aw,ej⟩:=qdr a2 bq bv bw bz c3 dj
               clear b8 a1 a2 bq bv bw bz c3 dj)
  refine L.out _ _ (fun _=>⟨ei,av.at 0 rfl⟩) ?_
  clear L K
  refine Qe1 (i:=6) dK rfl (fun K L=>?_)
  go_simp
  refine L.out _ _ (fun _=>⟨(ar.alloc _).at 0 rfl,(av.alloc _).at 0 rfl⟩) ?_
  clear L K
  refine Qe1 (i:=7) dK rfl (fun K L=>?_)
  refine Qih dm bo dk ej dc b7 rfl rfl _ _ rfl rfl rfl ?_
  intro v6 w6 ax ay dn az dp
  obtain⟨p6,c6,rfl⟩:=ay.val
  have I:=ar.step az di
  have ek:=I.at 0 rfl
  have z06:=I.fz 0
  have b0:=I.tag
  have b1:=av.step az di
  have em:=b1.at 0 rfl
  have c4:=dl.step az (fun h=>bo h.symm)
  obtain⟨dr,en,eo,ep,cd,ce,ds,dt⟩:=qen ay dn az dp I b0 b1 c4
  clear ay dn az dp I b0 b1 c4
  refine L.out _ _ (fun _=>⟨ek,em⟩) ?_
  clear L K
  refine Qe1 (i:=8) dK rfl (fun K L=>?_)
  go_simp
  refine L.out _ _ (fun h=>absurd h dK) ?_
  clear L K
  refine Qp1 kR ?_ _
  have er:Mod W w6 (fun k=>(Value.slice po ls.length co).ownBlock=some k):=(aw.no.mono (fun _ _ h=>h.elim)).seq ep (fun _ _ h=>h)
  have c7:Mod W (w6.setCell ⟨w.heap.size,0,none⟩ (.slice p6 (ls.length+1) c6)) (fun k=>k=w.heap.size\/(Value.slice po ls.length co).ownBlock=some k):=(er.mono (fun _ _ h=>.inr h)).setCell (p:=⟨w.heap.size,0,none⟩) (fun _=>.inl rfl) _
  have dv:Ext W a ax:=aw.ext.trans eo.ext aw.size
  have dw:(ls++[y]).length=ls.length+1:=sM
  have hq:Step w6 ax (w6.setCell ⟨w.heap.size,0,none⟩ (.slice p6 (ls.length+1) c6)) ax (fun t=>t=qay):=(Step.refl w6 ax (fun t=>t=qay)).set (o:=0) ce rfl _
  have c8:=dr.step hq (fun h=>by simp[qe3,qay] at h) (fun h=>by simp[qa2,qay] at h)
  have dx:=dt.step hq (fun h=>by simp[qa2,qay] at h)
  have dy:=ds.qd1 (p:=⟨w.heap.size,0,none⟩) (by have:=bp.out;show s2≠w.heap.size;omega) (.slice p6 (ls.length+1) c6)
  rw[dw] at c8
  have dz:qcy b (s2+1) (s2+1+1) W (w6.setCell ⟨w.heap.size,0,none⟩ (.slice p6 (ls.length+1) c6)):=by
   intro k hk
   have h3:=aq.out
   have h4:=eg.out
   have h5:=bp.out
   refine c7.block k oM ?_
   rintro(h|h)
   ·omega
   ·obtain⟨h1,h2,_⟩:=dd k h
    have hn1:k≠s2+1:=fun e=>by rw[e,df.out] at h1;simp[qay,qe3] at h1
    have hn2:k≠s2+1+1:=fun e=>by rw[e,dh.out] at h1;simp[qay,qe3] at h1
    omega
  refine⟨Qh4 c7 ?_,dz,ax,.slice p6 (ls.length+1) c6,en.qa3 (Z0 _) _,cd.set 0 _,?_,ef.trans dz,dy,dx,?_,?_⟩
  ·rintro k o (rfl|hk) ho
   ·rw[ee.out] at ho;cases ho;rfl
   ·obtain⟨_,_,xs,hx⟩:=dd k hk
    rw[hx] at ho;cases ho;rfl
  ·rw[de.out];exact c8
  ·rw[dv _ (by have:=aq.out;omega)];exact df
  ·rw[dv _ (by have:=aq.out;omega)];exact dh
 case done =>
  rintro D ys W hD e0 ⟨a,vo,a7,J,M,b4,b5,O,am,an⟩ L
  have c9:ys.map (fun x=>qcc q s x.1)=qao q s:=by
   have h1:ys.map (fun x=>qcc q s x.1)=(ys.map (fun x=>x.1)).map (qcc q s):=by rw[List.map_map];rfl
   rw[h1,e0];rfl
  rw[c9] at M
  clear e0 c9
  obtain⟨po,co,rfl⟩:=M.val
  have c0:=J.at 0 rfl
  obtain⟨et,ev,HK⟩:=qan a7 M L
  clear a7 M L
  gi_wp2
  refine⟨sM,.inl ⟨_,_,rfl,run_takeDeferred HK,?_⟩⟩
  have hg:=grownBy_putObj' W D (.deferred none)
  have a6:Qeq W (some D):=fun r e=>by cases e;exact⟨_,HK,rfl⟩
  have hl:(qao q s).length=4:=by simp[qao]
  exact⟨_,results_tmp rfl _ _ _,.slice po (qao q s).length co,a,by first|rfl|(rw[hl];rfl),ev.turn hg a6,et.turn hg (fun r e=>by cases e;have:=G.out;omega)⟩
 case stop =>
  rintro D c pre W _ _ h _
  exact h.elim
end Go.Proofs.YtociicnopccppaaGreat
namespace Go.Proofs.YtociicnopccppaaGreat
open Go.RowKit
theorem Qet (b:List Int) (s:Nat):(qao b s).length=4:=by simp[qao]
theorem Qqk (b:List Int) (s i:Nat) (hi:i<4):(qao b s).getD i []=qcc b s i:=by
 unfold qao
 rw[Z5,List.getElem?_map,List.getElem?_range hi];rfl
theorem Qii (b:List Int) (s i:Nat) (a:s<2 ^ 64):qcf (qcc b s i)=s:=by
 unfold qcf qcc
 rw[List.drop_zero,Y9,List.take_append_of_le_length (by rw[Qaa];omega),List.take_of_length_le (by rw[Qaa];omega),Qdl s 8 8 (Z0 _)]
 exact Nat.mod_eq_of_lt a
theorem Qkm {b:List Int}(a:b.length=448) (s i:Nat) (hi:i<4) (c:s<2 ^ 64):qbx (qcc b s i)=s:=by
 have hl:(leB s 8++Qcl b i).length=120:=by
  rw[Z6,Qaa,Qdy,a];omega
 unfold qbx qcc
 rw[List.drop_append_of_le_length (by rw[hl];exact Z0 _),List.drop_eq_nil_of_le (by rw[hl];exact Z0 _),List.nil_append,List.take_of_length_le (by rw[Qaa];omega),Qdl s 8 8 (Z0 _)]
 exact Nat.mod_eq_of_lt c
theorem Qqj {b:List Int}(a:b.length=448) (s i:Nat) (hi:i<4):((qcc b s i).drop 8).take (120-8)=Qcl b i:=by
 have hp:(Qcl b i).length=112:=by rw[Qdy,a];omega
 unfold qcc
 rw[Y9,List.drop_append_of_le_length (by rw[Qaa];omega),List.drop_eq_nil_of_le (by rw[Qaa];omega),List.nil_append,List.take_append_of_le_length oM,List.take_of_length_le oM]
theorem Qs6 {b:List Int}(d:b.length=448) (s:Nat) (a:s<2 ^ 64):Qb3 (qao b s)=true/\qdd (qao b s)=s/\Qjt (qao b s)=b/\qbu (qao b s) 4=s:=by
 have g:=fun i (hi:i<4)=>Qqk b s i hi
 have c:qdd (qao b s)=s:=by
  unfold qdd
  rw[g 0 oM,Qii b s 0 a]
 refine⟨?_,c,?_,?_⟩
 ·unfold Qb3
  rw[c]
  have key:∀i,i<=4->qiv (qao b s) s i=true:=by
   intro i
   induction i with
   | zero=>intro _;rfl
   | succ i ih =>
     intro hi
     rw[Qh0,ih oM,Bool.true_and,g i oM,Qii b s i a,Qkm d s i oM a]
     simp
  exact key 4 (Z0 _)
 ·have key:∀i,i<=4->Qcu (qao b s) i=b.take (i*112):=by
   intro i
   induction i with
   | zero=>intro _;simp[Qcu]
   | succ i ih =>
     intro hi
     show Qcu (qao b s) i++_=_
     rw[ih oM,g i oM,Qqj d s i oM]
     unfold Qcl
     rw[show (i+1)*112=i*112+112 by omega,List.take_add]
  show Qcu (qao b s) 4=b
  rw[key 4 (Z0 _),List.take_of_length_le oM]
 ·have key:∀i,i<=4->qbu (qao b s) i=if i=0 then 0 else s:=by
   intro i
   induction i with
   | zero=>intro _;rfl
   | succ i ih =>
     intro hi
     show max (max (qbu (qao b s) i) (qcf ((qao b s).getD i []))) (qbx ((qao b s).getD i []))=_
     rw[ih oM,g i oM,Qii b s i a,Qkm d s i oM a,if_neg (show ¬i+1=0 by omega)]
     by_cases h0:i=0
     ·rw[if_pos h0];omega
     ·rw[if_neg h0];omega
  rw[key 4 (Z0 _),if_neg oM]
