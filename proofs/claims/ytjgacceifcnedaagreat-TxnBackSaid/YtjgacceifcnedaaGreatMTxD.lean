/-
 Transactions: a change turned,how much its undoing takes;a change tried,and done.
-/
import Derived.Test.YtjgacceifcnedaaGreatMTxA
import Derived.Test.YtjgacceifcnedaaGreatMEncB
import Derived.Test.YtjgacceifcnedaaGreatMPageW
import Derived.Test.YtjgacceifcnedaaGreatMPageS
set_option maxRecDepth 100000
set_option maxHeartbeats 4000000
set_option linter.all false
namespace Go.Proofs.YtjgacceifcnedaaGreat
variable {P:List Int}{w:World}{τ:Tags}
open Go.RowKit
def ChangeP.turned (c:ChangeP):ChangeP:=⟨c.page,c.slot,c.has,c.had,c.after,c.before⟩
def ChgV (c:ChangeP) (pb:Option Addr) (cb:Nat) (pa:Option Addr) (ca:Nat):Array Value:=#[.int .u32 (c.page:Int),.int .u16 (c.slot:Int),.bool c.had,.bool c.has,.slice pb c.before.length cb,.slice pa c.after.length ca]
def tTn:Tag:=(207,0)
theorem Qml(c:ChangeP) {pb pa:Option Addr}{cb ca:Nat}(hb:Bytes w τ tData (.slice pb c.before.length cb) c.before) (ha:Bytes w τ tData (.slice pa c.after.length ca) c.after) (h1:c.before.length≤100000) (h2:c.after.length≤100000) :
 Calls Tryz.prog 134 #[.agg (ChgV c pb cb pa ca)] w fun e w'=>∃qb kb qa ka τ',e = .returned (.agg (ChgV c.turned qb kb qa ka))∧Bytes w' τ' tData (.slice qb c.after.length kb) c.after∧Bytes w' τ' tData (.slice qa c.before.length ka) c.before∧Step w τ w' τ' nil:=by
 unfold ChgV ChangeP.turned
 obtain⟨pg,sl,hd,hs,be,af⟩:=c
 dsimp only at *
 generalize hbn:be.length=nb at *
 generalize han:af.length=na at *
 have ho:=Own.born w τ tTn 55 #[.int .u32 (pg:Int),.int .u16 (sl:Int),.bool hd,.bool hs,.slice pb nb cb,.slice pa na ca]
 have hal:=(Step.refl w τ nil).alloc (.cells #[.int .u32 (pg:Int),.int .u16 (sl:Int),.bool hd,.bool hs,.slice pb nb cb,.slice pa na ca] 55) tTn
 obtain⟨bt,hbt⟩:∃bt,w.heap.size=bt:=⟨_,rfl⟩
 have hlow:w.heap.size≤bt:=by omega
 have hsz:(w.alloc (.cells #[.int .u32 (pg:Int),.int .u16 (sl:Int),.bool hd,.bool hs,.slice pb nb cb,.slice pa na ca] 55)).heap.size=w.heap.size+1:=World.size_alloc _ _
 generalize τ.put w.heap.size tTn=τ1 at *
 rw[hbt] at ho
 generalize hW1:w.alloc (.cells #[.int .u32 (pg:Int),.int .u16 (sl:Int),.bool hd,.bool hs,.slice pb nb cb,.slice pa na ca] 55)=W1 at *
 have hz:=Own.born W1 τ1 tTn 55 #[.int .u32 0,.int .u16 0,.bool false,.bool false,.slice none 0 0,.slice none 0 0]
 have hal2:=(Step.refl W1 τ1 nil).alloc (.cells #[.int .u32 0,.int .u16 0,.bool false,.bool false,.slice none 0 0,.slice none 0 0] 55) tTn
 rw[hsz,hbt] at hz hal2
 have ho2:=ho.step hal2 (fun h=>h)
 have hst2:=hal.trans hal2
 generalize τ1.put (bt+1) tTn=τ2 at *
 generalize hW2:W1.alloc (.cells #[.int .u32 0,.int .u16 0,.bool false,.bool false,.slice none 0 0,.slice none 0 0] 55)=W2 at *
 have hb2:=hb.step hst2 (fun h=>h)
 have ha2:=ha.step hst2 (fun h=>h)
 have hod:=ho2.drew
 have hlo:∀W T,Step W2 τ2 W T nil→W.cell? ⟨bt,0,none⟩=some (.int .u32 (pg:Int))∧W.cell? ⟨bt,1,none⟩=some (.int .u16 (sl:Int))∧W.cell? ⟨bt,2,none⟩=some (.bool hd)∧W.cell? ⟨bt,3,none⟩=some (.bool hs)∧W.cell? ⟨bt,4,none⟩=some (.slice pb nb cb)∧W.cell? ⟨bt,5,none⟩=some (.slice pa na ca):=fun W T m=>⟨(ho2.step m (fun h=>h)).at 0 rfl,(ho2.step m (fun h=>h)).at 1 rfl,(ho2.step m (fun h=>h)).at 2 rfl,(ho2.step m (fun h=>h)).at 3 rfl,(ho2.step m (fun h=>h)).at 4 rfl,(ho2.step m (fun h=>h)).at 5 rfl⟩
 have hd0:Step W2 τ2 W2.drew τ2 nil:=(Step.refl W2 τ2 nil).drew
 have hS0:=hlo _ _ hd0
 rw[←han] at ha2
 have hca:=Qeb (ha2.step hd0 (fun h=>h)) tData (by rw[han];omega)
 rw[han] at hca ha2
 have hcb:=fun (W:World) (T:Tags) (m:Step W2 τ2 W T nil)=>Qeb (by rw[←hbn] at hb2;exact hb2.step m (fun h=>h)) tData (by rw[hbn];omega)
 rw[hbn] at hcb
 obtain⟨Ho,Hal,Hz,Hal2,Ho2,Hst2,Hb2,Ha2,Hod,Hlo,Hd0,Hca⟩:=hid12 ho hal hz hal2 ho2 hst2 hb2 ha2 hod hlo hd0 hca
 obtain⟨Hcb,Hbn,Han,HW1,HW2,Hsz⟩:=hid6 hcb hbn han hW1 hW2 hsz
 clear ho hal hz hal2 ho2 hst2 hb2 ha2 hod hlo hd0 hca hcb hbn han hW1 hW2 hsz hb ha
 go_enter Tryz.func134,Tryz.ntmps134
 go_wp2_with fail
 rw[HW1.out]
 try rw[HW2.out]
 refine Qaf (S:=fun W:World=>W.cell? ⟨bt,0,none⟩=some (.int .u32 (pg:Int))∧W.cell? ⟨bt,1,none⟩=some (.int .u16 (sl:Int))∧W.cell? ⟨bt,2,none⟩=some (.bool hd)∧W.cell? ⟨bt,3,none⟩=some (.bool hs)∧W.cell? ⟨bt,4,none⟩=some (.slice pb nb cb)∧W.cell? ⟨bt,5,none⟩=some (.slice pa na ca)) (by kernel_rfl) ?_
 refine tk0 [0,1,2,3,4,5,6,7,8,9,11,12] ?_
 iterate 12
  refine tks (v:=?_) rfl (Or.inl ⟨by rfl,?_⟩) (by assumption) ?_
  rotate_left
  ·intro w hSw;(try dsimp only at hSw);go_simp
   all_goals with_reducible rfl
  try simp only[Act.put,lz1,lz2,lz3]
 refine tk9 ?_
 try simp only[lz4,lz5,lz6,lz1,lz2,lz3]
 refine tk1 10 rfl fun K hK=>?_
 go_simp
 go_at_call 64
 refine Hca.out.mono ?_
 rintro e w3 ⟨u3,τ3,rfl,hb3,he3,hm3⟩
 have hs3:=Step.of nil hm3 he3
 have hq3:=Hd0.out.trans hs3
 obtain⟨qb,kb,rfl,-,-⟩:=hb3.any
 have hS3:=Hlo.out _ _ hq3
 have hcb3:=Hcb.out _ _ hq3
 rw[Han.out] at hb3 ⊢
 obtain⟨Hb3,Hq3,Hcb3⟩:=hid3 hb3 hq3 hcb3
 clear hb3 hq3 hcb3 hs3 he3 hm3 hS0
 refine hK.out _ _ (fun _=>hS3) ?_
 clear hK K
 refine tk1 13 rfl fun K hK=>?_
 go_simp
 go_at_call 64
 refine Hcb3.out.mono ?_
 rintro e w4 ⟨u4,τ4,rfl,hb4,he4,hm4⟩
 have hs4:=Step.of nil hm4 he4
 have hq4:=Hq3.out.trans hs4
 obtain⟨qa,ka,rfl,-,-⟩:=hb4.any
 have hS4:=Hlo.out _ _ hq4
 have hb34:=Hb3.out.step hs4 (fun h=>h)
 rw[Hbn.out] at hb4 ⊢
 have hz4:=Hz.out.step hq4 (fun h=>h)
 have hst4:=Hst2.out.trans hq4
 have d0:=hz4.at 0 (v:=.int .u32 0) rfl
 have y0:=hz4.fz 0
 have d1:=hz4.at 1 (v:=.int .u16 0) rfl
 have y1:=hz4.fz 1
 have d2:=hz4.at 2 (v:=.bool false) rfl
 have y2:=hz4.fz 2
 have d3:=hz4.at 3 (v:=.bool false) rfl
 have y3:=hz4.fz 3
 have d4:=hz4.at 4 (v:=.slice none 0 0) rfl
 have y4:=hz4.fz 4
 have d5:=hz4.at 5 (v:=.slice none 0 0) rfl
 have y5:=hz4.fz 5
 obtain⟨Hb4,Hb34,Hq4,Hz4,Hst4⟩:=hid5 hb4 hb34 hq4 hz4 hst4
 clear hb4 hb34 hq4 hz4 hst4 hs4 he4 hm4 hS3
 refine hK.out _ _ (fun _=>hS4) ?_
 clear hK K
 refine tk1 14 rfl fun K hK=>?_
 go_simp
 refine hK.out _ _ (fun _=>hS4) ?_
 clear hK K
 refine tk1 15 rfl fun K hK=>?_
 go_simp
 have hz5:Own ((((((w4.setCell ⟨bt+1,0,none⟩ (.int .u32 (pg:Int))).setCell ⟨bt+1,1,none⟩ (.int .u16 (sl:Int))).setCell ⟨bt+1,2,none⟩ (.bool hs)).setCell ⟨bt+1,3,none⟩ (.bool hd)).setCell ⟨bt+1,4,none⟩ (.slice qb na kb)).setCell ⟨bt+1,5,none⟩ (.slice qa nb ka)) τ4 (bt+1) tTn 55 [.int .u32 (pg:Int),.int .u16 (sl:Int),.bool hs,.bool hd,.slice qb na kb,.slice qa nb ka]:=((((((Hz4.out.set 0 (.int .u32 (pg:Int))).set 1 (.int .u16 (sl:Int))).set 2 (.bool hs)).set 3 (.bool hd)).set 4 (.slice qb na kb)).set 5 (.slice qa nb ka))
 have hq5:Step w4 τ4 ((((((w4.setCell ⟨bt+1,0,none⟩ (.int .u32 (pg:Int))).setCell ⟨bt+1,1,none⟩ (.int .u16 (sl:Int))).setCell ⟨bt+1,2,none⟩ (.bool hs)).setCell ⟨bt+1,3,none⟩ (.bool hd)).setCell ⟨bt+1,4,none⟩ (.slice qb na kb)).setCell ⟨bt+1,5,none⟩ (.slice qa nb ka)) τ4 (fun t=>t=tTn):=(((((((Step.refl w4 τ4 (fun t=>t=tTn)).set (o:=0) Hz4.out.tag rfl _).set (o:=1) Hz4.out.tag rfl _).set (o:=2) Hz4.out.tag rfl _).set (o:=3) Hz4.out.tag rfl _).set (o:=4) Hz4.out.tag rfl _).set (o:=5) Hz4.out.tag rfl _)
 have hst5:Step w τ ((((((w4.setCell ⟨bt+1,0,none⟩ (.int .u32 (pg:Int))).setCell ⟨bt+1,1,none⟩ (.int .u16 (sl:Int))).setCell ⟨bt+1,2,none⟩ (.bool hs)).setCell ⟨bt+1,3,none⟩ (.bool hd)).setCell ⟨bt+1,4,none⟩ (.slice qb na kb)).setCell ⟨bt+1,5,none⟩ (.slice qa nb ka)) τ4 nil:=((((((Hst4.out.setNew (b:=bt+1) (o:=0) (by omega) _).setNew (b:=bt+1) (o:=1) (by omega) _).setNew (b:=bt+1) (o:=2) (by omega) _).setNew (b:=bt+1) (o:=3) (by omega) _).setNew (b:=bt+1) (o:=4) (by omega) _).setNew (b:=bt+1) (o:=5) (by omega) _)
 have hc4:=Hb4.out.step hq5 (by decide)
 have hc34:=Hb34.out.step hq5 (by decide)
 refine hK.out _ _ (fun h=>absurd h (by decide +kernel)) ?_
 clear hK K hq5 hS4 d0 y0 d1 y1 d2 y2 d3 y3 d4 y4 d5 y5
 generalize ((((((w4.setCell ⟨bt+1,0,none⟩ (.int .u32 (pg:Int))).setCell ⟨bt+1,1,none⟩ (.int .u16 (sl:Int))).setCell ⟨bt+1,2,none⟩ (.bool hs)).setCell ⟨bt+1,3,none⟩ (.bool hd)).setCell ⟨bt+1,4,none⟩ (.slice qb na kb)).setCell ⟨bt+1,5,none⟩ (.slice qa nb ka))=w5 at *
 refine Qad (by kernel_rfl) ?_ _
 have f0:=hz5.at 0 (v:=.int .u32 (pg:Int)) rfl
 have f1:=hz5.at 1 (v:=.int .u16 (sl:Int)) rfl
 have f2:=hz5.at 2 (v:=.bool hs) rfl
 have f3:=hz5.at 3 (v:=.bool hd) rfl
 have f4:=hz5.at 4 (v:=.slice qb na kb) rfl
 have f5:=hz5.at 5 (v:=.slice qa nb ka) rfl
 obtain⟨Hz5,Hst5,Hc4,Hc34⟩:=hid4 hz5 hst5 hc4 hc34
 clear hz5 hst5 hc4 hc34
 go_wp2_with fail
 refine bodyPost_ret (by simp[results,Tryz.results134,go_sem,f0,f1,f2,f3,f4,f5];try rfl) rfl ?_
 exact⟨qb,kb,qa,ka,τ4,rfl,Hc34.out,Hc4.out,Hst5.out⟩
def Qf5 (c:ChangeP) (tx pv nx:Nat):RecP:=⟨3,tx,pv,nx,c.turned,[],[]⟩
theorem Qw8 {k tx pv nx:Nat} {c:ChangeP} {pb pa:Option Addr} {cb ca:Nat}(hb:Bytes w τ tData (.slice pb c.before.length cb) c.before) (ha:Bytes w τ tData (.slice pa c.after.length ca) c.after) (h1:k<256) (h2:tx<4294967296) (h3:pv<18446744073709551616) (h4:nx<18446744073709551616) (h5:c.page<4294967296) (h6:c.slot<65536) :
 RecI w τ (.agg #[.int .u8 (k:Int),.int .u32 (tx:Int),.int .u64 (pv:Int),.int .u64 (nx:Int),.int .u32 (c.page:Int),.int .u16 (c.slot:Int),.bool c.had,.bool c.has,.slice pb c.before.length cb,.slice pa c.after.length ca,.slice none 0 0,.slice none 0 0]) ⟨k,tx,pv,nx,c,[],[]⟩ :=
 ⟨⟨pb,cb,pa,ca,none,0,none,0,tBox,tBox,0,rfl,hb,ha,NS.nil _ _ _ _ _ _ _,NS.nil _ _ _ _ _ _ _,by simp[WrT,tBox,tWr,tWb],by simp[WrT,tBox,tWr,tWb]⟩,h1,h2,h3,h4,h5,h6⟩
theorem Qkc (c:ChangeP) (tx pv nx:Nat):(encR (Qf5 c tx pv nx)).length=36+c.before.length+c.after.length:=by
 rw[Qbh]
 unfold encBody Qf5
 rw[if_pos (by rfl),Qhi]
 show 27+(9+c.after.length+c.before.length)=_
 omega
theorem Qj9(c:ChangeP) {pb pa:Option Addr}{cb ca:Nat}(hb:Bytes w τ tData (.slice pb c.before.length cb) c.before) (ha:Bytes w τ tData (.slice pa c.after.length ca) c.after) (hmay:mayB (Qf5 c 0 0 0)=true) (h5:c.page<4294967296) (h6:c.slot<65536) :
 Calls Tryz.prog 115 #[.agg (ChgV c pb cb pa ca)] w fun e w'=>e = .returned (.int .u64 ((36+c.before.length+c.after.length:Nat):Int))∧∃τ',Step w τ w' τ' nil:=by
 obtain⟨-,-,-,hl1,hl2⟩:=Qh3 hmay (by show (3:Nat)≠8;omega)
 change c.after.length≤64 at hl1
 change c.before.length≤64 at hl2
 have hlen:=Qkc c 0 0 0
 have ho:=Own.born w τ tTn 55 (ChgV c pb cb pa ca)
 have hal:=(Step.refl w τ nil).alloc (.cells (ChgV c pb cb pa ca) 55) tTn
 have hb1:=hb.step hal (fun h=>h)
 have ha1:=ha.step hal (fun h=>h)
 have htn:=Qml c hb1 ha1 (by omega) (by omega)
 have henc:=fun (W:World) (T:Tags) (qb:Option Addr) (kb:Nat) (qa:Option Addr) (ka:Nat) (x:Bytes W T tData (.slice qb c.after.length kb) c.after) (y:Bytes W T tData (.slice qa c.before.length ka) c.before) =>
  Qiq (Qw8 (k:=3) (tx:=0) (pv:=0) (nx:=0) (c:=c.turned) x y (by omega) (by omega) (by omega) (by omega) h5 h6) hmay (by rw[show (⟨3,0,0,0,c.turned,[],[]⟩:RecP)=Qf5 c 0 0 0 from rfl,hlen];omega) (fun h=>by cases h)
 rw[show (⟨3,0,0,0,c.turned,[],[]⟩:RecP)=Qf5 c 0 0 0 from rfl] at henc
 generalize τ.put w.heap.size tTn=τ1 at *
 generalize encR (Qf5 c 0 0 0)=E at *
 have hnb:∀(W W2:World) (T:Tags) (u:Value),NB W.heap.size W2 T tWb u E→∃p cc,u = .slice p (36+c.before.length+c.after.length) cc:=fun W W2 T u h=>by
  obtain⟨p,cc,rfl⟩:=h.val
  rw[hlen];exact⟨p,cc,rfl⟩
 have hsum:((36+c.before.length+c.after.length:Nat):Int)=36+(c.before.length:Int)+(c.after.length:Int):=by omega
 have hw:=Qam (36+c.before.length+c.after.length) (by omega)
 clear hmay
 unfold ChgV at *
 obtain⟨pg,sl,hd,hs,be,af⟩:=c
 unfold ChangeP.turned at *
 dsimp only at *
 generalize hsz:36+be.length+af.length=sz at *
 have k0:=ho.at 0 (v:=.int .u32 (pg:Int)) rfl
 have k1:=ho.at 1 (v:=.int .u16 (sl:Int)) rfl
 have k2:=ho.at 2 (v:=.bool hd) rfl
 have k3:=ho.at 3 (v:=.bool hs) rfl
 have k4:=ho.at 4 (v:=.slice pb be.length cb) rfl
 have k5:=ho.at 5 (v:=.slice pa af.length ca) rfl
 obtain⟨Ho,Hal,Hb1,Ha1,Htn,Henc,Hnb,Hsz,Hsum⟩:=hid9 ho hal hb1 ha1 htn henc hnb hsz hsum
 clear ho hal hb1 ha1 htn henc hnb hsz hsum hb ha
 go_enter Tryz.func115,Tryz.ntmps115
 go_wp2_with fail
 refine Htn.out.mono ?_
 rintro e w2 ⟨qb,kb,qa,ka,τ2,rfl,hx,hy,hs2⟩
 have hen:=Henc.out _ _ _ _ _ _ hx hy
 have hst2:=Hal.out.trans hs2
 obtain⟨Hen,Hst2⟩:=hid2 hen hst2
 clear hen hst2 hx hy hs2 k0 k1 k2 k3 k4 k5
 go_wp2_with fail
 refine Hen.out.mono ?_
 rintro e w3 ⟨u,τ3,rfl,hn3,hs3⟩
 obtain⟨p,cc,rfl⟩:=Hnb.out _ _ _ _ hn3
 have hst3:=Hst2.out.trans hs3
 have Hst3:=Lib.hid hst3
 clear hst3 hs3 hn3
 go_wp2_with fail
 go_ret
 exact⟨rfl,τ3,Hst3.out⟩
def Small (P:List Int):Prop:=∀t,(pData P t).length≤4∧(12≤t→pData P t=[])
theorem Small.room(h:Sound P) (hm:Small P) (s k:Nat) (hs:s<12) (hk:k≤64):16+4*max (pageCount P) (s+1)+pUsed P+k≤448:=by
 have hl:∀t,pLen P t=(pData P t).length:=fun t=>(Qbm h.tidy.lies.fit h.tidy.len t).symm
 have hc:pageCount P≤12:=by
  have hi:=Qcn P (pageCount P)
  rw[h.head] at hi
  rcases hi.last with h0|h0
  ·simp only at h0;omega
  ·simp only at h0
   rcases Nat.lt_or_ge (pageCount P-1) 12 with h1|h1
   ·omega
   ·rw[hl,(hm _).2 h1] at h0;simp at h0
 have hu:∀q,usedTo P q≤q*4:=by
  intro q
  induction q with
  | zero=>simp[usedTo]
  | succ q ih =>
    have:=(hm q).1
    rw[←hl] at this
    show usedTo P q+pLen P q≤_
    omega
 have:=hu (pageCount P)
 unfold pUsed
 omega
structure DoneP (P Q:List Int) (s:Nat) (m:List Int):Prop where
 sound:Sound Q
 num:pageNumber Q=pageNumber P
 lsn:pageLSN Q=pageLSN P
 data:∀t,pData Q t=if t=s then m else pData P t
theorem DoneP.small {Q:List Int} {s:Nat} {m:List Int}(h:DoneP P Q s m) (hP:Small P) (hs:s<12) (hm:m.length≤4):Small Q:=fun t=>by
 rw[h.data]
 by_cases e:t=s
 ·rw[if_pos e];exact⟨hm,fun h=>by omega⟩
 ·rw[if_neg e];exact hP t
def ChangeP.now (c:ChangeP):List Int:=if c.has=true then c.after else []
def tTry:Tag:=(209,0)
theorem Qy4 {g:Tag} {b:Nat}(h:PageAt w τ g b P) (hs:Sound P) (hp:Small P) (s:Nat) (hs12:s<12) (has:Bool) {v:Value}{g2:Tag}{m:List Int}(hb:Bytes w τ g2 v m) (hg2:g2≠tTry) (h0:has=true→0<m.length) (h64:m.length≤64) :
 Calls Tryz.prog 114 #[.pointer (some ⟨b,0,none⟩),.int .i64 (s:Int),.bool has,v] w fun e w'=>e = .returned (.int .u16 0)∧∃τ',Step w τ w' τ' (fun t=>t=tTry):=by
 cases has with
 | false =>
   go_enter Tryz.func114,Tryz.ntmps114
   go_wp2_with fail
   go_ret
   exact⟨rfl,τ,Step.refl _ _ _⟩
 | true =>
   have hby:=Qhy h tData
   have hroom:=Small.room hs hp s m.length hs12 h64
   have hrd:=fun (W:World) (T:Tags) (u:Value) (x:Bytes W T tData u P)=>Qg4 (g:=tTry) x hs
   have hset:=fun (W:World) (T:Tags) (q:Nat) (x:PageAt W T tTry q P) (y:Bytes W T g2 v m)=>Qk1 (by decide) x hs (s:Int) y hg2
   have hok:=fun (Q:List Int) (er:Nat) (x:SetR P Q (s:Int) m er)=>x.room s rfl (by omega) (h0 rfl) h64 hroom
   obtain⟨pv,cv,rfl,-,-⟩:=hb.any
   obtain⟨Hby,Hrd,Hset,Hok,Hb⟩:=hid5 hby hrd hset hok hb
   clear hby hrd hset hok hb h hs hp hroom
   go_enter Tryz.func114,Tryz.ntmps114
   go_wp2_with fail
   refine Hby.out.mono ?_
   rintro e w1 ⟨u,τ1,rfl,hb1,hs1⟩
   have hrd1:=Hrd.out _ _ _ hb1.bytes
   have hv1:=Hb.out.step hs1 (fun h=>h)
   obtain⟨Hrd1,Hs1,Hv1⟩:=hid3 hrd1 hs1 hv1
   clear hrd1 hs1 hv1 hb1
   go_wp2_with fail
   refine Hrd1.out.mono ?_
   rintro e w2 ⟨q,τ2,rfl,hlow,hq,hs2⟩
   have hse:=Hset.out _ _ _ hq (Hv1.out.step hs2 (fun h=>h))
   have hst2:=(Hs1.out.trans hs2).mono (T:=fun t=>t=tTry) (fun _ h=>h.elim)
   obtain⟨Hse,Hst2⟩:=hid2 hse hst2
   clear hse hst2 hs2 hq
   go_wp2_with fail
   refine Hse.out.mono ?_
   rintro e w3 ⟨er,Q,τ3,rfl,hr,-,hs3⟩
   obtain rfl:=Hok.out _ _ hr
   have hst3:=Hst2.out.trans hs3
   have Hst3:=Lib.hid hst3
   clear hst3 hs3 hr
   go_wp2_with fail
   go_ret
   exact⟨rfl,τ3,Hst3.out⟩
theorem Qv1 {g:Tag} {b:Nat}(hg:g≠tOut∧g≠tData∧g≠tAll) (h:PageAt w τ g b P) (hs:Sound P) (hp:Small P) (c:ChangeP) (hs12:c.slot<12) {pb pa:Option Addr}{cb ca:Nat}(ha:Bytes w τ tData (.slice pa c.after.length ca) c.after) (h0:c.has=true→0<c.after.length) (h64:c.after.length≤64) :
 Calls Tryz.prog 116 #[.pointer (some ⟨b,0,none⟩),.agg (ChgV c pb cb pa ca)] w fun e w'=>e = .returned (.tuple #[])∧∃Q τ',DoneP P Q c.slot c.now∧PageAt w' τ' g b Q∧Step w τ w' τ' (fun t=>t=g):=by
 have ho:=Own.born w τ tTn 55 (ChgV c pb cb pa ca)
 have hal:=(Step.refl w τ nil).alloc (.cells (ChgV c pb cb pa ca) 55) tTn
 have hst:=hal.mono (T:=fun t=>t=g) (fun _ h=>h.elim)
 have h1:=h.step hal (fun h=>h)
 have ha1:=ha.step hal (fun h=>h)
 have hroom:=Small.room hs hp c.slot c.after.length hs12 h64
 have hset:=Qk1 hg h1 hs (c.slot:Int) ha1 (fun e=>hg.2.1 e.symm)
 have hok:=fun (Q:List Int) (er:Nat) (hh:c.has=true) (x:SetR P Q (c.slot:Int) c.after er)=>x.room c.slot rfl (by omega) (h0 hh) h64 hroom
 have hclr:=Qhx (Step.refl _ _ (fun t=>t=g)) (.inl rfl) hg.1 h1 hs.tidy.lies c.slot (by omega)
 have hcd:DoneP P (if 0<pLen P c.slot then Qi7 P c.slot else P) c.slot []:=by
  by_cases hq:0<pLen P c.slot
  ·rw[if_pos hq]
   have hc:=hs.tidy.clear hq
   exact⟨hc.sound,hc.num,hc.lsn,hc.data⟩
  ·rw[if_neg hq]
   refine⟨hs,rfl,rfl,fun t=>?_⟩
   by_cases e:t=c.slot
   ·rw[if_pos e,e];exact Qe7 (by omega)
   ·rw[if_neg e]
 generalize (if 0<pLen P c.slot then Qi7 P c.slot else P)=PC at *
 generalize τ.put w.heap.size tTn=τ1 at *
 have hnow:c.now=if c.has=true then c.after else []:=rfl
 generalize c.now=now at *
 unfold ChgV at *
 obtain⟨pg,sl,hd,hs',be,af⟩:=c
 dsimp only at *
 have hwr:IntKind.i64.wrap (sl:Int)=(sl:Int):=Qbr sl (by omega)
 have k1:=ho.at 1 (v:=.int .u16 (sl:Int)) rfl
 have k3:=ho.at 3 (v:=.bool hs') rfl
 have k5:=ho.at 5 (v:=.slice pa af.length ca) rfl
 obtain⟨Ho,Hal,Hst,Hset,Hok,Hclr,Hcd,Hnow⟩:=hid8 ho hal hst hset hok hclr hcd hnow
 clear ho hal hst hset hok hclr hcd hnow h h1 ha ha1 hs hp hroom
 cases hs' with
 | true =>
   go_enter Tryz.func116,Tryz.ntmps116
   go_wp2_with fail
   refine Hset.out.mono ?_
   rintro e w2 ⟨er,Q,τ2,rfl,hr,hq,hs2⟩
   obtain rfl:=Hok.out _ _ trivial hr
   obtain⟨d1,d2,d3,d4⟩:=hr.ok rfl
   have hd:DoneP P Q sl af:=⟨d1,d2,d3,fun t=>by
    rw[d4]
    by_cases e:t=sl
    ·rw[if_pos e,if_pos (by omega)]
    ·rw[if_neg e,if_neg (by omega)]⟩
   have hst2:=Hst.out.trans hs2
   obtain⟨Hd,Hq,Hst2⟩:=hid3 hd hq hst2
   clear hd hq hst2 hs2 hr d4
   go_wp2_with fail
   go_returns
   exact⟨rfl,Q,τ2,by rw[Hnow.out];exact Hd.out,Hq.out,Hst2.out⟩
 | false =>
   go_enter Tryz.func116,Tryz.ntmps116
   go_wp2_with fail
   refine Hclr.out.mono ?_
   rintro e w2 ⟨rfl,τ2,hq,hs2,-⟩
   have hst2:=Hst.out.trans hs2
   obtain⟨Hq,Hst2⟩:=hid2 hq hst2
   clear hq hst2 hs2
   go_wp2_with fail
   go_returns
   exact⟨rfl,_,τ2,by rw[Hnow.out];exact Hcd.out,Hq.out,Hst2.out⟩
end Go.Proofs.YtjgacceifcnedaaGreat