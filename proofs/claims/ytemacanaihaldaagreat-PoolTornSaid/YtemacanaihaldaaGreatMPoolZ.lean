/-
 Pools: Dirty,by what the sort does.
-/
import Derived.Test.YtemacanaihaldaaGreatMWalG
import Derived.Test.YtemacanaihaldaaGreatMPoolI
set_option maxRecDepth 100000
set_option linter.all false
namespace Go.Proofs.YtemacanaihaldaaGreat
open Go.RowKit
theorem Tryz.infoDirty:(Tryz.prog.info? 195).map (fun i=>(i.zero,i.size,i.bytes))=some (some (.agg #[.int .u32 0,.int .u64 0]),2,16):=by kernel_rfl
def tDirt:Tag:=(97,0)
def dOne (x:Nat×Nat):List Value:=[.int .u32 (x.1:Int),.int .u64 (x.2:Int)]
def Qf1 (l:List (Nat×Nat)):List Value:=l.flatMap dOne
theorem Qx5 (l:List (Nat×Nat)):(Qf1 l).length=l.length*2:=by
 induction l with
 | nil=>rfl
 | cons x l ih =>
   show (dOne x++Qf1 l).length=_
   rw[List.length_append,ih,List.length_cons]
   show 2+_=_
   omega
theorem Qok (l m:List (Nat×Nat)):Qf1 (l++m)=Qf1 l++Qf1 m:=by simp[Qf1]
theorem Ja0 (l:List (Nat×Nat)) (i j:Nat) (hj:j<2) (hi:i<l.length):(Qf1 l)[i*2+j]?=(dOne (l[i]))[j]?:=by
 induction l generalizing i with
 | nil=>simp at hi
 | cons x l ih =>
   show (dOne x++Qf1 l)[i*2+j]?=_
   have hl:(dOne x).length=2:=rfl
   cases i with
   | zero=>rw[List.getElem?_append_left (by rw[hl];omega)];simp
   | succ i =>
     rw[List.getElem?_append_right (by rw[hl];omega),hl,show (i+1)*2+j-2=i*2+j by omega,ih i (by simpa using hi)]
     rfl
structure ND (n0:Nat) (w:World) (τ:Tags) (g:Tag) (v:Value) (l:List (Nat×Nat)):Prop where
 buf:Buf w τ g 195 2 v l.length (Qf1 l)
 low:∀k,v.ownBlock=some k→n0≤k
theorem ND.nil (n0:Nat) (w:World) (τ:Tags) (g:Tag):ND n0 w τ g (.slice none 0 0) []:=⟨Buf.nil _ _ _ _ _,fun k hk=>by simp[Value.ownBlock] at hk⟩
theorem ND.step {n0:Nat}{w w':World}{τ τ':Tags}{S:Tag→Prop}{g:Tag}{v:Value}{l:List (Nat×Nat)}(h:ND n0 w τ g v l) (m:Step w τ w' τ' S) (hs:¬S g):ND n0 w' τ' g v l:=⟨h.buf.step m hs,h.low⟩
theorem ND.val {n0:Nat}{w:World}{τ:Tags}{g:Tag}{v:Value}{l:List (Nat×Nat)}(h:ND n0 w τ g v l):∃p c,v = .slice p l.length c:=Buf.len h.buf
theorem ND.read {n0:Nat}{w:World}{τ:Tags}{g:Tag}{v:Value}{l:List (Nat×Nat)}(h:ND n0 w τ g v l):∃p c,v = .slice p l.length c∧l.length≤maxLen∧∀i,(hi:i<l.length)→∃b,p=some ⟨b,0,none⟩∧w.cell? ⟨b,i*2,none⟩=some (.int .u32 ((l[i]).1:Int))∧w.cell? ⟨b,i*2+1,none⟩=some (.int .u64 ((l[i]).2:Int)):=by
 obtain⟨h1,⟨rfl,h2⟩|⟨b,cap,ys,rfl,ho,h3,h4,h5⟩⟩:=h.buf
 ·refine⟨none,0,by rw[h2],by rw[h2];exact Nat.zero_le _,fun i hi=>by omega⟩
 ·refine⟨_,cap,rfl,by omega,fun i hi=>⟨b,rfl,ho.at _ ?_,ho.at _ ?_⟩⟩
  ·rw[List.getElem?_append_left (by rw[Qx5];omega)]
   exact Ja0 l i 0 (by omega) hi
  ·rw[List.getElem?_append_left (by rw[Qx5];omega)]
   exact Ja0 l i 1 (by omega) hi
theorem Qjm {w0 w:World}{τ0 τ:Tags}{S:Tag→Prop}(hst:Step w0 τ0 w τ S) {g:Tag}{v:Value}{l:List (Nat×Nat)}(hown:ND w0.heap.size w τ g v l) (x:Nat×Nat) (hsz:l.length≤1000000000) {kb:Nat}(hkb:kb=w.heap.size)
 {ops:Array Oper} {rest:List Oper} {o:Oper} {a:Act} {Q:Exit→Act→World→Prop} (hgd:o.guard=none) (s y:Operand)
 (hop:o.op = .call {callee:=.builtin .append,args:=#[s,y],argTypes:=#[125,125]}) (hs:a.eval s=v) (hy:a.eval y = .slice (some ⟨kb,0,none⟩) 1 1)
 (h:∀v' w' τ',ND w0.heap.size w' τ' g v' (l++[x])→Step w0 τ0 w' τ' S→Step w τ w' τ' (fun t=>t=g)→wpList Tryz.prog ops Q rest (a.put o.dst v') w'):wpList Tryz.prog ops Q (o::rest) a (w.alloc (.cells #[.int .u32 (x.1:Int),.int .u64 (x.2:Int)] 195)):=by
 subst hkb
 refine wpList_plain hgd fun K hK=>?_
 obtain⟨i0,hi,hz0,hz1,hz2⟩:=info_parts Tryz.infoDirty
 have hst1:=hst.alloc' (.cells #[.int .u32 (x.1:Int),.int .u64 (x.2:Int)] 195)
 have hn1:=hown.step ((Step.refl w τ Go.Proofs.YtemacanaihaldaaGreat.nil).alloc' (.cells #[.int .u32 (x.1:Int),.int .u64 (x.2:Int)] 195)) (fun h=>h)
 obtain⟨v',w',τ',hr,hb',he,hm,hnw⟩:=Qap (P:=Tryz.prog) (w.alloc (.cells #[.int .u32 (x.1:Int),.int .u64 (x.2:Int)] 195)) τ g 125 o.type 195 i0 (.agg #[.int .u32 0,.int .u64 0]) 2 16 Tryz.underlying125 hi hz0 hz1 hz2 rfl (by decide) v l.length (Qf1 l) hn1.buf
  (some ⟨w.heap.size,0,none⟩) 1 1 (dOne x) rfl (fun h=>by cases h) (by
    intro ad had;cases had;exact World.news_of_block (cs:=#[.int .u32 (x.1:Int),.int .u64 (x.2:Int)]) (t := 195) (fr:=(0,0)) (heap_alloc_new w _)) (by intro u hu;simp[dOne] at hu;rcases hu with rfl|rfl <;> rfl) (by unfold maxLen;omega) (by omega)
 unfold Oper.wp execOp
 simp only[hop,resolve,invoke,builtin,Sem.run_bind,Sem.run_pure,Result.andThen_ok,List.map_toArray,List.map_cons,List.map_nil,hs,hy,hr]
 refine hK _ _ (h v' w' τ' ⟨?_,fun k hk=>?_⟩ ⟨hst1.mod.seq hm (fun k hk hS=>absurd (hn1.low k hS) (by omega)),hst1.ext.trans he hst1.size⟩ (((Step.refl w τ _).alloc' _).trans ⟨hm.mono (fun k hk hS=>(hn1.buf.own k hS).1),he⟩))
 ·rw[List.length_append,Qok,show Qf1 [x]=dOne x by simp[Qf1]];exact hb'
 ·rcases hnw k hk with h|h
  ·exact hn1.low k h
  ·have:=hst1.size;omega
def Qfs (F:List Fr) (i:Nat):List (Nat×Nat):=((F.take i).filter (fun f=>decide (0<f.first))).map (fun f=>(f.n,f.first))
theorem Qpv {F:List Fr}{i:Nat}{f:Fr}(hf:F[i]?=some f):Qfs F (i+1)=Qfs F i++(if 0<f.first then [(f.n,f.first)] else []):=by
 unfold Qfs
 rw[List.take_add_one,hf,List.filter_append,List.map_append]
 congr 1
 by_cases h:0<f.first <;> simp[h]
theorem Qg6 (F:List Fr) (i:Nat):(Qfs F i).length≤i:=by
 unfold Qfs
 rw[List.length_map]
 exact Nat.le_trans (List.length_filter_le _ _) (by rw[List.length_take];exact Nat.min_le_left _ _)
def Qyu (F:List Fr):List (Nat×Nat):=Qfs F F.length
def SortD (K:Nat):Prop:=∀(n0:Nat) (W:World) (T:Tags) (v:Value) (l:List (Nat×Nat)),l.length≤K→ND n0 W T tDirt v l →
 Calls Tryz.prog 146 #[v,.func (.func 147) #[] #[]] W fun e w'=>e = .returned (.tuple #[])∧∃l',l'.Perm l∧l'.Pairwise (fun x y=>x.1≤y.1)∧ND n0 w' T tDirt v l'∧Mod W w' (fun k=>v.ownBlock=some k)
theorem Jaz {w:World}{τ:Tags}{bp bf:Nat}{H:PoolH}{F:List Fr}{s:Ck.Clk.St}(h:PoolAt w τ bp bf H F s) (hsort:SortD F.length) :
 Calls Tryz.prog 85 #[.pointer (some ⟨bp,0,none⟩)] w fun e w'=>∃v τ' l',e = .returned v∧l'.Perm (Qyu F)∧l'.Pairwise (fun x y=>x.1≤y.1)∧ND w.heap.size w' τ' tDirt v l'∧Step w τ w' τ' nil:=by
 have d2:=h.hd.at 2 (v:=H.vf) rfl
 rw[h.vf] at d2
 have hk:=h.k1
 have hdf:Qyu F=Qfs F F.length:=rfl
 generalize hl:F.length=k at *
 obtain⟨H_h,Hl,Hsort,Hdf⟩:=hid4 h hl hsort hdf
 clear h hl hsort hdf
 go_enter Tryz.func85,Tryz.ntmps85
 go_wp2_with fail
 go_loopw [3,11] (fun m v wr=>∃(i:Nat) (τr:Tags),i≤k∧v = .int .i64 (i:Int)∧ND w.heap.size wr τr tDirt m (Qfs F i)∧Step w τ wr τr nil) (fun _ v _=>k-(intOf v).toNat)
 case atStart=>exact⟨0,τ,Nat.zero_le _,rfl,ND.nil _ _ _ _,Step.refl _ _ _⟩
 case round =>
  obtain⟨i,τr,hi,rfl,hnd,hst⟩:=hrel
  obtain⟨pm,cm,rfl⟩:=hnd.val
  by_cases hlt:i<k
  ·obtain⟨f,hf⟩:∃f,F[i]?=some f:=⟨_,List.getElem?_eq_getElem (by rw[Hl.out];exact hlt)⟩
   have hp:=H_h.out.step hst (fun _ _ h=>h)
   obtain⟨c0,c1,c2⟩:=hp.cells hf
   have hsu:=Qpv hf
   have hln:=Qg6 F i
   generalize Option.map (fun x=>(⟨x.1,0,none⟩:Addr)) f.pg=pp at *
   generalize f.n=n at *
   generalize f.first=ff at *
   by_cases h0:0<ff
   ·rw[if_pos h0] at hsu
    have h0':(0:Int)<(ff:Int):=by omega
    have hst2:=hst.alloc' (.cells #[.pointer pp,.int .u32 (n:Int),.int .u64 (ff:Int)] 148)
    have hnd2:=hnd.step ((Step.refl wr τr nil).alloc' (.cells #[.pointer pp,.int .u32 (n:Int),.int .u64 (ff:Int)] 148)) (fun h=>h)
    have hsz:(Qfs F i).length≤1000000000:=by omega
    obtain⟨Hst,Hnd,Hst2,Hnd2,Hsu,Hsz,Hf⟩:=hid7 hst hnd hst2 hnd2 hsu hsz hf
    clear hst hnd hst2 hnd2 hsu hsz hf hp hln
    go_wp2_with (at_builtin;refine Qjm Hst2.out Hnd2.out (n,ff) Hsz.out (kb:=wr.heap.size+1) (by rw[World.size_alloc]) rfl _ _ rfl rfl rfl ?_;intro v' w' τ' hb he hmo;obtain⟨Hb,He,Hmo⟩:=hid3 hb he hmo;clear hb he hmo)
    go_round
    case rel=>exact⟨i+1,τ',by omega,by simp,by rw[Hsu.out];exact Hb.out,He.out⟩
    case measure=>simp[intOf];omega
   ·rw[if_neg h0,List.append_nil] at hsu
    obtain rfl:ff=0:=by omega
    have hst2:=hst.alloc' (.cells #[.pointer pp,.int .u32 (n:Int),.int .u64 0] 148)
    have hnd2:=hnd.step ((Step.refl wr τr nil).alloc' (.cells #[.pointer pp,.int .u32 (n:Int),.int .u64 0] 148)) (fun h=>h)
    obtain⟨Hst,Hnd,Hst2,Hnd2,Hsu,Hf⟩:=hid6 hst hnd hst2 hnd2 hsu hf
    clear hst hnd hst2 hnd2 hsu hf hp hln
    go_wp2_with fail
    go_round
    case rel=>exact⟨i+1,τr,by omega,by simp,by rw[Hsu.out];exact Hnd2.out,Hst2.out⟩
    case measure=>simp[intOf];omega
  ·obtain rfl:i=k:=by omega
   have hs2:=Hsort.out _ wr τr _ _ (Qg6 F i) hnd
   obtain⟨Hst,Hs2⟩:=hid2 hst hs2
   clear hst hs2 hnd
   go_wp2_with fail
   refine Hs2.out.mono ?_
   rintro e w' ⟨rfl,l',hp',hpw,hnd',hs'⟩
   have Hp':=Lib.hid hp'
   have Hpw:=Lib.hid hpw
   have Hnd':=Lib.hid hnd'
   have Hs':=Lib.hid hs'
   clear hp' hpw hnd' hs'
   go_wp2_with fail
   go_ret
   have hst':Step w τ w' τr nil:=⟨Hst.out.mod.seq Hs'.out (fun j hj hS=>absurd (Hnd'.out.low j hS) (by omega)),Hst.out.ext⟩
   exact⟨_,τr,l',rfl,by rw[Hdf.out];exact Hp'.out,Hpw.out,Hnd'.out,hst'⟩
def HomeIs (D:Dev) (n st:Nat) (L:LogM) (Q:List Int):Prop :=
 (lastTo D n 4=blank∧Q=emptyPage n)∨(∃s,s≤st∧lastTo D n 4=sealAll Q s∧Sound Q∧0<pageLSN Q∧pageLSN Q<L.base+L.lasts)
def LogM.has (L:LogM) (lsn:Nat):Prop:=∃x∈L.starts,lsn=L.base+x
structure Good (N:Nat) (st:Nat) (L:LogM) (D:Dev) (F:List Fr) (cur:Nat→List Int):Prop where
 calm:D.Calm
 f1:D.f1.length=4*(N+1)
 f0:L.firstS+L.strips≤D.f0.length
 cap:L.stream.length≤127*L.strips
 lasts:L.lasts≤L.stream.length
 rise:L.Rise
 base:0<L.base
 page:∀n,n<N→Sound (cur n)∧pageNumber (cur n)=n∧(pageLSN (cur n)=0∧cur n=emptyPage n∨L.has (pageLSN (cur n)))
 home:∀n,n<N→∃Q,HomeIs D n st L Q∧((∀(i:Nat) (f:Fr),F[i]?=some f→f.has n=true→f.first=0)→Q=cur n)
 frame:∀(i:Nat) (f:Fr) (b:Nat) (P:List Int),F[i]?=some f→f.pg=some (b,P)→f.n<N∧P=cur f.n∧(0<f.first→0<pageLSN P)
 none:∀(i:Nat) (f:Fr),F[i]?=some f→f.pg=none→f=Fr.no
 one:OneHas F
 spare:lastTo D N 4=blank∨∃Q s,s≤st∧Q.length=448∧lastTo D N 4=sealAll Q s
theorem Qd7 {f:Fr}{n:Nat}:f.has n=true↔∃b P,f.pg=some (b,P)∧f.n=n:=by
 unfold Fr.has
 rw[Bool.and_eq_true,beq_iff_eq]
 constructor
 ·rintro⟨h1,h2⟩
  obtain⟨⟨b,P⟩,h⟩:=Option.isSome_iff_exists.1 h1
  exact⟨b,P,h,h2⟩
 ·rintro⟨b,P,h1,h2⟩
  exact⟨by rw[h1];rfl,h2⟩
theorem Qjz (L:LogM) (k:Nat):(flL L k).base=L.base∧(flL L k).stream=L.stream∧(flL L k).starts=L.starts∧(flL L k).strips=L.strips∧(flL L k).firstS=L.firstS:=by
 unfold flL
 by_cases h:Qbj L k=true
 ·rw[if_pos h];exact⟨rfl,rfl,rfl,rfl,rfl⟩
 ·rw[if_neg h];exact⟨rfl,rfl,rfl,rfl,rfl⟩
theorem Qlm (L:LogM) (k:Nat):L.lasts≤(flL L k).lasts∧(k≠0→L.flushTo k≤(flL L k).lasts):=by
 unfold flL
 by_cases h:Qbj L k=true
 ·rw[if_pos h]
  have h2:=of_decide_eq_true h
  exact⟨by show L.lasts≤L.flushTo k;omega,fun _=>Nat.le_refl _⟩
 ·rw[if_neg h]
  refine⟨Nat.le_refl _,fun hk=>?_⟩
  rcases Nat.lt_or_ge L.lasts (L.flushTo k) with h3|h3
  ·exact absurd (decide_eq_true ⟨hk,h3⟩) h
  ·exact h3
theorem Qxx {L:LogM}(h:L.Rise) (k:Nat):(flL L k).Rise:=by
 obtain⟨_,e2,e3,_,_⟩:=Qjz L k
 exact⟨by rw[e3];exact h.rise,by rw[e2,e3];exact h.low⟩
theorem Qz0 {L:LogM}(h:L.Rise) (hl:L.lasts≤L.stream.length) (k:Nat):(flL L k).lasts≤(flL L k).stream.length:=by
 obtain⟨_,e2,_,_,_⟩:=Qjz L k
 rw[e2]
 unfold flL
 by_cases hf:Qbj L k=true
 ·rw[if_pos hf];exact LogM.behindK_le h (k-1)
 ·rw[if_neg hf];exact hl
theorem Qxy {L:LogM}{D:Dev}(hr:L.Rise) (hc:D.Calm) (hcap:L.stream.length≤127*L.strips) (hfit:L.firstS+L.strips≤D.f0.length) (k n:Nat):lastTo (flD L D k) n 4=lastTo D n 4:=by
 unfold flD
 by_cases h:Qbj L k=true
 ·rw[if_pos h]
  unfold Qdq
  have h1:=Qd9 L hr k
  have h2:=LogM.behindK_le hr (k-1)
  have h3:L.flushTo k=L.behindK (k-1):=rfl
  have h4:=(of_decide_eq_true (show decide (k≠0∧L.lasts<L.flushTo k)=true from h)).2
  refine Qq8 hc.left _ _ ?_ n
  rw[h1]
  unfold parts
  omega
 ·rw[if_neg h]
theorem Qtr {L:LogM}(hr:L.Rise) {lsn k:Nat}{fl:Bool}(hat:L.AtR lsn k fl) (hh:L.has lsn):lsn<L.base+(flL L (k+(if fl=true then 1 else 0))).lasts:=by
 obtain⟨x,hx,rfl⟩:=hh
 have hlow:=hr.low x hx
 have hf:=hat.within (Nat.le_add_right _ _) (by omega)
 rw[Nat.add_sub_cancel_left] at hf
 obtain⟨j,hj,he⟩:=List.mem_iff_getElem.1 hx
 have hget:∀i,(hi:i<L.starts.length)→L.starts.getD i 0=L.starts[i]:=fun i hi=>by rw[List.getD_eq_getElem?_getD,List.getElem?_eq_getElem hi];rfl
 have hjx:L.starts.getD j 0=x:=by rw[hget j hj,he]
 have hkj:k=j:=by
  rcases Nat.lt_trichotomy k j with h|h|h
  ·have h1:=hf.hi k (Nat.le_refl _) (by omega)
   have h2:=hr.rise k j h hj
   omega
  ·exact h
  ·have:=hf.lo j h;omega
 subst hkj
 have hfl:fl=true:=by rw[hf.is];exact decide_eq_true ⟨hj,hjx⟩
 rw[if_pos hfl]
 have h1:=(Qlm L (k+1)).2 (by omega)
 have h2:L.flushTo (k+1)=L.behindK k:=rfl
 have h3:x<L.behindK k:=by
  unfold LogM.behindK
  by_cases hk:k+1<L.starts.length
  ·rw[if_pos hk]
   have:=hr.rise k (k+1) (by omega) hk
   omega
  ·rw[if_neg hk];exact hlow
 omega
theorem HomeIs.flush {D E:Dev}{n st st':Nat}{L M:LogM}{Q:List Int}(h:HomeIs D n st L Q) (hst:st≤st') (hb:M.base=L.base) (hl:L.lasts≤M.lasts) (he:lastTo E n 4=lastTo D n 4):HomeIs E n st' M Q:=by
 rcases h with ⟨h1,h2⟩|⟨s,h1,h2,h3,h4,h5⟩
 ·exact .inl ⟨he.trans h1,h2⟩
 ·exact .inr ⟨s,by omega,he.trans h2,h3,h4,by omega⟩
theorem Good.write {N st:Nat}{L:LogM}{D:Dev}{F:List Fr}{cur:Nat→List Int}(h:Good N st L D F cur) {i:Nat}{f:Fr}{b:Nat}{P:List Int}(hf:F[i]?=some f) (hpg:f.pg=some (b,P)) (h0:0<f.first) {k:Nat}{fl:Bool}(hat:L.AtR (pageLSN P) k fl) :
 Good N (st+1) (flL L (k+(if fl=true then 1 else 0))) (wrD (flD L D (k+(if fl=true then 1 else 0))) N f.n P (st+1)) (F.set i {f with first:=0}) cur ∧
  lastTo (wrD (flD L D (k+(if fl=true then 1 else 0))) N f.n P (st+1)) f.n 4=sealAll P (st+1)∧lastTo (wrD (flD L D (k+(if fl=true then 1 else 0))) N f.n P (st+1)) N 4=sealAll P (st+1):=by
 obtain⟨hfn,hP,hlsn⟩:=h.frame i f b P hf hpg
 obtain⟨hsP,hnP,hlP⟩:=h.page f.n hfn
 have hlsn:=hlsn h0
 rw[←hP] at hsP hnP hlP
 have hhas:L.has (pageLSN P):=by
  rcases hlP with ⟨h1,_⟩|h1
  ·omega
  ·exact h1
 have hpast:=Qtr h.rise hat hhas
 obtain⟨e1,e2,e3,e4,e5⟩:=Qjz L (k+(if fl=true then 1 else 0))
 have hla:=(Qlm L (k+(if fl=true then 1 else 0))).1
 have hri:=Qxx h.rise (k+(if fl=true then 1 else 0))
 have htop:=Qz0 h.rise h.lasts (k+(if fl=true then 1 else 0))
 have hfd:=Qyt L D (k+(if fl=true then 1 else 0))
 have hcm:=Qsl (L:=L) h.calm (k+(if fl=true then 1 else 0))
 have hho:=fun n=>Qxy h.rise h.calm h.cap h.f0 (k+(if fl=true then 1 else 0)) n
 generalize flL L (k+(if fl=true then 1 else 0))=L1 at *
 generalize flD L D (k+(if fl=true then 1 else 0))=E at *
 have hls:=Qet P (st+1)
 have hfile:∀(X:Dev),X.file 1=X.f1:=fun X=>rfl
 have hfile0:∀(X:Dev),X.file 0=X.f0:=fun X=>rfl
 have hc1:=hcm.lay (f:=1) (by omega) (4*N) (sealAll P (st+1))
 have hl1:(E.lay 1 (4*N) (sealAll P (st+1))).f1.length=E.f1.length:=by rw[←hfile,←hfile,Dev.lay_length _ _ _ (by omega)]
 have hw:∀n,lastTo (wrD E N f.n P (st+1)) n 4=if n=f.n then sealAll P (st+1) else if n=N then sealAll P (st+1) else lastTo D n 4:=fun n=>by
  unfold wrD
  rw[Qmz hc1.left f.n _ hls (by rw[hl1,hfd.1,h.f1];omega),Qmz hcm.left N _ hls (by rw[hfd.1,h.f1];omega),hho]
 have hi:=(List.getElem?_eq_some_iff.1 hf).1
 have hget:∀(j:Nat) (g:Fr),(F.set i {f with first:=0})[j]?=some g→(j=i∧g={f with first:=0})∨(j≠i∧F[j]?=some g):=fun j g hg=>by
  by_cases e:i=j
  ·subst e
   rw[List.getElem?_set_self hi] at hg
   cases hg
   exact .inl ⟨rfl,rfl⟩
  ·rw[List.getElem?_set_ne e] at hg
   exact .inr ⟨fun q=>e q.symm,hg⟩
 have hhasi:f.has f.n=true:=Qd7.2 ⟨b,P,hpg,rfl⟩
 refine⟨⟨(hc1.lay (f:=1) (by omega) (4*f.n) (sealAll P (st+1))),?_,?_,by rw[e2,e4];exact h.cap,htop,hri,by rw[e1];exact h.base,fun n hn=>?_,fun n hn=>?_,fun j g c R hg hgp=>?_,fun j g hg hgn=>?_,?_,.inr ⟨P,st+1,Nat.le_refl _,hsP.tidy.len,by rw[hw];by_cases e:N=f.n <;> simp[e]⟩⟩,by rw[hw,if_pos rfl],by rw[hw];by_cases e:N=f.n <;> simp[e]⟩
 ·show ((E.lay 1 (4*N) _).lay 1 (4*f.n) _).f1.length=_
  rw[←hfile,Dev.lay_length _ _ _ (by omega),hfile,hl1,hfd.1];exact h.f1
 ·show _≤((E.lay 1 (4*N) _).lay 1 (4*f.n) _).f0.length
  rw[←hfile0,Dev.lay_length _ _ _ (by omega),Dev.lay_length _ _ _ (by omega),hfile0,hfd.2,e4,e5];exact h.f0
 ·obtain⟨p1,p2,p3⟩:=h.page n hn
  refine⟨p1,p2,?_⟩
  rcases p3 with p3|⟨x,hx,hxe⟩
  ·exact .inl p3
  ·exact .inr ⟨x,by rw[e3];exact hx,by rw[e1];exact hxe⟩
 ·by_cases en:n=f.n
  ·refine⟨P,.inr ⟨st+1,Nat.le_refl _,by rw[hw,if_pos en],hsP,hlsn,by rw[e1];exact hpast⟩,fun _=>by rw[en];exact hP⟩
  ·obtain⟨Q,hQ,hq⟩:=h.home n hn
   refine⟨Q,hQ.flush (Nat.le_succ _) e1 hla (by rw[hw,if_neg en,if_neg (by omega)]),fun hcl=>hq (fun j g hg hgh=>?_)⟩
   by_cases ej:j=i
   ·subst ej
    rw[hf] at hg
    cases hg
    obtain⟨_,_,_,hx⟩:=Qd7.1 hgh
    exact absurd hx.symm en
   ·exact hcl j g (by rw[List.getElem?_set_ne (fun q=>ej q.symm)];exact hg) hgh
 ·rcases hget j g hg with ⟨rfl,rfl⟩|⟨_,hg'⟩
  ·obtain⟨a1,a2,a3⟩:=h.frame j f c R hf hgp
   exact⟨a1,a2,fun hx=>absurd hx (by show ¬0<0;omega)⟩
  ·exact h.frame j g c R hg' hgp
 ·rcases hget j g hg with ⟨rfl,rfl⟩|⟨_,hg'⟩
  ·rw[show ({f with first:=0}:Fr).pg=f.pg from rfl,hpg] at hgn
   cases hgn
  ·exact h.none j g hg' hgn
 ·intro a c n g g2 ha hc h1 h2
  have k1:∃g',F[a]?=some g'∧g'.has n=true:=by
   rcases hget a g ha with ⟨rfl,rfl⟩|⟨_,hg'⟩
   ·exact⟨f,hf,h1⟩
   ·exact⟨g,hg',h1⟩
  have k2:∃g',F[c]?=some g'∧g'.has n=true:=by
   rcases hget c g2 hc with ⟨rfl,rfl⟩|⟨_,hg'⟩
   ·exact⟨f,hf,h2⟩
   ·exact⟨g2,hg',h2⟩
  obtain⟨x1,y1,z1⟩:=k1
  obtain⟨x2,y2,z2⟩:=k2
  exact h.one a c n x1 x2 y1 y2 z1 z2
end Go.Proofs.YtemacanaihaldaaGreat
namespace Go.Proofs.YtemacanaihaldaaGreat
open Go.RowKit Ck.Clk
theorem Qxv (n:Nat) (p:Nat→Nat) (hn:n≤64) (k0:Nat) (hk:k0<n) (hp0:p k0=0):∀(m:Nat) (u:Nat→Bool) (h:Nat),h<n→mes n p u h≤m→(goes n p u h).2.2<n∧p (goes n p u h).2.2=0:=by
 intro m
 induction m with
 | zero =>
   intro u h hh hm
   by_cases hp:p h=0
   ·cases hu:u h with
    | true=>have:=Qh2 n p u h hh hp hu;omega
    | false=>rw[Qll n p u h hp hu];exact⟨hh,hp⟩
   ·have:=Qe9 n p u h hh hp k0 hk hp0;omega
 | succ m ih =>
   intro u h hh hm
   have hmod:(h+1)%n<n:=Nat.mod_lt _ (by omega)
   by_cases hp:p h=0
   ·cases hu:u h with
    | true =>
      have:=Qh2 n p u h hh hp hu
      rw[Qpo n p u h hn hh hp hu];exact ih _ _ hmod (by omega)
    | false=>rw[Qll n p u h hp hu];exact⟨hh,hp⟩
   ·have:=Qe9 n p u h hh hp k0 hk hp0
    rw[Qlk n p u h hn hh hp k0 hk hp0];exact ih _ _ hmod (by omega)
theorem Jap (s:St):(pickS s).p=s.p:=by unfold pickS;split <;> (try split) <;> rfl
theorem Jao (s:St):(pickS s).t=s.t:=by unfold pickS;split <;> (try split) <;> rfl
structure Clock (F:List Fr) (s:St):Prop where
 n:s.n=F.length
 h:s.h<s.n
 n64:s.n≤64
 t:∀(i:Nat) (f:Fr),F[i]?=some f→s.t i=f.pg.isSome
 p:∀k,s.p k=0
structure Held (F:List Fr) (s:St) (i:Nat):Prop where
 n:s.n=F.length
 n64:s.n≤64
 t:∀(j:Nat) (f:Fr),F[j]?=some f→s.t j=f.pg.isSome
 p:∀k,s.p k=if k=i then 1 else 0
 lt:i<F.length
 is:∃f,F[i]?=some f∧f.pg.isSome=true
theorem Clock.pick {F:List Fr}{s:St}(h:Clock F s):pickB s=true∧pickI s<F.length:=by
 have h0:0<s.n:=Nat.lt_of_le_of_lt (Nat.zero_le _) h.h
 have hs0:some0 s=true:=(Qo2 s).2 ⟨0,h0,h.p 0⟩
 refine⟨by unfold pickB;rw[hs0,Bool.or_true],?_⟩
 rw[←h.n]
 unfold pickI
 by_cases hf:freeK s<s.n
 ·rw[if_pos hf];exact hf
 ·rw[if_neg hf,if_pos hs0]
  exact(Qxv s.n s.p h.n64 0 h0 (h.p 0) _ s.u s.h h.h (Nat.le_refl _)).1
theorem Qn6 {s:St}{i:Nat}(hi:i<s.n):isT s (i:Int)=s.t i:=by
 unfold isT inn
 rw[decide_eq_true (show (0:Int)≤(i:Int) by omega),decide_eq_true (show (i:Int)<(s.n:Int) by omega)]
 simp
theorem Qvs {s:St}{i:Nat}(hi:i<s.n) (ht:s.t i=true) (hp:∀k,s.p k=0) :
 (pinS (touchS s i) i).n=s.n∧(∀j,(pinS (touchS s i) i).t j=s.t j)∧(∀k,(pinS (touchS s i) i).p k=if k=i then 1 else 0):=by
 have h1:touchS s (i:Int)={s with u:=upd s.u i true}:=by
  unfold touchS
  rw[Qn6 hi,ht,if_pos rfl];simp
 rw[h1]
 have h2:pinS {s with u:=upd s.u i true} (i:Int)={s with u:=upd s.u i true,p:=upd s.p i (s.p i+1)}:=by
  unfold pinS
  rw[Qn6 (s:={s with u:=upd s.u i true}) hi,show ({s with u:=upd s.u i true}:St).t i=s.t i from rfl,ht,if_pos rfl]
  simp
 rw[h2]
 refine⟨rfl,fun _=>rfl,fun k=>?_⟩
 show upd s.p i (s.p i+1) k=_
 unfold upd
 by_cases e:k=i
 ·rw[if_pos e,if_pos e,hp]
 ·rw[if_neg e,if_neg e,hp]
theorem Clock.hit {F:List Fr}{s:St}(h:Clock F s) {i:Nat}{f:Fr}(hf:F[i]?=some f) (hs:f.pg.isSome=true):Held F (pinS (touchS s i) i) i:=by
 have hi:i<F.length:=(List.getElem?_eq_some_iff.1 hf).1
 obtain⟨h1,h2,h3⟩:=Qvs (s:=s) (i:=i) (by rw[h.n];exact hi) (by rw[h.t i f hf];exact hs) h.p
 exact⟨by rw[h1];exact h.n,by rw[h1];exact h.n64,fun j g hg=>by rw[h2];exact h.t j g hg,h3,hi,f,hf,hs⟩
def leftS (s:St) (i:Nat) (had:Bool):St:=if had=true then leaveS s i else s
theorem Clock.fill {F:List Fr}{s:St}(h:Clock F s) {i:Nat}{f:Fr}(hf:F[i]?=some f) (x:Nat×List Int) (n v:Nat):Held (F.set i ⟨some x,n,v⟩) (pinS (touchS (takeS (leftS (pickS s) i f.pg.isSome) i) i) i) i∧(∀k,(leftS (pickS s) i f.pg.isSome).p k≤1000000):=by
 have hi:i<F.length:=(List.getElem?_eq_some_iff.1 hf).1
 have hin:i<s.n:=by rw[h.n];exact hi
 have pn:(pickS s).n=s.n:=Qkz s
 have pt:=Jao s
 have pp:=Jap s
 have key:(leftS (pickS s) i f.pg.isSome).n=s.n∧(leftS (pickS s) i f.pg.isSome).t i=false∧(∀j,j≠i→(leftS (pickS s) i f.pg.isSome).t j=s.t j)∧∀k,(leftS (pickS s) i f.pg.isSome).p k=0:=by
  unfold leftS
  cases hs:f.pg.isSome with
  | false =>
    rw[if_neg (by simp)]
    exact⟨pn,by rw[pt,h.t i f hf,hs],fun j _=>by rw[pt],fun k=>by rw[pp];exact h.p k⟩
  | true =>
    rw[if_pos rfl]
    have hl:leaveB (pickS s) (i:Int)=true:=by
     unfold leaveB
     rw[Qn6 (by rw[pn];exact hin),pt,h.t i f hf,hs,pp]
     simp[h.p]
    have he:leaveS (pickS s) (i:Int)={pickS s with t:=upd (pickS s).t i false,u:=upd (pickS s).u i false}:=by
     unfold leaveS
     rw[hl,if_pos rfl];simp
    rw[he]
    refine⟨pn,by simp[upd],fun j hj=>?_,fun k=>by show (pickS s).p k=0;rw[pp];exact h.p k⟩
    show upd (pickS s).t i false j=_
    unfold upd
    rw[if_neg hj,pt]
 obtain⟨k1,k2,k3,k4⟩:=key
 generalize leftS (pickS s) i f.pg.isSome=s1 at *
 have htk:takeS s1 (i:Int)={s1 with t:=upd s1.t i true,u:=upd s1.u i true,p:=upd s1.p i 0}:=by
  unfold takeS
  have:takeB s1 (i:Int)=true:=by
   unfold takeB inn
   rw[decide_eq_true (show (0:Int)≤(i:Int) by omega),decide_eq_true (show (i:Int)<(s1.n:Int) by omega)]
   simp[k2]
  rw[this,if_pos rfl];simp
 rw[htk]
 obtain⟨h1,h2,h3⟩:=Qvs (s:={s1 with t:=upd s1.t i true,u:=upd s1.u i true,p:=upd s1.p i 0}) (i:=i) (by show i<s1.n;rw[k1];exact hin) (by simp[upd]) (fun k=>by
  show upd s1.p i 0 k=0
  unfold upd
  split
  ·rfl
  ·exact k4 k)
 refine⟨⟨?_,?_,fun j g hg=>?_,h3,by rw[List.length_set];exact hi,⟨some x,n,v⟩,by rw[List.getElem?_set_self hi],rfl⟩,fun k=>by rw[k4];omega⟩
 ·rw[h1,List.length_set];exact k1.trans h.n
 ·rw[h1];show s1.n≤64;rw[k1];exact h.n64
 ·rw[h2]
  show upd s1.t i true j=_
  unfold upd
  by_cases e:j=i
  ·rw[if_pos e]
   subst e
   rw[List.getElem?_set_self hi] at hg
   cases hg
   rfl
  ·rw[if_neg e,k3 j e]
   rw[List.getElem?_set_ne (fun q=>e q.symm)] at hg
   exact h.t j g hg
theorem Held.put {F:List Fr}{s:St}{i:Nat}(h:Held F s i) (hh:s.h<s.n):pinsV s i≠0∧unpinB s i=true∧(∀k,s.p k≤1000000)∧∀G:List Fr,G.length=F.length→(∀(j:Nat) (f g:Fr),F[j]?=some f→G[j]?=some g→g.pg.isSome=f.pg.isSome)→Clock G (unpinS s i):=by
 obtain⟨f,hf,hs⟩:=h.is
 have hin:i<s.n:=by rw[h.n];exact h.lt
 have hp1:s.p i=1:=by rw[h.p,if_pos rfl]
 have hT:isT s (i:Int)=true:=by rw[Qn6 hin,h.t i f hf,hs]
 have hu:unpinB s (i:Int)=true:=by
  unfold unpinB
  rw[hT]
  simp[hp1]
 refine⟨?_,hu,fun k=>by rw[h.p];split <;> omega,fun G hl hG=>?_⟩
 ·unfold pinsV inn
  rw[decide_eq_true (show (0:Int)≤(i:Int) by omega),decide_eq_true (show (i:Int)<(s.n:Int) by omega)]
  simp[hp1]
 ·have he:unpinS s (i:Int)={s with p:=upd s.p i (s.p i-1)}:=by
   unfold unpinS
   rw[hu,if_pos rfl];simp
  rw[he]
  refine⟨h.n.trans hl.symm,hh,h.n64,fun j g hg=>?_,fun k=>?_⟩
  ·obtain⟨f',hf'⟩:∃f',F[j]?=some f':=⟨_,List.getElem?_eq_getElem (by rw[←hl];exact(List.getElem?_eq_some_iff.1 hg).1)⟩
   rw[hG j f' g hf' hg]
   exact h.t j f' hf'
  ·show upd s.p i (s.p i-1) k=0
   unfold upd
   by_cases e:k=i
   ·rw[if_pos e,hp1]
   ·rw[if_neg e,h.p,if_neg e]
end Go.Proofs.YtemacanaihaldaaGreat
namespace Go.Proofs.YtemacanaihaldaaGreat
open Go.RowKit
theorem set_get {F:List Fr}{i:Nat}{x:Fr}(hi:i<F.length) {j:Nat}{g:Fr}(hg:(F.set i x)[j]?=some g):(j=i∧g=x)∨(j≠i∧F[j]?=some g):=by
 by_cases e:i=j
 ·subst e
  rw[List.getElem?_set_self hi] at hg
  cases hg
  exact .inl ⟨rfl,rfl⟩
 ·rw[List.getElem?_set_ne e] at hg
  exact .inr ⟨fun q=>e q.symm,hg⟩
theorem Good.drop {N st:Nat}{L:LogM}{D:Dev}{F:List Fr}{cur:Nat→List Int}(h:Good N st L D F cur) {i:Nat}{f:Fr}(hf:F[i]?=some f) (h0:f.first=0):Good N st L D (F.set i Fr.no) cur:=by
 have hi:=(List.getElem?_eq_some_iff.1 hf).1
 refine⟨h.calm,h.f1,h.f0,h.cap,h.lasts,h.rise,h.base,h.page,fun n hn=>?_,fun j g c R hg hgp=>?_,fun j g hg hgn=>?_,OneHas.set h.one i Fr.no (fun j n g _ _ _=>Qk8 n),h.spare⟩
 ·obtain⟨Q,hQ,hq⟩:=h.home n hn
  refine⟨Q,hQ,fun hcl=>hq (fun j g hg hgh=>?_)⟩
  by_cases e:j=i
  ·subst e
   rw[hf] at hg
   cases hg
   exact h0
  ·exact hcl j g (by rw[List.getElem?_set_ne (fun q=>e q.symm)];exact hg) hgh
 ·rcases set_get hi hg with ⟨_,rfl⟩|⟨_,hg'⟩
  ·cases hgp
  ·exact h.frame j g c R hg' hgp
 ·rcases set_get hi hg with ⟨_,rfl⟩|⟨_,hg'⟩
  ·rfl
  ·exact h.none j g hg' hgn
theorem Good.fill {N st:Nat}{L:LogM}{D:Dev}{F:List Fr}{cur:Nat→List Int}(h:Good N st L D F cur) {i n:Nat}(hi:i<F.length) (hn:n<N) (hno:∀(j:Nat) (g:Fr),F[j]?=some g→g.has n=false) (b:Nat) (hf:F[i]?=some Fr.no):Good N st L D (F.set i ⟨some (b,cur n),n,0⟩) cur:=by
 refine⟨h.calm,h.f1,h.f0,h.cap,h.lasts,h.rise,h.base,h.page,fun m hm=>?_,fun j g c R hg hgp=>?_,fun j g hg hgn=>?_,OneHas.set h.one i _ (fun j m g _ hg hgh=>?_),h.spare⟩
 ·obtain⟨Q,hQ,hq⟩:=h.home m hm
  refine⟨Q,hQ,fun hcl=>hq (fun j g hg hgh=>?_)⟩
  by_cases e:j=i
  ·subst e
   rw[hf] at hg
   cases hg
   rfl
  ·exact hcl j g (by rw[List.getElem?_set_ne (fun q=>e q.symm)];exact hg) hgh
 ·rcases set_get hi hg with ⟨_,rfl⟩|⟨_,hg'⟩
  ·cases hgp
   exact⟨hn,rfl,fun h=>absurd h (by show ¬0<0;omega)⟩
  ·exact h.frame j g c R hg' hgp
 ·rcases set_get hi hg with ⟨_,rfl⟩|⟨_,hg'⟩
  ·cases hgn
  ·exact h.none j g hg' hgn
 ·by_cases e:m=n
  ·subst e
   rw[hno j g hg] at hgh
   cases hgh
  ·cases hx:({pg:=some (b,cur n),n:=n,first:=0}:Fr).has m with
   | false=>rfl
   | true =>
     obtain⟨_,_,_,h2⟩:=Qd7.1 hx
     exact absurd h2.symm e
def updC (cur:Nat→List Int) (n:Nat) (P:List Int):Nat→List Int:=fun m=>if m=n then P else cur m
theorem LogM.Rise.more {L:LogM}(h:L.Rise) (b:List Int) (hb:0<b.length):(L.more b).Rise:=by
 refine⟨fun i j hij hj=>?_,fun x hx=>?_⟩
 ·show (L.starts++[L.stream.length]).getD i 0<(L.starts++[L.stream.length]).getD j 0
  have hj':j<L.starts.length+1:=by
   have:(L.more b).starts.length=L.starts.length+1:=by show (L.starts++[L.stream.length]).length=_;rw[List.length_append];rfl
   omega
  have e1:∀k,k<L.starts.length→(L.starts++[L.stream.length]).getD k 0=L.starts.getD k 0:=fun k hk=>by
   rw[List.getD_eq_getElem?_getD,List.getD_eq_getElem?_getD,List.getElem?_append_left hk]
  have e2:(L.starts++[L.stream.length]).getD L.starts.length 0=L.stream.length:=by
   rw[List.getD_eq_getElem?_getD,List.getElem?_append_right (Nat.le_refl _),Nat.sub_self];rfl
  by_cases e:j=L.starts.length
  ·rw[e,e2,e1 i (by omega)]
   refine h.low _ ?_
   rw[List.getD_eq_getElem?_getD,List.getElem?_eq_getElem (by omega)]
   exact List.getElem_mem _
  ·rw[e1 i (by omega),e1 j (by omega)]
   exact h.rise i j hij (by omega)
 ·show x<(L.stream++b).length
  rw[List.length_append]
  rcases List.mem_append.1 hx with hx|hx
  ·have:=h.low x hx;omega
  ·have:x=L.stream.length:=by simpa using hx
   omega
theorem Good.put {N st:Nat}{L:LogM}{D:Dev}{F:List Fr}{cur:Nat→List Int}(h:Good N st L D F cur) {i:Nat}{f:Fr}{b:Nat}{P Q:List Int}(hf:F[i]?=some f) (hpg:f.pg=some (b,P)) (hQ:Sound Q) (hQn:pageNumber Q=f.n) (rb:List Int) (hrb:0<rb.length) (hcap:L.stream.length+rb.length≤127*L.strips) (h64:L.base+L.stream.length<2 ^ 64) {nv:Nat}(hnv:0<nv) :
 Good N st (L.more rb) D (F.set i ⟨some (b,layN Q 0 (leB (L.base+L.stream.length) 8)),f.n,nv⟩) (updC cur f.n (layN Q 0 (leB (L.base+L.stream.length) 8))):=by
 have hi:=(List.getElem?_eq_some_iff.1 hf).1
 obtain⟨hfn,hP,_⟩:=h.frame i f b P hf hpg
 obtain⟨q1,q2,q3,-⟩:=hQ.stamp (L.base+L.stream.length) h64
 have hlsn:0<pageLSN (layN Q 0 (leB (L.base+L.stream.length) 8)):=by rw[q3];have:=h.base;omega
 have hhas:(L.more rb).has (pageLSN (layN Q 0 (leB (L.base+L.stream.length) 8))):=⟨L.stream.length,List.mem_append_right _ (by simp),q3⟩
 generalize layN Q 0 (leB (L.base+L.stream.length) 8)=R at *
 have hms:(L.more rb).stream=L.stream++rb:=rfl
 have hhasi:f.has f.n=true:=Qd7.2 ⟨b,P,hpg,rfl⟩
 refine⟨h.calm,h.f1,h.f0,by rw[hms,List.length_append];exact hcap,by rw[hms,List.length_append];exact Nat.le_trans h.lasts (Nat.le_add_right _ _),h.rise.more rb hrb,h.base,fun n hn=>?_,fun n hn=>?_,fun j g c S hg hgp=>?_,fun j g hg hgn=>?_,OneHas.set h.one i _ (fun j m g hj hg hgh=>?_),h.spare⟩
 ·unfold updC
  by_cases e:n=f.n
  ·rw[if_pos e]
   exact⟨q1,by rw[q2,hQn,e],.inr hhas⟩
  ·rw[if_neg e]
   obtain⟨p1,p2,p3⟩:=h.page n hn
   refine⟨p1,p2,?_⟩
   rcases p3 with p3|⟨x,hx,he⟩
   ·exact .inl p3
   ·exact .inr ⟨x,List.mem_append_left _ hx,he⟩
 ·obtain⟨S,hS,hs⟩:=h.home n hn
  refine⟨S,hS,fun hcl=>?_⟩
  by_cases e:n=f.n
  ·exfalso
   have:=hcl i _ (List.getElem?_set_self hi) (Qd7.2 ⟨b,R,rfl,e.symm⟩)
   have h2:nv=0:=this
   omega
  ·unfold updC
   rw[if_neg e]
   refine hs (fun j g hg hgh=>?_)
   by_cases ej:j=i
   ·subst ej
    rw[hf] at hg
    cases hg
    obtain⟨_,_,_,hx⟩:=Qd7.1 hgh
    exact absurd hx.symm e
   ·exact hcl j g (by rw[List.getElem?_set_ne (fun q=>ej q.symm)];exact hg) hgh
 ·rcases set_get hi hg with ⟨_,rfl⟩|⟨hj,hg'⟩
  ·cases hgp
   exact⟨hfn,by unfold updC;rw[if_pos rfl],fun _=>hlsn⟩
  ·obtain⟨a1,a2,a3⟩:=h.frame j g c S hg' hgp
   refine⟨a1,?_,a3⟩
   unfold updC
   rw[if_neg (fun e=>hj (h.one j i f.n g f hg' hf (Qd7.2 ⟨c,S,hgp,e⟩) hhasi))]
   exact a2
 ·rcases set_get hi hg with ⟨_,rfl⟩|⟨_,hg'⟩
  ·cases hgn
  ·exact h.none j g hg' hgn
 ·cases hx:({pg:=some (b,R),n:=f.n,first:=nv}:Fr).has m with
  | false=>rfl
  | true =>
    obtain⟨_,_,_,h2⟩:=Qd7.1 hx
    have h3:f.n=m:=h2
    exact absurd (h.one j i m g f hg hf hgh (by rw[←h3];exact hhasi)) hj
end Go.Proofs.YtemacanaihaldaaGreat