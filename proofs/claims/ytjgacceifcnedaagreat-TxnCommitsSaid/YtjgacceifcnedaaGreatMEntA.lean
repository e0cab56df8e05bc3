/-
 The log: Entries: all records,where each stands.
-/
import Derived.Test.YtjgacceifcnedaaGreatMTxL
set_option maxRecDepth 100000
set_option maxHeartbeats 4000000
set_option linter.all false
namespace Go.Proofs.YtjgacceifcnedaaGreat
open Go.RowKit
theorem Jb4 {α:Type}{enc:α→List Value}{t e:TypeId}{k by_:Nat}{i0:TypeInfo}{z:Value}(ht:Tryz.prog.underlying t=some (.slice e)) (hi:Tryz.prog.info? e=some i0) (hz0:i0.zero=some z) (hz1:i0.size=k) (hz2:i0.bytes=by_) (hz3:z.cells.size=k) (hk0:0<k)
 {w0 w:World} {τ0 τ:Tags} {S:Tag→Prop} (hst:Step w0 τ0 w τ S) {g:Tag} {v:Value} {l:List α} (hown:NS e k enc w0.heap.size w τ g v l) (x:α) (hxl:(enc x).length=k) (hx1:∀u∈enc x,u.oneCell'=true) (hsz:l.length≤1000000) (hby:by_≤1000) {kb:Nat} (hkb:kb=w.heap.size)
 {ops:Array Oper} {rest:List Oper} {o:Oper} {a:Act} {Q:Exit→Act→World→Prop} (hgd:o.guard=none) (s y:Operand)
 (hop:o.op = .call {callee:=.builtin .append,args:=#[s,y],argTypes:=#[t,t]}) (hs:a.eval s=v) (hy:a.eval y = .slice (some ⟨kb,0,none⟩) 1 1) {W:World} (hW:W=w.alloc (.cells (enc x).toArray e))
 (h:∀v' w' τ',NS e k enc w0.heap.size w' τ' g v' (l++[x])→Step w0 τ0 w' τ' S→Step w τ w' τ' (fun t=>t=g)→wpList Tryz.prog ops Q rest (a.put o.dst v') w'):wpList Tryz.prog ops Q (o::rest) a W:=by
 subst hW
 refine wpList_plain hgd fun K hK=>?_
 have:=Qg3 ht hi hz0 hz1 hz2 hz3 hk0 hst hown x hxl hx1 hsz hby hkb (ops:=ops) (o:=o) (a:=a) (K:=K) (Q:=Q) (E:=True) hgd s y hop hs hy (fun v' w' τ' a1 a2 a3=>hK _ _ (h v' w' τ' a1 a2 a3))
 have hw:Region.wanted o (yielded ops a.tmps)=true:=by simp[Region.wanted,hgd]
 rw[if_pos hw] at this
 exact this
theorem Tryz.infoEntry:((Tryz.prog.info? 60).bind fun i=>i.zero.map fun z=>(z.cells.size,i.size,i.bytes))=some (13,13,136):=by kernel_rfl
theorem Jcg:∃i z,Tryz.prog.info? 60 = some i∧i.zero=some z∧i.size=13∧i.bytes=136∧z.cells.size=13:=by
 have h:=Tryz.infoEntry
 cases hi:Tryz.prog.info? 60 with
 | none=>rw[hi] at h;cases h
 | some i =>
   rw[hi] at h
   cases hz:i.zero with
   | none=>simp[hz] at h
   | some z =>
     simp[hz] at h
     exact⟨i,z,rfl,hz,h.2.1,h.2.2,h.1⟩
def tEnt:Tag:=(211,0)
def ET (t:Tag):Prop:=ReadTag t∨t=tEnt
def Jb3 (x:Nat×List Value):List Value:=.int .u64 (x.1:Int)::x.2
def entAt (R:List RecP) (k:Nat):Nat:=1+(recsB (R.take k)).length
structure EntsV (R:List RecP) (E:List (Nat×List Value)) (i:Nat):Prop where
 len:E.length=i
 row:∀x∈E,x.2.length=12
 at_:∀k r,k<i→R[k]?=some r→∃q,E[k]?=some (entAt R k,.int .u8 (r.kind:Int)::.int .u32 (r.txn:Int)::q)
theorem EntsV.snoc {R:List RecP}{E:List (Nat×List Value)}{i:Nat}(h:EntsV R E i) {r:RecP}(hr:R[i]?=some r) {q:List Value}(hq:q.length=10):EntsV R (E++[(entAt R i,.int .u8 (r.kind:Int)::.int .u32 (r.txn:Int)::q)]) (i+1):=by
 refine⟨by rw[List.length_append,h.len];rfl,fun x hx=>?_,fun k r' hk hr'=>?_⟩
 ·rcases List.mem_append.1 hx with hx|hx
  ·exact h.row x hx
  ·rw[List.mem_singleton.1 hx]
   show q.length+2=12
   omega
 by_cases e:k=i
 ·subst e
  rw[hr] at hr'
  cases hr'
  exact⟨q,by rw[List.getElem?_append_right (by rw[h.len];exact Nat.le_refl _),h.len,Nat.sub_self];rfl⟩
 ·obtain⟨q',a⟩:=h.at_ k r' (by omega) hr'
  exact⟨q',by rw[List.getElem?_append_left (by rw[h.len];omega)];exact a⟩
theorem Jcb {w:World}{τ:Tags}{bl bd:Nat}{L:LogM}(hl:LogAt w τ bl bd L) (hr:L.Rise) {R:List RecP}(hR:LogIs L R) (h0:0<R.length) (hn:R.length≤100000) :
 Calls Tryz.prog 21 #[.pointer (some ⟨bl,0,none⟩),.int .u64 0] w fun e w'=>∃v τ' E,e = .returned v∧NS 60 13 Jb3 w.heap.size w' τ' tEnt v E∧EntsV R E R.length∧Step w τ w' τ' ReadTag:=by
 have hat:=Qos hl hr 0 (by omega)
 rw[show ((0:Nat):Int)=0 from rfl] at hat
 have hsl:=hl.ok.stream
 have hmn:L.starts.length=R.length:=by rw[hR.starts,Qbc]
 have hbs:=hR.base
 have hstr:=hR.stream
 have hstt:=hR.starts
 obtain⟨Hat,Hl,Hr,HR,Hbs,Hstr,Hstt⟩:=hid7 hat hl hr hR hbs hstr hstt
 clear hat hl hr hR hbs hstr hstt
 go_enter Tryz.func21,Tryz.ntmps21
 go_wp2_with fail
 refine Hat.out.mono ?_
 rintro e w1 ⟨⟨k,f,rfl,hat⟩,hs1⟩
 obtain⟨rfl,rfl⟩:=hat.before (by rw[Hbs.out];omega)
 have hl1:=Hl.out.step hs1 (fun _ _ h=>h)
 obtain⟨vs,vt,ho1,hs1s,hs1t⟩:=hl1.is
 obtain⟨hx2,⟨rfl,he⟩|⟨bt,ct,zs,rfl,hot,hd1,hd2,hd3⟩⟩:=hs1t
 ·omega
 rw[hmn] at ho1 hd2 hx2
 have hlo:∀W T,Step w1 τ W T ET→W.cell? ⟨bl,1,none⟩=some (.int .u64 1)∧∀i,i<R.length→W.cell? ⟨bt,i,none⟩=some (.int .i64 ((recsB (R.take i)).length:Int)):=fun W T m=>by
  refine⟨(ho1.step m (by simp[ET,ReadTag,tLog,tEnt])).at 1 (by show some (Value.int .u64 (L.base:Int))=_;rw[Hbs.out];rfl),fun i hi=>(hot.step m (by simp[ET,ReadTag,Qag,tEnt])).at i ?_⟩
  rw[List.getElem?_append_left (by rw[hx2];omega)]
  unfold i64s
  rw[List.getElem?_map,Hstt.out,List.getElem?_eq_getElem (by rw[Qbc];exact hi)]
  have:=Qnl hi
  rw[List.getD_eq_getElem?_getD,List.getElem?_eq_getElem (by rw[Qbc];exact hi)] at this
  simp only[Option.map_some]
  rw[←this];rfl
 have c8:=ho1.at 8 (v:=.slice (some ⟨bt,0,none⟩) R.length ct) rfl
 obtain⟨n,hnR⟩:∃n,R.length=n:=⟨_,rfl⟩
 rw[hnR] at h0 hn c8 hd2 hlo
 have n1:¬ct=0:=by omega
 have n2:(0:Int)≤(n:Int):=by omega
 have n3:(n:Int)≤(ct:Int):=by omega
 obtain⟨Hlo,Hs1,HnR,Hl1⟩:=hid4 hlo hs1 hnR hl1
 clear hlo hs1 hnR hl1 ho1 hot hs1s hmn hx2 hd3
 go_wp2_with fail
 go_loopw [7,27] (fun m v wr=>∃(i:Nat) (τr:Tags) (E:List (Nat×List Value)),i≤n∧v = .int .i64 (i:Int)∧NS 60 13 Jb3 w.heap.size wr τr tEnt m E∧EntsV R E i∧Step w τ wr τr ReadTag∧Step w1 τ wr τr ET) (fun _ v _=>n-(intOf v).toNat)
 case atStart=>exact⟨0,τ,[],Nat.zero_le _,rfl,NS.nil _ _ _ _ _ _ _,⟨rfl,fun x hx=>absurd hx (by simp),fun k r hk=>absurd hk (by omega)⟩,Hs1.out.mono (fun _ h=>h.elim),Step.refl _ _ _⟩
 case round =>
  obtain⟨i,τr,E,hi,rfl,hns,hev,hst,hst1⟩:=hrel
  by_cases hlt:i<n
  ·obtain⟨r,hri⟩:∃r,R[i]?=some r:=⟨_,List.getElem?_eq_getElem (by rw[HnR.out];exact hlt)⟩
   obtain⟨k',x',hk',hx',hbx,hdec⟩:=RecAt.read HR.out ⟨i,hri,rfl⟩
   have hrd:=Qg8 (Hl1.out.step hst1 (by rintro g (rfl|rfl|rfl) <;> simp[ET,ReadTag,tLog,Qah,Qag,tEnt])) Hr.out hk' hx' hbx hdec
   obtain⟨c1,cs⟩:=Hlo.out _ _ hst1
   have ci:=cs i hlt
   have hea:entAt R i=1+(recsB (R.take i)).length:=rfl
   have hs6:(recsB (R.take i)).length≤1000000:=by
    have e:recsB R=recsB (R.take i)++recsB (R.drop i):=by
     unfold recsB
     rw[←List.flatMap_append,List.take_append_drop]
    have:=Hstr.out
    rw[this,e,List.length_append] at hsl
    omega
   generalize (recsB (R.take i)).length=s at *
   have a1:=Qam s (by omega)
   have a2:IntKind.u64.wrap (1+(s:Int))=((1+s:Nat):Int):=by
    rw[show 1+(s:Int)=((1+s:Nat):Int) by omega]
    exact Qam (1+s) (by omega)
   obtain⟨z,hz⟩:∃z,1+s=z:=⟨_,rfl⟩
   rw[hz] at hrd a2 hea
   obtain⟨pm,cm,rfl⟩:=hns.val
   have hEn:=hev.len
   rw[hEn] at hns ⊢
   have hltI:(i:Int)<(n:Int):=by omega
   obtain⟨Hst,Hns,Hev,Hrd,Hea,Hri,HEn,Hst1⟩:=hid8 hst hns hev hrd hea hri hEn hst1
   clear hst hns hev hrd hea hri hEn hst1 cs hdec hbx hx' hk'
   go_wp2_with fail
   refine Hrd.out.mono ?_
   rintro e w2 ⟨v,τ2,rfl,⟨vb,va,vt,vp,n0,rfl,q1,q2,q3,q4⟩,hs2⟩
   obtain⟨pb,cb,rfl,q1⟩:=q1
   obtain⟨pa,ca,rfl,q2⟩:=q2
   obtain⟨pt,ct',rfl⟩:=q3.val
   obtain⟨pp,cp,rfl⟩:=q4.val
   have hns2:=Hns.out.step hs2 (by simp[ReadTag,tEnt])
   have hst2:=Hst.out.trans hs2
   have hst12:=Hst1.out.trans (hs2.mono (T:=ET) (fun _ h=>.inl h))
   have hrow:=((Step.refl w2 τ2 nil).alloc' (.cells #[.int .u8 (r.kind:Int),.int .u32 (r.txn:Int),.int .u64 (r.prev:Int),.int .u64 (r.next:Int),.int .u32 (r.change.page:Int),.int .u16 (r.change.slot:Int),.bool r.change.had,.bool r.change.has,.slice pb r.change.before.length cb,.slice pa r.change.after.length ca,.slice pt r.txns.length ct',.slice pp r.pages.length cp] 58))
   have hns3:=hns2.step hrow (fun h=>h)
   have hst3:=hst2.trans (hrow.mono (fun _ h=>h.elim))
   have hst13:=hst12.trans (hrow.mono (fun _ h=>h.elim))
   obtain⟨i0,z0,hi0,hz0,hz1,hz2,hz3⟩:=Jcg
   have hlE:E.length≤1000000:=by have:=HEn.out;omega
   have hsn:=fun q (h:List.length q=10)=>Hev.out.snoc Hri.out h
   rw[Hea.out] at hsn
   obtain⟨Hns3,Hst3,Hst13,Hsn,Hi0,Hz0,Hz1,Hz2,Hz3,HlE⟩:=hid10 hns3 hst3 hst13 hsn hi0 hz0 hz1 hz2 hz3 hlE
   clear hns3 hst3 hst13 hsn hi0 hz0 hz1 hz2 hz3 hlE q1 q2 q3 q4 hs2 hns2 hst2 hst12 hrow
   go_wp2_with (at_builtin;refine Jb4 Tryz.underlying50 Hi0.out Hz0.out Hz1.out Hz2.out Hz3.out (by decide) Hst3.out Hns3.out (z,[.int .u8 (r.kind:Int),.int .u32 (r.txn:Int),.int .u64 (r.prev:Int),.int .u64 (r.next:Int),.int .u32 (r.change.page:Int),.int .u16 (r.change.slot:Int),.bool r.change.had,.bool r.change.has,.slice pb r.change.before.length cb,.slice pa r.change.after.length ca,.slice pt r.txns.length ct',.slice pp r.pages.length cp]) rfl (by simp[Jb3,Value.oneCell']) HlE.out (by decide) (kb:=w2.heap.size+1) (by rw[World.size_alloc]) rfl _ _ rfl rfl rfl rfl ?_;intro v' w' τ' hb he hmo;obtain⟨Hb,He,Hmo⟩:=hid3 hb he hmo;clear hb he hmo)
   go_round
   case rel=>exact⟨i+1,τ',_,by omega,by simp,Hb.out,Hsn.out _ rfl,He.out,Hst13.out.trans (Hmo.out.mono (fun _ h=>.inr h))⟩
   case measure=>simp[intOf];omega
  ·have hin:i=n:=by omega
   subst hin
   obtain⟨Hst,Hns,Hev⟩:=hid3 hst hns hev
   clear hst hns hev
   go_wp2_with fail
   go_ret
   exact⟨_,τr,E,rfl,Hns.out,by rw[HnR.out];exact Hev.out,Hst.out⟩
theorem NS.ent {n0:Nat}{w:World}{τ:Tags}{g:Tag}{v:Value}{R:List RecP}{E:List (Nat×List Value)}{m:Nat}(h:NS 60 13 Jb3 n0 w τ g v E) (he:EntsV R E m):∃p c,v = .slice p m c∧m≤maxLen∧∀(i:Nat) (r:RecP),i<m→R[i]?=some r→∃b,p=some ⟨b,0,none⟩∧w.cell? ⟨b,i*13,none⟩=some (.int .u64 (entAt R i:Int))∧w.cell? ⟨b,i*13+1,none⟩=some (.int .u8 (r.kind:Int))∧w.cell? ⟨b,i*13+2,none⟩=some (.int .u32 (r.txn:Int)):=by
 obtain⟨h1,⟨rfl,h2⟩|⟨b,cap,ys,rfl,ho,h3,h4,h5⟩⟩:=h.buf
 ·rw[he.len] at h2
  refine⟨none,0,by rw[h2],by rw[h2];exact Nat.zero_le _,fun i r hi=>by omega⟩
 ·rw[he.len] at h1 h4 ⊢
  refine⟨_,cap,rfl,by omega,fun i r hi hr=>?_⟩
  obtain⟨q,hq⟩:=he.at_ i r hi hr
  have key:∀(l:List (Nat×List Value)) (i:Nat) (x:Nat×List Value) (j:Nat),(∀y∈l,y.2.length=12)→l[i]?=some x→j<13→(l.flatMap Jb3)[i*13+j]?=(Jb3 x)[j]?:=by
   intro l
   induction l with
   | nil=>intro i x j _ hx;simp at hx
   | cons y l ih =>
     intro i x j hl hx hj
     rw[List.flatMap_cons]
     have hy:(Jb3 y).length=13:=by
      have:=hl y (by simp)
      show y.2.length+1=13
      omega
     cases i with
     | zero =>
       have:y=x:=by simpa using hx
       subst this
       rw[List.getElem?_append_left (by rw[hy];omega),Nat.zero_mul,Nat.zero_add]
     | succ i =>
       rw[List.getElem?_append_right (by rw[hy];omega),hy,show (i+1)*13+j-13=i*13+j by omega]
       exact ih i x j (fun z hz=>hl z (List.mem_cons_of_mem _ hz)) (by simpa using hx) hj
  have hk:∀j,j<13→(E.flatMap Jb3++ys)[i*13+j]?=(Jb3 (entAt R i,.int .u8 (r.kind:Int)::.int .u32 (r.txn:Int)::q))[j]?:=fun j hj=>by
   rw[List.getElem?_append_left (by rw[h1];omega)]
   exact key E i _ j he.row hq hj
  exact⟨b,rfl,ho.at (i*13) (hk 0 (by omega)),ho.at (i*13+1) (hk 1 (by omega)),ho.at (i*13+2) (hk 2 (by omega))⟩
end Go.Proofs.YtjgacceifcnedaaGreat