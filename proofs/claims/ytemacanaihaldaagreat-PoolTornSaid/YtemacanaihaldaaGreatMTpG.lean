/-
 PoolTorn: what made has made;the device is to be halted;it crashes,is opened anew.
-/
import Derived.Test.YtemacanaihaldaaGreatMTpC
import Derived.Test.YtemacanaihaldaaGreatMTornC
import Derived.Test.YtemacanaihaldaaGreatMOpC
import Derived.Test.YtemacanaihaldaaGreatMGetW
import Derived.Test.YtemacanaihaldaaGreatML12R
import Derived.Test.YtemacanaihaldaaGreatMDevE
set_option maxRecDepth 100000
set_option maxHeartbeats 8000000
set_option linter.all false
namespace Go.Proofs.YtemacanaihaldaaGreat
variable {D:Dev}{L:LogM}{N bd bf bl bp bq bw c k:Nat}{g:Tag}{w:World}{was:Value}{τ:Tags}
open Go.RowKit
theorem Jdo (N:Nat):(mgD N).halted=false:=by
 rw[Jeu,Dev.lay_run]
 rcases Dev.run_halts (show (mgD0 N).halted=false from rfl) (Jcv 0 (Qb8 (mgD0 N).f0.length).said.slot [(Qb8 (mgD0 N).f0.length).said.head]) with h|⟨m,-,h⟩
 ·exact h.1
 ·have:=Dev.run_left (Jd7 N).left (Jcv 0 (Qb8 (mgD0 N).f0.length).said.slot [(Qb8 (mgD0 N).f0.length).said.head])
  rw[h] at this
  cases this
theorem Dev.free_eq(h:D.left=none):D.free=D:=by
 obtain⟨a,b,c,d⟩:=D
 cases (show c=none from h)
 rfl
theorem Jfi (N:Nat):Heads (mgD N) headX:=by
 rw[Jeu]
 have e0:(Qb8 (mgD0 N).f0.length).said.slot=0:=rfl
 have e1:(Qb8 (mgD0 N).f0.length).said.head=headB 1 1 0 0:=rfl
 rw[e0,e1]
 intro i hi
 have hl:(mgD0 N).left=none:=rfl
 unfold Dev.lay
 rw[Dev.sync_get (Dev.writes_free hl _ _ _ _) (by omega),if_pos rfl]
 show ((((mgD0 N).write 0 (0+0) (headB 1 1 0 0)).file 0)[i]?).map Sec.sync=_
 rw[Dev.write_get hl (by omega)]
 have hz:((mgD0 N).file 0)[i]?=some zsec:=by
  show (List.replicate 100 zsec)[i]?=_
  rw[List.getElem?_replicate,if_pos (by omega)]
 rw[hz]
 rcases (show i=0∨i=1 by omega) with rfl|rfl
 ·rfl
 ·rfl
theorem Jf8 (N:Nat) (hN:N≤8):Hist N (verOf (Jcy N)) 0 (mgD N):=fun n hn=>by
 refine⟨0,Nat.le_refl _,.inl ⟨Jc5 N n (by omega),rfl,?_⟩⟩
 unfold verOf Jcy
 rw[List.getD_eq_getElem?_getD,List.getElem?_map,List.getElem?_range hn]
 simp
theorem Jfk (w:World) (pg fr:Nat) (hpg:pg<256) (hfr:fr<256):Calls Tryz.prog 8 #[.int .u8 (pg:Int),.int .u8 (fr:Int)] w fun e w'=>∃(bw bd bl bp bf k N:Nat) (τ':Tags) (was:Value) (vs:List (List (List Int))) (H:PoolH) (L:LogM) (D:Dev) (F:List Fr) (s:Ck.Clk.St) (cur:Nat→List Int),e = .returned (.pointer (some ⟨bw,0,none⟩))∧AllT w' τ' bw bd bl bp bf k N 0 was vs H L D F s cur∧H.st=0∧D.left=none∧D.halted=false∧3≤k∧k≤7∧Step w boxed w' τ' AnyTag:=by
 obtain⟨N,hN⟩:∃N,1+pg%8=N:=⟨_,rfl⟩
 refine(Jgb w pg fr hpg hfr hN).mono ?_
 rintro e w' ⟨bw,bd,bl,bp,bf,τ',was,H,rfl,hM,hn,hst,hbl,hs⟩
 obtain⟨e1,e2,e3,e4,e5,e6⟩:=mgL
 have hst0:H.st=0:=by rw[hst];exact Jf7 N (N+1) (Nat.le_refl _)
 have hver:∀n,n<N→(Jcy N)[n]?=some [emptyPage n]:=fun n hnN=>by
  unfold Jcy
  rw[List.getElem?_map,List.getElem?_range hnN]
  rfl
 refine⟨bw,bd,bl,bp,bf,_,N,τ',was,_,H,_,_,_,_,emptyPage,rfl,⟨hM,⟨⟨mgD N,Jgl N _ _ (by omega),by rw[hst0];exact Jf8 N (by omega),.inl ⟨Jdo N,Dev.free_eq (Jdg N).left⟩⟩,fun n hn=>?_,Jdi N,by rw[Jd6,e4,e5];omega,Dev.lim_mono ((Jdg N).lim 0) (Nat.zero_le _),by rw[e4];omega,Jfi N⟩,Jet _ (by omega) (by omega),hn,hbl,by omega,Jcw N,fun n hnN=>⟨[emptyPage n],hver n hnN,by simp,by simp,rfl⟩,e1,e4,by rw[e2];exact Nat.zero_le _,by rw[e3];exact Nat.zero_le _⟩,hst0,(Jdg N).left,Jdo N,by omega,by omega,hs⟩
 unfold verOf
 rw[List.getD_eq_getElem?_getD,hver n hn]
 simp
theorem Jdx(h:g=tDev):DevTag g:=by subst h;exact .inl rfl
theorem Jcq(h:DevTag g):g≠Jc1∧g≠tWas∧(∀n,g≠tVer n)∧g≠tData∧¬PoolTag g∧¬LogTag g∧AnyTag g:=by
 have hw:=Jcr (.inr (.inr h):PWTag g)
 exact⟨hw.1,hw.2.1,hw.2.2.1,hw.2.2.2.2,fun k=>(Qbg k).1 h,fun k=>Qau g k h,hw.2.2.2.1⟩
theorem Jfp {m:Nat} {vs:List (List (List Int))} {H:PoolH} {F:List Fr} {s:Ck.Clk.St} {cur:Nat→List Int}(ha:AllT w τ bw bd bl bp bf k N m was vs H L D F s cur) (hl:D.left=none) (hh:D.halted=false) (n:Nat) (hn:n≤1000) :
 Calls Tryz.prog 9 #[.pointer (some ⟨bd,0,none⟩),.int .i64 (n:Int)] w fun e w'=>e = .returned (.tuple #[])∧∃τ',AllT w' τ' bw bd bl bp bf k N m was vs H L {D with left:=some n} F s cur∧Step w τ w' τ' AnyTag:=by
 refine(Jex ha.mv.pool.dev (n:Int) (by unfold maxLen;omega)).mono ?_
 rintro e w' ⟨τ',rfl,hd,he,hm⟩
 rw[show ((n:Int)).toNat=n by omega] at hd
 have hs:Step w τ w' τ' DevTag:=⟨hm.mono (fun j _ h=>Jdx h),he⟩
 refine⟨rfl,τ',⟨⟨ha.mv.own.step hs (fun q=>(Jcq q).1 rfl),ha.mv.was.step hs (fun q=>(Jcq q).2.1 rfl) (fun n q=>(Jcq q).2.2.1 n rfl) (fun q=>(Jcq q).2.2.2.1 rfl),⟨ha.mv.pool.pool.step hs (fun g hg q=>(Jcq q).2.2.2.2.1 hg),ha.mv.pool.log.step hs (fun g hg q=>(Jcq q).2.2.2.2.2.1 hg),hd⟩⟩,?_,ha.clock,ha.hn,ha.hbl,ha.n8,ha.vlen,ha.last,ha.base,ha.strips,ha.stream,ha.starts⟩,hs.mono (fun g q=>(Jcq q).2.2.2.2.2.2)⟩
 obtain⟨E,g,hh',hsd⟩:=ha.good.ex
 refine⟨⟨E,g,hh',?_⟩,ha.good.cv,ha.good.f1,ha.good.f0,ha.good.lim,ha.good.strips,ha.good.hd⟩
 rcases hsd with ⟨a,b⟩|⟨a,-⟩
 ·exact .inl ⟨hh,b⟩
 ·rw[a] at hh;cases hh
structure CrT (w:World) (τ:Tags) (bw bd bl bp k N c:Nat) (was:Value) (vs:List (List (List Int))) (D:Dev):Prop where
 own:Own w τ bw Jc1 33 [.pointer (some ⟨bd,0,none⟩),.pointer (some ⟨bl,0,none⟩),.pointer (some ⟨bp,0,none⟩),.int .i64 (k:Int),was]
 was:Vers w τ was vs
 dev:DevAt w τ bd D
 torn:TornS N (verOf vs) D
 hd:Heads D headX
 f1:D.f1.length=4*(N+1)
 f0:18≤D.f0.length
 lim:D.lim c
 n8:1≤N∧N≤8
 vlen:vs.length=N
def Dev.Dry (D:Dev):Prop:=∀(k:Nat) (s:Sec),(D.file 1)[k]?=some s→s.waits=[]
theorem CrT.step {w':World} {τ':Tags} {vs:List (List (List Int))}(h:CrT w τ bw bd bl bp k N c was vs D) (hs:Step w τ w' τ' nil):CrT w' τ' bw bd bl bp k N c was vs D :=
 ⟨h.own.step hs (fun h=>h),h.was.step hs (fun h=>h) (fun _ h=>h) (fun h=>h),h.dev.step hs (fun _ h=>h.elim),h.torn,h.hd,h.f1,h.f0,h.lim,h.n8,h.vlen⟩
theorem Dev.crash_len (D:Dev) (f:List Fate):(D.crash f).f1.length=D.f1.length∧(D.crash f).f0.length=D.f0.length:=by
 unfold Dev.crash Dev.crashTo
 simp[Qlu]
theorem Jcs(h:CrashTag g):g≠Jc1∧g≠tWas∧(∀n,g≠tVer n)∧g≠tData∧AnyTag g:=by
 have hf:=h.fst
 refine⟨fun e=>?_,fun e=>?_,fun n e=>?_,fun e=>?_,fun e=>?_⟩
 ·subst e;rcases hf with h|h <;> cases h
 ·subst e;rcases hf with h|h <;> cases h
 ·subst e;rcases hf with h|h <;> cases h
 ·subst e;rcases hf with h|h <;> cases h
 ·rw[e] at hf;rcases hf with h|h <;> cases h
theorem GoodT.torn {vs:List (List (List Int))} {st:Nat} {F:List Fr} {cur:Nat→List Int}(h:GoodT vs N st L D F cur):TornS N (verOf vs) D:=by
 obtain⟨E,g,hh,hs⟩:=h.ex
 rcases hs with ⟨_,b⟩|⟨_,c⟩
 ·refine(hh.torn g.calm g.f1).ext ?_
  rw[←b];rfl
 ·exact c
theorem Je7 {m:Nat} {vs:List (List (List Int))} {H:PoolH} {F:List Fr} {s:Ck.Clk.St} {cur:Nat→List Int}(ha:AllT w τ bw bd bl bp bf k N m was vs H L D F s cur) {a:Option Addr}{l:List Fate}{len cap:Nat}(hl:l.length=len) (hlen:len≤maxLen) (hfa:FatesAt w τ a l) :
 Calls Tryz.prog 12 #[.pointer (some ⟨bd,0,none⟩),.slice a len cap] w fun e w'=>e = .returned (.tuple #[])∧∃τ' D',CrT w' τ' bw bd bl bp k N 0 was vs D'∧D'.left=none∧D'.Dry∧Step w τ w' τ' AnyTag:=by
 refine(Jec ha.mv.pool.dev hl hlen hfa).mono ?_
 rintro e w' ⟨rfl,τ',hd,hs⟩
 obtain⟨hc,-⟩:=Dev.crashed D l
 obtain⟨e1,e0⟩:=Dev.crash_len D l
 have hf0:=ha.good.f0
 have hst:=ha.strips
 refine⟨rfl,τ',D.crash l,⟨ha.mv.own.step hs (fun q=>(Jcs q).1 rfl),ha.mv.was.step hs (fun q=>(Jcs q).2.1 rfl) (fun n q=>(Jcs q).2.2.1 n rfl) (fun q=>(Jcs q).2.2.2.1 rfl),hd,ha.good.torn.crash l,ha.good.hd.crash l,e1.trans ha.good.f1,by rw[e0];omega,hc.lim 0,ha.n8,ha.vlen⟩,hc.left,fun k s h=>hc.waits 1 k s h,hs.mono (fun g q=>(Jcs q).2.2.2.2)⟩
theorem Jfw {vs:List (List (List Int))}(ha:CrT w τ bw bd bl bp k N c was vs D) {a:Option Addr}{l:List Fate}{len cap:Nat}(hl:l.length=len) (hlen:len≤maxLen) (hfa:FatesAt w τ a l) :
 Calls Tryz.prog 12 #[.pointer (some ⟨bd,0,none⟩),.slice a len cap] w fun e w'=>e = .returned (.tuple #[])∧∃τ' D',CrT w' τ' bw bd bl bp k N 0 was vs D'∧D'.left=none∧D'.Dry∧Step w τ w' τ' AnyTag:=by
 refine(Jec ha.dev hl hlen hfa).mono ?_
 rintro e w' ⟨rfl,τ',hd,hs⟩
 obtain⟨hc,-⟩:=Dev.crashed D l
 obtain⟨e1,e0⟩:=Dev.crash_len D l
 exact⟨rfl,τ',D.crash l,⟨ha.own.step hs (fun q=>(Jcs q).1 rfl),ha.was.step hs (fun q=>(Jcs q).2.1 rfl) (fun n q=>(Jcs q).2.2.1 n rfl) (fun q=>(Jcs q).2.2.2.1 rfl),hd,ha.torn.crash l,ha.hd.crash l,e1.trans ha.f1,by rw[e0];exact ha.f0,hc.lim 0,ha.n8,ha.vlen⟩,hc.left,fun k s h=>hc.waits 1 k s h,hs.mono (fun g q=>(Jcs q).2.2.2.2)⟩
theorem Jge {vs:List (List (List Int))}(ha:CrT w τ bw bd bl bp k N c was vs D) (hdr:D.Dry) (n:Nat) (hn:n≤1000) :
 Calls Tryz.prog 9 #[.pointer (some ⟨bd,0,none⟩),.int .i64 (n:Int)] w fun e w'=>e = .returned (.tuple #[])∧∃τ' D',CrT w' τ' bw bd bl bp k N c was vs D'∧D'.Dry∧Step w τ w' τ' AnyTag:=by
 refine(Jex ha.dev (n:Int) (by unfold maxLen;omega)).mono ?_
 rintro e w' ⟨τ',rfl,hd,he,hm⟩
 have hs:Step w τ w' τ' DevTag:=⟨hm.mono (fun j _ h=>Jdx h),he⟩
 exact⟨rfl,τ',_,⟨ha.own.step hs (fun q=>(Jcq q).1 rfl),ha.was.step hs (fun q=>(Jcq q).2.1 rfl) (fun n q=>(Jcq q).2.2.1 n rfl) (fun q=>(Jcq q).2.2.2.1 rfl),hd,ha.torn.ext rfl,ha.hd.ext rfl,ha.f1,ha.f0,ha.lim,ha.n8,ha.vlen⟩,hdr,hs.mono (fun g q=>(Jcq q).2.2.2.2.2.2)⟩
theorem Jgd:Jc3 (headX 0)=true∧Jct (headX 0)=⟨1,1,0,0⟩∧(Jct (headX 1)).stamp=0:=⟨by decide +kernel,by kernel_rfl,by decide +kernel⟩
theorem Jcx(h:OpenTag g):g≠Jc1∧g≠tWas∧(∀n,g≠tVer n)∧g≠tData∧AnyTag g:=by
 have hf:g.1≠71∧g.1≠72∧g.1≠73∧g.1≠90∧g.1≠1:=by
  rcases h with (h|h|h)|(h|h|h)|h|h|h|h
  all_goals first|(subst h;simp[tLog,Qah,Qag])|omega
 refine⟨fun e=>hf.1 (by rw[e];rfl),fun e=>hf.2.1 (by rw[e];rfl),fun n e=>hf.2.2.1 (by rw[e];rfl),fun e=>hf.2.2.2.2 (by rw[e];rfl),hf.2.2.2.1⟩
theorem Jes {vs:List (List (List Int))}(ha:CrT w τ bw bd bl bp k N c was vs D) (hc:c≤10000) (hdr:D.Dry) :
 Calls Tryz.prog 13 #[.pointer (some ⟨bd,0,none⟩)] w fun e w'=>∃b2 τ' L' D',e = .returned (.tuple #[.pointer (some ⟨b2,0,none⟩),.int .u16 0])∧LogAt w' τ' b2 bd L'∧CrT w' τ' bw bd bl bp k N (c+3000) was vs D'∧(D.left=none→D'.left=none)∧D'.Dry∧Step w τ w' τ' AnyTag:=by
 obtain⟨x1,x2,x3⟩:=Jgd
 have l0:=ha.hd.last (i:=0) (by omega)
 have l1:=ha.hd.last (i:=1) (by omega)
 have hlen:=ha.dev.length 0
 have hq:∀E:Dev,E.file 0=E.f0:=fun _=>rfl
 have hq1:∀E:Dev,E.file 1=E.f1:=fun _=>rfl
 rw[hq] at hlen
 have hs1:0<(findTo D 1).1.stamp:=by
  unfold findTo
  rw[l0,if_pos ⟨x1,by rw[x2];show 0<1;omega⟩,x2]
  show 0<1
  omega
 have hfs:0<(findTo D 2).1.stamp:=by
  unfold findTo
  split
  ·rename_i q;exact Nat.lt_of_le_of_lt (Nat.zero_le _) q.2
  ·exact hs1
 refine(Jfb ha.dev ha.f0 (Dev.lim_mono ha.lim (by omega)) (fun i hi=>?_) hfs).mono ?_
 ·rcases (show i=0∨i=1 by omega) with rfl|rfl
  ·right;rw[l0];exact x1
  ·left;rw[l1];exact x3
 rintro e w' ⟨b2,τ',la,st,-,-,rfl,-,hl',hd',hs⟩
 obtain⟨L,hL⟩:∃L,(newLog D.f0.length).withHead (findTo D 2)=L:=⟨_,rfl⟩
 rw[hL] at hl' hd'
 have hstr:L.strips≤3000:=by rw[←hL];show (D.f0.length-2)/2≤3000;omega
 have h2:2≤L.firstS:=by unfold LogM.firstS;split <;> omega
 obtain⟨want,hwant⟩:∃x,Qeg ((Jcu (Jcz D L)).take la)=x:=⟨_,rfl⟩
 rw[hwant] at hd'
 obtain⟨ops,ho1,ho2⟩:=Dev.make_run D L.firstS L.strips want
 have hfile:(D.make L.firstS L.strips want).file 1=D.file 1:=by rw[ho1];exact Dev.run_file1 D ops fun o h=>(ho2 o h).1
 refine⟨b2,τ',_,_,rfl,hl',⟨ha.own.step hs (fun q=>(Jcx q).1 rfl),ha.was.step hs (fun q=>(Jcx q).2.1 rfl) (fun n q=>(Jcx q).2.2.1 n rfl) (fun q=>(Jcx q).2.2.2.1 rfl),hd',ha.torn.ext hfile,ha.hd.make h2 _ _,?_,?_,Dev.lim_mono (Dev.make_lim ha.lim _ _ _) (by omega),ha.n8,ha.vlen⟩,fun h=>?_,fun k s h=>hdr k s (by rw[←hfile];exact h),hs.mono (fun g q=>(Jcx q).2.2.2.2)⟩
 ·rw[←hq1,hfile];exact ha.f1
 ·rw[←hq,Dev.make_length];exact ha.f0
 ·rw[ho1];exact Dev.run_left h ops
theorem Jff {b2:Nat} {vs:List (List (List Int))}(ha:CrT w τ bw bd bl bp k N c was vs D) (hl:LogAt w τ b2 bd L) (hc:c≤10000) (hdr:D.Dry) (h3:3≤k) (h7:k≤7) :
 Calls Tryz.prog 14 #[.pointer (some ⟨b2,0,none⟩),.int .i64 (N:Int),.int .i64 (k:Int)] w fun e w'=>∃bq bf τ' H D',e = .returned (.tuple #[.pointer (some ⟨bq,0,none⟩),.int .u16 0])∧PoolAt w' τ' bq bf H (List.replicate k Fr.no) (Ck.Clk.newS k)∧H.bl=b2∧H.n=N∧LogAt w' τ' b2 bd L∧CrT w' τ' bw bd bl bp k N (c+4) was vs D'∧(D.left=none→∀n,n<N→∃s,Whole (verOf vs n) n (lastTo D' n 4) s)∧Step w τ w' τ' AnyTag:=by
 have hn8:=ha.n8
 refine(Jd3 hl ha.dev ha.torn hdr ha.f1 (by omega) (by omega) h3 (by omega) (Dev.lim_mono ha.lim (by omega)) ha.hd).mono ?_
 rintro e w' ⟨bq,bf,τ',H,D',rfl,hp,e1,e2,hd',hn,hs⟩
 exact⟨bq,bf,τ',H,D',rfl,hp,e1,e2,hl.step hs (fun g hg q=>(Jcq q).2.2.2.2.2.1 hg),⟨ha.own.step hs (fun q=>(Jcq q).1 rfl),ha.was.step hs (fun q=>(Jcq q).2.1 rfl) (fun n q=>(Jcq q).2.2.1 n rfl) (fun q=>(Jcq q).2.2.2.1 rfl),hd',hn.torn,hn.hd,hn.f1.trans ha.f1,by rw[hn.f0];exact ha.f0,hn.lim _ ha.lim,ha.n8,ha.vlen⟩,hn.whole,hs.mono (fun g q=>(Jcq q).2.2.2.2.2.2)⟩
structure EndT (w:World) (τ:Tags) (bw bd bl bp bq bf k N:Nat) (was:Value) (vs:List (List (List Int))) (H:PoolH) (L:LogM) (D:Dev) (F:List Fr) (s:Ck.Clk.St) (cur:Nat→List Int):Prop where
 own:Own w τ bw Jc1 33 [.pointer (some ⟨bd,0,none⟩),.pointer (some ⟨bl,0,none⟩),.pointer (some ⟨bp,0,none⟩),.int .i64 (k:Int),was]
 was:Vers w τ was vs
 pool:PoolW w τ bq bf bd H L D F s
 good:CleanP N D F cur
 clock:Clock F s
 hn:H.n=N
 cv:∀n,n<N→cur n∈verOf vs n
 n8:1≤N∧N≤8
 vlen:vs.length=N
theorem EndT.step {w':World} {τ':Tags} {vs:List (List (List Int))} {H:PoolH} {F:List Fr} {s:Ck.Clk.St} {cur:Nat→List Int}(h:EndT w τ bw bd bl bp bq bf k N was vs H L D F s cur) (hs:Step w τ w' τ' nil):EndT w' τ' bw bd bl bp bq bf k N was vs H L D F s cur :=
 ⟨h.own.step hs (fun h=>h),h.was.step hs (fun h=>h) (fun _ h=>h) (fun h=>h),h.pool.step hs (fun _ h=>h.elim),h.good,h.clock,h.hn,h.cv,h.n8,h.vlen⟩
structure EndIn (F:List Fr) (s:Ck.Clk.St) (cur:Nat→List Int) (n i b:Nat) (f:Fr):Prop where
 at_:F[i]?=some f
 pg:f.pg=some (b,cur n)
theorem Jgo {vs:List (List (List Int))} {H:PoolH}(ha:CrT w τ bw bd bl bp k N c was vs D) (hp:PoolAt w τ bq bf H (List.replicate k Fr.no) (Ck.Clk.newS k)) (hl:LogAt w τ H.bl bd L) (hn:H.n=N) (h3:3≤k) (h7:k≤7) (hw:∀n,n<N→∃s,Whole (verOf vs n) n (lastTo D n 4) s) :
 ∃cur,EndT w τ bw bd bl bp bq bf k N was vs H L D (List.replicate k Fr.no) (Ck.Clk.newS k) cur:=by
 have key:∀n,∃Q,n<N→Q∈verOf vs n∧((lastTo D n 4=blank∧Q=emptyPage n)∨∃s,s<2 ^ 64∧lastTo D n 4=sealAll Q s∧Sound Q∧0<pageLSN Q):=fun n=>by
  by_cases h:n<N
  ·obtain⟨s,⟨a,-,b⟩|⟨Q,a,b,c,-,d,-,e⟩⟩:=hw n h
   ·exact⟨emptyPage n,fun _=>⟨b,.inl ⟨a,rfl⟩⟩⟩
   ·exact⟨Q,fun _=>⟨b,.inr ⟨s,e,a,c,d⟩⟩⟩
  ·exact⟨[],fun q=>absurd q h⟩
 obtain⟨cur,hcur⟩:=Classical.axiomOfChoice key
 exact⟨cur,ha.own,ha.was,⟨hp,hl,ha.dev⟩,CleanP.fresh ha.f1 (fun n hn=>(hcur n hn).2),Jet k h3 (by omega),hn,fun n hn=>(hcur n hn).1,ha.n8,ha.vlen⟩
theorem Jgp {vs:List (List (List Int))} {H:PoolH} {F:List Fr} {s:Ck.Clk.St} {cur:Nat→List Int}(h:EndT w τ bw bd bl bp bq bf k N was vs H L D F s cur) (n:Nat) (hn:n<N) :
 Calls Tryz.prog 15 #[.pointer (some ⟨bq,0,none⟩),.int .u32 (n:Int)] w fun e w'=>∃b,e = .returned (.tuple #[.pointer (some ⟨b,0,none⟩),.int .u16 0])∧∃τ' F' i f,Step w τ w' τ' AnyTag∧Calls Tryz.prog 16 #[.pointer (some ⟨bq,0,none⟩),.int .u32 (n:Int),.int .u64 0] w' fun e w2=>e = .returned (.bool true)∧∃s2,EndT w2 τ' bw bd bl bp bq bf k N was vs H L D F' s2 cur∧EndIn F' s2 cur n i b f∧Step w' τ' w2 τ' AnyTag:=by
 refine(Jfq h.pool h.good h.clock h.hn n hn).mono ?_
 rintro e w' ⟨b,rfl,τ',F',s',i,f,g⟩
 refine⟨b,rfl,τ',F',i,f,g.step.mono (fun _ q=>(Jcr q).2.2.2.1),(Jfe g.pool h.hn g.held g.at_ g.pg g.fn hn).mono ?_⟩
 rintro e w2 ⟨rfl,s2,hp,hc,hs⟩
 have hst:=g.step.trans hs
 exact⟨rfl,s2,⟨h.own.step hst (fun q=>(Jcr q).1 rfl),h.was.step hst (fun q=>(Jcr q).2.1 rfl) (fun n q=>(Jcr q).2.2.1 n rfl) (fun q=>(Jcr q).2.2.2.2 rfl),hp,g.good,hc,h.hn,h.cv,h.n8,h.vlen⟩,⟨g.at_,g.pg⟩,hs.mono (fun _ q=>(Jcr q).2.2.2.1)⟩
theorem EndT.page {vs:List (List (List Int))} {H:PoolH} {F:List Fr} {s:Ck.Clk.St} {cur:Nat→List Int}(h:EndT w τ bw bd bl bp bq bf k N was vs H L D F s cur) {n i b:Nat}{f:Fr}(hi:EndIn F s cur n i b f):PageAt w τ (tPg i) b (cur n) :=
 h.pool.pool.pg i b (cur n) (by rw[hi.at_];exact hi.pg)
theorem Jgc (w:World) (pg fr ht ag:Nat) (hpg:pg<256) (hfr:fr<256) (hht:ht<256) (hag:ag<256) (a:Option Addr) (len cap:Nat) (hlen:len≤maxLen) (ho:OpsP w a len) (fa ga:Option Addr) (fl gl:List Fate) (nf ng fc gc:Nat) (hnf:fl.length=nf) (hng:gl.length=ng) (hnf2:nf≤maxLen) (hng2:ng≤maxLen) (hfa:FatesAt w boxed fa fl) (hga:FatesAt w boxed ga gl) :
 Calls Tryz.prog 3 #[.int .u8 (pg:Int),.int .u8 (fr:Int),.slice a len cap,.int .u8 (ht:Int),.slice fa nf fc,.int .u8 (ag:Int),.slice ga ng gc] w fun e w'=>e = .returned (.bool true)∧Below w.heap.size w w':=by
 have hhv:=Jfn w a len cap hlen ho
 have hkn:=Jfm w
 obtain⟨Hhv,Hkn,Ho,Hfa,Hga,Hnf,Hng,Hnf2,Hng2⟩:=hid9 hhv hkn ho hfa hga hnf hng hnf2 hng2
 clear hhv hkn ho hfa hga hnf hng hnf2 hng2
 go_enter Tryz.func3,Tryz.ntmps3
 go_wp2_with fail
 refine Hhv.out.mono ?_
 rintro e w1 ⟨r,rfl,rfl,h40⟩
 by_cases hbig:r=true∨(60:Int)<(nf:Int)∨(60:Int)<(ng:Int)
 ·have hgo:(r=true)∨(r=false∧(60:Int)<(nf:Int))∨(r=false∧¬(60:Int)<(nf:Int)∧(60:Int)<(ng:Int)):=by
   cases r
   ·by_cases h1:(60:Int)<(nf:Int)
    ·exact .inr (.inl ⟨rfl,h1⟩)
    ·exact .inr (.inr ⟨rfl,h1,by rcases hbig with h|h|h;cases h;exact absurd h h1;exact h⟩)
   ·exact .inl rfl
  clear hbig h40
  rcases hgo with rfl|⟨rfl,h1⟩|⟨rfl,h1,h2⟩
  all_goals (
   go_wp2_with fail
   refine Hkn.out.mono ?_
   rintro e w2 ⟨rfl,hm⟩
   have HM:=Lib.hid hm
   clear hm
   go_wp2_with fail
   go_ret
   exact⟨rfl,(Step.of nil HM.out (Ext.refl w boxed)).below⟩)
 ·have hr:r=false:=by cases r;rfl;exact absurd (.inl rfl) hbig
  have h1:¬(60:Int)<(nf:Int):=fun h=>hbig (.inr (.inl h))
  have h2:¬(60:Int)<(ng:Int):=fun h=>hbig (.inr (.inr h))
  clear hbig
  subst hr
  have hl40:=h40 rfl
  clear h40 Hhv
  go_wp2_with fail
  refine Hkn.out.mono ?_
  rintro e w2 ⟨rfl,hm⟩
  have hs2:=Jem hm
  have hmd:=Jfk w2 pg fr hpg hfr
  obtain⟨Hm,Hs2,Hmd⟩:=hid3 hm hs2 hmd
  clear hm hs2 hmd Hkn
  go_wp2_with fail
  refine Hmd.out.mono ?_
  rintro e w3 ⟨bw,bd,bl,bp,bf,k,N,τ3,was,vs,H,L,D,F,s,cur,rfl,hA,hst,hlf,hhl,hk3,hk7,hs3⟩
  have hs3':=Hs2.out.trans hs3
  have hN8:=hA.n8
  have c0:=hA.mv.own.at 0 (v:=.pointer (some ⟨bd,0,none⟩)) rfl
  have hhw:IntKind.i64.wrap (ht:Int)=(ht:Int):=Qd5 _ (by omega) (by omega)
  have hha:=Jfp hA hlf hhl ht (by omega)
  have HA:=Lib.hid hA
  have Hs3':=Lib.hid hs3'
  have Hha:=Lib.hid hha
  clear hA hs3' hha Hmd hs3 Hs2 Hm
  go_wp2_with fail
  refine Hha.out.mono ?_
  rintro e w4 ⟨rfl,τ4,hA4,hs4⟩
  have hst4:=Hs3'.out.trans hs4
  obtain⟨HA4,Hst4⟩:=hid2 hA4 hst4
  clear hA4 hst4 HA Hs3' Hha c0 hhw hs4 hlf hhl
  go_wp2_with fail
  go_loopw [16] (fun v wr=>∃(i:Nat) (τr:Tags) (was:Value) (vs:List (List (List Int))) (H:PoolH) (L:LogM) (D:Dev) (F:List Fr) (s:Ck.Clk.St) (cur:Nat→List Int),i≤len∧v = .int .i64 (i:Int)∧H.st≤65*i∧AllT wr τr bw bd bl bp bf k N i was vs H L D F s cur∧Step w boxed wr τr AnyTag) (fun v _=>len-(intOf v).toNat)
  case atStart=>exact⟨0,τ4,was,vs,H,L,_,F,s,cur,Nat.zero_le _,rfl,by omega,HA4.out,Hst4.out⟩
  case round =>
   clear HA4 Hst4 hst
   obtain⟨i,τr,was,vs,H,L,D,F,s,cur,hi,rfl,hst,hA,hs⟩:=hrel
   have c0:=hA.mv.own.at 0 (v:=.pointer (some ⟨bd,0,none⟩)) rfl
   have hhd:=Qtn hA.mv.pool.dev
   obtain⟨ver0,hv0,-⟩:=hA.last 0 (by omega)
   obtain⟨bws,cap4,u0,hwas,-,-,-,-,-,-⟩:=hA.mv.was.at hv0
   rw[hA.vlen] at hwas
   subst hwas
   clear hv0
   by_cases hgo:i<len∧D.halted=false
   ·obtain⟨hlt,hh0⟩:=hgo
    rw[hh0] at hhd
    obtain⟨bo,ol,kd,pg',slot,v,data,pf,nf',cf,rfl,hop⟩:=Ho.out i hlt
    obtain⟨pv,cv,rfl,-,-⟩:=hop.by_.any
    obtain⟨o0,o1,o2,o3,o4,hby⟩:=hop.step hs
    have hil:(i:Int)<(len:Int):=by omega
    have hdo:=Jfr hA (by omega) hh0 (by omega) kd pg' hop.pb slot hby pf nf' cf
    generalize data.length=dl at *
    obtain⟨HA,Hs,Hdo,Hby,Hhd⟩:=hid5 hA hs hdo hby hhd
    clear hA hs hdo hby hhd hop
    go_wp2_with fail
    refine Hhd.out.mono ?_
    rintro e w5 ⟨rfl,rfl⟩
    go_wp2_with fail
    refine Hdo.out.mono ?_
    rintro e w5 ⟨rfl,was5,vs5,H5,L5,D5,F5,s5,cur5,τ5,hA5,hs51,hs52,hst5⟩
    have hs5:=Hs.out.trans hst5
    obtain⟨HA5,Hs5⟩:=hid2 hA5 hs5
    clear hA5 hs5 o0 o1 o2 o3 o4 Hdo HA Hs Hby hst5 c0 Hhd
    go_wp2_with fail
    go_round
    case rel=>exact⟨i+1,τ5,was5,vs5,H5,L5,D5,F5,s5,cur5,by omega,by simp,by omega,HA5.out,Hs5.out⟩
    case measure=>simp[intOf];omega
   ·have hend:(i<len∧D.halted=true)∨i=len:=by
     by_cases h:i<len
     ·left
      refine⟨h,?_⟩
      cases hx:D.halted
      ·exact absurd ⟨h,hx⟩ hgo
      ·rfl
     ·right;omega
    have hcr:=Je7 hA (a:=fa) (l:=fl) (len:=nf) (cap:=fc) Hnf.out Hnf2.out (FatesAt.step hs Hfa.out Qhl)
    obtain⟨HA,Hs,Hcr,Hhd⟩:=hid4 hA hs hcr hhd
    clear hA hs hcr hhd hgo hst
    refine Or.elim hend ?c1 ?c2
    case' c1 =>
     rintro⟨hlt,hh1⟩
     have hhd1:=Hhd.out
     rw[hh1] at hhd1
     have hil:(i:Int)<(len:Int):=by omega
     have Hhd1:=Lib.hid hhd1
     clear hhd1 Hhd hh1
     go_wp2_with fail
     refine Hhd1.out.mono ?_
     rintro e w5 ⟨rfl,rfl⟩
    case' c2 =>
     rintro rfl
     clear Hhd
    all_goals (
     clear hend
     go_wp2_with fail
     refine Hcr.out.mono ?_
     rintro e w5 ⟨rfl,τ5,D5,hC5,hl5,hdr5,hs5⟩
     have hst5:=Hs.out.trans hs5
     have d0:=hC5.own.at 0 (v:=.pointer (some ⟨bd,0,none⟩)) rfl
     obtain⟨q,hq⟩:∃q,ag%30=q:=⟨_,rfl⟩
     have hq30:q<30:=by omega
     have e1:(ag:Int)%30=(q:Int):=by omega
     have e2:IntKind.u8.wrap (q:Int)=(q:Int):=by
      have:IntKind.u8.wrap (q:Int)=(q:Int)%256:=by simp[IntKind.wrap,IntKind.bits,IntKind.signed]
      rw[this];omega
     have e3:IntKind.i64.wrap (q:Int)=(q:Int):=Qd5 _ (by omega) (by omega)
     have hht:=Jge hC5 hdr5 q (by omega)
     obtain⟨Hst5,Hht⟩:=hid2 hst5 hht
     clear hst5 hht hC5 hs5 Hcr HA Hs hl5 hdr5 hq c0
     go_wp2_with fail
     refine Hht.out.mono ?_
     rintro e w6 ⟨rfl,τ6,D6,hC6,hdr6,hs6⟩
     have hst6:=Hst5.out.trans hs6
     have d6:=hC6.own.at 0 (v:=.pointer (some ⟨bd,0,none⟩)) rfl
     have hop:=Jes hC6 (by omega) hdr6
     obtain⟨Hst6,Hop⟩:=hid2 hst6 hop
     clear hst6 hop hC6 hs6 Hht Hst5 d0 e1 e2 e3 hdr6
     go_wp2_with fail
     refine Hop.out.mono ?_
     rintro e w7 ⟨b2,τ7,L7,D7,rfl,hl7,hC7,-,hdr7,hs7⟩
     have hst7:=Hst6.out.trans hs7
     have d73:=hC7.own.at 3 (v:=.int .i64 (k:Int)) rfl
     have d74:=hC7.own.at 4 (v:=.slice (some ⟨bws,0,none⟩) N cap4) rfl
     have hdw:=(Step.refl w7 τ7 nil).drew
     have hnew:=Jff (hC7.step hdw) (hl7.step hdw (fun _ _ h=>h)) (by omega) hdr7 hk3 hk7
     obtain⟨Hst7,Hnew,HC7⟩:=hid3 hst7 hnew hC7
     clear hst7 hnew hC7 hl7 hs7 Hop Hst6 d6 hdw hdr7
     go_wp2_with fail
     go_region_held3 (fun w'=>w'.cell? ⟨bw,3,none⟩=some (.int .i64 (k:Int))∧w'.cell? ⟨bw,4,none⟩=some (.slice (some ⟨bws,0,none⟩) N cap4)) (go_keep) (first
      | (go_at_call 14
         refine Hnew.out.mono ?_
         rintro e w8 ⟨bq,bf8,τ8,H8,D8,rfl,-,-,-,-,hC8,-,hs8⟩
         have hst8:=(Hst7.out.trans ((Step.refl w7 τ7 nil).drew.mono (T:=AnyTag) (fun _ h=>h.elim))).trans hs8
         have i3:=hC8.own.at 3 (v:=.int .i64 (k:Int)) rfl
         have i4:=hC8.own.at 4 (v:=.slice (some ⟨bws,0,none⟩) N cap4) rfl
         obtain⟨HC8,Hst8⟩:=hid2 hC8 hst8
         clear hC8 hst8
         clear hs8))
     have d80:=HC8.out.own.at 0 (v:=.pointer (some ⟨bd,0,none⟩)) rfl
     have hcr:=Jfw HC8.out (a:=ga) (l:=gl) (len:=ng) (cap:=gc) Hng.out Hng2.out (FatesAt.step Hst8.out Hga.out Qhl)
     have Hcr:=Lib.hid hcr
     clear hcr HC8 HC7 Hst7 Hnew d73 d74 i3 i4
     go_wp2_with fail
     refine Hcr.out.mono ?_
     rintro e w9 ⟨rfl,τ9,D9,hC9,hlf9,hdr9,hs9⟩
     have hst9:=Hst8.out.trans hs9
     have d90:=hC9.own.at 0 (v:=.pointer (some ⟨bd,0,none⟩)) rfl
     have hop:=Jes hC9 (by omega) hdr9
     obtain⟨Hst9,Hop⟩:=hid2 hst9 hop
     clear hst9 hop hC9 hs9 Hcr Hst8 d80 hdr9
     go_wp2_with fail
     refine Hop.out.mono ?_
     rintro e w10 ⟨b3,τ10,L10,D10,rfl,hl10,hC10,hlf10,hdr10,hs10⟩
     have hst10:=Hst9.out.trans hs10
     have hlf:=hlf10 hlf9
     have d103:=hC10.own.at 3 (v:=.int .i64 (k:Int)) rfl
     have d104:=hC10.own.at 4 (v:=.slice (some ⟨bws,0,none⟩) N cap4) rfl
     have hdw:=(Step.refl w10 τ10 nil).drew
     have hnew:=Jff (hC10.step hdw) (hl10.step hdw (fun _ _ h=>h)) (by omega) hdr10 hk3 hk7
     obtain⟨Hst10,Hnew,Hlf⟩:=hid3 hst10 hnew hlf
     clear hst10 hnew hlf hl10 hs10 hC10 Hop Hst9 d90 hdw hdr10 hlf10 hlf9
     go_wp2_with fail
     go_region_held3 (fun w'=>w'.cell? ⟨bw,3,none⟩=some (.int .i64 (k:Int))∧w'.cell? ⟨bw,4,none⟩=some (.slice (some ⟨bws,0,none⟩) N cap4)) (go_keep) (first
      | (go_at_call 14
         refine Hnew.out.mono ?_
         rintro e w11 ⟨bq,bf11,τ11,H11,D11,rfl,hp11,hHl11,hHn11,hl11,hC11,hwh11,hs11⟩
         have hst11:=(Hst10.out.trans ((Step.refl w10 τ10 nil).drew.mono (T:=AnyTag) (fun _ h=>h.elim))).trans hs11
         have i3:=hC11.own.at 3 (v:=.int .i64 (k:Int)) rfl
         have i4:=hC11.own.at 4 (v:=.slice (some ⟨bws,0,none⟩) N cap4) rfl
         rw[←hHl11] at hl11
         have hen:=Jgo hC11 hp11 hl11 hHn11 hk3 hk7 (hwh11 Hlf.out)
         obtain⟨Hen,Hst11⟩:=hid2 hen hst11
         clear hen hst11
         clear hs11 hp11 hl11 hC11 hwh11 hHl11))
     obtain⟨cur11,hE⟩:=Hen.out
     have HE:=Lib.hid hE
     clear hE Hen Hst10 Hnew d103 d104 i3 i4 Hlf
     go_wp2_with fail
     go_loopw [23] (fun v wr=>∃(n:Nat) (τr:Tags) (F:List Fr) (s:Ck.Clk.St),n≤N∧v = .int .i64 (n:Int)∧EndT wr τr bw bd bl bp bq bf11 k N (.slice (some ⟨bws,0,none⟩) N cap4) vs H11 L10 D11 F s cur11∧Step w boxed wr τr AnyTag) (fun v _=>N-(intOf v).toNat)
     case atStart=>exact⟨0,τ11,_,_,Nat.zero_le _,rfl,HE.out,Hst11.out⟩
     case round =>
      clear HE Hst11
      obtain⟨n,τr,F,s,hn,rfl,hE,hS⟩:=hrel
      have c4:=hE.own.at 4 (v:=.slice (some ⟨bws,0,none⟩) N cap4) rfl
      by_cases hnN:n<N
      ·have hnI:(n:Int)<(N:Int):=by omega
       have hnw:=Qb1 n (by omega)
       have hget:=Jgp hE n hnN
       obtain⟨ver,hver⟩:∃ver,vs[n]?=some ver:=⟨_,List.getElem?_eq_getElem (by rw[hE.vlen];exact hnN)⟩
       have hcv:=hE.cv n hnN
       unfold verOf at hcv
       rw[List.getD_eq_getElem?_getD,hver,Option.getD_some] at hcv
       obtain⟨Hget,HS,Hver,Hcv⟩:=hid4 hget hS hver hcv
       clear hget hS hver hcv hE
       go_wp2_with fail
       refine Hget.out.mono ?_
       rintro e w12 ⟨b12,rfl,τ12,F12,i12,f12,hs12,hput⟩
       have hst12:=HS.out.trans hs12
       obtain⟨Hst12,Hput⟩:=hid2 hst12 hput
       clear hst12 hput hs12 Hget HS c4
       go_wp2_with fail
       refine Hput.out.mono ?_
       rintro e w13 ⟨rfl,s13,hE13,hI13,hs13⟩
       have hst13:=Hst12.out.trans hs13
       have hE13':=Lib.hid hE13
       obtain⟨Hst13,HI13⟩:=hid2 hst13 hI13
       clear hst13 hI13 hs13 Hput Hst12 hE13
       go_wp2_with fail
       go_loopw [26,27] (fun fb v wr=>∃(r:Bool) (j:Nat) (τj:Tags),fb = .bool r∧v = .int .i64 (j:Int)∧j≤ver.length∧(r=true∨∀x,x<j→ver.getD x []≠cur11 n)∧EndT wr τj bw bd bl bp bq bf11 k N (.slice (some ⟨bws,0,none⟩) N cap4) vs H11 L10 D11 F12 s13 cur11∧Step w boxed wr τj AnyTag) (fun _ v _=>ver.length-(intOf v).toNat)
       case atStart=>exact⟨false,0,τ12,rfl,rfl,Nat.zero_le _,.inr (fun x hx=>by omega),hE13'.out,Hst13.out⟩
       case round =>
        clear hE13' Hst13
        obtain⟨r,j,τj,rfl,rfl,hj,hrj,hE,hS⟩:=hrel
        have c4:=hE.own.at 4 (v:=.slice (some ⟨bws,0,none⟩) N cap4) rfl
        obtain⟨bx,capx,u,hwx,-,h5x,h6x,h1x,-,hnv⟩:=hE.was.at Hver.out
        rw[hE.vlen] at hwx h5x
        cases hwx
        have hNcap:(N:Int)≤(cap4:Int):=by omega
        obtain⟨pv,cv,rfl,hvm,hrd⟩:=hnv.read
        by_cases hjv:j<ver.length
        ·obtain⟨bv,uj,rfl,hcj,hbj⟩:=hrd j hjv
         obtain⟨pj,cj,rfl,-,-⟩:=hbj.any
         obtain⟨nv,hnv2⟩:∃x,ver.length=x:=⟨_,rfl⟩
         rw[hnv2] at hjv hvm h1x
         have hjI:(j:Int)<(nv:Int):=by omega
         have hjw:IntKind.i64.wrap ((j:Int)+1)=(j:Int)+1:=Qd6 (by omega) (by unfold maxLen at hvm;omega)
         have hP:=hE.page HI13.out
         have h448:(cur11 n).length=448:=hP.len
         have hnI':(n:Int)<(N:Int):=by omega
         obtain⟨vj,hvj⟩:∃x,ver.getD j []=x:=⟨_,rfl⟩
         rw[hvj] at hcj hbj
         obtain⟨mj,hmj⟩:∃x,vj.length=x:=⟨_,rfl⟩
         rw[hmj] at hcj
         cases r with
         | true =>
           obtain⟨HE,HS,Hbj,HP⟩:=hid4 hE hS hbj hP
           clear hE hS hbj hP hrd hnv
           go_wp2_with fail
           go_quiet (fail)
           go_wp2_with fail
           go_round
           case rel=>exact⟨true,j+1,τj,rfl,by simp,by omega,.inl rfl,HE.out.step ((Step.refl _ τj nil).drews nq),HS.out.trans (((Step.refl _ τj nil).drews nq).mono (fun _ h=>h.elim))⟩
           case measure=>simp[intOf];omega
         | false =>
           have hdw:=(Step.refl wr τj nil).drew
           have hby:=Qhy (hP.step hdw (fun h=>h)) tData
           obtain⟨HE,HS,Hbj,HP,Hby⟩:=hid5 hE hS hbj hP hby
           clear hE hS hbj hP hby hrd hnv
           go_wp2_with fail
           go_region_held3 (fun w'=>w'.cell? ⟨bw,4,none⟩=some (.slice (some ⟨bws,0,none⟩) N cap4)∧w'.cell? ⟨bws,n,none⟩=some (.slice (some ⟨bv,0,none⟩) nv cv)∧w'.cell? ⟨bv,j,none⟩=some (.slice pj mj cj)) (go_keep) (first
            | (go_at_call 18
               refine Hby.out.mono ?_
               rintro e w14 ⟨u14,τ14,rfl,hn14,hs14⟩
               have hq14:=hdw.trans hs14
               have hb14:=Hbj.out.step hq14 (fun h=>h)
               have hsb:=Qng hn14.bytes hb14
               rw[hmj] at hsb
               obtain⟨p14,c14,rfl⟩:=hn14.val
               rw[h448] at hsb
               have hE14:=HE.out.step hq14
               have hst14:=HS.out.trans (hq14.mono (T:=AnyTag) (fun _ h=>h.elim))
               have f4:=hE14.own.at 4 (v:=.slice (some ⟨bws,0,none⟩) N cap4) rfl
               have f5:=cell_kept hq14 h1x (fun h=>h)
               have f6:=cell_kept hq14 hcj (fun h=>h)
               obtain⟨Hsb,HE14,Hst14⟩:=hid3 hsb hE14 hst14
               clear hsb hE14 hst14
               clear hn14 hs14 hq14 hb14)
            | (go_at_call 17
               refine Hsb.out.mono ?_
               rintro e w15 ⟨rfl,rfl⟩))
           go_wp2_with fail
           go_round
           case rel =>
            refine⟨decide (cur11 n=vj),j+1,τ14,rfl,by simp,by omega,?_,HE14.out,Hst14.out⟩
            by_cases heq:cur11 n=vj
            ·left;simpa using heq
            ·right
             intro x hx
             by_cases hxj:x=j
             ·subst hxj;rw[hvj];exact fun h=>heq h.symm
             ·rcases hrj with h|h
              ·cases h
              ·exact h x (by omega)
           case measure=>simp[intOf];omega
        ·obtain rfl:j=ver.length:=by omega
         have hrt:r=true:=by
          rcases hrj with h|h
          ·exact h
          ·exfalso
           obtain⟨x,hx,hxe⟩:=List.mem_iff_getElem.1 Hcv.out
           exact h x hx (by rw[List.getD_eq_getElem?_getD,List.getElem?_eq_getElem hx];exact hxe)
         subst hrt
         obtain⟨HE,HS⟩:=hid2 hE hS
         clear hE hS hrd hnv
         go_wp2_with fail
         go_round
         case rel=>exact⟨n+1,τj,_,_,by omega,by simp,HE.out,HS.out⟩
         case measure=>simp[intOf];omega
      ·obtain rfl:n=N:=by omega
       obtain⟨HE,HS⟩:=hid2 hE hS
       clear hE hS
       go_wp2_with fail
       go_ret
       exact⟨rfl,Jeo HS.out⟩)
end Go.Proofs.YtemacanaihaldaaGreat