/- Part K34 of a proof of statements of chapter 15 (no condition). -/
import Derived.Test.YthpgjkjgkhjjlaaGreatDoorK31
import Derived.Test.YthpgjkjgkhjjlaaGreatDoorK30
import Derived.Test.YthpgjkjgkhjjlaaGreatDoorK32
set_option linter.unusedVariables false
set_option linter.unusedSimpArgs false
set_option maxRecDepth 100000
set_option maxHeartbeats 64000000
namespace Go.Proofs.YthpgjkjgkhjjlaaGreatDoor
open Go.RowKit Go.Proofs.Tryz
section
variable {P:Program} {o:Oper} {s:Mst} {α:Type} {E:El α}
theorem vj {w:World} {base:Nat} {e:TypeId} {n N m cap:Nat} {A:Option Addr} {xs:List Value} (h:w.ownsRow base e n (.slice A N cap) N xs) (hm:m<=N) (h0:0<N):w.ownsRow base e n (.slice A m cap) m (xs.take (m*n)):=by
 obtain ⟨h1,h2⟩:=h;have hmn:m*n<=N*n:=Nat.mul_le_mul_right n hm;refine ⟨by rw [List.length_take,h1];omega,.inr ?_⟩;rcases h2 with ⟨_,hN⟩|⟨g,cap',cur,hv,hb,hh,hc,hcm,hcs,ht⟩
 ·omega
 ·injection hv with e1 _ e3;subst e1;subst e3;exact ⟨g,cap,cur,rfl,hb,hh,by omega,hcm,hcs,by rw [<-ht,List.take_take,Nat.min_eq_left hmn]⟩
end
section
open Go.Lib
def KA:Value:=.agg #[.int .i64 0,.int .i64 0,.int .i64 0,.int .i64 0,.slice none 0 0,.slice none 0 0,.bool false,.int .i64 0,.string ⟨#[]⟩,.int .i64 0,.int .i64 0,.slice none 0 0,.int .i64 0,.int .i64 0,.int .i64 0,.int .i64 0]
theorem Gh {n cap i g:Nat} {xs:List Value} (w:World) (ho:w.ownsRow 0 82 16 (.slice (some ⟨g,0,none⟩) n cap) n xs) (hone:∀u∈xs,u.oneCell'=true) (hi:i<n) (hn:n<=100000) :
  Calls prog 146 #[.slice (some ⟨g,0,none⟩) n cap,.int .i64 i,.int .i64 ((i+1:Nat):Int)] w fun e w'=>e = .returned (.slice (some ⟨g,0,none⟩) (n-1) cap)/\Frx w w' (fun b=>b=g)/\w'.ownsRow 0 82 16 (.slice (some ⟨g,0,none⟩) (n-1) cap) (n-1) (xs.take (i*16)++xs.drop ((i+1)*16)):=by
 obtain ⟨_,_,_,hnc,hcm,hgw⟩:=m7 ho;have hinfo:(prog.info? 82).map (fun i=>(i.zero,i.size,i.bytes))=some (some KA,16,184):=by kernel_rfl
 have hxl:=pU ho;obtain ⟨news,hnews⟩:∃news,news=xs.drop ((i+1)*16):=⟨_,rfl⟩;have hlen:news.length=(n-(i+1))*16:=by rw [hnews,List.length_drop,hxl,Nat.sub_mul]
 obtain ⟨A,hA,hsrc⟩:∃A:Addr,(if cap=i+1 then some (⟨g,0,none⟩:Addr) else some ⟨g,(i+1)*16,none⟩)=some A/\Hid (∀t u,news[t]? = some u->w.drew.cell? (A.add t)=some u):=by
  by_cases h:cap=i+1
  ·refine ⟨⟨g,0,none⟩,by simp [h],fun t u hu=>?_⟩;have h0:news.length=0:=by rw [hlen];omega
   rw [List.length_eq_zero_iff.1 h0] at hu;simp at hu
  ·refine ⟨⟨g,(i+1)*16,none⟩,by simp [h],fun t u hu=>?_⟩;rw [hnews,List.getElem?_drop] at hu;rw [Addr.add_lit];exact pT ho hu
 have s1:Hid (news.length=(n-(i+1))*16):=hlen;have s2:Hid (∀u∈news,u.oneCell'=true):=fun u hu=>hone u (List.mem_of_mem_drop (hnews▸hu));have s3:Hid (∀t,t<news.length->(w.drew.cell? ⟨g,0+i*16+t,none⟩).isSome=true/\w.drew.frozen? ⟨g,0+i*16+t,none⟩=false):=by
  intro t ht;rw [hlen] at ht;rw [Nat.zero_add];exact eG ho (j:=i*16+t) (by omega)
 obtain ⟨W1,hW1⟩:∃W1,W1=w.drew.setCells g (0+i*16) news:=⟨_,rfl⟩;have hod:w.drew.ownsRow 0 82 16 (.slice (some ⟨g,0,none⟩) n cap) n xs:=ho;have hW1':W1.ownsRow 0 82 16 (.slice (some ⟨g,0,none⟩) n cap) n (xs.take (i*16)++news++xs.drop (i*16+news.length)):=by
  rw [hW1,Nat.zero_add];exact yA hod news (by rw [hlen,hxl];omega)
 have hW1c:W1.ownsRow 0 82 16 (.slice (some ⟨g,0,none⟩) (n-1) cap) (n-1) (xs.take (i*16)++news):=by
  have h:=vj hW1' (m:=n-1) (by omega) (by omega);rw [List.take_left' (by rw [List.length_append,List.length_take,hlen,hxl];omega)] at h;exact h
 obtain ⟨vs,hcl⟩:=mq (P:=prog) W1 30 82 KA underlying30 (fun w=>by kernel_rfl) (by intro u hu;simp [Value.cells,KA] at hu;rcases hu with rfl|rfl|rfl|rfl|rfl|rfl|rfl|rfl|rfl|rfl|rfl|rfl|rfl|rfl|rfl|rfl <;> rfl) (by decide) g ((i+(n-(i+1)))*16) (n-(i+(n-(i+1)))) (cap-(i+(n-(i+1)))) (by omega) (fun j hj=>by
  have hj':j<(n-(i+(n-(i+1))))*16:=hj;exact eG hW1' (by omega))
 have hfin:Hid (Frx w (W1.setCells g ((i+(n-(i+1)))*16) vs) (fun b=>b=g)/\(W1.setCells g ((i+(n-(i+1)))*16) vs).ownsRow 0 82 16 (.slice (some ⟨g,0,none⟩) (n-1) cap) (n-1) (xs.take (i*16)++news)):=by
  refine ⟨?_,mK vs _ W1 _ hW1c (by rw [List.length_append,List.length_take,hlen,hxl];omega)⟩;have h1:Frx w W1 fun b=>b=g:=by rw [hW1];exact (Frx.trans (Frx.drew (Frx.refl w _)) (jd w.drew g _ news))
  exact h1.trans (jd W1 g _ vs)
 obtain ⟨i0,hi0,hz0,hz1,hz2⟩:=info_parts hinfo;have hW:Hid (W1=w.drew.setCells g (0+i*16) news):=hW1;have hic:i<=cap:=by omega
 have hjc:i+1<=cap:=by omega
 have mixed:prog.follows .mixedOrders=true:=by kernel_rfl
 have hb1:(0:Int)<=(i:Int)+1:=by omega
 have hb2:(i:Int)+1<=(n:Int):=by omega
 rw [<-hnews];clear hW1 hW1' hW1c hod ho hone hnews hlen hxl
 go_enter func146,ntmps146
 go_wp2_with fail
 go_region_law_o (refine step_append_room rfl (.tmp 22) (.tmp 25) 30 rfl 82 i0 16 underlying30 hi0 hz1 g 0 i cap (by simp [Act.eval,Act.put]) A (n-(i+1)) (cap-(i+1)) news (by simp [Act.eval,Act.put]) s1.out hsrc.out s2.out (by omega) s3.out ?_;rw [<-hW.out])
 go_wp2
 go_ret
 exact ⟨by rw [show n-1=i+(n-(i+1)) by omega];rfl,hfin.out⟩
theorem Oh (d:Nat) (l:List Pc) (i:Nat) (hl:l.length<=100000) (hi:i<l.length) {L:List Pc} (hL:l.eraseIdx i=L):FSpec prog 146 [.one (.own 1),.one (.sc (.int .i64 (i:Int))),.one (.sc (.int .i64 ((i:Int)+1)))] [(1,.arr 82 (fR d) l)] [2] (.c (.own 2)) [(2,some (.arr 82 (fR d) L)),(1,none)] :=
 AU (hb:=[]) (fun b W=>by kernel_rfl) rfl fun w F ρ vs xs ho hr hF ha _=>by
  match vs,ha with
  | [_,_],⟨h2,h3,_⟩ =>
   obtain rfl:=h2;obtain rfl:=h3;obtain ⟨g,cap,hv⟩:∃g cap,ρ 1 = .slice (some ⟨g,0,none⟩) l.length cap:=by
    rcases ho.2 with ⟨_,hz⟩|⟨g,cap,cur,hv,_⟩
    ·omega
    ·exact ⟨g,cap,hv⟩
   rw [hv] at ho hF ⊢;have hlt:=(m7 ho).choose_spec.2.2.2.2;refine Calls.mono (Gh w ho hr.one hi hl) ?_;rintro e w' ⟨rfl,hf,ho'⟩;have hLl:L.length=l.length-1:=by rw [<-hL,List.length_eraseIdx,if_pos hi]
   refine ⟨_,_,rfl,⟨hf.os,hf.tape,hf.output,hf.size,fun b hb hn=>hf.keep b hb fun e=>hn (by rw [e];rfl)⟩,fun g' hg'=>?_,by rw [hLl];exact ho',fun F' hF'=>?_⟩
   ·injection hg' with hg';subst hg';exact ⟨Nat.lt_of_lt_of_le hlt hf.size,.inr rfl⟩
   ·rw [<-hL,List.eraseIdx_eq_take_drop_succ];exact ((hr.take i).append (hr.drop (i+1))).same (fun b hb=>(hF' b hb).2) fun b hb=>(hF' b hb).1
end
theorem CD (w:Wk) (i:Nat):(ai w i).c.procs.length=w.c.procs.length:=by unfold ai dO;rw [iP,dL]
def OS (w:Wk):Wk:=aZ (ai (w.note 4 (w.pc (cA w).toNat).proc) (cA w).toNat) (cA w).toNat
def TkOk:Nat->Wk->Prop
 | 0,w=>w.c.procs.length<=100000/\RQ w.c.procs/\cA w<0
 | n+1,w=>w.c.procs.length<=100000/\RQ w.c.procs/\(0<=cA w->w.ev.length<=900000/\(cA w).toNat<w.c.procs.length/\
   Gy (w.pc (cA w).toNat) (bJ (w.pc (cA w).toNat).req.expr) (w.note 4 (w.pc (cA w).toNat).proc)/\StOk (OS w).c.procs.length (OS w)/\TkOk n (aK (OS w).c.procs.length (OS w)))
theorem TkOk.len {n:Nat} {v:Wk} (h:TkOk n v):v.c.procs.length<=100000/\RQ v.c.procs:=by cases n <;> exact ⟨h.1,h.2.1⟩
theorem ma (n:Nat) (w:Wk):cI (n+1) w=bif decide (cA w<0) then w else cI n (aK (OS w).c.procs.length (OS w)):=rfl
def Ny (w:Wk) (n:Int):Wk:=⟨{ w.c with now:=w.c.now+n },w.ev⟩
theorem Iv (w:Wk) (n:Int):gi w n=bif !(decide (0<=n) && decide (n<=1000)) then (w,1) else bif decide (1073741824-n<w.c.now) then (w,16) else (cI w.c.procs.length (Ny w n),0):=rfl
theorem SD (d:Nat) (w:Wk) (n:Int) (h0 : -1000000000000<=w.c.now) (hok:0<=n->n<=1000->w.c.now<=1073741824-n->TkOk w.c.procs.length (Ny w n)) {Z:Wk×Int} (hZ:gi w n=Z):FSpec prog 90 [go,lw n] (HI d w) [3,4] (.i Z.2) (HO d Z.1):=by
 refine a7 func90 ?_;rw [Iv] at hZ;by_cases h1:0<=n/\n<=1000
 case neg =>
  obtain rfl:Z=(w,1):=by
   rw [<-hZ,show (decide (0<=n) && decide (n<=1000))=false by rw [Bool.and_eq_false_iff];simp;omega];rfl
  repeat' (first|refine av ?_ ?_|refine aq ?_|exact aw|refine ap fun hb=>?_|(refine cc (qf [(3,1),(4,2)]) ?_;exact af))
 obtain ⟨h1,h2⟩:=h1;rw [qDt h1,qDt h2] at hZ;by_cases h3:1073741824-n<w.c.now
 ·obtain rfl:Z=(w,16):=by rw [<-hZ,qDt h3];rfl
  refine ao ?_
  (refine cc (qf [(3,1),(4,2)]) ?_;exact af)
 ·obtain ⟨V,hV⟩:=qGe (Ny w n);have hk:=hok h1 h2 (by omega);obtain ⟨W,hW⟩:=qGe (cI w.c.procs.length (Ny w n));obtain rfl:Z=(W,0):=by rw [<-hZ,qDf h3,hW];rfl
  obtain ⟨k1,k2⟩:=hk.len;repeat' (first|refine av ?_ ?_|refine aa 9 rfl (cH (qf [(1,1),(2,2),(3,1003),(4,1004)]) (EL d (Ny w n) k1 k2) ?_)|refine aq ?_|exact aw|refine ap fun hb=>?_)
  refine ab (fun y:Nat×Wk=>TkOk y.1 y.2/\cI y.1 y.2=W) (fun y=>bP [0,1,2,1010,1011] [(0,.v go),(5,.i (cA y.2))] [(0,.box 113 (KB y.2 1010 1011)),(1010,.arr 82 (fR d) y.2.c.procs),(1011,.arr 68 fX y.2.ev)]) (fun y=>y.1) (w.c.procs.length,Ny w n) ⟨hk,hW⟩ (by exact bo (qf [(1010,1003),(1011,1004)])) ?_;clear hk hW hok hV k1 k2 hZ;rintro ⟨m,v⟩ ⟨hv,hs⟩;dsimp only at *
  obtain ⟨e,he⟩:=qGe (cA v);by_cases hneg:e<0
  ·obtain rfl:v=W:=by
    rw [<-hs];cases m with
    | zero=>rfl
    | succ m=>rw [ma,he,qDt hneg];rfl
   rw [he];refine ao ?_
   (refine cc (qf [(3,1010),(4,1011)]) ?_;exact af)
  ·cases m with
   | zero=>exact absurd (he▸hv.2.2) hneg
   | succ m =>
    obtain ⟨_,_,hall⟩:=hv;rw [ma,he,qDf hneg,qCf] at hs;unfold OS at hall hs;rw [he] at hall hs ⊢;obtain ⟨u1,u2,u3,u4,u5⟩:=hall (by omega);obtain ⟨i,hi⟩:∃i:Nat,e=(i:Int):=⟨e.toNat,by omega⟩;subst hi;simp only [Int.toNat_natCast] at u2 u3 u4 u5 hs;obtain ⟨x,hx⟩:∃x,v.c.procs[i]? = some x:=⟨_,qGg u2⟩;have hpc:=eI hx;rw [hpc] at u3 u4 u5 hs;obtain ⟨N0,hN⟩:=qGe (v.note 4 x.proc);have kN:=Mi d v 4 x.proc (by omega);have hNp:N0.c.procs=v.c.procs:=by rw [<-hN];rfl
    rw [hN] at u3 u4 u5 hs kN;have hNc:N0.pc i=x:=by unfold Wk.pc;rw [hNp];exact hpc
    have kW:=sH d N0 i (by rw [hNp];exact u2) (by rw [hNc];exact u3) (by rw [dL,hNp];exact u2);have kX:=o9 d (ai N0 i) i (by rw [CD,hNp];exact u2);obtain ⟨y,hy⟩:=qGe (aZ (ai N0 i) i);rw [hy] at u4 u5 hs kX;have kS:=oh d y _ u4;obtain ⟨F,hF⟩:=qGe (aK y.c.procs.length y);rw [hF] at kS u5 hs;obtain ⟨f1,f2⟩:=u5.len;clear hy hF u4 u3 hNc hall hN hNp;repeat' (first|refine av ?_ ?_|(refine aa 9 rfl ?_;first|(refine cH (qf [(1,1010),(2,1011),(3,1020),(4,1021)]) kN ?_)|(refine cH (qf [(1,1020),(2,1021),(3,1030),(4,1031)]) kW ?_)|(refine cH (qf [(1,1030),(2,1031),(3,1040),(4,1041)]) kX ?_)|(refine cH (qf [(1,1040),(2,1041),(3,1050),(4,1051)]) kS ?_)|(refine cH (qf [(1,1050),(2,1051),(3,1060),(4,1061)]) (EL d F f1 f2) ?_))|refine aq ?_|exact aw|refine ap fun hb=>?_)
    refine ⟨(m,F),⟨u5,hs⟩,by dsimp only;omega,?_⟩;exact bo (qf [(1010,1060),(1011,1061)])
theorem jS (w:Wk) (t:List Qu) (ev:List Ev):(w.take t ev).ev.length=w.ev.length+ev.length:=List.length_append
theorem My (w:Wk) (p:Pr) (n:ByteArray):(eT w p n).ev.length<=w.ev.length+17:=by
 unfold eT fv;cases (aj (bf w.c.queues n) p).isSome with
 | false=>simp
 | true=>rw [qCt,jS];have:=nl w.c.queues p n;omega
theorem ql (w:Wk) (p:Pr) (n:ByteArray) (l:Am):(bZ w p n l).ev.length<=w.ev.length+18:=by
 unfold bZ dI;cases decide (ah (bf w.c.queues n).holds p=l) with
 | true=>simp
 | false=>rw [qCf,jS];have:=fH w.c.queues p ⟨n,l⟩;omega
theorem lp (w:Wk) (x:Pc) (n:ByteArray):(bH w x n).ev.length<=w.ev.length+35:=by
 unfold bH;have h1:=My w x.proc n;have h2:=ql (eT w x.proc n) x.proc n (aC x.led.entries n);omega
theorem Bj (x:Pc):∀(l:List Tm) (w:Wk),(cS x l w).ev.length<=w.ev.length+35*l.length
 | [],w=>by simp [cS]
 | a :: l,w=>by
  have h1:=lp w x a.name;have h2:=Bj x l (bH w x a.name);show (cS x l (bH w x a.name)).ev.length<=_;rw [List.length_cons];omega
theorem Iw (w:Wk) (i:Nat) (p:Pr) (n:ByteArray):(gy w i p n).ev=w.ev:=by
 unfold gy;cases decide (ah (bf w.c.queues n).holds p=aC (w.pc i).led.entries n) <;> rfl
theorem Mz (w:Wk) (i:Nat) (p:Pr) (n:ByteArray):(gy w i p n).c.procs.length=w.c.procs.length:=by
 unfold gy;cases decide (ah (bf w.c.queues n).holds p=aC (w.pc i).led.entries n)
 ·exact iP _ _ _
 ·rfl
theorem qm (x:Pc) (i:Nat):∀(l:List Tm) (bs:List Bool) (w:Wk),(bO x i l bs w).ev.length<=w.ev.length+35*l.length/\(bO x i l bs w).c.procs.length=w.c.procs.length
 | [],bs,w=>by cases bs <;> exact ⟨by simp [bO],rfl⟩
 | a :: l,[],w=>⟨by simp [bO],rfl⟩
 | a :: l,b :: bs,w=>by
  have h2:=qm x i l bs (bif b then gy w i x.proc a.name else bH w x a.name);have h3:(bif b then gy w i x.proc a.name else bH w x a.name).ev.length<=w.ev.length+35/\(bif b then gy w i x.proc a.name else bH w x a.name).c.procs.length=w.c.procs.length:=by
   cases b with
   | true=>exact ⟨by rw [qCt,Iw];omega,Mz _ _ _ _⟩
   | false=>exact ⟨lp w x a.name,congrArg List.length (ny w x a.name)⟩
  show (bO x i l bs (bif b then gy w i x.proc a.name else bH w x a.name)).ev.length<=_/\(bO x i l bs (bif b then gy w i x.proc a.name else bH w x a.name)).c.procs.length=_;rw [List.length_cons];omega
theorem g6 (w:Wk) (k:Int) (p:Pr):(w.note k p).ev.length=w.ev.length+1:=by unfold Wk.note;simp
theorem CE (w:Wk) (i:Nat):(eJ w i).ev.length<=w.ev.length+281:=by
 have h1:=(qm (w.pc i) i (bJ (w.pc i).req.expr) (bz (w.pc i).req.expr (bk w.c.queues (w.pc i).proc (w.pc i).req.expr)) (w.note 2 (w.pc i).proc)).1;rw [g6] at h1;have h2:=cD (w.pc i).req.expr;show (bO (w.pc i) i (bJ (w.pc i).req.expr) (bz (w.pc i).req.expr (bk w.c.queues (w.pc i).proc (w.pc i).req.expr)) (w.note 2 (w.pc i).proc)).ev.length<=_;omega
theorem yW:∀(n:Nat) (w:Wk),(aK n w).ev.length<=w.ev.length+281*n
 | 0,w=>by simp [aK]
 | n+1,w=>by
  unfold aK;cases dF w.c.queues 0 w.c.procs with
  | none=>dsimp only;omega
  | some i =>
   have h1:=CE w i;have h2:=yW n (eJ w i);dsimp only;omega
theorem dM (w:Wk) (i:Nat):(ai w i).ev.length<=w.ev.length+280:=by
 have h1:=Bj (w.pc i) (bJ (w.pc i).req.expr) w;have h2:=cD (w.pc i).req.expr;show (cS (w.pc i) (bJ (w.pc i).req.expr) w).ev.length<=_;omega
theorem md (p:Pr) (prio:Int):∀(l:List Tm) (w:Wk),(cO p prio l w).ev.length<=w.ev.length+18*l.length
 | [],w=>by simp [cO]
 | a :: l,w=>by
  have h1:=mb w.c.queues p a prio;have h2:=md p prio l (w.take (bt w.c.queues p a prio).1 (bt w.c.queues p a prio).2.1);rw [jS] at h2;show (cO p prio l (w.take (bt w.c.queues p a prio).1 (bt w.c.queues p a prio).2.1)).ev.length<=_;rw [List.length_cons];omega
theorem me (p:Pr):∀(l:List Tm) (w:Wk),(bU p l w).ev.length<=w.ev.length+18*l.length
 | [],w=>by simp [bU]
 | a :: l,w=>by
  have h1:=ql w p a.name a.am;have h2:=me p l (bZ w p a.name a.am);show (bU p l (bZ w p a.name a.am)).ev.length<=_;rw [List.length_cons];omega
theorem DrT.ok {x:Pc}:∀{l:List Tm} {w:Wk},DrT x l w->w.ev.length+35*l.length<=900000->Gy x l w
 | [],_,_,_=>trivial
 | a :: l,w,h,he=>by
  rw [List.length_cons] at he;have h1:=lp w x a.name;exact ⟨h.1,h.2.1,by omega,h.2.2.ok (by omega)⟩
theorem FinT.ok {x:Pc} {i:Nat}:∀{l:List Tm} {bs:List Bool} {w:Wk},FinT x i l bs w->w.ev.length+35*l.length<=900000->Ip x i l bs w
 | [],bs,_,_,_=>by cases bs <;> trivial
 | a :: l,[],_,_,_=>trivial
 | a :: l,b :: bs,w,h,he=>by
  rw [List.length_cons] at he;have h3:(bif b then gy w i x.proc a.name else bH w x a.name).ev.length<=w.ev.length+35:=by
   cases b with
   | true=>rw [qCt,Iw];omega
   | false=>exact lp w x a.name
  exact ⟨h.1,h.2.1,by omega,h.2.2.1,h.2.2.2.ok (by omega)⟩
theorem LwT.ok {p:Pr}:∀{l:List Tm} {w:Wk},LwT p l w->w.ev.length+18*l.length<=900000->CC p l w
 | [],_,_,_=>trivial
 | a :: l,w,h,he=>by
  rw [List.length_cons] at he;have h1:=ql w p a.name a.am;exact ⟨h.1,by omega,h.2.ok (by omega)⟩
theorem SK {p:Pr} {prio:Int}:∀{l:List Tm} {w:Wk},w.ev.length+18*l.length<=900000->OT p prio l w
 | [],_,_=>trivial
 | a :: l,w,he=>by
  rw [List.length_cons] at he;have h1:=mb w.c.queues p a prio;exact ⟨by omega,SK (by rw [jS];omega)⟩
theorem SL:∀(n:Nat) (w:Wk),CI w.c->ct w.c.procs<=n->w.ev.length+281*n<=800000->StOk n w
 | 0,w,h,hn,_=>by
  refine ⟨by have:=h.len;omega,?_⟩;cases hs:dF w.c.queues 0 w.c.procs with
  | none=>rfl
  | some i =>
   obtain ⟨j,hj,_,h2⟩:=gA hs;unfold dU at h2;rw [qBa] at h2;have:=jo hj h2.1;omega
 | n+1,w,h,hn,he=>by
  refine ⟨by have:=h.len;omega,by omega,fun i hs=>?_⟩;obtain ⟨j,hj,e,h2⟩:=gA hs;have e':i=j:=by omega
  subst e';have hwt:(w.pc i).waiting=true:=by
   rw [bh hj];unfold dU at h2;rw [qBa] at h2;exact h2.1
  obtain ⟨k1,k2,_,_,_,_,_,_,k9⟩:=Cv h hj hwt;have h8:=cD (w.pc i).req.expr;have hfe:=CE w i;refine ⟨hj,?_,k9.ok (by rw [g6];omega),SL n (eJ w i) k1 (by omega) (by omega)⟩;show i<(bO (w.pc i) i (bJ (w.pc i).req.expr) (bz (w.pc i).req.expr (bk w.c.queues (w.pc i).proc (w.pc i).req.expr)) (w.note 2 (w.pc i).proc)).c.procs.length;rw [(qm _ _ _ _ _).2];exact hj
theorem Bk {w:Wk} (h:CI w.c) (he:w.ev.length<=700000):StOk w.c.procs.length w:=SL _ _ h (gj _) (by have:=h.len;omega)
theorem sJ {w:Wk} (h:CI w.c):(aK w.c.procs.length w).ev.length<=w.ev.length+2248:=by
 have:=yW w.c.procs.length w;have:=h.len;omega
theorem Tn {c:Cs} (h:CI c):RQ c.procs:=fun x hx=>by
 have hi:=h.inv x hx;have hn:=h.now;cases hw:x.waiting with
 | false =>
  obtain ⟨h1,h2,_⟩:=hi.run hw;rw [h1,h2];simp [Rq.zero]
 | true =>
  obtain ⟨h1,_⟩:=hi.wat hw;have h2:=h1.rq;have h3:=h1.sn;unfold m6 at h2;simp only [qBa,decide_eq_true_eq] at h2;omega
theorem SM {w:Wk} {i:Nat} {n:ByteArray} (h:CI w.c) (hi:i<w.c.procs.length) (he:w.ev.length<=600000):PO w i n:=by
 refine ⟨hi,by omega,fun hw h0=>Bk (jQ h hi hw h0).1 ?_⟩;have:=fH w.c.queues (w.pc i).proc ⟨n,⟨0,0⟩⟩;show (w.take (bD w.c.queues (w.pc i).proc ⟨n,⟨0,0⟩⟩).1 (bD w.c.queues (w.pc i).proc ⟨n,⟨0,0⟩⟩).2.1).ev.length<=_;rw [jS];omega
theorem Bl {g:Lg} (h:Ld g) (n:Int):(cQ g n).2.1.length<=1000:=by
 unfold cQ;rw [eK.2 h,Bool.not_true,qCf];cases (!decide (n=0) && decide (bb n 0 g.saves<0)) with
 | true=>simp
 | false =>
  rw [qCf];dsimp only;rw [List.length_map];have:=n4 (lR (gx (g.entries.drop (cN g n).entries.length))) (m:=cg g.entries) fun x hx=>by
   obtain ⟨e,he,hn⟩:=dY.1 hx;exact dY.2 ⟨e,List.mem_of_mem_drop he,hn⟩
  have:=h.nms;omega
theorem qn (p:Pr):∀t:List Qu,(∀q∈t,ay q=true)->(aM p t).2.length<=18*t.length
 | [],_=>by simp [aM]
 | q :: l,h=>by
  have ih:=qn p l fun x hx=>h x (by simp [hx]);have h1:=ng (h q (by simp)) p;have e:aM p (q :: l)=bif !fd q p then (q :: (aM p l).1,(aM p l).2) else
   ((aU q p).1 :: (aM p l).1,(bif aR (ah q.holds p) then [] else [⟨3,p,q.res.name,⟨0,0⟩⟩])++aJ (aU q p).1.res.name (aU q p).2.1++(aM p l).2):=rfl
  rw [e,List.length_cons];cases (!fd q p) with
  | true=>rw [qCt];dsimp only;omega
  | false =>
   rw [qCf];cases aR (ah q.holds p) <;> simp [iL] <;> omega
theorem nE (t:List Qu) (p:Pr):(bS t p).2.length<=144:=by
 unfold bS;cases hv:di t with
 | false=>simp
 | true =>
  have:=qn p t fun q hq=>cP hv hq;have:=(bi hv).1;rw [Bool.not_true,qCf];omega
theorem SN {w:Wk} {i:Nat} {n:Int} (h:CI w.c) (hi:i<w.c.procs.length) (he:w.ev.length<=600000):PP w i n:=by
 refine ⟨hi,fun hu=>?_⟩;obtain ⟨h1,h2,_⟩:=je h hi hu;have h8:=cD (w.pc i).req.expr;have hA:(jI w i).ev.length<=w.ev.length+280:=by
  unfold jI;cases (w.pc i).waiting with
  | false=>rw [qCf];omega
  | true=>exact dM w i
 have hB:(pf w i n).ev.length<=w.ev.length+280:=hA;have hinv:=h.inv _ (List.getElem_mem hi);rw [<-bh hi] at hinv;have hl:=Bl hinv.stat.led n;have hS:(nu w i n).ev.length<=w.ev.length+280+18*(cQ (w.pc i).led n).2.1.length:=by
  have:=me (w.pc i).proc (cQ (w.pc i).led n).2.1 (pf w i n);show (bU (w.pc i).proc (cQ (w.pc i).led n).2.1 (pf w i n)).ev.length<=_;omega
 exact ⟨fun hw=>(lY h hi hw).ok (by omega),h1.ok (by omega),Bk h2 (by omega)⟩
theorem TS {w:Wk} {i:Nat} {r:Rq} (h:CI w.c) (hi:i<w.c.procs.length) (he:w.ev.length<=600000):SH w i r:=by
 have h8:=cD r.expr;refine ⟨hi,h.tv,by have:=(bi h.tv).1;omega,fun hw hq hr=>⟨SK ?_,Bk (iM h hi hw hq hr).1 ?_⟩⟩
 ·show w.ev.length+_<=_;omega
 ·have:=md (w.pc i).proc r.prio (bJ r.expr) (KC w i r);have e:(KC w i r).ev=w.ev:=rfl;rw [e] at this;show (cO (w.pc i).proc r.prio (bJ r.expr) (KC w i r)).ev.length<=_;omega
theorem TT {w:Wk} {i:Nat} (h:CI w.c) (hi:i<w.c.procs.length) (he:w.ev.length<=600000):SI w i:=by
 have hr:(bS w.c.queues (w.pc i).proc).2.length<=1000:=by have:=nE w.c.queues (w.pc i).proc;omega
 refine ⟨hi,by have:=h.len;omega,by omega,hr,Bk (qg h hi) ?_⟩;unfold J0;rw [g6];simp only [List.length_append];omega
theorem SO:∀(n:Nat) (w:Wk),CI w.c->(∀x∈w.c.procs,dU w.c.queues x=false)->ct w.c.procs<=n->w.ev.length+3000*n<=600000->TkOk n w
 | 0,w,h,hs,hn,he=>by
  refine ⟨by have:=h.len;omega,Tn h,?_⟩;by_cases h0:cA w<0
  ·exact h0
  ·exfalso;obtain ⟨hi,hl,_⟩:=(gF w).2 (by omega);have:=jo hi hl;omega
 | n+1,w,h,hs,hn,he=>by
  refine ⟨by have:=h.len;omega,Tn h,fun h0=>?_⟩;obtain ⟨hi,hl1,hl2,hl3⟩:=(gF w).2 h0;have hts:OS w=aZ (ai (w.note 4 (w.pc (cA w).toNat).proc) (cA w).toNat) (cA w).toNat:=rfl;rw [hts];clear hts;generalize (cA w).toNat=i at *
  have hc0:CI (w.note 4 (w.pc i).proc).c:=h;have hp0:(w.note 4 (w.pc i).proc).pc i=w.pc i:=rfl;have hw0:((w.note 4 (w.pc i).proc).pc i).waiting=true:=by rw [hp0,bh hi];exact hl1
  obtain ⟨k1,k2,k3,k4,_⟩:=b9 hc0 hi hw0;have hdt:=lY hc0 hi hw0;have hev:=dM (w.note 4 (w.pc i).proc) i;rw [g6] at hev;have hi2:i<(ai (w.note 4 (w.pc i).proc) i).c.procs.length:=by rw [k3.len];exact hi
  have hrun:((ai (w.note 4 (w.pc i).proc) i).pc i).waiting=false:=by rw [bh hi2];simp [k4]
  obtain ⟨n1,n2,n3⟩:=eL k1 hi2 hrun;obtain ⟨q1,q2,q3,q4,q5,q6,_⟩:=ir n1;have k2':ct (ai (w.note 4 (w.pc i).proc) i).c.procs+1=ct w.c.procs:=k2;have he2:(aZ (ai (w.note 4 (w.pc i).proc) i) i).ev.length<=w.ev.length+281:=by
   show (ai (w.note 4 (w.pc i).proc) i).ev.length<=_;omega
  have he3:=sJ n1;have h8:=cD (w.pc i).req.expr;refine ⟨by omega,hi,?_,Bk n1 (by omega),SO n _ q1 q2 ?_ ?_⟩
  ·rw [<-hp0];exact hdt.ok (by rw [g6,hp0];omega)
  ·show ct (bw (aZ (ai (w.note 4 (w.pc i).proc) i) i)).c.procs<=n;omega
  ·show (aK _ (aZ (ai (w.note 4 (w.pc i).proc) i) i)).ev.length+_<=_;omega
theorem zk {t:List Qu} {p:Pr} {e:Ex} {k:Nat} (hk:k<(bJ e).length):(bk t p e).getD k false=(bd t (bJ e)[k].name && bq (bf t (bJ e)[k].name).res (ah (bf t (bJ e)[k].name).holds p) (bJ e)[k].am):=by
 unfold bk;rw [List.getD_eq_getElem?_getD,List.getElem?_map,qGg hk];rfl
theorem SV {w:Wk} {i:Nat} {x y:Pc} {n:ByteArray} {a:Am} (hv:di w.c.queues=true) (hn:bd w.c.queues n=true) (hl:LedOf w.c.queues x y) (hlh:fO y n=fO x n) (ha:aS (bf w.c.queues n).res a=true) (hf:FitA w.c.queues n x a)
  (hc:bq (bf w.c.queues n).res (ah (bf w.c.queues n).holds x.proc) a=true) :
  ah (bf w.c.queues n).holds x.proc=aC y.led.entries n\/(d8 y.led ⟨n,aC y.led.entries n,ah (bf w.c.queues n).holds x.proc⟩).2=0:=by
 rcases hf with ⟨_,h⟩|⟨hc2,⟨h1,h2⟩|⟨h1,h2,_⟩⟩
 ·exact .inl (h.h.trans hlh.symm)
 ·right
  obtain ⟨j1,j2,_,j4⟩:=Mj (oc hv hn) ha hc2 (by rw [<-hlh];exact nk hl.stat n);have hgr:dX (fO x n) (jn w.c.queues n x a)=true:=ED j1 j2 j4 (by rw [<-hlh];exact nk hl.stat n);obtain ⟨e1,e2⟩:=AT (g:=y.led) hl.stat.led (e:=⟨n,fO x n,jn w.c.queues n x a⟩) (Il hv hn) (by show fO x n=aC y.led.entries n;exact hlh.symm) hgr (ns:=ef w.c.queues) (by unfold ef;rw [List.length_map];exact (bi hv).1) (Bb hl.stat) (by obtain ⟨h3,h4⟩:=dK hn;exact List.mem_map.2 ⟨_,h3,h4⟩);rw [h1,show aC y.led.entries n=fO x n from hlh,e1]
 ·rw [h1,hc2] at hc;cases hc
theorem zm {t:List Qu} {n:ByteArray} (h:bd t n=true):t≠[]:=fun e=>by rw [e] at h;cases h
def Fq (x:Pc) (i:Nat):List Tm->List Bool->Wk->Prop
 | a :: l,b :: bs,w=>di w.c.queues=true/\bd w.c.queues a.name=true/\w.ev.length<=800000/\
   (∃y,w.c.procs[i]? = some y/\y.proc=x.proc/\aC y.led.entries a.name=aC x.led.entries a.name/\(b=true->ah (bf w.c.queues a.name).holds x.proc=aC y.led.entries a.name\/(d8 y.led ⟨a.name,aC y.led.entries a.name,ah (bf w.c.queues a.name).holds x.proc⟩).2=0))/\
   (b=false->(bH w x a.name).c.queues≠[])/\Fq x i l bs (bif b then gy w i x.proc a.name else bH w x a.name)
 | _,_,_=>True
theorem CY:∀(l:List Tm) (bs:List Bool) (w:Wk) (i:Nat) (x y:Pc),l.length=bs.length->di w.c.queues=true->w.pc i=y->i<w.c.procs.length->PStat w.c.queues x->LedOf w.c.queues x y->(∀a∈l,fO y a.name=fO x a.name)->JY l->Rsl w.c.queues l->
  (∀n,bd w.c.queues n=true->(∀a,cY l n=some a->FitA w.c.queues n x a.am)/\(cY l n=none->FitR w.c.queues n y))->
  (∀k (h:k<l.length),bs.getD k false=true->bq (bf w.c.queues l[k].name).res (ah (bf w.c.queues l[k].name).holds x.proc) l[k].am=true)->
  w.ev.length+35*l.length<=800000->Fq x i l bs w
 | [],bs,w,i,x,y,_,_,hy,_,_,_,_,_,_,_,_,_=>by cases bs <;> trivial
 | a :: l,[],w,i,x,y,hlen,_,_,_,_,_,_,_,_,_,_,_=>by simp at hlen
 | a :: l,b :: bs,w,i,x,y,hlen,hv,hy,hi,hsx,hl,hlh,hnd,hr,hf,hc,hev=>by
  obtain ⟨h1,h2⟩:=List.pairwise_cons.1 hnd;obtain ⟨ha1,ha2⟩:=hr a (by simp);have hfa:FitA w.c.queues a.name x a.am:=(hf a.name ha1).1 a (by rw [dg,bj.2 rfl];rfl);have hr2:Rsl w.c.queues l:=fun b hb=>hr b (by simp [hb]);have hat:∀n,n≠a.name->cY (a :: l) n=cY l n:=fun n hn=>by rw [dg,cd.2 (fun h=>hn h.symm)];rfl
  have hnone:cY l a.name=none:=iq.2 fun b hb e=>h1 b hb e.symm;have hgy:w.c.procs[i]? = some y:=by rw [qGg hi,<-bh hi,hy]
  rw [List.length_cons] at hev;cases b with
  | true =>
   have hcv:=hc 0 (by simp) (by simp);simp only [List.getElem_cons_zero] at hcv;obtain ⟨y1,e1,k1,k2,k3⟩:=Gw hv ha1 hy hi hl (hlh a (by simp)) ha2 hfa hcv;refine ⟨hv,ha1,by omega,⟨y,hgy,hl.proc,hlh a (by simp),fun _=>SV (i:=i) hv ha1 hl (hlh a (by simp)) ha2 hfa hcv⟩,(fun h=>by cases h),?_⟩;rw [qCt,e1];exact CY l bs (w.setP i y1) i x y1 (by simpa using hlen) hv (fa hi y1) (by show i<(w.c.procs.set i y1).length;simpa using hi) hsx k1 (fun b hb=>by rw [k3 _ (fun e=>h1 b hb e.symm)];exact hlh b (by simp [hb])) h2 hr2
    (fun n hn=>by
     by_cases en:n=a.name
     ·exact V9
     ·have h3:=hf n hn;rw [hat n en] at h3;exact ⟨h3.1,fun h4=>(h3.2 h4).led (by rw [k1.proc,hl.proc]) (k3 n en)⟩)
    (fun k hk hb=>by
     have h5:=hc (k+1) (by simpa using hk) (by simpa using hb);simp only [List.getElem_cons_succ] at h5;exact h5)
    (by show w.ev.length+_<=_;omega)
  | false =>
   obtain ⟨k1,k2⟩:=qb hv ha1 hsx ha2 hfa;refine ⟨hv,ha1,by omega,⟨y,hgy,hl.proc,hlh a (by simp),fun h=>by cases h⟩,fun _=>zm (n:=a.name) (by rw [k1.tp.hasE];exact ha1),?_⟩;rw [qCf];have hev2:=lp w x a.name;exact CY l bs (bH w x a.name) i x y (by simpa using hlen) k1.tp.v (by unfold Wk.pc at hy ⊢;rw [k1.procs];exact hy) (by rw [k1.procs];exact hi) (hsx.tp k1.tp) ⟨hl.eq,hl.stat.tp k1.tp,hl.gr⟩ (fun b hb=>hlh b (by simp [hb])) h2 (hr2.tp k1.tp)
    (fun n hn=>by
     rw [k1.tp.hasE] at hn;by_cases en:n=a.name
     ·exact VA
     ·have h3:=hf n hn;rw [hat n en] at h3;have e1:=k1.oth n en hn;exact ⟨fun b hb=>(h3.1 b hb).eq e1,fun h4=>(h3.2 h4).eq e1⟩)
    (fun k hk hb=>by
     have h5:=hc (k+1) (by simpa using hk) (by simpa using hb);simp only [List.getElem_cons_succ] at h5;have hm:l[k]∈l:=List.getElem_mem hk;rw [k1.oth l[k].name (fun e=>h1 _ hm e.symm) (hr2 _ hm).1];exact h5)
    (by omega)
theorem SW {w:Wk} {i:Nat} (h:CI w.c) (hi:i<w.c.procs.length) (hw:(w.pc i).waiting=true) (hev:w.ev.length<=700000) :
  Fq (w.pc i) i (bJ (w.pc i).req.expr) (bz (w.pc i).req.expr (bk w.c.queues (w.pc i).proc (w.pc i).req.expr)) (w.note 2 (w.pc i).proc):=by
 have hpc:=bh hi;have hinv:=h.inv _ (List.getElem_mem hi);rw [<-hpc] at hinv;obtain ⟨hwt,hfit⟩:=hinv.wat hw;obtain ⟨hve,hrsl⟩:=nr hwt.rs;have h8:=cD (w.pc i).req.expr;exact CY (bJ (w.pc i).req.expr) (bz (w.pc i).req.expr (bk w.c.queues (w.pc i).proc (w.pc i).req.expr)) (w.note 2 (w.pc i).proc) i (w.pc i) (w.pc i) (gD _ _).symm h.tv rfl hi hinv.stat (LedOf.refl hinv.stat) (fun _ _=>rfl) (j7 _) hrsl
  (fun n hn=>by
   have:=hfit n hn;unfold FitW at this;exact ⟨fun a ha=>by rw [ha] at this;exact this,fun ha=>by rw [ha] at this;exact this⟩)
  (fun k hk hb=>by
   have h1:=oe hb;rw [zk hk,qBa] at h1;exact h1.2)
  (by rw [g6];omega)
def StP:Nat->Wk->Prop
 | 0,v=>v.c.procs.length<=100000/\dF v.c.queues 0 v.c.procs=none
 | n+1,v=>v.c.procs.length<=100000/\v.ev.length<=800000/\∀i,dF v.c.queues 0 v.c.procs=some i->i<v.c.procs.length/\
   Fq (v.pc i) i (bJ (v.pc i).req.expr) (bz (v.pc i).req.expr (bk v.c.queues (v.pc i).proc (v.pc i).req.expr)) (v.note 2 (v.pc i).proc)/\StP n (eJ v i)
theorem StP.len {n:Nat} {v:Wk} (h:StP n v):v.c.procs.length<=100000:=by cases n <;> exact h.1
theorem Um:∀(n:Nat) (w:Wk),CI w.c->ct w.c.procs<=n->w.ev.length+281*n<=700000->StP n w
 | 0,w,h,hn,_=>by
  refine ⟨by have:=h.len;omega,?_⟩;cases hs:dF w.c.queues 0 w.c.procs with
  | none=>rfl
  | some i =>
   obtain ⟨j,hj,_,h2⟩:=gA hs;unfold dU at h2;rw [qBa] at h2;have:=jo hj h2.1;omega
 | n+1,w,h,hn,he=>by
  refine ⟨by have:=h.len;omega,by omega,fun i hs=>?_⟩;obtain ⟨j,hj,e,h2⟩:=gA hs;have e':i=j:=by omega
  subst e';have hwt:(w.pc i).waiting=true:=by
   rw [bh hj];unfold dU at h2;rw [qBa] at h2;exact h2.1
  obtain ⟨k1,k2,_⟩:=Cv h hj hwt;have hfe:=CE w i;exact ⟨hj,SW h hj hwt (by omega),Um n (eJ w i) k1 (by omega) (by omega)⟩
theorem Ki {w:Wk} (h:CI w.c) (he:w.ev.length<=600000):StP w.c.procs.length w:=Um _ _ h (gj _) (by have:=h.len;omega)
theorem P3 (d:Nat) (l:List Rs) {v:Bool} (hv:Rh l=v) {Q:List Qu} (hQ:(bif v then l.map gI else [])=Q):FSpec prog 13 [.one (.sl dQ l)] [] [] (.tup [.ag [.sc (.int .i64 0),.sl eh Q,.sl (fR d) []],iV (bif v then 0 else 1)]) []:=by
 have kN:=SY l hv;rw [hQ] at kN;refine a7 func13 ?_;cases v with
 | true =>
  refine ao ?_
  (refine fE (qf []) ?_;exact af)
 | false =>
  obtain rfl:[]=Q:=hQ;refine ao ?_
  (refine fE (qf []) ?_;exact af)
theorem Pe (l:List Ex):(((l.length:Nat):Int) == 0)=l.isEmpty:=by
 cases l with
 | nil=>rfl
 | cons x l =>
  show _=false;rw [beq_eq_false_iff_ne];simp only [List.length_cons];omega
theorem Rl (d:Nat) (r:Rq) {b:Bool} (hb0:Nw r=b):FSpec prog 195 [r.a d] [] [] (.b b) []:=by
 refine a7 func195 ?_;have he:Nw r=(decide (r.prio=0) && decide (r.limit=0) && decide (r.expr.k=0) && decide (r.expr.atom=jK) && r.expr.kids.isEmpty):=by
  unfold Nw Nv;cases decide (r.expr.k=0) <;> cases decide (r.expr.atom=jK) <;> cases r.expr.kids.isEmpty <;> cases decide (r.prio=0) <;> cases decide (r.limit=0) <;> rfl
 rw [he] at hb0;clear he;repeat' (first|refine av ?_ ?_|refine aq ?_|exact aw|refine ap fun hb=>?_)
 all_goals (refine eU ?_;rw [<-hb0];simp [*];try exact Pe _)
end Go.Proofs.YthpgjkjgkhjjlaaGreatDoor
