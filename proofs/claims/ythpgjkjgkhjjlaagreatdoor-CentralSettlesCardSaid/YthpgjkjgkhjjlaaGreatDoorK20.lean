/- Part K20 of a proof of statements of chapter 15 (no condition). -/
import Derived.Test.YthpgjkjgkhjjlaaGreatDoorK17
import Derived.Laws.Cover1
set_option linter.unusedVariables false
set_option linter.unusedSimpArgs false
set_option maxRecDepth 100000
set_option maxHeartbeats 64000000
namespace Go.Proofs.YthpgjkjgkhjjlaaGreatDoor
open Go.RowKit Go.Proofs.Tryz
theorem A4 {w:World} {S:Nat->Prop} {A:Option Addr} {l:Ct} (h:RowsAt dQ w S A l) {i:Nat} (hi:i<l.length) {nm:ByteArray} {k u hm:Int} (e:l[i]=⟨nm,k,u,hm⟩) :
  ∃b off,A=some ⟨b,off,none⟩/\S b/\w.cell? ⟨b,off+i*4,none⟩=some (.string nm)/\w.cell? ⟨b,off+i*4+1,none⟩=some (.int .i64 k)/\
   w.cell? ⟨b,off+i*4+2,none⟩=some (.int .i64 u)/\w.cell? ⟨b,off+i*4+3,none⟩=some (.int .i64 hm):=by
 obtain ⟨b,off,cs,hA,hb,hr,hc⟩:=h.getx hi e;have hr':cs=[.string nm,.int .i64 k,.int .i64 u,.int .i64 hm]:=hr;subst hr';exact ⟨b,off,hA,hb,hc 0 (by decide),hc 1 (by decide),hc 2 (by decide),hc 3 (by decide)⟩
theorem Ie:∀{l:List Ex},Jk l=true->∀x∈l,C9 x=true
 | [],_,_,hx=>absurd hx (by simp)
 | y :: l,h,x,hx=>by
  rw [mP,qBa] at h;rcases List.mem_cons.1 hx with rfl|hx
  ·exact h.1
  ·exact Ie h.2 x hx
theorem Cl (d:Nat) (x:Ex) (L:List Tm) (set:List Bool) (hx2:C9 x=true) (hL:L.length<=1000) (hs:set.length<=1000):FSpec prog 66 [x.a d,.one (.sl c6 L),.one (.sl cJ set)] [] [] (.b (oJ (cE L set) x)) []:=by
 revert d x;refine fun d x=>Ex.ind (P:=fun x=>∀d,C9 x=true->FSpec prog 66 [x.a d,.one (.sl c6 L),.one (.sl cJ set)] [] [] (.b (oJ (cE L set) x)) []) (fun k a l ih=>?_) x d;intro d hx2;rw [r8,qBa] at hx2;obtain ⟨hh,hx2⟩:=hx2;unfold Ay at hh;obtain ⟨v,hv⟩:=qGe (oJ (cE L set) (.mk k a l));rw [hv];rw [FY] at hv;show FSpec prog 66 [.ag (Ai d k a l),.one (.sl c6 L),.one (.sl cJ set)] [] [] (.b v) [];refine a7 func66 ?_;cases hE:l.isEmpty with
 | true =>
  obtain rfl:=List.isEmpty_iff.1 hE;rw [hE,qCt] at hh hv;simp only [qBa,decide_eq_true_eq] at hh;obtain ⟨rfl,_⟩:=hh;refine ao ?_;refine ab (fun i=>i<=L.length/\cE (L.drop i) (set.drop i) a=v) (fun i=>bP [3] [(1,.c (.sl c6 L)),(2,.c (.sl cJ set)),(3,.c (.ptr 3 0)),(7,.i i)] [(3,.box 47 (Ai d 0 a []))]) (fun i=>L.length-i) 0 ⟨Nat.zero_le _,hv⟩ aT ?_;rintro i ⟨hi,hs⟩;by_cases hlt:i<L.length
  ·rw [qDc hlt,lI,List.tail_drop] at hs;by_cases hsi:i<set.length
   ·rw [show set.drop i=_ from qDc hsi] at hs;repeat' (first|refine av ?_ ?_|refine aq ?_|exact aw|refine ap fun hb=>?_)
    ·exact Vz
    ·refine ⟨i+1,⟨by omega,?_⟩,by omega,?_⟩
     ·rw [<-hs];simp [*]
     ·exact aT
   ·rw [show set.drop i=[] from qDn (by omega)] at hs;repeat' (first|refine av ?_ ?_|refine aq ?_|exact aw|refine ap fun hb=>?_)
    ·exact Vz
    ·refine ⟨i+1,⟨by omega,?_⟩,by omega,?_⟩
     ·rw [<-hs];simp [*]
     ·exact aT
  ·exact U5
 | false =>
  have hl0:0<l.length:=List.length_pos_iff.2 fun e=>by rw [e] at hE;cases hE
  refine aY (fun c ρ a w hr=>jP (t:=0) (i:=4) hr rfl rfl) (fun hx=>?_);obtain ⟨hlen,hne⟩:=hx;obtain ⟨e,rfl⟩:=hne hl0;rw [hE,qCf] at hh hv;simp only [qBa,decide_eq_true_eq] at hh;have hk:1<=k:=hh.1.1;clear hh hne;obtain ⟨N,hN⟩:=qGe (FX (cE L set) l);rw [hN] at hv;refine ao ?_;refine ab (fun x:Nat×Nat=>x.1<=l.length/\x.2<=x.1/\x.2+FX (cE L set) (l.drop x.1)=N) (fun x=>bP [3] [(1,.c (.sl c6 L)),(2,.c (.sl cJ set)),(3,.c (.ptr 3 0)),(8,.i x.2),(9,.i x.1)] [(3,.box 47 (Ai (e+1) k a l))]) (fun x=>l.length-x.1) (0,0) ⟨Nat.zero_le _,Nat.le_refl _,by simpa using hN⟩ aT ?_;rintro ⟨i,n⟩ ⟨hi,hn,hs⟩;dsimp only at *
  by_cases hlt:i<l.length
  ·rw [qDc hlt,pB] at hs;have kS:=ih l[i] (List.getElem_mem hlt) e (Ie hx2 _ (List.getElem_mem hlt));obtain ⟨b,hb1⟩:=qGe (oJ (cE L set) l[i]);rw [hb1] at kS hs;clear ih hb1;repeat' (first|refine av ?_ ?_|refine gV ?_|refine aq ?_|exact aw|refine ap fun hb=>?_)
   ·refine ⟨(i+1,n+1),⟨by dsimp only;omega,by dsimp only;omega,by rw [hb] at hs;simp at hs;dsimp only;omega⟩,by dsimp only;omega,?_⟩;exact aT
   ·refine ⟨(i+1,n),⟨by dsimp only;omega,by dsimp only;omega,by rw [hb] at hs;simpa using hs⟩,by dsimp only;omega,?_⟩;exact aT
  ·rw [qDn (by omega)] at hs;obtain rfl:n=N:=hs;refine ao ?_;refine eU ?_;rw [<-hv]
theorem sA (d:Nat) (x:Ex) (set:List Bool) (hs:set.length<=1000):FSpec prog 31 [x.a d,.one (.sl cJ set)] [] [] (.b (cM x set)) []:=by
 unfold cM;refine a7 func31 ?_;cases hv:kv x with
 | false =>
  have:=p6 d x;exact UG
 | true =>
  obtain ⟨hsh,_,h8,_,_⟩:=oK hv;have:=p6 d x;have:=Cl d x (bJ x) set hsh (by omega) hs;exact UG
def TQ (d:Nat):V0:=.ag [.sc (.int .i64 0),.sc (.string ⟨#[]⟩),.sc (.int .i64 0),.sc (.int .i64 0),.sl (pA d) []]
theorem Gs (d:Nat) (x:Ex):FSpec prog 172 [x.a d,TQ d] [] [] (.b (Nv x)) []:=by
 refine a7 func172 ?_;obtain ⟨b,hB⟩:=qGe (Nv x);rw [hB];by_cases hk:x.k=0
 case neg =>
  obtain rfl:b=false:=by rw [<-hB];simp [Nv,hk]
  exact UG
 by_cases ha:x.atom=jK
 case neg =>
  obtain rfl:b=false:=by rw [<-hB];simp [Nv,ha]
  exact UG
 by_cases hn:x.kids.length=0
 case neg =>
  obtain rfl:b=false:=by
   rw [<-hB];cases h:x.kids with
   | nil=>rw [h] at hn;simp at hn
   | cons=>simp [Nv,h]
  repeat' (first|refine av ?_ ?_|refine aq ?_|exact aw|(refine ap fun hb=>?_;first|(exact absurd (by simpa using hb) hn)|skip)|exact bg|fail)
 have hn2:x.kids=[]:=List.eq_nil_of_length_eq_zero hn;obtain rfl:b=true:=by rw [<-hB];simp [Nv,hk,ha,hn2]
 repeat' (first|refine av ?_ ?_|refine aq ?_|exact aw|(refine ap fun hb=>?_;first|(exact absurd hn (by simpa using hb))|skip))
 refine ab (fun _:Unit=>True) (fun _=>bP [2] [(2,.c (.ptr 2 0)),(5,.i 0)] [(2,.box 47 (x.d d))]) (fun _=>0) () trivial aT ?_;rintro _ -
 exact UG
def TR (d:Nat):V0:=.ag [.sc (.int .i64 0),.sc (.string ⟨#[]⟩),.sc (.int .i64 0),.sc (.int .i64 0),.sl (pA d) [],.sc (.int .i64 0),.sc (.int .i64 0)]
theorem JV (d:Nat) (r:Rq):FSpec prog 101 [r.a d,TR d] [] [] (.b (Nw r)) []:=by
 refine a7 func101 ?_;obtain ⟨b,hB⟩:=qGe (Nw r);rw [hB];have:=Gs d r.expr;repeat' (first|refine av ?_ ?_|refine gV ?_|refine aq ?_|exact aw|refine ap fun hb=>?_)
 all_goals (refine eU ?_;rw [<-hB];simp [Nw, *];try rfl)
theorem Ey (d:Nat) (r:Rq):FSpec prog 152 [r.a d] [] [] (.b (m6 r)) []:=by
 refine a7 func152 ?_;obtain ⟨b,hB⟩:=qGe (m6 r);rw [hB];have:=QO d r.expr;repeat' (first|refine av ?_ ?_|refine gV ?_|refine aq ?_|exact aw|refine ap fun hb=>?_)
 all_goals (refine eU ?_;rw [<-hB];simp [m6, *];try omega)
theorem nh (d:Nat) (x:Ex) {b:Bool} {L:List Tm} (h:kv x=b) (h2:bJ x=L):FSpec prog 65 [x.a d] [] [] (.tup [.one (.sl c6 L),.one (.sc (.bool b))]) []:=h▸h2▸p6 d x
def JW (set:List Bool) (n i:Nat):List Bool:=(List.range n).map fun k=>decide (k<i) && set.getD k false
theorem Su (set:List Bool) (n:Nat):JW set n 0=List.replicate n false:=by
 unfold JW;apply List.ext_getElem
 ·simp
 ·intro i h1 h2;simp
theorem OC (set:List Bool) {n i:Nat} (hi:i<n):(JW set n i).set i (set.getD i false)=JW set n (i+1):=by
 unfold JW;apply List.ext_getElem
 ·simp
 ·intro k h1 h2;rw [List.getElem_set];split
  ·next e=>subst e;simp
  ·next e =>
   simp only [List.getElem_map,List.getElem_range];congr 1
   rw [Bool.eq_iff_iff];simp;omega
theorem OD (set:List Bool) (n:Nat):JW set n n=(List.range n).map fun i=>set.getD i false:=by
 unfold JW;apply List.map_congr_left
 intro i hi;rw [List.mem_range] at hi;simp [hi]
theorem OE (set:List Bool) (n i:Nat):(JW set n i).length=n:=by simp [JW]
theorem Mh (d:Nat) (x:Ex) (set:List Bool) (hset:set.length<=1000):FSpec prog 40 [x.a d,.one (.sl cJ set)] [] [] (.c (.sl cJ (bz x set))) []:=by
 refine a7 func40 ?_;have hmk:prog.underlying 86=some (.slice 4):=underlying86;have hib:(prog.info? 4).map (fun i=>(i.zero,i.size,i.bytes))=some (some (.bool false),1,1):=by kernel_rfl
 cases hv:kv x with
 | false =>
  have hL:=sd hv;have hp:bz x set=[]:=by simp [bz,cM,hv,hL]
  rw [hp];repeat' (first|refine av ?_ ?_|refine aa 9 rfl (cC [] (nh d x hv hL) ?_)|(refine aa 20 rfl ?_;refine be (fN (E:=cJ) (y0:=false) hmk hib rfl (by decide) rfl (fun _ _=>rfl) rfl rfl rfl rfl (by first|omega|simp)) rfl rfl rfl ?_)|refine aq ?_|exact aw|refine ap fun hb=>?_|exact bg|fail)
 | true =>
  obtain ⟨hsh,_,h8,_,_⟩:=oK hv;obtain ⟨L,hL⟩:=qGe (bJ x);rw [hL] at h8;cases hh:oJ (cE L set) x with
  | false =>
   have hp:bz x set=List.replicate L.length false:=by simp [bz,cM,hv,hL,hh]
   rw [hp];repeat' (first|refine av ?_ ?_|(refine aa 9 rfl ?_;first|(refine cC [] (nh d x hv hL) ?_)|(refine cB [] (Cl d x L set hsh (by omega) hset) ?_))|(refine aa 20 rfl ?_;refine be (fN (E:=cJ) (y0:=false) hmk hib rfl (by decide) rfl (fun _ _=>rfl) rfl rfl rfl rfl (by first|omega|simp)) rfl rfl rfl ?_)|refine aq ?_|exact aw|refine ap fun hb=>?_|exact bg|fail)
  | true =>
   have hp:bz x set=c9 x L L.length (JW set L.length L.length):=by rw [OD];simp [bz,cM,hv,hL,hh]
   rw [hp];repeat' (first|refine av ?_ ?_|(refine aa 9 rfl ?_;first|(refine cC [] (nh d x hv hL) ?_)|(refine cB [] (Cl d x L set hsh (by omega) hset) ?_))|(refine aa 20 rfl ?_;refine be (fN (E:=cJ) (y0:=false) hmk hib rfl (by decide) rfl (fun _ _=>rfl) rfl rfl rfl rfl (by first|omega|simp)) rfl rfl rfl ?_)|refine aq ?_|exact aw|refine ap fun hb=>?_)
   refine ab (fun i=>i<=L.length) (fun i=>bP [2,1000] [(1,.c (.sl cJ set)),(2,.c (.ptr 2 0)),(5,.c (.sl c6 L)),(7,.c (.own 1000)),(8,.i i)] [(2,.box 47 (x.d d)),(1000,.arr 4 cJ (JW set L.length i))]) (fun i=>L.length-i) 0 (Nat.zero_le _) (by rw [Su];exact bo (qf [(1000,17)])) ?_;intro i hi;have hpl:=OE set L.length i;by_cases hlt:i<L.length
   ·have hst:=OC set hlt;by_cases hsi:i<set.length
    ·rw [show set.getD i false=set[i] by simp [List.getD_eq_getElem?_getD,hsi]] at hst;repeat' (first|refine av ?_ ?_|refine aq ?_|(refine aa 4 rfl ?_;refine a8 (ak (z:=set[i]) rfl rfl rfl rfl (by first|assumption|exact qGg (by omega)) rfl rfl rfl rfl (qNl rfl) rfl rfl) rfl rfl rfl ?_)|exact aw|refine ap fun hb=>?_)
     exact VP
    ·rw [show set.getD i false=false by simp [List.getD_eq_getElem?_getD,hsi]] at hst;repeat' (first|refine av ?_ ?_|refine aq ?_|(refine aa 4 rfl ?_;refine a8 (ak (z:=false) rfl rfl rfl rfl (by first|assumption|exact qGg (by omega)) rfl rfl rfl rfl (qNl rfl) rfl rfl) rfl rfl rfl ?_)|exact aw|refine ap fun hb=>?_)
     exact VP
   ·obtain rfl:i=L.length:=by omega
    refine ao ?_;refine ab (fun y:Nat×List Bool=>y.1<=L.length/\y.2.length=L.length/\c9 x L y.1 y.2=c9 x L L.length (JW set L.length L.length)) (fun y=>bP [2,1000] [(2,.c (.ptr 2 0)),(5,.c (.sl c6 L)),(7,.c (.own 1000)),(9,.i ((y.1:Int)-1))] [(2,.box 47 (x.d d)),(1000,.arr 4 cJ y.2)]) (fun y=>y.1) (L.length,JW set L.length L.length) ⟨Nat.le_refl _,hpl,rfl⟩ aT ?_;rintro ⟨k,out⟩ ⟨hk,hol,hs⟩;dsimp only at *
    rcases Nat.eq_zero_or_pos k with h0|h0
    ·subst h0;rw [<-hs,show c9 x L 0 out=out from rfl];exact UG
    ·obtain ⟨j,rfl⟩:∃j,k=j+1:=⟨k-1,by omega⟩;obtain ⟨z,hz⟩:=qGe ((((j+1:Nat):Int)-1).toNat);have hzj:z=j:=by omega
     obtain ⟨v,hgv⟩:∃v,out[(((j+1:Nat):Int)-1).toNat]? = some v:=⟨_,qGg (by omega)⟩;have hgj:out.getD j false=v:=by rw [hz,hzj] at hgv;simp [List.getD_eq_getElem?_getD,hgv]
     have hstep:c9 x L (j+1) out=c9 x L j (bif out.getD j false then out.set j (!oJ (cE L (out.set j false)) x) else out):=rfl;rw [hstep,hgj] at hs;cases v with
     | false =>
      refine ao ?_;refine ⟨(j,out),⟨by dsimp only;omega,hol,hs⟩,by dsimp only;omega,?_⟩;exact aT
     | true =>
      have hl1:(out.set (((j+1:Nat):Int)-1).toNat false).length=L.length:=by rw [List.length_set,hol]
      rw [show out.set j false=out.set (((j+1:Nat):Int)-1).toNat false by rw [hz,hzj]] at hs;repeat' (first|refine av ?_ ?_|refine aa 9 rfl (cB [1000] (Cl d x L (out.set (((j+1:Nat):Int)-1).toNat false) hsh (by omega) (by omega)) ?_)|refine aq ?_|(refine aa 4 rfl ?_;first|(refine a8 (ak (z:=false) rfl rfl rfl rfl (by first|assumption|exact qGg (by omega)) rfl rfl rfl rfl (qNl rfl) rfl rfl) rfl rfl rfl ?_)|(refine a8 (ak (z:=!oJ (cE L (out.set (((j+1:Nat):Int)-1).toNat false)) x) rfl rfl rfl rfl (by first|assumption|exact qGg (by omega)) rfl rfl rfl rfl (qNl rfl) rfl rfl) rfl rfl rfl ?_))|exact aw|refine ap fun hb=>?_)
      refine ⟨(j,out.set j (!oJ (cE L (out.set (((j+1:Nat):Int)-1).toNat false)) x)),⟨by dsimp only;omega,by simp [hol],hs⟩,by dsimp only;omega,?_⟩;dsimp only;rw [show out.set j (!oJ (cE L (out.set (((j+1:Nat):Int)-1).toNat false)) x)=(out.set (((j+1:Nat):Int)-1).toNat false).set (((j+1:Nat):Int)-1).toNat (!oJ (cE L (out.set (((j+1:Nat):Int)-1).toNat false)) x) by rw [List.set_set,hz,hzj]];exact aT
theorem y4:prog.underlying 216=some (.map 9 42):=by kernel_rfl
theorem GF:prog.underlying 9=some .string:=by kernel_rfl
theorem CL (w:World):(zeroValue 42).run prog w = .ok (Q3 ⟨0,0⟩) w:=by kernel_rfl
theorem PR (a:Am):FSpec prog 246 [a.a] [] [] (.b (cr a)) []:=by
 refine a7 func246 ?_;have kM:=Ia a.mode;obtain ⟨m,hm⟩:=qGe (cL a.mode);rw [hm] at kM;have hu:cr a=(m && decide (a.units=0) || decide (a.mode=0) && decide (1<=a.units) && decide (a.units<=8)):=by rw [<-hm];rfl
 have h0:a.mode=0->m=false:=fun h=>by rw [<-hm,h];rfl
 repeat' (first|refine av ?_ ?_|refine gV ?_|refine aq ?_|exact aw|refine ap fun hb=>?_)
 all_goals (refine eU ?_;rw [hu];simp [*] <;> rfl)
theorem Q5 (a b:Am):FSpec prog 186 [a.a,b.a] [] [] (.b (dX a b)) []:=by
 refine a7 func186 ?_;have kA:=PR a;have kB:=PR b;have kC:=pZ b.mode a.mode;obtain ⟨u,hu⟩:=qGe (cr a);obtain ⟨v,hv⟩:=qGe (cr b);obtain ⟨c,hc⟩:=qGe (es b.mode a.mode);rw [hu] at kA;rw [hv] at kB;rw [hc] at kC;have hg:dX a b=(v && !decide (a=b) && (aR a || u && (bif !decide (a.mode=0) then c else decide (a.units<b.units)))):=by rw [<-hu,<-hv,<-hc];rfl
 have f1:b.mode=0->c=false:=fun h=>by rw [<-hc,h];rfl
 have f2:u=true->v=true->a.mode=0->b.mode≠0->¬a.units<b.units:=fun h1 h2 h3 h4=>by
  rw [<-hu] at h1;rw [<-hv] at h2;have e1:=ez h1;have e2:=ez h2;simp only [ik] at e1 e2;omega
 have hz:aR a=decide (a=⟨0,0⟩):=rfl;rw [hz] at hg;clear hu hv hc hz;repeat' (first|refine av ?_ ?_|(refine aa 9 rfl ?_;first|(refine cB [] kA ?_)|(refine cB [] kB ?_)|(refine cB [] kC ?_))|refine aq ?_|exact aw|refine ap fun hb=>?_)
 all_goals (refine eU ?_;rw [hg])
 all_goals first|(simp [*];done)|(cases u <;> cases v <;> cases c <;> simp_all;done)
theorem sM (l:List Sv) (n:Int) {K:Int} (hK:bb n 0 l=K):FSpec prog 217 [.one (.sl lS l),.one (.sc (.int .i64 n))] [] [] (.i K) []:=by
 refine a7 func217 ?_;refine aY (fun c ρ a w hr=>bV (t:=0) hr rfl) (fun hl0=>?_);refine ao ?_;refine ab (fun i=>i<=l.length/\bb n i (l.drop i)=K) (fun i=>bP [] [(1,.c (.sc (.int .i64 n))),(7,.c (.sl lS l)),(8,.i l.length),(9,.i i)] []) (fun i=>l.length-i) 0 ⟨Nat.zero_le _,hK⟩ aT ?_;clear hK;rintro i ⟨hi,hs⟩;by_cases hlt:i<l.length
 ·obtain ⟨x,hx⟩:∃x,l[i]? = some x:=⟨_,qGg hlt⟩;have ex:=qGs hx;rw [qDc hlt,ex] at hs;have hs:(bif decide (x.label=n) then (i:Int) else bb n (i+1) (l.drop (i+1)))=K:=hs;by_cases he:x.label=n
  ·rw [qDt he] at hs;obtain rfl:K=i:=hs.symm;exact UG
  ·rw [qDf he,qCf] at hs;refine ao ?_;exact UT
 ·rw [qDn (by omega)] at hs;obtain rfl:K = -1:=hs.symm;exact UG
theorem Q6 (s:List Sv) (n:Int) {b:Bool} (hB:(decide (s.length<=4) && Q4 s n 0 0 s)=b):FSpec prog 187 [.one (.sl lS s),.one (.sc (.int .i64 n))] [] [] (.b b) []:=by
 refine a7 func187 ?_;by_cases h4:s.length<=4
 case neg =>
  obtain rfl:b=false:=by rw [<-hB,qDf h4];rfl
  exact UG
 rw [qDt h4,Bool.true_and] at hB;refine ao ?_;refine ab (fun y:Nat×Int=>y.1<=s.length/\Q4 s n y.1 y.2 (s.drop y.1)=b) (fun y=>bP [] [(0,.c (.sl lS s)),(1,.c (.sc (.int .i64 n))),(5,.c (.sc (.int .i64 y.2))),(11,.c (.sl lS s)),(12,.i s.length),(13,.i y.1)] []) (fun y=>s.length-y.1) (0,0) ⟨Nat.zero_le _,hB⟩ aT ?_;clear hB;rintro ⟨i,p⟩ ⟨hi,hs⟩;dsimp only at *
 by_cases hlt:i<s.length
 ·obtain ⟨x,hx⟩:∃x,s[i]? = some x:=⟨_,qGg hlt⟩;have ex:=qGs hx;rw [qDc hlt,ex] at hs;have hs:(decide (1<=x.label) && decide (x.label<=99) && decide (bb x.label 0 (s.take i)<0) && decide (p<=x.at_) && decide (x.at_<=n) && Q4 s n (i+1) x.at_ (s.drop (i+1)))=b:=hs;obtain ⟨T,hT⟩:=qGe (s.take i);have hT2:s.take ((i:Int)).toNat=T:=by rw [Int.toNat_natCast];exact hT
  obtain ⟨K,hK⟩:=qGe (bb x.label 0 T);have kP:=sM T x.label hK;rw [hT,hK] at hs;clear hT hK;by_cases hok:(1<=x.label/\x.label<=99)/\K<0/\p<=x.at_/\x.at_<=n
  ·obtain ⟨⟨k1,k2⟩,k3,k4,k5⟩:=hok;rw [qDt k1,qDt k2,qDt k3,qDt k4,qDt k5] at hs;simp only [Bool.true_and] at hs;repeat' (first|refine av ?_ ?_|refine aa 9 rfl (cB [] kP ?_)|(refine aa 14 rfl ?_;refine sx (yy rfl rfl rfl rfl (by omega) (by omega) hT2) ?_)|refine aq ?_|exact aw|refine ap fun hb=>?_)
   refine ⟨(i+1,x.at_),⟨by dsimp only;omega,hs⟩,by dsimp only;omega,?_⟩;exact aT
  ·have hok1:1<=x.label->x.label<=99->K<0->p<=x.at_->x.at_<=n->False:=fun a b c d e=>hok ⟨⟨a,b⟩,c,d,e⟩;obtain rfl:b=false:=by
    rw [<-hs];cases hh:(decide (1<=x.label) && decide (x.label<=99) && decide (K<0) && decide (p<=x.at_) && decide (x.at_<=n)) with
    | false=>rfl
    | true =>
     simp only [qBa,decide_eq_true_eq] at hh;exact (hok1 hh.1.1.1.1 hh.1.1.1.2 hh.1.1.2 hh.1.2 hh.2).elim
   clear hok hs;repeat' (first|refine av ?_ ?_|refine aa 9 rfl (cB [] kP ?_)|(refine aa 14 rfl ?_;refine sx (yy rfl rfl rfl rfl (by omega) (by omega) hT2) ?_)|refine aq ?_|exact aw|(refine ap fun hb=>?_;first|(exact (hok1 (by omega) (by omega) (by omega) (by omega) (by omega)).elim)|skip)|exact bg|fail)
 ·rw [qDn (by omega)] at hs;obtain rfl:b=true:=hs.symm;exact UG
theorem Iz (l:List En):FSpec prog 188 [.one (.sl ke l)] [] [0] (.c (.own 0)) [(0,some (.mp (CH (fT l))))]:=by
 refine a7 func188 ?_;refine aY (fun c ρ a w hr=>bV (t:=0) hr rfl) (fun hl0=>?_);repeat' (first|refine av ?_ ?_|(refine aa 22 rfl ?_;refine sx (Bo rfl rfl) ?_)|refine aq ?_|exact aw|refine ap fun hb=>?_)
 refine ab (fun y:Nat×List (ByteArray×Am)=>y.1<=l.length/\fu y.2 (l.drop y.1)=fT l) (fun y=>bP [6] [(3,.c (.own 6)),(7,.c (.sl ke l)),(8,.i l.length),(9,.i y.1)] [(6,.mp (CH y.2))]) (fun y=>l.length-y.1) (0,[]) ⟨Nat.zero_le _,rfl⟩ aT ?_;rintro ⟨i,m⟩ ⟨hi,hs⟩;dsimp only at *
 by_cases hlt:i<l.length
 ·obtain ⟨e,he⟩:∃e,l[i]? = some e:=⟨_,qGg hlt⟩;have ee:=qGs he;rw [qDc hlt,ee] at hs;repeat' (first|refine av ?_ ?_|(refine aa 24 rfl ?_;refine Tj (sL _ _ y4 GF rfl rfl rfl rfl rfl rfl) ?_)|refine aq ?_|exact aw|refine ap fun hb=>?_)
  refine ⟨(i+1,fe e.name e.after m),⟨by dsimp only;omega,hs⟩,by dsimp only;omega,?_⟩;exact aT
 ·rw [qDn (by omega)] at hs;obtain rfl:m=fT l:=hs;refine ao ?_
  (refine cc (qf [(0,6)]) ?_;exact af)
theorem ML (g:Lg) (n:ByteArray) {a:Am} (ha:aC g.entries n=a):FSpec prog 251 [g.a,.one (.sc (.string n))] [] [] (.v a.a) []:=by
 refine a7 func251 ?_;have kS:=Iz g.entries;have hg:sK n (fT g.entries)=a:=(jq _ _).trans ha;generalize fT g.entries=m at *
 repeat' (first|refine av ?_ ?_|refine aa 9 rfl (cH (qf [(0,1000)]) kS ?_)|(refine aa 23 rfl ?_;refine sx (ol _ _ y4 GF CL rfl rfl rfl rfl hg) ?_)|refine aq ?_|exact aw|refine ap fun hb=>?_|exact bg|fail)
theorem IA (l:List En) (s:List Sv) {b:Bool} (hB:mx l s=b):FSpec prog 121 [.ag [.sl ke l,.sl lS s]] [] [] (.b b) []:=by
 refine a7 func121 ?_;refine aY (fun c ρ a w hr=>d7 (t:=0) (i:=0) hr rfl rfl) (fun hl0_0=>?_);refine aY (fun c ρ a w hr=>d7 (t:=0) (i:=1) hr rfl rfl) (fun hl0_1=>?_);repeat' (first|refine av ?_ ?_|(refine aa 22 rfl ?_;refine sx (Bo rfl rfl) ?_)|refine aq ?_|exact aw|refine ap fun hb=>?_)
 refine ab (fun y:Nat×List (ByteArray×Am)=>y.1<=l.length/\y.2=fT (l.take y.1)/\y.2.length<=8/\ib (l.take y.1) (l.drop y.1)=ib [] l) (fun y=>bP [1,6] [(1,.c (.ptr 1 0)),(3,.c (.own 6)),(8,.c (.sl ke l)),(9,.i l.length),(10,.i y.1)] [(1,.box 80 [.sl ke l,.sl lS s]),(6,.mp (CH y.2))]) (fun y=>l.length-y.1) (0,[]) ⟨Nat.zero_le _,rfl,by simp,by simp⟩ aT ?_;rintro ⟨i,m⟩ ⟨hi,hm,hm8,hs⟩;dsimp only at *
 by_cases hlt:i<l.length
 ·obtain ⟨e,he⟩:∃e,l[i]? = some e:=⟨_,qGg hlt⟩;have ee:=qGs he;have hst:ib [] l=(dh e.name.toList && decide (e.before=aC (l.take i) e.name) && dX e.before e.after && ib (l.take (i+1)) (l.drop (i+1))):=by
   rw [<-hs,qDc hlt,ee,List.take_succ_eq_append_getElem hlt,ee];rfl
  obtain ⟨h,hh⟩:=qGe (aC (l.take i) e.name);have hg:sK e.name m=h:=by rw [hm,jq];exact hh
  obtain ⟨m2,hm2⟩:=qGe (fe e.name e.after m);have hm3:m2=fT (l.take (i+1)):=by rw [<-hm2,hm,List.take_succ_eq_append_getElem hlt,ee,J5]
  have kN:=Mb e.name;have kG:=Q5 e.before e.after;rw [hh] at hst;clear hh hm;by_cases hok:(dh e.name.toList=true/\e.before=h/\dX e.before e.after=true)/\m2.length<=8
  ·obtain ⟨⟨k1,k2,k3⟩,k4⟩:=hok;rw [k1] at kN;rw [k3] at kG;have hlm:(CH m2).length=m2.length:=by simp [mt]
   repeat' (first|refine av ?_ ?_|(refine aa 7 rfl ?_;refine sx (Bp y4 rfl rfl rfl) ?_)|(refine aa 9 rfl ?_;first|(refine cB [] kN ?_)|(refine cB [] kG ?_))|(refine aa 23 rfl ?_;refine sx (ol _ _ y4 GF CL rfl rfl rfl rfl hg) ?_)|(refine aa 24 rfl ?_;refine Tj (sL _ _ y4 GF rfl rfl rfl rfl rfl hm2) ?_)|refine aq ?_|exact aw|(refine ap fun hb=>?_;first|(exact absurd k2 hb)|skip))
   refine ⟨(i+1,m2),⟨by dsimp only;omega,hm3,k4,?_⟩,by dsimp only;omega,?_⟩
   ·dsimp only;rw [hst,k1,k3];simp [k2]
   ·exact aT
  ·obtain rfl:b=false:=by
    rw [<-hB];cases h1:ib [] l with
    | false=>simp [mx,h1]
    | true =>
     rw [hst] at h1;simp only [qBa,decide_eq_true_eq] at h1;have h8:¬m2.length<=8:=fun h8=>hok ⟨⟨h1.1.1.1,h1.1.1.2,h1.1.2⟩,h8⟩;have h9:¬(cg l).length<=8:=fun h9=>h8 (by
      rw [hm3];have:=J6 (l.take (i+1)) (l.drop (i+1));rw [List.take_append_drop,qo l] at this;omega)
     simp [mx,h9]
   have hok1:dh e.name.toList=true->e.before=h->dX e.before e.after=true->m2.length<=8->False:=fun a b c d=>hok ⟨⟨a,b,c⟩,d⟩;obtain ⟨nb,hnb⟩:=qGe (dh e.name.toList);obtain ⟨gb,hgb⟩:=qGe (dX e.before e.after);rw [hnb] at kN hok1;rw [hgb] at kG hok1;clear hok hst hnb hgb hm3;have hlm:(CH m2).length=m2.length:=by simp [mt]
   repeat' (first|refine av ?_ ?_|(refine aa 7 rfl ?_;refine sx (Bp y4 rfl rfl rfl) ?_)|(refine aa 9 rfl ?_;first|(refine cB [] kN ?_)|(refine cB [] kG ?_))|(refine aa 23 rfl ?_;refine sx (ol _ _ y4 GF CL rfl rfl rfl rfl hg) ?_)|(refine aa 24 rfl ?_;refine Tj (sL _ _ y4 GF rfl rfl rfl rfl rfl hm2) ?_)|refine aq ?_|exact aw|(refine ap fun hb=>?_;first|(exact (hok1 (by assumption) (by assumption) (by assumption) (by omega)).elim)|skip)|exact bg|fail)
 ·have hE:ib [] l=true:=by rw [<-hs,qDn (by omega)];rfl
  rw [List.take_of_length_le (by omega)] at hm;have h8:(cg l).length<=8:=by rw [<-qo,<-hm];exact hm8
  have h64:=D7 (D5.1 hE) h8;have hB2:(decide (s.length<=4) && Q4 s l.length 0 0 s)=b:=by
   rw [<-hB,MK s l.length s 0 0 rfl (Int.le_refl _)];simp [mx,hE,h8,show l.length<=72 by omega]
  have kV:=Q6 s l.length hB2;clear hB hB2 hE hs hm;exact UG
end Go.Proofs.YthpgjkjgkhjjlaaGreatDoor
