/- Part B01 of a proof of statements of chapter 15 (no condition). -/
import Derived.Test.YthpgjkjgkhjjlaaGreatDoorK42
set_option linter.unusedVariables false
set_option linter.unusedSimpArgs false
set_option maxRecDepth 100000
set_option maxHeartbeats 64000000
namespace Go.Proofs.YthpgjkjgkhjjlaaGreatDoor
open Go.RowKit Go.Proofs.Tryz
def pi:Cs->List Cm->Cs
 | c,[]=>c
 | c,k :: l=>pi (bif decide ((cy c k).2.2=0) then (cy c k).1 else c) l
theorem Cx:∀(l:List Cm) (c:Cs),cG c=true->cG (pi c l)=true
 | [],_,h=>h
 | k :: l,c,h=>by
  show cG (pi (bif decide ((cy c k).2.2=0) then (cy c k).1 else c) l)=true;by_cases he:(cy c k).2.2=0
  ·exact V8
  ·rw [qDf he];exact Cx l c h
theorem Bh (cat:List Rs):∀(n:Nat) (t:Tp),(qk cat n t).length<=n
 | 0,_=>Nat.le_refl _
 | n+1,t=>by
  unfold qk;cases decide (t.at_<t.l.length) with
  | true=>have:=Bh cat n (vG t cat).2;simp;omega
  | false=>simp
def NT (w w':Wk):Prop:=∃m:List Ev,w'.ev=w.ev++m/\∀e∈m,e.kind≠4
theorem NT.refl (w:Wk):NT w w:=⟨[],by simp,fun _ h=>absurd h (by simp)⟩
theorem NT.same {w w':Wk} (h:w'.ev=w.ev):NT w w':=⟨[],by simp [h],fun _ h=>absurd h (by simp)⟩
theorem NT.trans {a b c:Wk} (h:NT a b) (k:NT b c):NT a c:=by
 obtain ⟨m,h1,h2⟩:=h;obtain ⟨m',k1,k2⟩:=k;refine ⟨m++m',by rw [k1,h1,List.append_assoc],fun e he=>?_⟩;rcases List.mem_append.1 he with he|he
 ·exact h2 e he
 ·exact k2 e he
theorem NT.take {w:Wk} {t:List Qu} {ev:List Ev} (h:∀e∈ev,e.kind≠4):NT w (w.take t ev):=⟨ev,rfl,h⟩
theorem NT.note {w:Wk} {k:Int} {p:Pr} (h:k≠4):NT w (w.note k p):=⟨_,rfl,fun e he=>by
 rw [List.mem_singleton] at he;subst he;exact h⟩
theorem NT.ite {w a b:Wk} {c:Bool} (ha:NT w a) (hb:NT w b):NT w (bif c then a else b):=by
 cases c
 ·exact hb
 ·exact ha
theorem qs {n:ByteArray} {l:List Ho}:∀e∈aJ n l,e.kind=1:=fun e he=>by
 obtain ⟨h,_,rfl⟩:=List.mem_map.1 he;rfl
theorem CN (t:List Qu) (p:Pr) (n:ByteArray):∀e∈(bv t p n).2.1,e.kind≠4:=by
 intro e he;unfold bv dE at he;cases h1 : !di t with
 | true=>rw [h1] at he;simp at he
 | false =>
  rw [h1,qCf] at he;cases h2:decide (bG n 0 t<0) with
  | true=>rw [h2] at he;simp at he
  | false =>
   rw [h2,qCf] at he;cases h3 : !decide ((bB (t.getD (gR t n) jj) p).2.2=0) with
   | true=>rw [h3] at he;simp at he
   | false =>
    rw [h3,qCf] at he;rw [qs e he];decide
theorem E3 (t:List Qu) (p:Pr) (a:Tm):∀e∈(bD t p a).2.1,e.kind≠4:=by
 intro e he;unfold bD dE at he;cases h1 : !di t with
 | true=>rw [h1] at he;simp at he
 | false =>
  rw [h1,qCf] at he;cases h2:decide (bG a.name 0 t<0) with
  | true=>rw [h2] at he;simp at he
  | false =>
   rw [h2,qCf] at he;cases h3 : !decide ((bE (t.getD (gR t a.name) jj) p a.am).2.2=0) with
   | true=>rw [h3] at he;simp at he
   | false =>
    rw [h3,qCf] at he;rcases List.mem_append.1 he with he|he
    ·cases h4:decide (ah (t.getD (gR t a.name) jj).holds p=a.am) with
     | true=>rw [h4] at he;simp at he
     | false =>
      rw [h4,qCf,List.mem_singleton] at he;subst he;show (3:Int)≠4;decide
    ·rw [qs e he];decide
theorem GI (w:Wk) (p:Pr) (n:ByteArray):NT w (fv w p n):=.take (CN _ _ _)
theorem Kb (w:Wk) (p:Pr) (a:Tm):NT w (dI w p a):=.take (E3 _ _ _)
theorem E5 (w:Wk) (x:Pc) (n:ByteArray):NT w (bH w x n) :=
 NT.trans (b:=eT w x.proc n) (.ite (GI _ _ _) (.refl _)) (.ite (.refl _) (Kb _ _ _))
theorem Bv (x:Pc):∀(l:List Tm) (w:Wk),NT w (cS x l w)
 | [],w=>.refl w
 | a :: l,w=>(E5 w x a.name).trans (Bv x l _)
theorem CO (w:Wk) (i:Nat):NT w (ai w i):=(Bv (w.pc i) (bJ (w.pc i).req.expr) w).trans (.same rfl)
theorem OZ (w:Wk) (i:Nat) (p:Pr) (n:ByteArray):NT w (gy w i p n):=.ite (.refl _) (.same rfl)
theorem E6 (x:Pc) (i:Nat):∀(l:List Tm) (bs:List Bool) (w:Wk),NT w (bO x i l bs w)
 | [],_,w=>by rw [bO];exact .refl w;simp
 | a :: l,[],w=>by rw [bO];exact .refl w;simp
 | a :: l,b :: bs,w=>by
  rw [bO];exact (NT.ite (OZ _ _ _ _) (E5 _ _ _)).trans (E6 x i l bs _)
theorem O0 (w:Wk) (i:Nat):NT w (eJ w i) :=
 NT.trans (NT.note (k:=2) (p:=(w.pc i).proc) (by decide)) ((E6 (w.pc i) i _ _ _).trans (.same rfl))
theorem y6:∀(n:Nat) (w:Wk),NT w (aK n w)
 | 0,w=>.refl w
 | n+1,w=>by
  unfold aK;cases dF w.c.queues 0 w.c.procs with
  | none=>exact .refl w
  | some i=>exact (O0 w i).trans (y6 n _)
theorem GJ (w:Wk):NT w (bw w):=y6 _ w
theorem y7:∀(n:Nat) (w:Wk),CI w.c->∃m:List Ev,(cI n w).ev=w.ev++m/\∀e∈m,e.kind=4->∃x∈w.c.procs,x.proc=e.proc/\Gx w.c.now x
 | 0,w,_=>⟨[],by simp [cI],fun _ h=>absurd h (by simp)⟩
 | n+1,w,h=>by
  obtain ⟨s1,s2⟩:=gF w;unfold cI;by_cases he:cA w<0
  ·rw [qDt he];exact ⟨[],by simp,fun _ h=>absurd h (by simp)⟩
  ·rw [qDf he,qCf];obtain ⟨hi,hl⟩:=s2 (by omega);generalize (cA w).toNat=i at *
   have hc0:CI (w.note 4 (w.pc i).proc).c:=h;have hw0:((w.note 4 (w.pc i).proc).pc i).waiting=true:=by rw [bh (w:=w.note 4 (w.pc i).proc) hi];exact hl.1
   obtain ⟨k1,_,k3,k4,_⟩:=b9 hc0 hi hw0;have hi2:i<(ai (w.note 4 (w.pc i).proc) i).c.procs.length:=by rw [k3.len];exact hi
   have hrun:((ai (w.note 4 (w.pc i).proc) i).pc i).waiting=false:=by rw [bh hi2];simp [k4]
   obtain ⟨n1,n2,_⟩:=eL k1 hi2 hrun;obtain ⟨q1,_,q3⟩:=gE n1;obtain ⟨m,hm1,hm2⟩:=y7 n _ q1;obtain ⟨m0,h01,h02⟩:=((CO (w.note 4 (w.pc i).proc) i).trans (NT.same (w':=aZ (ai (w.note 4 (w.pc i).proc) i) i) rfl)).trans (GJ _);have hkp:=(k3.trans n2).trans q3;refine ⟨[⟨4,(w.pc i).proc,⟨#[]⟩,⟨0,0⟩⟩]++m0++m,?_,fun e he h4=>?_⟩
   ·rw [hm1,h01];show (w.ev++[_])++m0++m=_;simp
   ·rcases List.mem_append.1 he with he|he
    ·rcases List.mem_append.1 he with he|he
     ·rw [List.mem_singleton] at he;subst he;exact ⟨w.c.procs[i],List.getElem_mem hi,(congrArg Pc.proc (bh hi)).symm,hl⟩
     ·exact absurd h4 (h02 e he)
    ·obtain ⟨x,hx,hxe,hxl⟩:=hm2 e he h4;refine ⟨x,hkp.kw x hx hxl.1,hxe,?_⟩;have hnow:(bw (aZ (ai (w.note 4 (w.pc i).proc) i) i)).c.now=w.c.now:=hkp.now;rw [hnow] at hxl;exact hxl
theorem qt {c:Cs} {k:Cm} (hk:k.kind=9) (h:cG c=true) (h0:0<=k.n) (h1:k.n<=1000) (hm:c.now+k.n<=1073741824) :
  cy c k=((cI c.procs.length ⟨{ c with now:=c.now+k.n },[]⟩).c,(cI c.procs.length ⟨{ c with now:=c.now+k.n },[]⟩).ev,0):=by
 have e:g8 ⟨c,[]⟩ k=(cI c.procs.length ⟨{ c with now:=c.now+k.n },[]⟩,0):=by
  exact Wh
 unfold cy;rw [h,e];rfl
theorem CP {c:Cs} {k:Cm} (hk:k.kind=9) (h:cG c=true) (h0:0<=k.n) (h1:k.n<=1000) (hm:c.now+k.n<=1073741824) :
  (cy c k).2.2=0/\(cy c k).1.now=c.now+k.n/\(∀x∈(cy c k).1.procs,x.waiting=true->x.req.limit=0\/c.now+k.n<x.since+x.req.limit)/\
  ∀e∈(cy c k).2.1,e.kind=4->∃x∈c.procs,x.proc=e.proc/\Gx (c.now+k.n) x:=by
 obtain ⟨hci,hun⟩:=aV.1 h;rw [qt hk h h0 h1 hm];have hl:=hci.later h0 hm;obtain ⟨k1,k2,k3,_,_⟩:=qi c.procs.length ⟨{ c with now:=c.now+k.n },[]⟩ hl (fun x hx=>iv (c:=c) (hun x hx)) (gj _);refine ⟨rfl,k3,fun x hx hw=>?_,fun e he h4=>?_⟩
 ·have:=(k2 x hx hw).1;rw [k3] at this;exact this
 ·obtain ⟨m,m1,m2⟩:=y7 c.procs.length ⟨{ c with now:=c.now+k.n },[]⟩ hl;exact m2 e (by have he':e∈(cI c.procs.length ⟨{ c with now:=c.now+k.n },[]⟩).ev:=he;rw [m1] at he';simpa using he') h4
theorem xz {c:Cs} (h:CI c) {i:Nat} (hi:i<c.procs.length):bM c.procs[i].proc 0 c.procs=(i:Int):=by
 have h0:0<=bM c.procs[i].proc 0 c.procs:=yR.2 (List.mem_map.2 ⟨_,List.getElem_mem hi,rfl⟩);obtain ⟨j,hj,e,hp⟩:=c7 h0;by_cases hij:j=i
 ·rw [e,hij];omega
 ·exact absurd hp (np h hj hi hij)
theorem E7 {c:Cs} (h:CI c) {x y:Pc} (hx:x∈c.procs) (hy:y∈c.procs) (e:x.proc=y.proc):x=y:=by
 obtain ⟨i,hi,rfl⟩:=List.mem_iff_getElem.1 hx;obtain ⟨j,hj,rfl⟩:=List.mem_iff_getElem.1 hy;by_cases hij:i=j
 ·subst hij;rfl
 ·exact absurd e (np h hi hj hij)
theorem mi {c:Cs} {k:Cm} (h:cG c=true) (h0:(g8 ⟨c,[]⟩ k).2=0):cy c k=((g8 ⟨c,[]⟩ k).1.c,(g8 ⟨c,[]⟩ k).1.ev,0):=by
 unfold cy;rw [h,qDt h0];rfl
theorem iQ {c:Cs} {k:Cm} (h:(cy c k).2.2=0):cG c=true/\(g8 ⟨c,[]⟩ k).2=0:=by
 have hc:=(fI h).1;refine ⟨hc,?_⟩;unfold cy at h;rw [hc] at h;by_cases h0:(g8 ⟨c,[]⟩ k).2=0
 ·exact h0
 ·rw [qDf h0] at h;exact h
theorem C6 {r:Rs} (h:iB r=true):ay (gI r)=true:=by
 have hs:br r=true:=by unfold iB at h;simp only [qBa] at h;exact h.1.1.2
 unfold ay jt gI;simp only [h,Bool.true_and];have h1:zX r []=true:=by unfold zX;rw [hs];simp [xJ,iX,js,hs,fm]
 rw [h1];rfl
theorem G6 {l:List Rs} (h:CatOk l):gu (l.map gI)=true:=by
 have key:∀(m:List Rs) (o:Option ByteArray),(∀x∈m,iB x=true)->(∀i (h:i+1<m.length),jN (m[i]'(by omega)).name m[i+1].name=true)->(∀n,o=some n->∀x,m.head? = some x->jN n x.name=true)->mN o (m.map gI)=true:=by
  intro m;induction m with
  | nil=>intro _ _ _ _;rfl
  | cons x m ih =>
   intro o h1 h2 h3;rw [List.map_cons,eM,C6 (h1 x (by simp))];have e:Hf o (gI x).res.name=true:=by
    cases o with
    | none=>rfl
    | some n=>exact h3 n rfl x rfl
   rw [e];refine ih _ (fun y hy=>h1 y (by simp [hy])) (fun i hi=>?_) fun n hn y hy=>?_
   ·have:=h2 (i+1) (by simpa using hi);simpa using this
   ·cases m with
    | nil=>cases hy
    | cons z m =>
     have:=h2 0 (by simp);exact UR
 exact Vd
theorem BE:eu []=[]:=by
 apply List.eq_nil_iff_forall_not_mem.2
 intro x hx;rw [dd] at hx;cases hx
theorem Kv (l:List Rs):lC (l.map gI)=[]:=by
 induction l with
 | nil=>rfl
 | cons x l ih=>show eu []++lC (l.map gI)=[];rw [ih,BE];rfl
theorem G7 {l:List Rs} (h:CatOk l):di (l.map gI)=true/\aO (l.map gI)=[]:=by
 have e:aO (l.map gI)=[]:=by unfold aO;rw [Kv,BE]
 exact VI
theorem Fx {l:List Rs} (h:CatOk l):cG ⟨0,l.map gI,[]⟩=true:=by
 obtain ⟨h1,h2⟩:=G7 h;exact V3
theorem Kw (c:Cs) (k:Cm) (l:List Cm):pi c (k :: l)=pi (bif decide ((cy c k).2.2=0) then (cy c k).1 else c) l:=rfl
theorem Tf (c:Cs) (ks:List Cm) {W:Cs} (hW:pi c ks=W):FSpec prog 55 [c.a 2,.one (.sl (Pk 2) ks)] [] [] (.v (W.a 2)) []:=by
 refine a7 func55 ?_;refine aY (fun c ρ a w hr=>bV (t:=1) hr rfl) (fun hl1=>?_);refine ao ?_;refine ab (fun y:Nat×Cs=>y.1<=ks.length/\pi y.2 (ks.drop y.1)=W) (fun y=>bP [2,4] [(1,.c (.sl (Pk 2) ks)),(2,.c (.ptr 2 0)),(4,.c (.ptr 4 0)),(5,.i y.1)] [(2,.box 32 (y.2.d 2)),(4,.box 32 [.sc (.int .i64 0),.sc (.slice none 0 0),.sc (.slice none 0 0)])]) (fun y=>ks.length-y.1) (0,c) ⟨Nat.zero_le _,hW⟩ aT ?_;clear hW c;rintro ⟨i,c⟩ ⟨hi,hs⟩;dsimp only at *
 by_cases hlt:i<ks.length
 ·obtain ⟨k,hk⟩:∃k,ks[i]? = some k:=⟨_,qGg hlt⟩;have ek:=qGs hk;rw [qDc hlt,ek,Kw] at hs;obtain ⟨R,hR⟩:=qGe (cy c k);have kD:=Ur 2 c k hR;rw [hR] at hs;by_cases h0:R.2.2=0
  ·exact UU
  ·exact UV
 ·exact Vm
def i6 (l:List Int):Cs:=pi ⟨0,(fb l).1.map gI,[]⟩ (fb l).2
theorem jr (l:List Int) (hl:l.length<=300) (hc:CatOk (fb l).1) {W:Cs} (hW:i6 l=W):FSpec prog 19 [.one (.sl km l)] [] [] (.v (W.a 2)) []:=by
 exact UL
theorem RB (d:Nat) (c:Cs) (p:Pr) {i:Nat} {x:Pc} (hi:bM p 0 c.procs=i) (hx:c.procs[i]? = some x):FSpec prog 29 [c.a d,p.a] [] [] (.tup [x.a d,.one (.sc (.bool true))]) []:=by
 refine a7 func29 ?_;have hlt:=(List.getElem?_eq_some_iff.1 hx).1;have kI:=qp c.procs d p hi;refine ao ?_
 (refine fE (qf []) ?_;exact af)
theorem RC (d:Nat) (c:Cs) (p:Pr) {z:Int} (hi:bM p 0 c.procs=z) (hz:z<0):FSpec prog 29 [c.a d,p.a] [] [] (.tup [FI.a d,.one (.sc (.bool false))]) []:=by
 refine a7 func29 ?_;have kI:=qp c.procs d p hi;refine ao ?_
 (refine fE (qf []) ?_;exact af)
theorem Ps {c:Cs} {k:Cm} (h:cG c=true) (he:(g8 ⟨c,[]⟩ k).2=0):c.now<=(g8 ⟨c,[]⟩ k).1.c.now/\(g8 ⟨c,[]⟩ k).1.c.now<=c.now+1000:=by
 obtain ⟨hci,hun⟩:=aV.1 h;have fin:∀w:Wk,w.c.now=c.now->c.now<=w.c.now/\w.c.now<=c.now+1000:=fun w e=>by rw [e];omega
 unfold g8 at he ⊢;cases hA:decide (1<=k.kind) && decide (k.kind<=9) with
 | false=>rw [hA] at he;simp at he
 | true =>
  rw [hA] at he;simp only [Bool.not_true,qCf] at he ⊢;by_cases h1:k.kind=1
  ·rw [qDt h1] at he ⊢;simp only [qCt] at he ⊢;exact fin _ (xw hci he).2.2.1
  ·rw [qDf h1] at he ⊢;simp only [qCf] at he ⊢;by_cases h9:k.kind=9
   ·rw [qDt h9] at he ⊢;simp only [qCt] at he ⊢;have hn:=(Io hci (fun x hx=>iv (hun x hx)) he).2.2.1;have hb:0<=k.n/\k.n<=1000:=by
     unfold gi at he;cases hA:decide (0<=k.n) && decide (k.n<=1000) with
     | false=>rw [hA] at he;simp at he
     | true=>simpa using hA
    rw [hn];show c.now<=c.now+k.n/\c.now+k.n<=c.now+1000;omega
   ·rw [qDf h9] at he ⊢;simp only [qCf] at he ⊢;by_cases hI:bM k.proc 0 c.procs<0
    ·exact VG
    ·rw [qDf hI] at he ⊢;simp only [qCf] at he ⊢;obtain ⟨i,hi,e,_⟩:=c7 (p:=k.proc) (l:=c.procs) (k:=0) (by omega);have ei:(bM k.proc 0 c.procs).toNat=i:=by rw [e];omega
     rw [ei] at he ⊢;by_cases h2:k.kind=2
     ·rw [qDt h2] at he ⊢;simp only [qCt] at he ⊢;exact fin _ (jD hci hi he).2.2.1
     ·rw [qDf h2] at he ⊢;simp only [qCf] at he ⊢;by_cases h3:k.kind=3
      ·rw [qDt h3] at he ⊢;simp only [qCt] at he ⊢;cases hw:(Wk.pc ⟨c,[]⟩ i).waiting with
       | false=>rw [hw] at he;simp at he
       | true =>
        simp only [Bool.not_true,qCf];obtain ⟨k1,_,k3,k4,_⟩:=b9 hci hi hw;have hi2:i<(ai ⟨c,[]⟩ i).c.procs.length:=by rw [k3.len];exact hi
        obtain ⟨n1,n2,_⟩:=eL k1 hi2 (by rw [bh hi2];simp [k4]);exact fin _ ((k3.trans n2).trans (gE n1).2.2).now
      ·rw [qDf h3] at he ⊢;simp only [qCf] at he ⊢;by_cases h4:k.kind=4
       ·rw [qDt h4] at he ⊢;simp only [qCt] at he ⊢;exact fin _ (lZ hci hi he).2.2.1.now
       ·rw [qDf h4] at he ⊢;simp only [qCf] at he ⊢;by_cases h5:k.kind=5
        ·rw [qDt h5] at he ⊢;simp only [qCt] at he ⊢;refine fin _ ?_;clear he;generalize (Wk.pc ⟨c,[]⟩ i).waiting=b1;generalize decide ((da (Wk.pc ⟨c,[]⟩ i).led k.n).2=0)=b2;cases b1 <;> cases b2 <;> rfl
        ·rw [qDf h5] at he ⊢;simp only [qCf] at he ⊢;by_cases h6:k.kind=6
         ·rw [qDt h6] at he ⊢;simp only [qCt] at he ⊢;exact fin _ (iN hci hi he).2.2.1.now
         ·rw [qDf h6] at he ⊢;simp only [qCf] at he ⊢;cases h8:decide (k.kind=8) && (Wk.pc ⟨c,[]⟩ i).waiting with
          | true=>rw [h8] at he;simp at he
          | false =>
           simp only [qCf];exact fin _ (xu (w:=⟨c,[]⟩) hci hi).2.2.2.1
theorem Pt {c:Cs} {k:Cm} (he:(cy c k).2.2=0):c.now<=(cy c k).1.now/\(cy c k).1.now<=c.now+1000:=by
 have hc:=(fI he).1;unfold cy at he ⊢;rw [hc] at he ⊢;by_cases h0:(g8 ⟨c,[]⟩ k).2=0
 ·rw [qDt h0];exact Ps hc h0
 ·rw [qDf h0] at he;exact absurd he h0
theorem zq:∀(l:List Cm) (c:Cs),c.now<=(pi c l).now/\(pi c l).now<=c.now+1000*(l.length:Int)
 | [],c=>⟨Int.le_refl _,by show c.now<=c.now+1000*((0:Nat):Int);omega⟩
 | k :: l,c=>by
  show c.now<=(pi (bif decide ((cy c k).2.2=0) then (cy c k).1 else c) l).now/\(pi (bif decide ((cy c k).2.2=0) then (cy c k).1 else c) l).now<=_;have hl:((k :: l).length:Int)=(l.length:Int)+1:=by simp
  by_cases he:(cy c k).2.2=0
  ·rw [qDt he,qCt,hl];have h1:=Pt he;have h2:=zq l (cy c k).1;omega
  ·rw [qDf he,qCf,hl];have h2:=zq l c;omega
theorem FC (l:List Int):(fb l).2.length<=l.length+4:=by
 exact V4
theorem zr (l:List Int) (hl:l.length<=300):(i6 l).now<=304000:=by
 have h1:=(zq (fb l).2 ⟨0,(fb l).1.map gI,[]⟩).2;have h2:=FC l;have h3:(i6 l).now<=0+1000*((fb l).2.length:Int):=h1;omega
theorem gB (l:List Int):cG (i6 l)=true:=Cx (fb l).2 _ (Fx (jV l))
set_option maxRecDepth 100000
set_option maxHeartbeats 64000000
theorem Nk (d:Nat) {c:Cs} (h:cG c=true) {x:Pc} (hx:x∈c.procs):FSpec prog 29 [c.a d,x.proc.a] [] [] (.tup [x.a d,.one (.sc (.bool true))]) []:=by
 have hc:=(aV.1 h).1;obtain ⟨i,hi,e⟩:=List.mem_iff_getElem.1 hx;have hI:=xz hc hi;rw [e] at hI;exact RB d c x.proc hI (by rw [qGg hi,e])
theorem Nl {c:Cs} {p:Pr} (h:∀x∈c.procs,x.proc≠p):bM p 0 c.procs<0:=by
 by_cases h0:0<=bM p 0 c.procs
 ·obtain ⟨i,hi,_,hp⟩:=c7 h0;exact absurd hp (h _ (List.getElem_mem hi))
 ·omega
theorem Nm (d:Nat) {c:Cs} {p:Pr} (h:∀x∈c.procs,x.proc≠p):FSpec prog 29 [c.a d,p.a] [] [] (.tup [FI.a d,.one (.sc (.bool false))]) []:=RC d c p rfl (Nl h)
theorem gH {w:Wk} (h:CI w.c) {n:Nat} (he:w.ev.length<=n):(bw w).ev.length<=n+2248:=by
 have:=sJ h;show (aK w.c.procs.length w).ev.length<=_;omega
theorem BF:∀(n:Nat) (w:Wk),CI w.c->(cI n w).ev.length<=w.ev.length+2600*n
 | 0,w,_=>by show w.ev.length<=_;omega
 | n+1,w,h=>by
  unfold cI;by_cases h0:cA w<0
  ·rw [qDt h0,qCt];omega
  ·rw [qDf h0,qCf];obtain ⟨hi,hl1,_⟩:=(gF w).2 (by omega);generalize (cA w).toNat=i at *
   have hw0:((w.note 4 (w.pc i).proc).pc i).waiting=true:=by
    have hp0:(w.note 4 (w.pc i).proc).pc i=w.pc i:=rfl;rw [hp0,bh hi];exact hl1
   obtain ⟨k1,_,k3,k4,_⟩:=b9 (w:=w.note 4 (w.pc i).proc) h hi hw0;have hev:=dM (w.note 4 (w.pc i).proc) i;rw [g6] at hev;have hi2:i<(ai (w.note 4 (w.pc i).proc) i).c.procs.length:=by rw [k3.len];exact hi
   have hrun:((ai (w.note 4 (w.pc i).proc) i).pc i).waiting=false:=by rw [bh hi2];simp [k4]
   obtain ⟨n1,_,_⟩:=eL k1 hi2 hrun;have he2:(aZ (ai (w.note 4 (w.pc i).proc) i) i).ev.length<=w.ev.length+281:=by
    show (ai (w.note 4 (w.pc i).proc) i).ev.length<=_;omega
   have h1:=gH n1 he2;have h2:=BF n _ (ir n1).1;omega
theorem Pu {c:Cs} {k:Cm} (h:cG c=true):(g8 ⟨c,[]⟩ k).1.ev.length<=100000:=by
 obtain ⟨hci,hun⟩:=aV.1 h;unfold g8;cases hA:decide (1<=k.kind) && decide (k.kind<=9) with
 | false=>exact Nat.zero_le _
 | true =>
  simp only [Bool.not_true,qCf];by_cases h1:k.kind=1
  ·rw [qDt h1,qCt];unfold iZ;cases !(jW k.proc && decide (1<=k.n) && decide (k.n<=1000)) <;> cases decide (0<=bM k.proc 0 (Wk.mk c []).c.procs) <;> cases decide ((Wk.mk c []).c.procs.length=8) <;> exact Nat.zero_le _
  rw [qDf h1,qCf];by_cases h9:k.kind=9
  ·rw [qDt h9,qCt];unfold gi;cases hB:decide (0<=k.n) && decide (k.n<=1000) with
   | false=>exact Nat.zero_le _
   | true =>
    simp only [Bool.not_true,qCf];simp only [qBa,decide_eq_true_eq] at hB;by_cases hm:1073741824-k.n<c.now
    ·rw [qDt hm,qCt];exact VV
    ·exact US
  rw [qDf h9,qCf];by_cases hI:bM k.proc 0 c.procs<0
  ·rw [qDt hI,qCt];exact VV
  rw [qDf hI,qCf];obtain ⟨i,hi,e,_⟩:=c7 (p:=k.proc) (l:=c.procs) (k:=0) (by omega);have ei:(bM k.proc 0 c.procs).toNat=i:=by rw [e];omega
  rw [ei];clear ei e hI;have h8:=hci.len;by_cases h2:k.kind=2
  ·rw [qDt h2,qCt];unfold bX;cases hw:(Wk.pc ⟨c,[]⟩ i).waiting with
   | true=>exact Nat.zero_le _
   | false =>
    cases hq:m6 k.req with
    | false=>exact Nat.zero_le _
    | true =>
     by_cases hr:fW c.queues k.req.expr=0
     ·exact UK
     ·rw [qDf hr];exact VV
  rw [qDf h2,qCf];by_cases h3:k.kind=3
  ·rw [qDt h3,qCt];cases hw:(Wk.pc ⟨c,[]⟩ i).waiting with
   | false=>exact Nat.zero_le _
   | true =>
    obtain ⟨k1,_,k3,k4,_⟩:=b9 (w:=⟨c,[]⟩) hci hi hw;have hi2:i<(ai ⟨c,[]⟩ i).c.procs.length:=by rw [k3.len];exact hi
    obtain ⟨n1,_,_⟩:=eL k1 hi2 (by rw [bh hi2];simp [k4]);have hev:=dM ⟨c,[]⟩ i;have e0:([]:List Ev).length=0:=rfl;exact Vg
  rw [qDf h3,qCf];by_cases h4:k.kind=4
  ·rw [qDt h4,qCt];unfold dG;cases hw:(Wk.pc ⟨c,[]⟩ i).waiting with
   | true=>exact Nat.zero_le _
   | false =>
    by_cases hl:aC (Wk.pc ⟨c,[]⟩ i).led.entries k.name=⟨0,0⟩
    ·rw [qDt hl];exact VV
    ·rw [qDf hl];have hm:=(jQ (w:=⟨c,[]⟩) hci hi hw hl).1;have hL:=fH c.queues (Wk.pc ⟨c,[]⟩ i).proc ⟨k.name,⟨0,0⟩⟩;have:=gH (n:=18) hm (by
      show ((Wk.mk c []).take (bD c.queues (Wk.pc ⟨c,[]⟩ i).proc ⟨k.name,⟨0,0⟩⟩).1 (bD c.queues (Wk.pc ⟨c,[]⟩ i).proc ⟨k.name,⟨0,0⟩⟩).2.1).ev.length<=_;rw [jS];have e0:(Wk.mk c []).ev.length=0:=rfl;omega)
     show (bw (qd ⟨c,[]⟩ i k.name)).ev.length<=_;omega
  rw [qDf h4,qCf];by_cases h5:k.kind=5
  ·rw [qDt h5,qCt];cases (Wk.pc ⟨c,[]⟩ i).waiting <;> cases decide ((da (Wk.pc ⟨c,[]⟩ i).led k.n).2=0) <;> exact Nat.zero_le _
  rw [qDf h5,qCf];by_cases h6:k.kind=6
  ·rw [qDt h6,qCt];unfold cu;by_cases hu:(cQ (Wk.pc ⟨c,[]⟩ i).led k.n).2.2=0
   ·rw [qDt hu];have hm:=(je (w:=⟨c,[]⟩) hci hi hu).2.1;have hA:(jI ⟨c,[]⟩ i).ev.length<=280:=by
     unfold jI;cases (Wk.pc ⟨c,[]⟩ i).waiting with
     | false=>exact Nat.zero_le _
     | true=>exact dM ⟨c,[]⟩ i
    have hinv:=hci.inv _ (List.getElem_mem hi);exact UN
   ·rw [qDf hu];exact VV
  rw [qDf h6,qCf];cases h8':decide (k.kind=8) && (Wk.pc ⟨c,[]⟩ i).waiting with
  | true=>exact Nat.zero_le _
  | false =>
   have hr:=nE c.queues (Wk.pc ⟨c,[]⟩ i).proc;have:=gH (n:=1001) (qg (w:=⟨c,[]⟩) hci hi) (by
    unfold J0;rw [g6];simp only [List.length_append,List.length_nil];omega)
   show (bw (J0 ⟨c,[]⟩ i)).ev.length<=_;omega
theorem xD {c:Cs} {k:Cm} (he:(cy c k).2.2=0):(cy c k).2.1.length<=100000:=by
 obtain ⟨hc,h0⟩:=iQ he;rw [mi hc h0];exact Pu hc
theorem Hb (l:List Int) (n:Int):FSpec prog 9 [.one (.sl km l),lw n] [] [] (.b true) []:=by
 refine a7 func9 ?_;have kA:=jF;obtain ⟨bl,hbl⟩:∃b,decide (l.length<=300)=b:=⟨_,rfl⟩;have kL:=ka l hbl;by_cases hn:0<=n/\n<=1000
 case neg =>
  exact Wd
 cases bl with
 | false =>
  exact UG
 | true =>
  have hl:=of_decide_eq_true hbl;obtain ⟨W,hW⟩:=qGe (i6 l);have kC:=jr l hl (jV l) hW;have hv:cG W=true:=hW▸gB l;have hs:W.now<=304000:=hW▸zr l hl;obtain ⟨R,hR⟩:=qGe (cy W ⟨9,⟨0,0,0⟩,Rq.zero,⟨#[]⟩,n⟩);have kP:=FJ 2 W ⟨9,⟨0,0,0⟩,Rq.zero,⟨#[]⟩,n⟩ hR;have hp:=CP (c:=W) (k:=⟨9,⟨0,0,0⟩,Rq.zero,⟨#[]⟩,n⟩) rfl hv hn.1 hn.2 (by show W.now+n<=_;omega);have hX'':=(fI (c:=W) (k:=⟨9,⟨0,0,0⟩,Rq.zero,⟨#[]⟩,n⟩) hp.1).2;have hEl:=xD (c:=W) (k:=⟨9,⟨0,0,0⟩,Rq.zero,⟨#[]⟩,n⟩) hp.1;rw [hR] at hp hX'' hEl;obtain ⟨X,E,e⟩:=R;obtain ⟨h0,hX,hpr,hev⟩:=hp;dsimp only at *
  obtain rfl:e=0:=h0;have hnow:=(aV.1 hv).1.now;clear hR hW hbl hl;refine ao ?_;have hXc:=(aV.1 hX'').1;have hxw:∀x∈X.procs,x.waiting=true->(0<=x.since/\x.since<=1073741824)/\0<=x.req.limit/\x.req.limit<=1000:=fun x hx hw=>by
   have hw':=((hXc.inv x hx).wat hw).1;have h1:=hw'.sn;have h2:=hw'.rq;have h3:=hXc.now;unfold m6 at h2;simp only [qBa,decide_eq_true_eq] at h2;exact ⟨⟨by omega,by omega⟩,by omega,by omega⟩
  have hcw:∀x∈W.procs,x.waiting=true->(0<=x.since/\x.since<=1073741824)/\0<=x.req.limit/\x.req.limit<=1000:=fun x hx hw=>by
   have hWc:=(aV.1 hv).1;have hw':=((hWc.inv x hx).wat hw).1;have h1:=hw'.sn;have h2:=hw'.rq;have h3:=hWc.now;unfold m6 at h2;simp only [qBa,decide_eq_true_eq] at h2;exact ⟨⟨by omega,by omega⟩,by omega,by omega⟩
  have h8:=hXc.len;refine ab (fun i=>i<=X.procs.length) (fun i=>bP [5,6] [(5,.c (.ptr 5 0)),(6,.c (.ptr 6 0)),(7,.c (.sl fX E)),(9,.i i)] [(5,.box 32 (W.d 2)),(6,.box 32 (X.d 2))]) (fun i=>X.procs.length-i) 0 (Nat.zero_le _) aT ?_;clear kL kC kP;intro i hi;by_cases hlt:i<X.procs.length
  ·obtain ⟨x,hx⟩:∃x,X.procs[i]? = some x:=⟨_,qGg hlt⟩;have hm:=List.mem_of_getElem? hx;cases hw:x.waiting with
   | false =>
    refine ao ?_;exact U0
   | true =>
    have hp1:=hpr x hm hw;obtain ⟨⟨b1,b2⟩,b3,b4⟩:=hxw x hm hw;repeat' (first|refine av ?_ ?_|refine aq ?_|exact aw|(refine ap fun hb=>?_;first|(cases hw.symm.trans hb;done)|(exfalso;omega)|skip))
    all_goals (refine ⟨i+1,by omega,by omega,?_⟩;exact aT)
  ·refine ao ?_;refine ab (fun i=>i<=E.length) (fun i=>bP [5,6] [(5,.c (.ptr 5 0)),(6,.c (.ptr 6 0)),(7,.c (.sl fX E)),(11,.i i)] [(5,.box 32 (W.d 2)),(6,.box 32 (X.d 2))]) (fun i=>E.length-i) 0 (Nat.zero_le _) aT ?_;clear hi hlt hpr hxw h8;intro i hi;by_cases hlt:i<E.length
   ·obtain ⟨e,he⟩:∃e,E[i]? = some e:=⟨_,qGg hlt⟩;have hev1:=hev e (List.mem_of_getElem? he);by_cases hn:∀x∈W.procs,x.proc≠e.proc
    ·have kN:=Nm 2 (c:=W) hn;have h4:e.kind≠4:=fun h4=>by
      obtain ⟨x,hx,hp,_⟩:=hev1 h4;exact hn x hx hp
     clear hn hev1;refine ao ?_;exact U0
    ·obtain ⟨x0,hx0,hp0⟩:∃x∈W.procs,x.proc=e.proc:=Classical.byContradiction fun hc=>hn fun x hx e=>hc ⟨x,hx,e⟩;clear hn;have kN:=Nk 2 hv hx0;rw [hp0] at kN;by_cases h4:e.kind=4
     ·obtain ⟨x,hx,hp,l1,l2,l3⟩:=hev1 h4;obtain rfl:x=x0:=E7 (aV.1 hv).1 hx hx0 (hp.trans hp0.symm);obtain ⟨⟨b1,b2⟩,b3,b4⟩:=hcw x hx l1;clear hev1;refine ao ?_;exact U0
     ·clear hev1;refine ao ?_;exact U0
   ·exact UG
end Go.Proofs.YthpgjkjgkhjjlaaGreatDoor
