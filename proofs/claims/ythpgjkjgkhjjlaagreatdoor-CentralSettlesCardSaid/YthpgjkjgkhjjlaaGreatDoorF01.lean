/- Part F01 of a proof of statements of chapter 15 (no condition). -/
import Derived.Test.YthpgjkjgkhjjlaaGreatDoorK42
set_option linter.unusedVariables false
set_option linter.unusedSimpArgs false
set_option maxRecDepth 100000
set_option maxHeartbeats 64000000
namespace Go.Proofs.YthpgjkjgkhjjlaaGreatDoor
open Go.RowKit Go.Proofs.Tryz
def pi:Cs->List Cm->Cs
 | c,[]=>c
 | c,k :: l=>pi (bif decide ((cy c k).2.2=0) then (cy c k).1 else c) l
theorem Cx:∀(l:List Cm) (c:Cs),cG c=true->cG (pi c l)=true
 | [],_,h=>h
 | k :: l,c,h=>by
  show cG (pi (bif decide ((cy c k).2.2=0) then (cy c k).1 else c) l)=true;by_cases he:(cy c k).2.2=0
  ·exact V8
  ·rw [qDf he];exact Cx l c h
theorem xz {c:Cs} (h:CI c) {i:Nat} (hi:i<c.procs.length):bM c.procs[i].proc 0 c.procs=(i:Int):=by
 have h0:0<=bM c.procs[i].proc 0 c.procs:=yR.2 (List.mem_map.2 ⟨_,List.getElem_mem hi,rfl⟩);obtain ⟨j,hj,e,hp⟩:=c7 h0;by_cases hij:j=i
 ·rw [e,hij];omega
 ·exact absurd hp (np h hj hi hij)
theorem mi {c:Cs} {k:Cm} (h:cG c=true) (h0:(g8 ⟨c,[]⟩ k).2=0):cy c k=((g8 ⟨c,[]⟩ k).1.c,(g8 ⟨c,[]⟩ k).1.ev,0):=by
 unfold cy;rw [h,qDt h0];rfl
theorem iQ {c:Cs} {k:Cm} (h:(cy c k).2.2=0):cG c=true/\(g8 ⟨c,[]⟩ k).2=0:=by
 have hc:=(fI h).1;refine ⟨hc,?_⟩;unfold cy at h;rw [hc] at h;by_cases h0:(g8 ⟨c,[]⟩ k).2=0
 ·exact h0
 ·rw [qDf h0] at h;exact h
theorem CR {c:Cs} {k:Cm} (h:CI c) {i:Nat} (hi:i<c.procs.length) (hp:k.proc=c.procs[i].proc) :
  (k.kind=2->g8 ⟨c,[]⟩ k=bX ⟨c,[]⟩ i k.req)/\
  (k.kind=3->g8 ⟨c,[]⟩ k=bif !(Wk.pc ⟨c,[]⟩ i).waiting then (⟨c,[]⟩,14) else (bw (aZ (ai ⟨c,[]⟩ i) i),0))/\
  (k.kind=6->g8 ⟨c,[]⟩ k=cu ⟨c,[]⟩ i k.n)/\
  (k.kind=7->g8 ⟨c,[]⟩ k=(gT ⟨c,[]⟩ i,0)):=by
 have e:bM k.proc 0 c.procs=(i:Int):=by rw [hp];exact xz h hi
 have e0:decide (bM k.proc 0 (Wk.mk c []).c.procs<0)=false:=qDf (by show ¬(bM k.proc 0 c.procs<0);omega);have e1:(bM k.proc 0 (Wk.mk c []).c.procs).toNat=i:=by show (bM k.proc 0 c.procs).toNat=i;omega
 refine ⟨?_,?_,?_,?_⟩ <;> intro hk <;> unfold g8 <;> rw [e0,e1,hk] <;> rfl
def i5 (w:Wk) (i:Nat):Wk:=bw (aZ (ai (w.note 4 (w.pc i).proc) i) i)
theorem d5 (n:Nat) (w:Wk):cI (n+1) w=bif decide (cA w<0) then w else cI n (i5 w (cA w).toNat):=rfl
theorem qu {w:Wk} (h:CI w.c) (he:0<=cA w):CI (i5 w (cA w).toNat).c/\ct (i5 w (cA w).toNat).c.procs+1<=ct w.c.procs/\Kp w (i5 w (cA w).toNat):=by
 obtain ⟨hi,hl⟩:=(gF w).2 he;generalize (cA w).toNat=i at *
 have hc0:CI (w.note 4 (w.pc i).proc).c:=h;have hw0:((w.note 4 (w.pc i).proc).pc i).waiting=true:=by rw [bh (w:=w.note 4 (w.pc i).proc) hi];exact hl.1
 obtain ⟨k1,k2,k3,k4,_⟩:=b9 hc0 hi hw0;have hi2:i<(ai (w.note 4 (w.pc i).proc) i).c.procs.length:=by rw [k3.len];exact hi
 have hrun:((ai (w.note 4 (w.pc i).proc) i).pc i).waiting=false:=by rw [bh hi2];simp [k4]
 obtain ⟨n1,n2,n3⟩:=eL k1 hi2 hrun;obtain ⟨q1,_,q3,q4,q5,q6,_,q8⟩:=ir n1;have k2':ct (ai (w.note 4 (w.pc i).proc) i).c.procs+1=ct w.c.procs:=k2;have hk:=(k3.trans n2).trans (⟨q6,q4,q3,q8⟩:Kp _ (bw (aZ (ai (w.note 4 (w.pc i).proc) i) i)));exact UX
theorem PW {c:Cs} {k:Cm} (h:cG c=true) (he:(g8 ⟨c,[]⟩ k).2=0):ef (g8 ⟨c,[]⟩ k).1.c.queues=ef c.queues:=by
 obtain ⟨hci,hun⟩:=aV.1 h;unfold g8 at he ⊢;cases hA:decide (1<=k.kind) && decide (k.kind<=9) with
 | false=>rw [hA] at he;simp at he
 | true =>
  rw [hA] at he;simp only [Bool.not_true,qCf] at he ⊢;by_cases h1:k.kind=1
  ·exact VE
  ·rw [qDf h1] at he ⊢;simp only [qCf] at he ⊢;by_cases h9:k.kind=9
   ·rw [qDt h9] at he ⊢;simp only [qCt] at he ⊢;unfold gi at he ⊢;cases hB:decide (0<=k.n) && decide (k.n<=1000) with
    | false=>rw [hB] at he;simp at he
    | true =>
     rw [hB] at he;simp only [Bool.not_true,qCf] at he ⊢;simp only [qBa,decide_eq_true_eq] at hB;by_cases hm:1073741824-k.n<c.now
     ·exact Wj
     ·rw [qDf hm];simp only [qCf];have gen:∀(n:Nat) (w:Wk),CI w.c->ef (cI n w).c.queues=ef w.c.queues:=by
       intro n;induction n with
       | zero=>intro w _;rfl
       | succ n ih =>
        intro w hw;rw [d5];by_cases he:cA w<0
        ·rw [qDt he];rfl
        ·exact Vn
      exact Vi
   ·rw [qDf h9] at he ⊢;simp only [qCf] at he ⊢;by_cases hI:bM k.proc 0 c.procs<0
    ·exact VG
    ·rw [qDf hI] at he ⊢;simp only [qCf] at he ⊢;obtain ⟨i,hi,e,hip⟩:=c7 (p:=k.proc) (l:=c.procs) (k:=0) (by omega);have ei:(bM k.proc 0 c.procs).toNat=i:=by rw [e];omega
     rw [ei] at he ⊢;by_cases h2:k.kind=2
     ·exact Vq
     ·rw [qDf h2] at he ⊢;simp only [qCf] at he ⊢;by_cases h3:k.kind=3
      ·rw [qDt h3] at he ⊢;simp only [qCt] at he ⊢;cases hw:(Wk.pc ⟨c,[]⟩ i).waiting with
       | false=>rw [hw] at he;simp at he
       | true =>
        simp only [Bool.not_true,qCf];obtain ⟨k1,_,k3,k4,_⟩:=b9 (w:=⟨c,[]⟩) hci hi hw;have hi2:i<(ai ⟨c,[]⟩ i).c.procs.length:=by rw [k3.len];exact hi
        obtain ⟨n1,n2,_⟩:=eL k1 hi2 (by rw [bh hi2];simp [k4]);obtain ⟨_,_,q3⟩:=gE n1;exact ((k3.trans n2).trans q3).nm
      ·rw [qDf h3] at he ⊢;simp only [qCf] at he ⊢;by_cases h4:k.kind=4
       ·exact Vt
       ·rw [qDf h4] at he ⊢;simp only [qCf] at he ⊢;by_cases h5:k.kind=5
        ·rw [qDt h5] at he ⊢;simp only [qCt] at he ⊢;rcases Bool.eq_false_or_eq_true (Wk.pc ⟨c,[]⟩ i).waiting with hw|hw
         ·rw [cT hw] at he;simp at he
         ·rw [cF hw] at he ⊢;cases hs : !decide ((da (Wk.pc ⟨c,[]⟩ i).led k.n).2=0) with
          | true=>rfl
          | false=>rfl
        ·rw [qDf h5] at he ⊢;simp only [qCf] at he ⊢;by_cases h6:k.kind=6
         ·exact Vu
         ·rw [qDf h6] at he ⊢;simp only [qCf] at he ⊢;cases h8:decide (k.kind=8) && (Wk.pc ⟨c,[]⟩ i).waiting with
          | true=>rw [h8] at he;simp at he
          | false =>
           exact VL
mutual
theorem qv {h h':Tm->Bool} (hh:∀a,h a=true->h' a=true):∀x:Ex,oJ h x=true->oJ h' x=true
 | .mk k a l,hx=>by
  rw [FY] at hx ⊢;cases hl:l.isEmpty with
  | true =>
   rw [hl,qCt] at hx;exact hh a hx
  | false =>
   rw [hl,qCf,decide_eq_true_eq] at hx;rw [qCf,decide_eq_true_eq];have:=Fo hh l;omega
theorem Fo {h h':Tm->Bool} (hh:∀a,h a=true->h' a=true):∀l:List Ex,FX h l<=FX h' l
 | []=>Nat.le_refl _
 | x :: l=>by
  rw [pB,pB];have h1:=Fo hh l;have h2:=qv hh x;cases h3:oJ h x with
  | true=>rw [h2 h3];simp;omega
  | false=>cases oJ h' x <;> simp <;> omega
end
def LeB (s s':List Bool):Prop:=∀k,s.getD k false=true->s'.getD k false=true
theorem LeB.tail {s s':List Bool} (h:LeB s s'):LeB s.tail s'.tail:=fun k hk=>by
 have:=h (k+1);cases s <;> cases s' <;> simp_all
theorem LeB.head {s s':List Bool} (h:LeB s s') (hk:s.headD false=true):s'.headD false=true:=by
 have:=h 0;cases s <;> cases s' <;> simp_all
theorem zi:∀(L:List Tm) (s s':List Bool),LeB s s'->∀a,cE L s a=true->cE L s' a=true
 | [],_,_,_,_,h=>h
 | b :: L,s,s',h,a,hk=>by
  rw [lI] at hk ⊢;cases hc:decide (b=a) with
  | true =>
   rw [hc,qCt] at hk;exact h.head hk
  | false =>
   rw [hc,qCf] at hk;exact zi L _ _ h.tail a hk
def GQ (x:Ex) (L:List Tm) (s:List Bool):Bool:=oJ (cE L s) x
theorem nH {x:Ex} {L:List Tm} {s s':List Bool} (h:LeB s s') (he:GQ x L s=true):GQ x L s'=true:=qv (fun a ha=>zi L s s' h a ha) x he
theorem qw (l:List Bool) (i k:Nat) (b:Bool):(l.set i b).getD k false=if k=i/\i<l.length then b else l.getD k false:=by
 rw [List.getD_eq_getElem?_getD,List.getD_eq_getElem?_getD,List.getElem?_set];by_cases h:i=k
 ·subst h;by_cases h2:i<l.length
  ·simp [h2]
  ·simp [h2]
 ·rw [if_neg h,if_neg (fun e=>h e.1.symm)]
theorem qz {l:List Bool} {i:Nat} (h:l.getD i false=true):i<l.length:=by
 rw [List.getD_eq_getElem?_getD] at h;refine Classical.byContradiction fun hn=>?_;rw [List.getElem?_eq_none (by omega)] at h;cases h
def mu (x:Ex) (L:List Tm) (i:Nat) (out:List Bool):List Bool:=bif out.getD i false then out.set i (!GQ x L (out.set i false)) else out
theorem nI (x:Ex) (L:List Tm) (i:Nat) (out:List Bool):c9 x L (i+1) out=c9 x L i (mu x L i out):=rfl
theorem fk (x:Ex) (L:List Tm) (i k:Nat) (out:List Bool):(mu x L i out).getD k false=if k=i then out.getD i false && !GQ x L (out.set i false) else out.getD k false:=by
 unfold mu;cases h:out.getD i false with
 | true =>
  rw [qCt,qw];have:=qz h;by_cases hk:k=i
  ·rw [if_pos ⟨hk,this⟩,if_pos hk];simp
  ·rw [if_neg (fun e=>hk e.1),if_neg hk]
 | false =>
  rw [qCf];by_cases hk:k=i
  ·rw [if_pos hk,hk,h];rfl
  ·rw [if_neg hk]
theorem vA (x:Ex) (L:List Tm):∀(n:Nat) (out:List Bool) (j:Nat),n<=j->(c9 x L n out).getD j false=out.getD j false
 | 0,_,_,_=>rfl
 | n+1,out,j,h=>by
  rw [nI,vA x L n _ j (by omega),fk,if_neg (by omega)]
theorem MX {x:Ex} {L:List Tm} {i:Nat} {out:List Bool} (h:GQ x L out=true):GQ x L (mu x L i out)=true:=by
 cases he:GQ x L (out.set i false) with
 | true =>
  refine nH (s:=out.set i false) (fun k hk=>?_) he;rw [qw] at hk;rw [fk];by_cases hki:k=i
  ·subst hki;by_cases hl:k<out.length
   ·rw [if_pos ⟨rfl,hl⟩] at hk;cases hk
   ·rw [if_neg (fun e=>hl e.2)] at hk;exact absurd (qz hk) hl
  ·rw [if_neg (fun e=>hki e.1)] at hk;rw [if_neg hki];exact hk
 | false =>
  refine nH (s:=out) (fun k hk=>?_) h;rw [fk];by_cases hki:k=i
  ·subst hki;rw [if_pos rfl,hk,he];rfl
  ·rw [if_neg hki];exact hk
theorem Bz {x:Ex} {L:List Tm}:∀(n:Nat) {out:List Bool},GQ x L out=true->GQ x L (c9 x L n out)=true
 | 0,_,h=>h
 | n+1,_,h=>Bz n (MX h)
theorem nJ (x:Ex) (L:List Tm):∀(n:Nat) (S G:List Bool),LeB (c9 x L n G) S->LeB S G->GQ x L (c9 x L n G)=true->(∀j,n<=j->S.getD j false=G.getD j false)->
  ∀j,(c9 x L n S).getD j false=(c9 x L n G).getD j false
 | 0,S,G,_,_,_,ha=>fun j=>ha j (by omega)
 | n+1,S,G,hP,hS,he,ha=>by
  rw [nI] at hP he ⊢;rw [nI];have hPG:LeB (c9 x L n (mu x L n G)) (mu x L n G):=fun k hk=>pd x L n _ k hk;have hPn:(c9 x L n (mu x L n G)).getD n false=(mu x L n G).getD n false:=vA x L n _ n (Nat.le_refl _);have key:(mu x L n S).getD n false=(mu x L n G).getD n false:=by
   cases hg:(mu x L n G).getD n false with
   | true =>
    have hs:S.getD n false=true:=hP n (by rw [hPn];exact hg);have hg2:=hg;rw [fk,if_pos rfl,qBa] at hg2;rw [fk,if_pos rfl,hs,Bool.true_and];cases hq:GQ x L (S.set n false) with
    | false=>rfl
    | true =>
     have:GQ x L (G.set n false)=true:=nH (s:=S.set n false) (fun k hk=>by
      rw [qw] at hk ⊢;by_cases hkn:k=n
      ·subst hkn;rw [if_pos ⟨rfl,qz hs⟩] at hk;cases hk
      ·rw [if_neg (fun e=>hkn e.1)] at hk ⊢;exact hS k hk) hq
     rw [this] at hg2;exact absurd hg2.2 (by decide)
   | false =>
    rw [fk,if_pos rfl];cases hs:S.getD n false with
    | false=>rfl
    | true =>
     have:GQ x L (S.set n false)=true:=nH (s:=c9 x L n (mu x L n G)) (fun k hk=>by
      rw [qw];by_cases hkn:k=n
      ·subst hkn;rw [hPn,hg] at hk;cases hk
      ·rw [if_neg (fun e=>hkn e.1)];exact hP k hk) he
     rw [this];rfl
  refine nJ x L n _ _ (fun k hk=>?_) (fun k hk=>?_) he (fun j hj=>?_)
  ·by_cases hkn:k=n
   ·subst hkn;rw [key];exact hPG k hk
   ·rw [fk,if_neg hkn];exact hP k hk
  ·by_cases hkn:k=n
   ·subst hkn;rw [<-key];exact hk
   ·rw [fk,if_neg hkn] at hk ⊢;exact hS k hk
  ·by_cases hjn:j=n
   ·subst hjn;exact key
   ·rw [fk,fk,if_neg hjn,if_neg hjn];exact ha j (by omega)
theorem nK:∀(L:List Tm) (s s':List Bool),(∀k,k<L.length->s.getD k false=true->s'.getD k false=true)->∀a,cE L s a=true->cE L s' a=true
 | [],_,_,_,_,h=>h
 | b :: L,s,s',h,a,hk=>by
  rw [lI] at hk ⊢;cases hc:decide (b=a) with
  | true =>
   rw [hc,qCt] at hk;have:=h 0 (by simp);rw [qCt];cases s <;> cases s' <;> simp_all
  | false =>
   rw [hc,qCf] at hk;refine nK L _ _ (fun k hkl hk2=>?_) a hk;have:=h (k+1) (by simpa using hkl);cases s <;> cases s' <;> simp_all
def vB (n:Nat) (s:List Bool):List Bool:=(List.range n).map fun i=>s.getD i false
theorem lv (n:Nat) (s:List Bool) (k:Nat):(vB n s).getD k false=if k<n then s.getD k false else false:=by
 unfold vB;rw [List.getD_eq_getElem?_getD,List.getElem?_map];by_cases hk:k<n
 ·rw [List.getElem?_range hk,if_pos hk];rfl
 ·rw [List.getElem?_eq_none (by simpa using hk),if_neg hk];rfl
theorem GR {x:Ex} {s:List Bool} (h:cM x s=true):kv x=true/\GQ x (bJ x) (vB (bJ x).length s)=true:=by
 unfold cM at h;rw [qBa] at h;exact ⟨h.1,qv (nK _ _ _ fun k hk hs=>by rw [lv,if_pos hk];exact hs) x h.2⟩
theorem norm_holds {x:Ex} {s:List Bool} (hv:kv x=true) (h:GQ x (bJ x) (vB (bJ x).length s)=true):cM x s=true:=by
 unfold cM;rw [qBa];exact ⟨hv,qv (nK _ _ _ fun k hk hs=>by rw [lv,if_pos hk] at hs;exact hs) x h⟩
theorem Fp {x:Ex} {s:List Bool} (h:cM x s=true):bz x s=c9 x (bJ x) (bJ x).length (vB (bJ x).length s):=by
 unfold bz;rw [h];rfl
theorem An {x:Ex} {S G:List Bool} (hG:cM x G=true) (h1:∀k,(bz x G).getD k false=true->S.getD k false=true) (h2:∀k,k<(bJ x).length->S.getD k false=true->G.getD k false=true) :
  cM x S=true/\∀k,(bz x S).getD k false=(bz x G).getD k false:=by
 obtain ⟨hv,he⟩:=GR hG;have hp:=Bz (x:=x) (L:=bJ x) (bJ x).length he;rw [Fp hG] at h1 ⊢;have hPS:LeB (c9 x (bJ x) (bJ x).length (vB (bJ x).length G)) (vB (bJ x).length S):=fun k hk=>by
  have hkl:=qz hk;rw [pe] at hkl;rw [lv,if_pos (by unfold vB at hkl;simpa using hkl)];exact h1 k hk
 have hS:cM x S=true:=norm_holds hv (nH hPS hp);refine ⟨hS,?_⟩;rw [Fp hS];refine nJ x (bJ x) (bJ x).length _ _ hPS (fun k hk=>?_) hp (fun j hj=>?_)
 ·rw [lv] at hk ⊢;by_cases hkl:k<(bJ x).length
  ·rw [if_pos hkl] at hk ⊢;exact h2 k hkl hk
  ·rw [if_neg hkl] at hk;cases hk
 ·rw [lv,lv,if_neg (by omega),if_neg (by omega)]
theorem sQ:∀(l:List Tm) (bs:List Bool) (w:Wk) (i:Nat) (x y:Pc),l.length=bs.length->di w.c.queues=true->w.pc i=y->i<w.c.procs.length->PStat w.c.queues x->LedOf w.c.queues x y->(∀a∈l,fO y a.name=fO x a.name)->JY l->Rsl w.c.queues l->
  (∀n,bd w.c.queues n=true->(∀a,cY l n=some a->FitA w.c.queues n x a.am)/\(cY l n=none->FitR w.c.queues n y))->
  (∀k (h:k<l.length),bs.getD k false=true->bq (bf w.c.queues l[k].name).res (ah (bf w.c.queues l[k].name).holds x.proc) l[k].am=true)->
  (∀m,(∀a∈l,a.name≠m)->fO ((bO x i l bs w).pc i) m=fO y m)/\
  ∀k (h:k<l.length),(bs.getD k false=true->bq (bf w.c.queues l[k].name).res (fO ((bO x i l bs w).pc i) l[k].name) l[k].am=true)/\(bs.getD k false=false->fO ((bO x i l bs w).pc i) l[k].name=fO x l[k].name)
 | [],bs,w,i,x,y,_,_,hy,_,_,_,_,_,_,_,_=>by
  have e:bO x i [] bs w=w:=by cases bs <;> rfl
  rw [e,hy];exact ⟨fun _ _=>rfl,fun k h=>absurd h (by simp)⟩
 | a :: l,[],w,i,x,y,hlen,_,_,_,_,_,_,_,_,_,_=>by simp at hlen
 | a :: l,b :: bs,w,i,x,y,hlen,hv,hy,hi,hsx,hl,hlh,hnd,hr,hf,hc=>by
  obtain ⟨h1,h2⟩:=List.pairwise_cons.1 hnd;obtain ⟨ha1,ha2⟩:=hr a (by simp);have hfa:FitA w.c.queues a.name x a.am:=(hf a.name ha1).1 a (by rw [dg,bj.2 rfl];rfl);have hr2:Rsl w.c.queues l:=fun b hb=>hr b (by simp [hb]);have hat:∀n,n≠a.name->cY (a :: l) n=cY l n:=fun n hn=>by rw [dg,cd.2 (fun h=>hn h.symm)];rfl
  have hnone:cY l a.name=none:=iq.2 fun b hb e=>h1 b hb e.symm;have hno:∀c∈l,c.name≠a.name:=fun c hc e=>h1 c hc e.symm;cases b with
  | true =>
   have hcv:=hc 0 (by simp) (by simp);simp only [List.getElem_cons_zero] at hcv;obtain ⟨y1,e1,k1,k2,k3⟩:=Gw hv ha1 hy hi hl (hlh a (by simp)) ha2 hfa hcv;have e:bO x i (a :: l) (true :: bs) w=bO x i l bs (w.setP i y1):=by
    show bO x i l bs (bif true then gy w i x.proc a.name else bH w x a.name)=_;rw [qCt,e1]
   rw [e];have ih:=sQ l bs (w.setP i y1) i x y1 (by simpa using hlen) hv (fa hi y1) (by show i<(w.c.procs.set i y1).length;simpa using hi) hsx k1 (fun b hb=>by rw [k3 _ (fun e=>h1 b hb e.symm)];exact hlh b (by simp [hb])) h2 hr2
    (fun n hn=>by
     by_cases en:n=a.name
     ·exact V9
     ·have h3:=hf n hn;rw [hat n en] at h3;exact ⟨h3.1,fun h4=>(h3.2 h4).led (by rw [k1.proc,hl.proc]) (k3 n en)⟩)
    (fun k hk hb=>by
     have h5:=hc (k+1) (by simpa using hk) (by simpa using hb);simp only [List.getElem_cons_succ] at h5;exact h5)
   obtain ⟨q1,q2⟩:=ih;refine ⟨fun m hm=>?_,fun k hk=>?_⟩
   ·rw [q1 m fun c hc=>hm c (by simp [hc]),k3 m fun e=>hm a (by simp) e.symm]
   ·cases k with
    | zero =>
     simp only [List.getElem_cons_zero];refine ⟨fun _=>?_,fun hb=>by simp at hb⟩;rw [q1 a.name hno,<-k2.h,k1.proc];exact hcv
    | succ k =>
     have:=q2 k (by simpa using hk);simp only [List.getElem_cons_succ,List.getD_cons_succ];exact this
  | false =>
   obtain ⟨k1,k2⟩:=qb hv ha1 hsx ha2 hfa;have e:bO x i (a :: l) (false :: bs) w=bO x i l bs (bH w x a.name):=rfl;rw [e];have ih:=sQ l bs (bH w x a.name) i x y (by simpa using hlen) k1.tp.v (by unfold Wk.pc at hy ⊢;rw [k1.procs];exact hy) (by rw [k1.procs];exact hi) (hsx.tp k1.tp) ⟨hl.eq,hl.stat.tp k1.tp,hl.gr⟩ (fun b hb=>hlh b (by simp [hb])) h2 (hr2.tp k1.tp)
    (fun n hn=>by
     rw [k1.tp.hasE] at hn;by_cases en:n=a.name
     ·exact VA
     ·have h3:=hf n hn;rw [hat n en] at h3;have e1:=k1.oth n en hn;exact ⟨fun b hb=>(h3.1 b hb).eq e1,fun h4=>(h3.2 h4).eq e1⟩)
    (fun k hk hb=>by
     have h5:=hc (k+1) (by simpa using hk) (by simpa using hb);simp only [List.getElem_cons_succ] at h5;have hm:l[k]∈l:=List.getElem_mem hk;rw [k1.oth l[k].name (fun e=>h1 _ hm e.symm) (hr2 _ hm).1];exact h5)
   obtain ⟨q1,q2⟩:=ih;refine ⟨fun m hm=>q1 m fun c hc=>hm c (by simp [hc]),fun k hk=>?_⟩;cases k with
   | zero =>
    simp only [List.getElem_cons_zero];refine ⟨fun hb=>by simp at hb,fun _=>?_⟩;rw [q1 a.name hno];exact hlh a (by simp)
   | succ k =>
    have h5:=q2 k (by simpa using hk);have hm:l[k]'(by simpa using hk)∈l:=List.getElem_mem _;rw [k1.oth _ (fun e=>h1 _ hm e.symm) (hr2 _ hm).1] at h5;simp only [List.getElem_cons_succ,List.getD_cons_succ];exact h5
def SmR (t t':List Qu):Prop:=∀n,bd t n=true->bd t' n=true/\(bf t' n).res=(bf t n).res
theorem SmR.refl (t:List Qu):SmR t t:=fun _ h=>⟨h,rfl⟩
theorem SmR.trans {a b c:List Qu} (h:SmR a b) (k:SmR b c):SmR a c:=fun n hn=>⟨(k n (h n hn).1).1,(k n (h n hn).1).2.trans (h n hn).2⟩
theorem TP.smR {t t':List Qu} {p:Pr} (h:TP t t' p):SmR t t':=fun n hn=>⟨by rw [h.hasE];exact hn,(h.out n hn).res⟩
structure Good (t:List Qu) (x y:Pc):Prop where
 nw:y.waiting=false
 pr:y.proc=x.proc
 ex:∃G,cM x.req.expr G=true/\∀k (h:k<(bJ x.req.expr).length),
  ((bz x.req.expr G).getD k false=true->bq (bf t (bJ x.req.expr)[k].name).res (fO y (bJ x.req.expr)[k].name) (bJ x.req.expr)[k].am=true)/\
  ((bz x.req.expr G).getD k false=false->fO y (bJ x.req.expr)[k].name=fO x (bJ x.req.expr)[k].name)/\
  (bq (bf t (bJ x.req.expr)[k].name).res (fO x (bJ x.req.expr)[k].name) (bJ x.req.expr)[k].am=true->G.getD k false=true)
theorem Good.sm {t t':List Qu} {x y:Pc} (h:Good t x y) (hr:Rsl t (bJ x.req.expr)) (hs:SmR t t'):Good t' x y:=by
 obtain ⟨h1,h2,G,h3,h4⟩:=h;refine ⟨h1,h2,G,h3,fun k hk=>?_⟩;have h5:=h4 k hk;rw [<-(hs _ (hr _ (List.getElem_mem hk)).1).2] at h5;exact h5
theorem MY {w:Wk} {i:Nat} (h:CI w.c) (hi:i<w.c.procs.length) (hs:dU w.c.queues (w.pc i)=true):SmR w.c.queues (eJ w i).c.queues/\Good w.c.queues (w.pc i) ((eJ w i).pc i)/\∃y,(eJ w i).c.procs=w.c.procs.set i y:=by
 unfold dU at hs;rw [qBa] at hs;obtain ⟨hw,hG⟩:=hs;have hpc:=bh hi;have hinv:=h.inv _ (List.getElem_mem hi);rw [<-hpc] at hinv;obtain ⟨hwt,hfit⟩:=hinv.wat hw;obtain ⟨hve,hrsl⟩:=nr hwt.rs;obtain ⟨x,hx⟩:=qGe (w.pc i);rw [hx] at hinv hwt hfit hrsl hw hG ⊢;obtain ⟨G,hGd⟩:=qGe (bk w.c.queues x.proc x.req.expr);have p1:∀n,bd w.c.queues n=true->(∀a,cY (bJ x.req.expr) n=some a->FitA w.c.queues n x a.am)/\(cY (bJ x.req.expr) n=none->FitR w.c.queues n x):=fun n hn=>by
  have:=hfit n hn;unfold FitW at this;exact ⟨fun a ha=>by rw [ha] at this;exact this,fun ha=>by rw [ha] at this;exact this⟩
 have p2:∀k (hk:k<(bJ x.req.expr).length),(bz x.req.expr G).getD k false=true->bq (bf w.c.queues (bJ x.req.expr)[k].name).res (ah (bf w.c.queues (bJ x.req.expr)[k].name).holds x.proc) (bJ x.req.expr)[k].am=true:=fun k hk hb=>by
  have h1:=oe hb;rw [<-hGd,zk hk,qBa] at h1;exact h1.2
 obtain ⟨y',q1,q2,q3,q4,q5,q6⟩:=qc (bJ x.req.expr) (bz x.req.expr G) (w.note 2 x.proc) i x x (gD _ _).symm h.tv hx hi hinv.stat (LedOf.refl hinv.stat) (fun _ _=>rfl) (j7 _) hrsl p1 p2;obtain ⟨_,l2⟩:=sQ (bJ x.req.expr) (bz x.req.expr G) (w.note 2 x.proc) i x x (gD _ _).symm h.tv hx hi hinv.stat (LedOf.refl hinv.stat) (fun _ _=>rfl) (j7 _) hrsl p1 p2;have e:eJ w i=aZ (dO (bO x i (bJ x.req.expr) (bz x.req.expr G) (w.note 2 x.proc)) i) i:=by unfold eJ;rw [hx,hGd]
 rw [e];generalize bO x i (bJ x.req.expr) (bz x.req.expr G) (w.note 2 x.proc)=g at *
 have q2':g.c.procs=w.c.procs.set i y':=q2;have hgi:i<g.c.procs.length:=by rw [q2'];simpa using hi
 have hgp:g.pc i=y':=by rw [bh hgi];simp [q2']
 have e2:aZ (dO g i) i=g.setP i { y' with waiting:=false,req:=Rq.zero,since:=0,gen:=bc y'.gen }:=by
  unfold aZ dO;rw [hgp,fa hgi,fP]
 rw [e2];rw [hgp] at l2;refine ⟨q1.smR,?_,⟨_,by show g.c.procs.set i _=_;rw [q2',List.set_set]⟩⟩;rw [fa hgi];refine ⟨rfl,q4.proc,G,(by rw [<-hGd];exact hG),fun k hk=>⟨(l2 k hk).1,(l2 k hk).2,fun hc=>?_⟩⟩;have hm:=List.getElem_mem hk;obtain ⟨ha1,ha2⟩:=hrsl _ hm;have hat:cY (bJ x.req.expr) (bJ x.req.expr)[k].name=some (bJ x.req.expr)[k]:=by
  have hnd:=j7 x.req.expr;unfold cY;cases hf:(bJ x.req.expr).find? fun a=>bC a.name (bJ x.req.expr)[k].name with
  | none =>
   have:=List.find?_eq_none.1 hf _ hm;simp [bj] at this
  | some b =>
   have hb1:=List.mem_of_find?_eq_some hf;have hb2:=bj.1 (List.find?_some (p:=fun a:Tm=>bC a.name (bJ x.req.expr)[k].name) hf);obtain ⟨j,hj,rfl⟩:=List.mem_iff_getElem.1 hb1;have hp:=List.pairwise_iff_getElem.1 hnd;rcases Nat.lt_trichotomy j k with hlt|rfl|hlt
   ·exact absurd hb2 (hp j k hj hk hlt)
   ·rfl
   ·exact absurd hb2.symm (hp k j hk hj hlt)
 have hfa:=(p1 _ ha1).1 _ hat;rw [<-hGd,zk hk,ha1,Bool.true_and];rcases hfa with ⟨_,hfr⟩|⟨hc2,_⟩
 ·rw [hfr.h];exact hc
 ·rw [hc] at hc2;cases hc2
theorem CX {w:Wk} {i:Nat} {x:Pc} (h:w.c.procs[i]? = some x):w.pc i=x:=by unfold Wk.pc;rw [List.getD_eq_getElem?_getD,h];rfl
theorem qA:∀(n:Nat) (w:Wk),CI w.c->SmR w.c.queues (aK n w).c.queues/\(∀(i:Nat) (z:Pc),w.c.procs[i]? = some z->z.waiting=false->(aK n w).c.procs[i]? = some z)/\
  ∀(i:Nat) (x:Pc),w.c.procs[i]? = some x->Rsl w.c.queues (bJ x.req.expr)->((aK n w).c.procs[i]? = some x\/∃y,(aK n w).c.procs[i]? = some y/\Good w.c.queues x y)
 | 0,w,_=>⟨SmR.refl _,fun _ _ h _=>h,fun i x hx _=>.inl hx⟩
 | n+1,w,h=>by
  cases hg:dF w.c.queues 0 w.c.procs with
  | none =>
   have e:aK (n+1) w=w:=by simp [aK,hg]
   rw [e];exact ⟨SmR.refl _,fun _ _ h _=>h,fun i x hx _=>.inl hx⟩
  | some j =>
   have e:aK (n+1) w=aK n (eJ w j):=by simp [aK,hg]
   obtain ⟨j',hj,e1,hs⟩:=gA hg;rw [Nat.zero_add] at e1;subst e1;rw [<-bh hj] at hs;obtain ⟨f1,f2,y,f3⟩:=MY h hj hs;have hsw:=hs;unfold dU at hsw;rw [qBa] at hsw;have g1:=(Cv h hj hsw.1).1;obtain ⟨i1,i2,i3⟩:=qA n (eJ w j) g1;rw [e];have oth:∀i,i≠j->(eJ w j).c.procs[i]? = w.c.procs[i]?:=fun i hij=>by rw [f3,List.getElem?_set_ne (fun e=>hij e.symm)]
   refine ⟨f1.trans i1,fun i z hz hzw=>?_,fun i x hx hr=>?_⟩
   ·refine i2 i z ?_ hzw;rw [oth i ?_]
    ·exact hz
    ·rintro rfl;rw [CX hz,hzw] at hsw;exact absurd hsw.1 (by decide)
   by_cases hij:i=j
   ·subst hij;have hfi:(eJ w i).c.procs[i]? = some ((eJ w i).pc i):=by
     have:i<(eJ w i).c.procs.length:=by rw [f3];simpa using hj
     rw [bh this,qGg this]
    rw [CX hx] at f2;exact .inr ⟨_,i2 _ _ hfi f2.nw,f2⟩
   ·have hfi:=(oth i hij).trans hx;have m2:=i3 i x hfi (fun a ha=>⟨(f1 _ (hr a ha).1).1,by rw [(f1 _ (hr a ha).1).2];exact (hr a ha).2⟩);rcases m2 with m2|⟨y,m2,m3⟩
    ·exact .inl m2
    ·obtain ⟨u1,u2,G,u3,u4⟩:=m3;refine .inr ⟨y,m2,u1,u2,G,u3,fun k hk=>?_⟩;have h5:=u4 k hk;rw [(f1 _ (hr _ (List.getElem_mem hk)).1).2] at h5;exact h5
def zl (t:List Qu) (p:Pr) (e:Ex):List Bool:=(bJ e).map fun a=>bq (bf t a.name).res (ah (bf t a.name).holds p) a.am
theorem O6 {t:List Qu} {p:Pr} {e:Ex} {k:Nat} (hk:k<(bJ e).length):(zl t p e).getD k false=bq (bf t (bJ e)[k].name).res (ah (bf t (bJ e)[k].name).holds p) (bJ e)[k].am:=by
 unfold zl;rw [List.getD_eq_getElem?_getD,List.getElem?_map,qGg hk];rfl
theorem Ao {c:Cs} {p:Pr} {r:Rq} {i:Nat} {x:Pc} (hc:cG c=true) (hx:c.procs[i]? = some x) (hp:x.proc=p) (hw:x.waiting=false) (hq:m6 r=true) (hr:fW c.queues r.expr=0) {nm:ByteArray} {n:Int} {D:Cs×List Ev×Int} (hD:cy c ⟨2,p,r,nm,n⟩=D) :
  D.2.2=0/\∃y,D.1.procs[i]? = some y/\y.proc=p/\(y.waiting=true->y.req=r/\cM r.expr (bk D.1.queues p r.expr)=false)/\
   (y.waiting=false->(∀a∈bJ r.expr,bd D.1.queues a.name=true)/\bW p D.1.queues=[]/\db D.1.queues p=dx y.led/\cM r.expr (zl D.1.queues p r.expr)=true/\
    ∀k (h:k<(bJ r.expr).length),(zl D.1.queues p r.expr).getD k false=true->bq (bf D.1.queues (bJ r.expr)[k].name).res (fO x (bJ r.expr)[k].name) (bJ r.expr)[k].am=false->(bz r.expr (zl D.1.queues p r.expr)).getD k false=true):=by
 obtain ⟨hci,hun⟩:=aV.1 hc;have hi:=(List.getElem?_eq_some_iff.1 hx).1;have hxi:=qGs hx;have hix:(bM p 0 c.procs).toNat=i/\¬bM p 0 c.procs<0:=by
  have hm:p∈c.procs.map (·.proc):=List.mem_map.2 ⟨x,by rw [<-hxi];exact List.getElem_mem hi,hp⟩;have h0:0<=bM p 0 c.procs:=yR.2 hm;obtain ⟨j,hj,e,hjp⟩:=c7 h0;have:j=i:=Classical.byContradiction fun hn=>np hci hj hi hn (by rw [hjp,hxi,hp]);subst this;exact ⟨by rw [e];omega,by omega⟩
 have hpc:(Wk.pc ⟨c,[]⟩ i)=x:=CX hx;have hR:g8 ⟨c,[]⟩ ⟨2,p,r,nm,n⟩=bX ⟨c,[]⟩ i r:=by
  unfold g8;dsimp only;rw [qDf hix.2,hix.1];rfl
 have hreq:bX ⟨c,[]⟩ i r=(aK (zY ⟨c,[]⟩ i r).c.procs.length (zY ⟨c,[]⟩ i r),0):=by
  unfold bX;rw [show (Wk.pc ⟨c,[]⟩ i).waiting=false by rw [hpc];exact hw,hq,qDt (show fW (⟨c,[]⟩:Wk).c.queues r.expr=0 from hr)];simp only [Bool.not_true,qCf];rfl
 have h0:(g8 ⟨c,[]⟩ ⟨2,p,r,nm,n⟩).2=0:=by rw [hR,hreq]
 have hval:=(fI (c:=c) (k:=⟨2,p,r,nm,n⟩) (by unfold cy;rw [hc,h0];rfl)).2;have hD2:D=((g8 ⟨c,[]⟩ ⟨2,p,r,nm,n⟩).1.c,(g8 ⟨c,[]⟩ ⟨2,p,r,nm,n⟩).1.ev,0):=by rw [<-hD];unfold cy;rw [hc,h0];rfl
 rw [hD] at hval;obtain ⟨vci,vun⟩:=aV.1 hval;obtain ⟨m1,m2,m3,m4⟩:=iM (w:=⟨c,[]⟩) hci hi (by rw [hpc];exact hw) hq hr;obtain ⟨s1,s2,s3⟩:=qA (zY ⟨c,[]⟩ i r).c.procs.length (zY ⟨c,[]⟩ i r) m1;have eD:D.1=(aK (zY ⟨c,[]⟩ i r).c.procs.length (zY ⟨c,[]⟩ i r)).c:=by rw [hD2,hR,hreq]
 rw [<-eD] at s1 s2 s3;generalize zY ⟨c,[]⟩ i r=w at *
 rw [hpc] at m2;have hwi:w.c.procs[i]? = some { x with waiting:=true,req:=r,since:=c.now,gen:=bc x.gen }:=by rw [m2,List.getElem?_set_self hi]
 have hrs:Rsl w.c.queues (bJ r.expr):=by
  have hin:=m1.inv { x with waiting:=true,req:=r,since:=c.now,gen:=bc x.gen } (List.mem_iff_getElem?.2 ⟨i,hwi⟩);exact (nr (hin.wat rfl).1.rs).2
 have hhas:∀a∈bJ r.expr,bd D.1.queues a.name=true:=fun a ha=>(s1 _ (hrs a ha).1).1;refine ⟨by rw [hD2],?_⟩;rcases s3 i _ hwi hrs with h1|⟨y,h1,h2⟩
 ·refine ⟨_,h1,hp,fun _=>⟨rfl,?_⟩,fun h=>by cases h⟩;have hu:=(vun _ (List.mem_iff_getElem?.2 ⟨i,h1⟩) rfl).2;unfold dU at hu;rw [<-hp];simpa using hu
 ·refine ⟨y,h1,h2.pr.trans hp,fun h=>(by rw [h2.nw] at h;cases h),fun _=>?_⟩;have hyp:y.proc=p:=h2.pr.trans hp;have hin:=vci.inv y (List.mem_iff_getElem?.2 ⟨i,h1⟩);obtain ⟨_,_,hfr⟩:=hin.run h2.nw;obtain ⟨r1,r2⟩:=(xv vci.tv (fun n hn=>(hin.stat.hf n hn).1)).2 hfr;rw [hyp] at r1 r2;refine ⟨hhas,r2,r1.symm,?_⟩;obtain ⟨_,_,G,g1,g2⟩:=h2.sm hrs s1;have hS:∀k (hk:k<(bJ r.expr).length),(zl D.1.queues p r.expr).getD k false=bq (bf D.1.queues (bJ r.expr)[k].name).res (fO y (bJ r.expr)[k].name) (bJ r.expr)[k].am:=fun k hk=>by
   rw [O6 hk,<-hyp,(hfr _ (hhas _ (List.getElem_mem hk))).h]
  have g2:∀k (h:k<(bJ r.expr).length),((bz r.expr G).getD k false=true->bq (bf D.1.queues (bJ r.expr)[k].name).res (fO y (bJ r.expr)[k].name) (bJ r.expr)[k].am=true)/\((bz r.expr G).getD k false=false->fO y (bJ r.expr)[k].name=fO x (bJ r.expr)[k].name)/\(bq (bf D.1.queues (bJ r.expr)[k].name).res (fO x (bJ r.expr)[k].name) (bJ r.expr)[k].am=true->G.getD k false=true):=g2;obtain ⟨b1,b2⟩:=An (S:=zl D.1.queues p r.expr) g1 (fun k hk=>by
   have hkl:=qz hk;rw [gD] at hkl;rw [hS k hkl];exact (g2 k hkl).1 hk) (fun k hk hs=>by
   cases hb:(bz r.expr G).getD k false with
   | true=>exact oe hb
   | false =>
    rw [hS k hk,(g2 k hk).2.1 hb] at hs;exact (g2 k hk).2.2 hs)
  refine ⟨b1,fun k hk hs hn=>?_⟩;rw [b2 k];cases hb:(bz r.expr G).getD k false with
  | true=>rfl
  | false =>
   rw [hS k hk,(g2 k hk).2.1 hb,hn] at hs;cases hs
theorem C6 {r:Rs} (h:iB r=true):ay (gI r)=true:=by
 have hs:br r=true:=by unfold iB at h;simp only [qBa] at h;exact h.1.1.2
 unfold ay jt gI;simp only [h,Bool.true_and];have h1:zX r []=true:=by unfold zX;rw [hs];simp [xJ,iX,js,hs,fm]
 rw [h1];rfl
theorem G6 {l:List Rs} (h:CatOk l):gu (l.map gI)=true:=by
 have key:∀(m:List Rs) (o:Option ByteArray),(∀x∈m,iB x=true)->(∀i (h:i+1<m.length),jN (m[i]'(by omega)).name m[i+1].name=true)->(∀n,o=some n->∀x,m.head? = some x->jN n x.name=true)->mN o (m.map gI)=true:=by
  intro m;induction m with
  | nil=>intro _ _ _ _;rfl
  | cons x m ih =>
   intro o h1 h2 h3;rw [List.map_cons,eM,C6 (h1 x (by simp))];have e:Hf o (gI x).res.name=true:=by
    cases o with
    | none=>rfl
    | some n=>exact h3 n rfl x rfl
   rw [e];refine ih _ (fun y hy=>h1 y (by simp [hy])) (fun i hi=>?_) fun n hn y hy=>?_
   ·have:=h2 (i+1) (by simpa using hi);simpa using this
   ·cases m with
    | nil=>cases hy
    | cons z m =>
     have:=h2 0 (by simp);exact UR
 exact Vd
theorem BE:eu []=[]:=by
 apply List.eq_nil_iff_forall_not_mem.2
 intro x hx;rw [dd] at hx;cases hx
theorem Kv (l:List Rs):lC (l.map gI)=[]:=by
 induction l with
 | nil=>rfl
 | cons x l ih=>show eu []++lC (l.map gI)=[];rw [ih,BE];rfl
theorem G7 {l:List Rs} (h:CatOk l):di (l.map gI)=true/\aO (l.map gI)=[]:=by
 have e:aO (l.map gI)=[]:=by unfold aO;rw [Kv,BE]
 exact VI
theorem Fx {l:List Rs} (h:CatOk l):cG ⟨0,l.map gI,[]⟩=true:=by
 obtain ⟨h1,h2⟩:=G7 h;exact V3
theorem Ng {c:Cs} {k:Cm} (he:(cy c k).2.2=0):(cy c k).1.queues.length=c.queues.length:=by
 obtain ⟨hc,h0⟩:=iQ he;have h:=congrArg List.length (PW hc h0);rw [mi hc h0];unfold ef at h
 rwa [List.length_map,List.length_map] at h
theorem Nh (c:Cs) (k:Cm) (l:List Cm):pi c (k :: l)=pi (bif decide ((cy c k).2.2=0) then (cy c k).1 else c) l:=rfl
theorem Fy:∀(l:List Cm) (c:Cs),(pi c l).queues.length=c.queues.length
 | [],_=>rfl
 | k :: l,c=>by
  rw [Nh,Fy l];by_cases he:(cy c k).2.2=0
  ·rw [qDt he,qCt];exact Ng he
  ·rw [qDf he,qCf]
theorem Kw (c:Cs) (k:Cm) (l:List Cm):pi c (k :: l)=pi (bif decide ((cy c k).2.2=0) then (cy c k).1 else c) l:=rfl
theorem Tf (c:Cs) (ks:List Cm) {W:Cs} (hW:pi c ks=W):FSpec prog 55 [c.a 2,.one (.sl (Pk 2) ks)] [] [] (.v (W.a 2)) []:=by
 refine a7 func55 ?_;refine aY (fun c ρ a w hr=>bV (t:=1) hr rfl) (fun hl1=>?_);refine ao ?_;refine ab (fun y:Nat×Cs=>y.1<=ks.length/\pi y.2 (ks.drop y.1)=W) (fun y=>bP [2,4] [(1,.c (.sl (Pk 2) ks)),(2,.c (.ptr 2 0)),(4,.c (.ptr 4 0)),(5,.i y.1)] [(2,.box 32 (y.2.d 2)),(4,.box 32 [.sc (.int .i64 0),.sc (.slice none 0 0),.sc (.slice none 0 0)])]) (fun y=>ks.length-y.1) (0,c) ⟨Nat.zero_le _,hW⟩ aT ?_;clear hW c;rintro ⟨i,c⟩ ⟨hi,hs⟩;dsimp only at *
 by_cases hlt:i<ks.length
 ·obtain ⟨k,hk⟩:∃k,ks[i]? = some k:=⟨_,qGg hlt⟩;have ek:=qGs hk;rw [qDc hlt,ek,Kw] at hs;obtain ⟨R,hR⟩:=qGe (cy c k);have kD:=Ur 2 c k hR;rw [hR] at hs;by_cases h0:R.2.2=0
  ·exact UU
  ·exact UV
 ·exact Vm
def i6 (l:List Int):Cs:=pi ⟨0,(fb l).1.map gI,[]⟩ (fb l).2
theorem jr (l:List Int) (hl:l.length<=300) (hc:CatOk (fb l).1) {W:Cs} (hW:i6 l=W):FSpec prog 19 [.one (.sl km l)] [] [] (.v (W.a 2)) []:=by
 exact UL
theorem RB (d:Nat) (c:Cs) (p:Pr) {i:Nat} {x:Pc} (hi:bM p 0 c.procs=i) (hx:c.procs[i]? = some x):FSpec prog 29 [c.a d,p.a] [] [] (.tup [x.a d,.one (.sc (.bool true))]) []:=by
 refine a7 func29 ?_;have hlt:=(List.getElem?_eq_some_iff.1 hx).1;have kI:=qp c.procs d p hi;refine ao ?_
 (refine fE (qf []) ?_;exact af)
theorem RC (d:Nat) (c:Cs) (p:Pr) {z:Int} (hi:bM p 0 c.procs=z) (hz:z<0):FSpec prog 29 [c.a d,p.a] [] [] (.tup [FI.a d,.one (.sc (.bool false))]) []:=by
 refine a7 func29 ?_;have kI:=qp c.procs d p hi;refine ao ?_
 (refine fE (qf []) ?_;exact af)
theorem gB (l:List Int):cG (i6 l)=true:=Cx (fb l).2 _ (Fx (jV l))
theorem qX (l:List Int):(0<(bI (i6 l).queues).length/\(bI (i6 l).queues).length<=8)/\∀r∈bI (i6 l).queues,1<=r.units/\r.units<=1000:=by
 have hv:=(aV.1 (gB l)).1;have h8:=(bi hv.tv).1;have h6:=(IZ (t:=⟨l,0⟩) rfl).1;have hL:(i6 l).queues.length=6:=by
  exact Vs
 exact UO
set_option maxRecDepth 100000
set_option maxHeartbeats 64000000
theorem C7 (d:Nat) {c:Cs} (h:cG c=true) {x:Pc} (hx:x∈c.procs):FSpec prog 30 [c.a d,x.proc.a] [] [] (.tup [x.a d,.one (.sc (.bool true))]) []:=by
 have hc:=(aV.1 h).1;obtain ⟨i,hi,e⟩:=List.mem_iff_getElem.1 hx;have hI:=xz hc hi;exact Vv
theorem Nk (d:Nat) {c:Cs} (h:cG c=true) {x:Pc} (hx:x∈c.procs):FSpec prog 29 [c.a d,x.proc.a] [] [] (.tup [x.a d,.one (.sc (.bool true))]) []:=by
 have hc:=(aV.1 h).1;obtain ⟨i,hi,e⟩:=List.mem_iff_getElem.1 hx;have hI:=xz hc hi;rw [e] at hI;exact RB d c x.proc hI (by rw [qGg hi,e])
theorem Nl {c:Cs} {p:Pr} (h:∀x∈c.procs,x.proc≠p):bM p 0 c.procs<0:=by
 by_cases h0:0<=bM p 0 c.procs
 ·obtain ⟨i,hi,_,hp⟩:=c7 h0;exact absurd hp (h _ (List.getElem_mem hi))
 ·omega
theorem Nm (d:Nat) {c:Cs} {p:Pr} (h:∀x∈c.procs,x.proc≠p):FSpec prog 29 [c.a d,p.a] [] [] (.tup [FI.a d,.one (.sc (.bool false))]) []:=RC d c p rfl (Nl h)
theorem I4 (d:Nat) (c:Cs) (hl:c.queues.length<=100000):FSpec prog 21 [c.a d] [] [] (.c (.sl dQ (bI c.queues))) []:=by
 refine a7 func21 ?_;refine ao ?_;refine cj 3 1000 63 dQ rfl rfl rfl ?_;refine ab (fun i=>i<=c.queues.length) (fun i=>bP [1,1000] [(1,.c (.ptr 1 0)),(3,.c (.own 1000)),(4,.i i)] [(1,.box 32 (c.d d)),(1000,.arr 63 dQ (bI (c.queues.take i)))]) (fun i=>c.queues.length-i) 0 (Nat.zero_le _) aT ?_;intro i hi;have hlen:(bI (c.queues.take i)).length=i:=by simp [bI,Nat.min_eq_left hi]
 repeat' (first|refine av ?_ ?_|(refine aa 8 rfl ?_;refine be (ae rfl rfl (aH rfl rfl) (aN [(c.queues[i]'(by omega)).res] rfl rfl rfl rfl) rfl aQ aQ) rfl rfl rfl ?_)|refine aq ?_|exact aw|refine ap fun hb=>?_)
 ·refine ⟨i+1,by omega,by omega,?_⟩;have e:bI (c.queues.take (i+1))=bI (c.queues.take i)++[(c.queues[i]'(by omega)).res]:=by
   unfold bI;exact Va
  rw [e];exact bo (qf [(1000,20)])
 ·have e:bI (c.queues.take i)=bI c.queues:=by rw [List.take_of_length_le (by omega)]
  rw [<-e];exact U4
def InL (L l:List Tm):Prop:=(∀a∈l,a∈L)/\l.Pairwise fun a b=>a.name≠b.name
def Nn (L:List Tm):Prop:=∀a∈L,∀b∈L,a.name=b.name->a=b
theorem InL.add {L l:List Tm} (hL:Nn L) (h:InL L l) {a:Tm} (ha:a∈L):InL L (iU l a):=by
 unfold iU;cases hh:lF a l with
 | true=>exact h
 | false =>
  have hn:a ∉ l:=fun hm=>by rw [(mO a l).2 hm] at hh;cases hh
  refine ⟨fun b hb=>?_,List.pairwise_append.2 ⟨h.2,List.pairwise_singleton _ _,fun b hb c hc=>?_⟩⟩
  ·rcases List.mem_append.1 hb with hb|hb
   ·exact h.1 b hb
   ·rw [List.mem_singleton.1 hb];exact ha
  ·rw [List.mem_singleton.1 hc];intro e;exact hn (hL b (h.1 b hb) a ha e▸hb)
structure GdX (L:List Tm) (d n:Nat) (x:Ex):Prop where
 sh:C9 x=true
 dep:x.dep<=d
 cnt:x.cnt<=n
 col:∀acc,InL L acc->InL L (fV x acc)
structure GdL (L:List Tm) (d n k:Nat) (l:List Ex):Prop where
 len:l.length=k
 sh:Jk l=true
 dep:mv l<=d
 cnt:i9 l<=k*n
 col:∀acc,InL L acc->InL L (ia l acc)
theorem GdX.leaf {L:List Tm} (hL:Nn L) (hb:∀a∈L,iD a=true) (h0:0<L.length) {v:Int} (h1:0<=v) (h2:v<L.length) {d n:Nat} (hd:1<=d) (hn:1<=n):GdX L d n (.mk 0 (vt L v) []):=by
 have hm:vt L v∈L:=by
  unfold vt;rw [List.getD_eq_getElem?_getD,qGg (by omega)];exact List.getElem_mem _
 refine ⟨?_,hd,hn,fun acc ha=>ha.add hL hm⟩;rw [r8];show ((decide ((0:Int)=0) && iD (vt L v)) && true)=true;rw [hb _ hm];rfl
theorem I5 {L:List Tm} {d n:Nat} {f:Tp->Ex×Tp} (hf:∀t,GdX L d n (f t).1):∀(k:Nat) (t:Tp),GdL L d n k (iO f k t).1
 | 0,t=>⟨rfl,rfl,Nat.zero_le _,by show 0<=_;omega,fun acc h=>h⟩
 | k+1,t=>by
  have h1:=hf t;have h2:=I5 hf k (f t).2;refine ⟨?_,?_,?_,?_,fun acc h=>?_⟩
  ·show (iO f k (f t).2).1.length+1=_;rw [h2.len]
  ·show Jk ((f t).1 :: _)=true;rw [mP,h1.sh,h2.sh];rfl
  ·show mv ((f t).1 :: _)<=d;rw [rZ];exact Nat.max_le.2 ⟨h1.dep,h2.dep⟩
  ·show (f t).1.cnt+i9 (iO f k (f t).2).1<=_;have a1:=h1.cnt;have a2:=h2.cnt;have a3:(k+1)*n=k*n+n:=Nat.succ_mul k n;omega
  ·show InL L (ia (iO f k (f t).2).1 (fV (f t).1 acc));exact h2.col _ (h1.col _ h)
def gN:Nat->Nat
 | 0=>1
 | d+1=>1+3*gN d
theorem RG:∀d,1<=gN d
 | 0=>Nat.le_refl _
 | d+1=>by show 1<=1+3*gN d;omega
theorem FE {L:List Tm} (hL:Nn L) (hb:∀a∈L,iD a=true) (h0:0<L.length):∀(d:Nat) (t:Tp),GdX L (d+1) (gN d) (fq L d t).1
 | 0,t=>by
  obtain ⟨v1,v2⟩:=t.v_in (m:=L.length) (by omega);exact GdX.leaf hL hb h0 v1 v2 (by omega) (Nat.le_refl _)
 | d+1,t=>by
  unfold fq;by_cases h4:t.v 4=0
  ·rw [qDt h4,qCt];obtain ⟨v1,v2⟩:=t.s.v_in (m:=L.length) (by omega);exact GdX.leaf hL hb h0 v1 v2 (by omega) (RG _)
  ·rw [qDf h4,qCf];obtain ⟨a1,a2⟩:=t.s.v_in (m:=3) (by omega);obtain ⟨b1,b2⟩:=t.s.s.v_in (m:=1+t.s.v 3) (by omega);have hk:=I5 (fun u=>FE hL hb h0 d u) (1+t.s.v 3).toNat t.s.s.s;generalize t.s.s.v (1+t.s.v 3)=z at *
   generalize t.s.v 3=y at *
   generalize (iO (fq L d) (1+y).toNat t.s.s.s).1=K at *
   have hlen:=hk.len;have hne:K.isEmpty=false:=by
    cases K with
    | nil=>simp at hlen;omega
    | cons=>rfl
   refine ⟨?_,?_,?_,fun acc h=>?_⟩
   ·rw [r8,hk.sh];unfold Ay;rw [hne,qCf,qDt (by omega:1<=1+z),qDt (by omega:1+z<=(K.length:Int))];rfl
   ·show 1+mv K<=_;have:=hk.dep;omega
   ·show 1+i9 K<=1+3*gN d;have h1:=hk.cnt;have h3:(1+y).toNat<=3:=by omega
    have h2:(1+y).toNat*gN d<=3*gN d:=Nat.mul_le_mul_right _ h3;omega
   ·show InL L (fV (.mk _ _ K) acc);rw [lG,hne,qCf];exact hk.col acc h
theorem Tg {L:List Tm} {d n:Nat} {x:Ex} (h8:L.length<=8) (hd:d<=4) (hn:n<=24) (h:GdX L d n x):kv x=true/\∀a∈bJ x,a∈L:=by
 obtain ⟨c1,c2⟩:=h.col [] ⟨fun a ha=>absurd ha (by simp),List.Pairwise.nil⟩;have hnd:(fV x []).Nodup:=c2.imp fun hab e=>hab (by rw [e]);have hle:=n4 hnd c1;have hv:kv x=true:=by
  unfold kv Ds;have h1:=h.dep;have h2:=h.cnt;have h3:sa (fV x []):=⟨by omega,c2⟩;rw [h.sh,qDt (by omega:x.dep<=4),qDt (by omega:x.cnt<=24),qDt h3];rfl
 refine ⟨hv,?_⟩;unfold bJ;rw [hv];exact c1
theorem No (n:Int):1<=vr n/\vr n<=5:=by
 unfold vr;obtain ⟨h1,h2⟩:=og (n:=n) (m:=8) (by omega);generalize ll n 8=z at *
 obtain rfl|rfl|rfl|rfl|rfl|rfl|rfl|rfl:z=0\/z=1\/z=2\/z=3\/z=4\/z=5\/z=6\/z=7:=by omega
 all_goals decide
theorem FF {r:Rs} (h:iB r=true) (n:Int):aS r (KD r n)=true/\cr (KD r n)=true:=by
 unfold iB at h;simp only [qBa] at h;have hs:=h.1.1.2;unfold aS cr KD;rw [hs];unfold br at hs;simp only [Bool.or_eq_true,qBa,decide_eq_true_eq] at hs;obtain ⟨m1,m2⟩:=No n;obtain ⟨u1,u2⟩:=og (n:=n) (m:=r.units) (by omega);generalize vr n=y at *
 generalize ll n r.units=z at *
 by_cases hk:r.kind=1
 ·rw [qDt hk,qCt];unfold cL;dsimp only;rw [if_pos hk,qDt m1,qDt m2];exact ⟨rfl,rfl⟩
 ·rw [qDf hk,qCf,if_neg hk];dsimp only;rw [qDt (by omega:1<=1+z),qDt (by omega:1+z<=r.units),qDt (by omega:1+z<=8)];exact ⟨rfl,by simp⟩
theorem I6 (first:Int):∀(l:List Rs) (i:Nat),∀a∈ln first i l,∃r∈l,∃n,a=⟨r.name,KD r n⟩
 | [],_,a,h=>absurd h (by simp [ln])
 | r :: l,i,a,h=>by
  rcases List.mem_cons.1 h with rfl|h
  ·exact ⟨r,by simp,_,rfl⟩
  ·obtain ⟨r',h1,n,h2⟩:=I6 first l (i+1) a h
   exact ⟨r',by simp [h1],n,h2⟩
theorem BG (first:Int):∀(l:List Rs) (i:Nat),(ln first i l).length=l.length
 | [],_=>rfl
 | r :: l,i=>by show (ln first (i+1) l).length+1=_;rw [BG first l];rfl
theorem Np (first:Int):∀(l:List Rs) (i:Nat),(ln first i l).map (·.name)=l.map (·.name)
 | [],_=>rfl
 | r :: l,i=>by show r.name :: (ln first (i+1) l).map (·.name)=_;rw [Np first l];rfl
theorem one_of {L:List Tm} (h:(L.map (·.name)).Nodup):Nn L:=by
 induction L with
 | nil=>intro a ha;exact absurd ha (by simp)
 | cons x L ih =>
  rw [List.map_cons,List.nodup_cons] at h;intro a ha b hb e;rcases List.mem_cons.1 ha with ha|ha <;> rcases List.mem_cons.1 hb with hb|hb
  ·rw [ha,hb]
  ·exact absurd (List.mem_map.2 ⟨b,hb,by rw [<-e,ha]⟩) h.1
  ·exact absurd (List.mem_map.2 ⟨a,ha,by rw [e,hb]⟩) h.1
  ·exact ih h.2 a ha b hb e
theorem RH {q:List Qu} (hq:di q=true) (h0:0<q.length) (t:Tp):m6 (vF t (bI q)).1=true/\fW q (vF t (bI q)).1.expr=0:=by
 have h8:=(bi hq).1;have hnd:=mZ hq;have hres:∀r∈bI q,iB r=true:=fun r hr=>by
  obtain ⟨x,hx,rfl⟩:=List.mem_map.1 hr;exact (aP (cP hq hx)).res
 have key:∀u:Tp,kv (mr u (bI q)).1=true/\fW q (mr u (bI q)).1=0:=fun u=>by
  unfold mr;have hmem:=I6 (u.v 1048576) (bI q) 0;have hlen:=BG (u.v 1048576) (bI q) 0;have hnm:=Np (u.v 1048576) (bI q) 0;have hcl:(bI q).length=q.length:=List.length_map _;generalize ln (u.v 1048576) 0 (bI q)=L at *
  have hone:Nn L:=one_of (by rw [hnm];unfold bI;rw [List.map_map];exact hnd);have hat:∀a∈L,iD a=true:=fun a ha=>by
   obtain ⟨r,hr,n,rfl⟩:=hmem a ha;have h1:=hres r hr;have h2:=(FF h1 n).2;unfold iB at h1;simp only [qBa] at h1;unfold iD;rw [h2];have h3:dh r.name.toList=true:=h1.1.1.1;rw [h3];rfl
  obtain ⟨v1,v2⟩:=Tg (by omega) (by omega) (by decide) (FE hone hat (by omega) 2 u.s);refine ⟨v1,?_⟩;unfold fW;rw [v1];refine sC.2 fun a ha=>?_;obtain ⟨r,hr,n,rfl⟩:=hmem a (v2 a ha);obtain ⟨x,hx,rfl⟩:=List.mem_map.1 hr;have hh:=gY hq hx;exact ⟨hh.1,by show aS (bf q x.res.name).res _=true;rw [hh.2];exact (FF (hres _ hr) n).1⟩
 obtain ⟨p1,p2⟩:=t.v_in (m:=8) (by omega);obtain ⟨l1,l2⟩:=t.s.s.v_in (m:=20) (by omega);unfold vF;by_cases h5:t.s.v 5=1
 ·rw [qDt h5,qCt];refine ⟨?_,(key _).2⟩;unfold m6;dsimp only;rw [(key _).1,qDt p1,qDt (by omega:t.v 8<=7),qDt (by omega:0<=1+t.s.s.v 20),qDt (by omega:1+t.s.s.v 20<=1000)];rfl
 ·rw [qDf h5,qCf];refine ⟨?_,(key _).2⟩;unfold m6;dsimp only;rw [(key _).1,qDt p1,qDt (by omega:t.v 8<=7)];rfl
theorem Nq {c:Cs} {k:Cm} (h:cG c=true) (hk:k.kind=2) (hn:∀x∈c.procs,x.proc≠k.proc):cy c k=(LA,[],10):=by
 have hI:bM k.proc 0 c.procs<0:=by
  by_cases h0:0<=bM k.proc 0 c.procs
  ·obtain ⟨i,hi,_,hp⟩:=c7 h0;exact absurd hp (hn _ (List.getElem_mem hi))
  ·omega
 have e:g8 ⟨c,[]⟩ k=(⟨c,[]⟩,10):=by
  unfold g8;rw [hk];show (bif decide (bM k.proc 0 c.procs<0) then _ else _)=_;rw [qDt hI];rfl
 unfold cy;rw [h,e];rfl
theorem Nr {c:Cs} {k:Cm} (h:cG c=true) (hk:k.kind=2) {x:Pc} (hx:x∈c.procs) (hp:x.proc=k.proc) (hw:x.waiting=true):cy c k=(LA,[],14):=by
 obtain ⟨i,hi,ei⟩:=List.mem_iff_getElem.1 hx;have e:=(CR (k:=k) (aV.1 h).1 hi (by rw [ei,hp])).1 hk;have hpc:Wk.pc ⟨c,[]⟩ i=x:=by rw [bh (w:=⟨c,[]⟩) hi];exact ei
 have e2:g8 ⟨c,[]⟩ k=(⟨c,[]⟩,14):=by
  rw [e];unfold bX;rw [hpc,hw];rfl
 unfold cy;rw [h,e2];rfl
theorem FG (l:List Int) (who:Int) (more:List Int):FSpec prog 5 [.one (.sl km l),lw who,.one (.sl km more)] [] [] (.b true) []:=by
 refine a7 func5 ?_;have kA:=jF;obtain ⟨bl,hbl⟩:∃b,decide (l.length<=300)=b:=⟨_,rfl⟩;have kL:=ka l hbl;obtain ⟨bm,hbm⟩:∃b,decide (more.length<=300)=b:=⟨_,rfl⟩;have kM:=ka more hbm;cases bl with
 | false =>
  exact UG
 | true =>
 cases bm with
 | false =>
  exact Vb
 | true =>
  have hl:=of_decide_eq_true hbl;have hm:=of_decide_eq_true hbm;obtain ⟨c,hW⟩:∃W,i6 l=W:=⟨_,rfl⟩;have kC:=jr l hl (jV l) hW;have hv:cG c=true:=hW▸gB l;obtain ⟨hq,hu⟩:=hW▸qX l;have htv:=(aV.1 hv).1.tv;have h8:=(bi htv).1;obtain ⟨p,hp⟩:=qGe (ce who);have kP:=j9 who;rw [hp] at kP;have kQ:=I4 2 c (by omega);have hq0:0<c.queues.length:=by have:=hq.1;unfold bI at this;rwa [List.length_map] at this
  obtain ⟨hrq,hrs⟩:=RH htv hq0 ⟨more,0⟩;obtain ⟨R,hR⟩:=qGe (vF ⟨more,0⟩ (bI c.queues));have kR:=Nb ⟨more,0⟩ (bI c.queues) ⟨Nat.zero_le _,by show more.length<=_;omega⟩ hq hu hR;rw [hR] at hrq hrs;clear hR hu hp hW hbl hbm hl hq hq0;obtain ⟨r,t⟩:=R;dsimp only at kR hrq hrs;obtain ⟨D,hD⟩:∃R,cy c ⟨2,p,r,⟨#[]⟩,0⟩=R:=⟨_,rfl⟩;have kD:=FJ 2 c _ hD;by_cases hn:∀x∈c.procs,x.proc≠p
  ·have e:=Nq (k:=⟨2,p,r,⟨#[]⟩,0⟩) hv rfl hn;rw [hD] at e;subst e;have kN:=Nm 2 (c:=c) hn;clear hn hD hv htv;repeat' (first|refine av ?_ ?_|(refine aa 9 rfl ?_;first|(refine cB [] kL ?_)|(refine cB [] kM ?_)|(refine cC [] kC ?_)|(refine cB [] kP ?_)|(refine cC [] kQ ?_)|(refine cH (qf [(0,40)]) kR ?_)|(refine cC [] kN ?_)|(refine cC [] kD ?_)|(refine cB [] kA ?_))|refine aq ?_|exact aw|(refine ap fun hb=>?_;first|(simp at hb;done)|skip)|exact bg|fail)
  obtain ⟨x0,hx0,hp0⟩:∃x∈c.procs,x.proc=p:=Classical.byContradiction fun hc=>hn fun x hx e=>hc ⟨x,hx,e⟩;clear hn;have kN:=Nk 2 hv hx0;rw [hp0] at kN;cases hw:x0.waiting with
  | true =>
   have e:=Nr (k:=⟨2,p,r,⟨#[]⟩,0⟩) hv rfl hx0 hp0 hw;rw [hD] at e;subst e;clear hD hv htv hx0;repeat' (first|refine av ?_ ?_|(refine aa 9 rfl ?_;first|(refine cB [] kL ?_)|(refine cB [] kM ?_)|(refine cC [] kC ?_)|(refine cB [] kP ?_)|(refine cC [] kQ ?_)|(refine cH (qf [(0,40)]) kR ?_)|(refine cC [] kN ?_)|(refine cC [] kD ?_)|(refine cB [] kA ?_))|refine aq ?_|exact aw|(refine ap fun hb=>?_;first|(cases hw.symm.trans hb;done)|(simp at hb;done)|skip)|exact bg|fail)
  | false =>
   obtain ⟨j,hj,ej⟩:=List.mem_iff_getElem.1 hx0;have hge:c.procs[j]? = some x0:=by rw [qGg hj,ej]
   obtain ⟨s0,y,hy,hyp,hs1,hs2⟩:=Ao hv hge hp0 hw hrq hrs hD;have hX:=(fI (c:=c) (k:=⟨2,p,r,⟨#[]⟩,0⟩) (by rw [hD];exact s0)).2;rw [hD] at hX;have hld:=eZ (eK.2 ((aV.1 hv).1.inv x0 hx0).stat.led);clear hD hge hj ej hv hx0 htv;obtain ⟨X,E,e⟩:=D;dsimp only at *
   obtain rfl:e=0:=s0;have hym:=List.mem_of_getElem? hy;have kF:=C7 2 hX hym;rw [hyp] at kF;have hXc:=(aV.1 hX).1;have h8':=(bi hXc.tv).1;cases hyw:y.waiting with
   | true =>
    obtain ⟨hyr,hho⟩:=hs1 hyw;obtain ⟨B,hB⟩:=qGe (bk X.queues p r.expr);have hBl:B.length<=1000:=by have:=cD r.expr;rw [<-hB];simp [bk];omega
    obtain ⟨i,hi,ei⟩:=List.mem_iff_getElem.1 hym;have hix:=xz hXc hi;rw [ei,hyp] at hix;have kG:=BD 2 X p hix (by rw [qGg hi,ei]) hyw hX (B:=B) (by rw [hyp,hyr];exact hB);have kH:=sA 2 r.expr B hBl;rw [hB] at hho;rw [hho] at kH;clear hs1 hs2 hho hB hix hi ei hyr hy hym hXc;repeat' (first|refine av ?_ ?_|(refine aa 9 rfl ?_;first|(refine cB [] kL ?_)|(refine cB [] kM ?_)|(refine cC [] kC ?_)|(refine cB [] kP ?_)|(refine cC [] kQ ?_)|(refine cH (qf [(0,40)]) kR ?_)|(refine cC [] kN ?_)|(refine cC [] kD ?_)|(refine cC [] kF ?_)|(refine cC [] kG ?_)|(refine cB [] kH ?_)|(refine cB [] kA ?_))|refine aq ?_|exact aw|(refine ap fun hb=>?_;first|(cases hyw.symm.trans hb;done)|skip)|exact bg|fail)
   | false =>
    obtain ⟨g1,g2,g3,g4,g5⟩:=hs2 hyw;have hmk:prog.underlying 86=some (.slice 4):=underlying86;have hib:(prog.info? 4).map (fun i=>(i.zero,i.size,i.bytes))=some (some (.bool false),1,1):=by kernel_rfl
    have h8a:=cD r.expr;have hledy:=eZ (eK.2 (hXc.inv y hym).stat.led);have hpl:=gD r.expr (zl X.queues p r.expr);obtain ⟨L,hL⟩:=qGe (bJ r.expr);have kAt:=lg 2 r.expr hL;obtain ⟨S,hS⟩:∃S,S=zl X.queues p r.expr:=⟨_,rfl⟩;obtain ⟨G,hG⟩:∃G,G=L.map fun a=>bq (bf X.queues a.name).res (aC x0.led.entries a.name) a.am:=⟨_,rfl⟩;rw [<-hS] at g4 g5 hpl;have hSl:S.length=L.length:=by rw [hS];simp [zl,hL]
    have hGl:G.length=L.length:=by rw [hG,List.length_map]
    have hSg:∀i (h:i<L.length),S[i]'(by omega)=bq (bf X.queues L[i].name).res (ah (bf X.queues L[i].name).holds p) L[i].am:=by
     intro i h;simp only [hS,zl,hL,List.getElem_map]
    have hGg:∀i (h:i<L.length),G[i]'(by omega)=bq (bf X.queues L[i].name).res (aC x0.led.entries L[i].name) L[i].am:=by
     intro i h;simp only [hG,List.getElem_map]
    have hg1:∀i (h:i<L.length),bd X.queues L[i].name=true:=fun i h=>g1 _ (by rw [hL];exact List.getElem_mem h);have hg5:∀i (h:i<L.length),S[i]'(by omega)=true->G[i]'(by omega)=false->(bz r.expr S).getD i false=true:=fun i h e1 e2=>by
     refine g5 i (by rw [hL];exact h) ?_ ?_
     ·rw [List.getD_eq_getElem?_getD,qGg (by omega)];exact e1
     ·rw [hGg i h] at e2;simp only [hL];exact e2
    rw [hL] at h8a hpl;have kH:=sA 2 r.expr S (by omega);rw [g4] at kH;have kPr:=Mh 2 r.expr S (by omega);obtain ⟨Z,hZ⟩:∃P,bz r.expr S=P:=⟨_,rfl⟩;rw [hZ] at kPr hpl hg5;have kJ:=Cq X.queues p (by omega);rw [g2] at kJ;have kI:=jl X.queues p (by omega);rw [g3] at kI;have kO:=yI y.led hledy.1;have kS:=ml (dx y.led) (dx y.led);rw [qDt rfl] at kS;clear hs1 hs2 g1 g2 g3 g4 g5 hS hG hZ hL hy hym hXc;repeat' (first|refine av ?_ ?_|(refine aa 9 rfl ?_;first|(refine cB [] kL ?_)|(refine cB [] kM ?_)|(refine cC [] kC ?_)|(refine cB [] kP ?_)|(refine cC [] kQ ?_)|(refine cH (qf [(0,40)]) kR ?_)|(refine cC [] kN ?_)|(refine cC [] kD ?_)|(refine cC [] kF ?_)|(refine cC [] kAt ?_))|(refine aa 20 rfl ?_;refine be (fN (E:=cJ) (y0:=false) hmk hib rfl (by decide) rfl (fun _ _=>rfl) rfl rfl rfl rfl (by first|omega|simp)) rfl rfl rfl ?_)|refine aq ?_|exact aw|(refine ap fun hb=>?_;first|(cases hyw.symm.trans hb;done)|skip))
    clear kL kM kC kP kQ kR kN kD kF kAt;refine ab (fun i=>i<=L.length) (fun i=>bP [8,9,10,12,15,1000,1001] [(8,.c (.ptr 8 0)),(9,.c (.ptr 9 0)),(10,.c (.ptr 10 0)),(12,.c (.ptr 12 0)),(15,.c (.ptr 15 0)),(17,.c (.sl c6 L)),(18,.c (.own 1000)),(19,.c (.own 1001)),(20,.i i)] [(8,.box 40 [.sc (.int .i64 p.site),.sc (.int .i64 p.inc),.sc (.int .i64 p.num)]),(9,.box 49 (r.d 2)),(10,.box 82 (x0.d 2)),(12,.box 32 (X.d 2)),(15,.box 82 (y.d 2)),(1000,.arr 4 cJ (S.take i++List.replicate (S.length-i) false)),(1001,.arr 4 cJ (G.take i++List.replicate (G.length-i) false))]) (fun i=>L.length-i) 0 (Nat.zero_le _) (by rw [List.take_zero,List.nil_append,Nat.sub_zero,hSl,List.take_zero,List.nil_append,Nat.sub_zero,hGl];exact bo (qf [(1000,104),(1001,107)])) ?_;intro i hi;have hol1:(S.take i++List.replicate (S.length-i) false).length=L.length:=by simp;omega
    have hol2:(G.take i++List.replicate (G.length-i) false).length=L.length:=by simp;omega
    by_cases hlt:i<L.length
    ·have hs:=hSg i hlt;have hg:=hGg i hlt;have hh:=hg1 i hlt;obtain ⟨a,ha⟩:=qGe (L[i]);have hga:L[i]? = some a:=by rw [qGg hlt,ha]
     rw [ha] at hs hg hh;have hf:¬bG a.name 0 X.queues<0:=by
      intro h;unfold bd at hh;rw [decide_eq_true_eq] at hh;omega
     obtain ⟨j,hj,hF,hq,hx⟩:=eC hf;have hst1:=Gt (B:=S) (i:=i) (by omega);have hst2:=Gt (B:=G) (i:=i) (by omega);have hq:bf X.queues a.name=X.queues[j]:=hq;rw [hs,hq] at hst1;rw [hg,hq] at hst2;have kT:=dy X.queues a.name hF;have kHe:=fS X.queues[j] p;have kC1:=dJ X.queues[j].res (ah X.queues[j].holds p) a.am;have kLH:=j5 x0.led.entries a.name;have kC2:=dJ X.queues[j].res (aC x0.led.entries a.name) a.am;obtain ⟨v1,hv1⟩:∃v,bq X.queues[j].res (ah X.queues[j].holds p) a.am=v:=⟨_,rfl⟩;obtain ⟨v2,hv2⟩:∃v,bq X.queues[j].res (aC x0.led.entries a.name) a.am=v:=⟨_,rfl⟩;rw [hv1] at kC1 hst1;rw [hv2] at kC2 hst2;clear hs hg hh hf hv1 hv2 hx hSg hGg hg1 hg5;repeat' (first|refine av ?_ ?_|(refine aa 9 rfl ?_;first|(refine cB [] kT ?_)|(refine cB [] kHe ?_)|(refine cB [] kC1 ?_)|(refine cB [] kLH ?_)|(refine cB [] kC2 ?_))|refine aq ?_|(refine aa 4 rfl ?_;first|(refine a8 (ak (z:=v1) rfl rfl rfl rfl (by first|assumption|exact qGg (by omega)) rfl rfl rfl rfl (qNl rfl) rfl rfl) rfl rfl rfl ?_)|(refine a8 (ak (z:=v2) rfl rfl rfl rfl (by first|assumption|exact qGg (by omega)) rfl rfl rfl rfl (qNl rfl) rfl rfl) rfl rfl rfl ?_))|exact aw|(refine ap fun hb=>?_;first|(exfalso;omega)|skip))
     refine ⟨i+1,by omega,by omega,?_⟩;rw [<-hst1,<-hst2];exact aT
    ·have e1:S.take i++List.replicate (S.length-i) false=S:=by rw [List.take_of_length_le (by omega),show S.length-i=0 by omega];simp
     have e2:G.take i++List.replicate (G.length-i) false=G:=by rw [List.take_of_length_le (by omega),show G.length-i=0 by omega];simp
     rw [e1,e2];clear e1 e2 hol1 hol2 hSg hGg hg1;refine gU 1000 rfl ?_;refine gU 1001 rfl ?_;refine ao ?_;refine ab (fun i=>i<=L.length) (fun i=>bP [] [(17,.c (.sl c6 L)),(18,.c (.sl cJ S)),(19,.c (.sl cJ G)),(23,.c (.sl cJ Z)),(24,.i i)] []) (fun i=>L.length-i) 0 (Nat.zero_le _) aT ?_;clear kA kH kJ kI kO kS kPr hi hlt;intro i hi;by_cases hlt:i<L.length
     ·have h5:=hg5 i hlt;obtain ⟨v1,hv1⟩:∃v,S[i]'(by omega)=v:=⟨_,rfl⟩;obtain ⟨v2,hv2⟩:∃v,G[i]'(by omega)=v:=⟨_,rfl⟩;obtain ⟨v3,hv3⟩:∃v,Z[i]'(by omega)=v:=⟨_,rfl⟩;have a1:S[i]? = some v1:=by rw [qGg (by omega),hv1]
      have a2:G[i]? = some v2:=by rw [qGg (by omega),hv2]
      have a3:Z[i]? = some v3:=by rw [qGg (by omega),hv3]
      rw [hv1,hv2,List.getD_eq_getElem?_getD,a3] at h5;have h5:v1=true->v2=false->v3=true:=h5;clear hv1 hv2 hv3 hg5;cases v1 with
      | false =>
       clear h5;refine ao ?_;exact U0
      | true =>
       cases v2 with
       | true =>
        clear h5;refine ao ?_;exact U0
       | false =>
        obtain rfl:=h5 rfl rfl;clear h5;refine ao ?_;exact U0
     ·exact UG
end Go.Proofs.YthpgjkjgkhjjlaaGreatDoor
