/- Part K26 of a proof of statements of chapter 15 (no condition). -/
import Derived.Test.YthpgjkjgkhjjlaaGreatDoorRows
import Derived.Test.YthpgjkjgkhjjlaaGreatDoorK21
import Derived.Test.YthpgjkjgkhjjlaaGreatDoorK24
import Derived.Test.YthpgjkjgkhjjlaaGreatDoorK23
set_option linter.unusedVariables false
set_option linter.unusedSimpArgs false
set_option maxRecDepth 100000
set_option maxHeartbeats 64000000
namespace Go.Proofs.YthpgjkjgkhjjlaaGreatDoor
open Go.RowKit Go.Proofs.Tryz
section
open Go.WideShapes Go.ChangeShapes Go.Deep
section
variable {H:Type} {enc:TypeId×Value->H} {P:Program}
theorem eE {f:Func} {s:ChangeSpec} {apart fresh handsOn again:Bool} {W W':World} {args:Array Value} {v:Value} {ds gs:List (DataW H)} {before pa pv:List MemPlace}
  (hW:DataW.Whole enc P f.params.toList s.vars apart W args.toList ds gs before)
  (hres:∀(b:Nat) (sp:Nat->Bool) (hd:Bool),DataW.TrodAll enc P W' b sp hd f.resultTypes.toList (v.resultList f.resultTypes.size) (s.fn H (ds++gs)).results [])
  (hargs:∀sp:Nat->Bool,(∀p∈before,sp p.block=true)->DataW.TrodAll enc P W' 0 sp true f.params.toList args.toList (s.fn H (ds++gs)).args pa)
  (hvars:∀sp:Nat->Bool,(∀p∈before,sp p.block=true)->DataW.TrodVars enc P W' sp s.vars (s.fn H (ds++gs)).vars pv)
  (hps:before=pa++pv) (hb:Below W.heap.size W W')
  (hok:∀(j:Nat) (t:TypeId) (r:Value),f.resultTypes[j]? = some t->(v.resultList f.resultTypes.size)[j]? = some r->Value.okWide P W' .any 0 t r) :
  s.post enc P f apart fresh handsOn again W args v W':=by
 have hlt:∀p∈before,p.block<W.heap.size:=fun p hp=>hW.lt p hp;have hold:∀p∈before,(fun b=>decide (b<W.heap.size)) p.block=true:=fun p hp=>by simpa using hlt p hp
 refine ⟨ds,gs,before,[],pa,pv,hW,hres _ _ _,hargs _ hold,hvars _ hold,World.keptBut_mono (fun p hp=>⟨hp,?_⟩) (hb.frame (·∈before)),fun _=>?_⟩
 ·rw [hps,List.mem_append] at hp;exact Or.inr hp
 ·obtain ⟨_,_,_,_,_,hz,hn⟩:=hW;refine ⟨hok,_,_,([]++pa)++pv,⟨[]++pa,pv,trodAll_append (hargs _ (fun _ _=>rfl)) (hres _ _ _),hvars _ (fun _ _=>rfl),rfl,?_,?_⟩,?_⟩
  ·intro b off hp;have hin:MemPlace.cell b off∈before:=by rw [hps];simpa using hp
   rw [hb.frozen (hlt _ hin)];exact hz b off hin
  ·intro ha;have:=hn ha;rw [hps] at this;simpa using this
  ·intro p hp _;rw [hps];simpa using hp
end
theorem Tryz.own:ownKnob prog.godebug=none:=by kernel_rfl
theorem laidOut:laidOutB prog=true:=by kernel_rfl
end
structure Nd where
 proc:Pr
 expr:Ex
 gen:Int
def Uv (d:Nat):El Nd where
 n:=9
 pos:=by decide
 rep:=fun w S x cs=>∃A cap,cs=[.int .i64 x.proc.site,.int .i64 x.proc.inc,.int .i64 x.proc.num,.int .i64 x.expr.k,.string x.expr.atom.name,.int .i64 x.expr.atom.am.mode,.int .i64 x.expr.atom.am.units,.slice A x.expr.kids.length cap,.int .i64 x.gen]/\(x.expr.kids.length<=cap/\cap<=maxLen)/\RowsAt (pA d) w S A x.expr.kids
 len:=fun h=>by obtain ⟨A,cap,rfl,_⟩:=h;rfl
 one:=fun h=>by obtain ⟨A,cap,rfl,_⟩:=h;intro u hu;simp at hu;rcases hu with rfl|rfl|rfl|rfl|rfl|rfl|rfl|rfl|rfl <;> rfl
 same:=fun h hk hS=>by
  obtain ⟨A,cap,e,h1,h2⟩:=h;exact ⟨A,cap,e,h1,h2.same hk hS⟩
def Nd.d (d:Nat) (x:Nd):List D:=[.sc (.int .i64 x.proc.site),.sc (.int .i64 x.proc.inc),.sc (.int .i64 x.proc.num),.sc (.int .i64 x.expr.k),.sc (.string x.expr.atom.name),.sc (.int .i64 x.expr.atom.am.mode),.sc (.int .i64 x.expr.atom.am.units),.sl (pA d) x.expr.kids,.sc (.int .i64 x.gen)]
instance (d:Nat):Dp (Uv d) where
 deep:=Nd.d d
 get:=by
  rintro w F ρ x cs ⟨A,c,rfl,h1,h2⟩;exact ⟨rfl,rfl,rfl,rfl,rfl,rfl,rfl,⟨A,c,rfl,h1,h2⟩,rfl,trivial⟩
 put:=by
  intro w F ρ x cs h
  match cs,h with
  | [_,_,_,_,_,_,_,_,_],⟨rfl,rfl,rfl,rfl,rfl,rfl,rfl,⟨A,c,rfl,h1,h2⟩,rfl,_⟩=>exact ⟨A,c,rfl,h1,h2⟩
 nok:=fun _ _=>rfl
theorem iL (n:ByteArray) (l:List Ho):(aJ n l).length=l.length:=List.length_map ..
theorem nl (t:List Qu) (p:Pr) (n:ByteArray):(bv t p n).2.1.length<=17:=by
 unfold bv;cases hV:di t with
 | false=>simp [dE]
 | true =>
  by_cases hf:bG n 0 t<0
  ·simp [hf,dE]
  ·obtain ⟨i,hi,hF,hq,hx⟩:=eC hf;have:=nc (cP hV (List.getElem_mem hi)) p;rw [hq];cases decide ((bB t[i] p).2.2=0) with
   | false=>simp [hf,dE]
   | true=>simp [hf,iL];exact this
theorem fH (t:List Qu) (p:Pr) (a:Tm):(bD t p a).2.1.length<=18:=by
 unfold bD;cases hV:di t with
 | false=>simp [dE]
 | true =>
  by_cases hf:bG a.name 0 t<0
  ·simp [hf,dE]
  ·obtain ⟨i,hi,hF,hq,hx⟩:=eC hf;have:=o0 (cP hV (List.getElem_mem hi)) p a.am;rw [hq];cases decide ((bE t[i] p a.am).2.2=0) with
   | false=>simp [hf,dE]
   | true =>
    cases decide (ah t[i].holds p=a.am) with
    | true=>simp [hf,iL];omega
    | false=>simp [hf,iL];omega
theorem no {t:List Qu} {n:ByteArray} (h:bd t n=true):∃i,∃hi:i<t.length,bG n 0 t=(i:Int)/\bf t n=t[i]:=by
 have hf:¬bG n 0 t<0:=by simpa [bd] using h
 obtain ⟨i,hi,hF,hq,_⟩:=eC hf;exact ⟨i,hi,hF,hq⟩
theorem PM (d:Nat) (w:Wk) (x:Pc) (n:ByteArray) (hV:di w.c.queues=true) (hn:bd w.c.queues n=true) (hl:w.ev.length<=900000):FSpec prog 161 [go,x.a d,.one (.sc (.string n))] (HI d w) [3,4] (.tup []) (HO d (bH w x n)):=by
 refine a7 func161 ?_;obtain ⟨i,hi,hF,hq⟩:=no hn;obtain ⟨l,hL⟩:=qGe (aC x.led.entries n);have kL:=j5 x.led.entries n;rw [hL] at kL;obtain ⟨o,hw⟩:=qGe (aj w.c.queues[i] x.proc);have hcl:=nl w.c.queues x.proc n;cases o with
 | none =>
  have e1:bH w x n=bZ w x.proc n l:=by unfold bH eT;rw [hq,hw,hL];rfl
  rw [e1];obtain ⟨h,hh⟩:=qGe (ah w.c.queues[i].holds x.proc);have kH:=fS w.c.queues[i] x.proc;rw [hh] at kH;have hll:=fH w.c.queues x.proc ⟨n,l⟩;by_cases hhl:h=l
  ·rw [show bZ w x.proc n l=w by unfold bZ;rw [hq,hh];simp [hhl]];have:=dy w.c.queues n hF;have:=cX w.c.queues[i] x.proc hw;refine ao ?_
   (exact oW (qf [(3,1),(4,2)]))
  ·obtain ⟨R,hR⟩:=qGe (bD w.c.queues x.proc ⟨n,l⟩);rw [hR] at hll;rw [show bZ w x.proc n l=w.take R.1 R.2.1 by unfold bZ dI;rw [hq,hh,hR];simp [hhl]];repeat' (first|refine av ?_ ?_|(refine aa 9 rfl ?_;first|(refine cB [] (dy w.c.queues n hF) ?_)|(refine cB [] (cX w.c.queues[i] x.proc hw) ?_)|(refine cB [] kL ?_)|(refine cB [] kH ?_)|(refine cC [] (xq w.c.queues x.proc ⟨n,l⟩ hR) ?_)|(refine cH (qf [(3,1003),(4,1004)]) (vn d w R.1 R.2.1 (by omega)) ?_))|refine aq ?_|exact aw|refine ap fun hb=>?_|(exact oW (qf [(3,1003),(4,1004)])))
 | some m =>
  obtain ⟨C,hC⟩:=qGe (bv w.c.queues x.proc n);have hts:=(o8 (p:=x.proc) hV hn (by rw [hq,hw];rfl)).2.1;rw [hC] at hts hcl;have hF2:bG n 0 C.1=(i:Int):=by rw [ni n 0 hts.nm];exact hF
  have hi2:i<C.1.length:=by
   have:=congrArg List.length hts.nm;simp [ef] at this;omega
  have hq2:bf C.1 n=C.1[i]:=by
   obtain ⟨j,hj,hFj,hqj⟩:=no (t:=C.1) (n:=n) (by simp [bd,hF2]);have:j=i:=by rw [hF2] at hFj;omega
   subst this;exact hqj
  have e1:bH w x n=bZ (w.take C.1 C.2.1) x.proc n l:=by unfold bH eT fv;rw [hq,hw,hL,hC];rfl
  rw [e1];obtain ⟨h,hh⟩:=qGe (ah C.1[i].holds x.proc);have kH:=fS C.1[i] x.proc;rw [hh] at kH;have hll:=fH C.1 x.proc ⟨n,l⟩;have hi3:i<(w.take C.1 C.2.1).c.queues.length:=hi2;have hgq:(w.take C.1 C.2.1).c.queues[i]? = some C.1[i]:=qGg hi2;by_cases hhl:h=l
  ·rw [show bZ (w.take C.1 C.2.1) x.proc n l=w.take C.1 C.2.1 by unfold bZ;rw [show (w.take C.1 C.2.1).c.queues=C.1 from rfl,hq2,hh];simp [hhl]];repeat' (first|refine av ?_ ?_|(refine aa 9 rfl ?_;first|(refine cB [] (dy w.c.queues n hF) ?_)|(refine cB [] (cX w.c.queues[i] x.proc hw) ?_)|(refine cC [] (Ew w.c.queues x.proc n hC) ?_)|(refine cB [] kL ?_)|(refine cB [] kH ?_)|(refine cH (qf [(3,1003),(4,1004)]) (vn d w C.1 C.2.1 (by omega)) ?_))|refine aq ?_|exact aw|refine ap fun hb=>?_|(exact oW (qf [(3,1003),(4,1004)])))
  ·obtain ⟨R,hR⟩:=qGe (bD C.1 x.proc ⟨n,l⟩);rw [hR] at hll;have hev:(w.take C.1 C.2.1).ev.length+R.2.1.length<=1000000:=by simp [Wk.take];omega
   rw [show bZ (w.take C.1 C.2.1) x.proc n l=(w.take C.1 C.2.1).take R.1 R.2.1 by unfold bZ dI;rw [show (w.take C.1 C.2.1).c.queues=C.1 from rfl,hq2,hh,hR];simp [hhl]];repeat' (first|refine av ?_ ?_|(refine aa 9 rfl ?_;first|(refine cB [] (dy w.c.queues n hF) ?_)|(refine cB [] (cX w.c.queues[i] x.proc hw) ?_)|(refine cC [] (Ew w.c.queues x.proc n hC) ?_)|(refine cB [] kL ?_)|(refine cB [] kH ?_)|(refine cC [] (xq C.1 x.proc ⟨n,l⟩ hR) ?_)|(refine cH (qf [(3,1003),(4,1004)]) (vn d w C.1 C.2.1 (by omega)) ?_)|(refine cH (qf [(1,1003),(2,1004),(3,1005),(4,1006)]) (vn d (w.take C.1 C.2.1) R.1 R.2.1 hev) ?_))|refine aq ?_|exact aw|refine ap fun hb=>?_|(exact oW (qf [(3,1005),(4,1006)])))
def Gy (x:Pc):List Tm->Wk->Prop
 | [],_=>True
 | a :: l,w=>di w.c.queues=true/\bd w.c.queues a.name=true/\w.ev.length<=900000/\Gy x l (bH w x a.name)
theorem sH (d:Nat) (w:Wk) (i:Nat) (hi:i<w.c.procs.length) (hok:Gy (w.pc i) (bJ (w.pc i).req.expr) w) (hi2:i<(cS (w.pc i) (bJ (w.pc i).req.expr) w).c.procs.length):FSpec prog 92 [go,lw i] (HI d w) [3,4] (.tup []) (HO d (ai w i)):=by
 refine a7 func92 ?_;obtain ⟨x,hx⟩:∃x,w.c.procs[i]? = some x:=⟨_,qGg hi⟩;have hpc:=eI hx;unfold ai;rw [hpc] at hok hi2 ⊢;have h8:=cD x.req.expr;obtain ⟨L,hL⟩:=qGe (bJ x.req.expr);rw [hL] at hok hi2 h8 ⊢;obtain ⟨W,hW⟩:=qGe (cS x L w);rw [hW] at hi2 ⊢;have:=lg d x.req.expr hL;refine ao ?_;refine ab (fun y:Nat×Wk=>y.1<=L.length/\Gy x (L.drop y.1) y.2/\cS x (L.drop y.1) y.2=W) (fun y=>bP [0,1,2,4,1010,1011] [(0,.v go),(1,.v (lw i)),(4,.c (.ptr 4 0)),(5,.c (.sl c6 L)),(6,.i y.1)] [(0,.box 113 (KB y.2 1010 1011)),(4,.box 82 (x.d d)),(1010,.arr 82 (fR d) y.2.c.procs),(1011,.arr 68 fX y.2.ev)]) (fun y=>L.length-y.1) (0,w) ⟨Nat.zero_le _,hok,hW⟩ (by exact bo (qf [(1010,1),(1011,2)])) ?_;rintro ⟨k,v⟩ ⟨hk,hv,hs⟩;dsimp only at *
 by_cases hlt:k<L.length
 ·rw [qDc hlt] at hv hs;obtain ⟨v1,v2,v3,v4⟩:=hv;repeat' (first|refine av ?_ ?_|refine aa 9 rfl (cH (qf [(1,1010),(2,1011),(3,1003),(4,1004)]) (PM d v x L[k].name v1 v2 v3) ?_)|refine aq ?_|exact aw|refine ap fun hb=>?_)
  refine ⟨(k+1,bH v x L[k].name),⟨by dsimp only;omega,v4,hs⟩,by dsimp only;omega,?_⟩;exact bo (qf [(1010,1003),(1011,1004)])
 ·obtain rfl:v=W:=by rw [<-hs,qDn (by omega)];rfl
  repeat' (first|refine av ?_ ?_|refine aa 9 rfl (cH (qf [(1,1010),(2,1011),(3,1005),(4,1006)]) (PK d v i hi2) ?_)|refine aq ?_|exact aw|refine ap fun hb=>?_|(exact oW (qf [(3,1005),(4,1006)])))
def Ip (x:Pc) (i:Nat):List Tm->List Bool->Wk->Prop
 | a :: l,b :: bs,w=>di w.c.queues=true/\bd w.c.queues a.name=true/\w.ev.length<=900000/\i<w.c.procs.length/\Ip x i l bs (bif b then gy w i x.proc a.name else bH w x a.name)
 | _,_,_=>True
def SA (v:Wk) (i:Nat):Wk:=bO (v.pc i) i (bJ (v.pc i).req.expr) (bz (v.pc i).req.expr (bk v.c.queues (v.pc i).proc (v.pc i).req.expr)) (v.note 2 (v.pc i).proc)
def StOk:Nat->Wk->Prop
 | 0,v=>v.c.procs.length<=100000/\dF v.c.queues 0 v.c.procs=none
 | n+1,v=>v.c.procs.length<=100000/\v.ev.length<=900000/\∀i,dF v.c.queues 0 v.c.procs=some i->i<v.c.procs.length/\i<(SA v i).c.procs.length/\
   Ip (v.pc i) i (bJ (v.pc i).req.expr) (bz (v.pc i).req.expr (bk v.c.queues (v.pc i).proc (v.pc i).req.expr)) (v.note 2 (v.pc i).proc)/\StOk n (eJ v i)
theorem StOk.len {n:Nat} {v:Wk} (h:StOk n v):v.c.procs.length<=100000:=by cases n <;> exact h.1
theorem EK (d:Nat) (w:Wk) (h8:w.c.procs.length<=100000) {o:Option Nat} (ho:dF w.c.queues 0 w.c.procs=o):FSpec prog 164 [go] (HI d w) [3,4] (.i (PL o)) (HO d w):=ho▸yF d w h8
theorem iP (w:Wk) (i:Nat) (x:Pc):(w.setP i x).c.procs.length=w.c.procs.length:=List.length_set
theorem oh (d:Nat) (w:Wk) (n:Nat) (hok:StOk n w):FSpec prog 94 [go] (HI d w) [3,4] (.tup []) (HO d (aK n w)):=by
 refine a7 func94 ?_;obtain ⟨W,hW⟩:=qGe (aK n w);rw [hW];have h0:=hok.len;repeat' (first|refine av ?_ ?_|refine aa 9 rfl (cH (qf [(3,1003),(4,1004)]) (yF d w h0) ?_)|refine aq ?_|exact aw|refine ap fun hb=>?_)
 refine ab (fun y:Nat×Wk=>StOk y.1 y.2/\aK y.1 y.2=W) (fun y=>bP [0,1,2,1010,1011] [(0,.v go),(2,.i (PL (dF y.2.c.queues 0 y.2.c.procs)))] [(0,.box 113 (KB y.2 1010 1011)),(1010,.arr 82 (fR d) y.2.c.procs),(1011,.arr 68 fX y.2.ev)]) (fun y=>y.1) (n,w) ⟨hok,hW⟩ (by exact bo (qf [(1010,1003),(1011,1004)])) ?_;rintro ⟨m,v⟩ ⟨hv,hs⟩;dsimp only at *
 cases ho:dF v.c.queues 0 v.c.procs with
 | none =>
  obtain rfl:v=W:=by
   rw [<-hs];cases m with
   | zero=>rfl
   | succ m=>simp [aK,ho]
  have hneg:PL none = -1:=rfl;refine ao ?_
  (exact oW (qf [(3,1010),(4,1011)]))
 | some i =>
  cases m with
  | zero=>rw [hv.2] at ho;cases ho
  | succ m =>
   obtain ⟨_,hev,hall⟩:=hv;obtain ⟨hi,hi2,hfin,hnext⟩:=hall i ho;rw [show aK (m+1) v=aK m (eJ v i) by simp [aK,ho]] at hs;obtain ⟨x,hx⟩:∃x,v.c.procs[i]? = some x:=⟨_,qGg hi⟩;have hpc:=eI hx;unfold SA at hi2;have hfw:eJ v i=aZ (dO (bO (v.pc i) i (bJ (v.pc i).req.expr) (bz (v.pc i).req.expr (bk v.c.queues (v.pc i).proc (v.pc i).req.expr)) (v.note 2 (v.pc i).proc)) i) i:=rfl;rw [hfw] at hs hnext;clear hfw;rw [hpc] at hi2 hfin hs hnext;have h8:=cD x.req.expr;obtain ⟨L,hL⟩:=qGe (bJ x.req.expr);have hgl:(bk v.c.queues x.proc x.req.expr).length<=1000:=by simp [bk];omega
   obtain ⟨keep,hkeep⟩:=qGe (bz x.req.expr (bk v.c.queues x.proc x.req.expr));have hkl:keep.length=L.length:=by rw [<-hkeep,gD,hL]
   have kP:=Mh d x.req.expr (bk v.c.queues x.proc x.req.expr) hgl;rw [hkeep] at kP hi2 hfin hs hnext;rw [hL] at hi2 hfin hs hnext h8;obtain ⟨F,hF⟩:=qGe (bO x i L keep (v.note 2 x.proc));rw [hF] at hi2 hs hnext;have hx1:PL (some i)=(i:Int):=rfl;repeat' (first|refine av ?_ ?_|(refine aa 9 rfl ?_;first|(refine cH (qf [(1,1010),(2,1011),(3,1003),(4,1004)]) (Mi d v 2 x.proc (by omega)) ?_)|(refine cC [] (nj d v.c.queues x.proc x.req.expr) ?_)|(refine cC [] kP ?_)|(refine cC [] (lg d x.req.expr hL) ?_))|refine aq ?_|exact aw|(refine ap fun hb=>?_;first|(exact absurd hb (by rw [hx1];omega))|skip))
   refine ab (fun y:Nat×Wk=>y.1<=L.length/\Ip x i (L.drop y.1) (keep.drop y.1) y.2/\bO x i (L.drop y.1) (keep.drop y.1) y.2=F) (fun y=>bP [0,1,2,3,1020,1021] [(0,.v go),(2,.i i),(3,.c (.ptr 3 0)),(4,.c (.sl cJ keep)),(5,.c (.sl c6 L)),(6,.i y.1)] [(0,.box 113 (KB y.2 1020 1021)),(3,.box 82 (x.d d)),(1020,.arr 82 (fR d) y.2.c.procs),(1021,.arr 68 fX y.2.ev)]) (fun y=>L.length-y.1) (0,v.note 2 x.proc) ⟨Nat.zero_le _,hfin,hF⟩ (by exact bo (qf [(1020,1003),(1021,1004)])) ?_;rintro ⟨k,u⟩ ⟨hk,hu,hg⟩;dsimp only at *
   by_cases hlt:k<L.length
   case neg =>
    obtain rfl:u=F:=by rw [<-hg,qDn (by omega),qDn (by omega)];rfl
    obtain ⟨o2,ho2⟩:=qGe (dF (aZ (dO u i) i).c.queues 0 (aZ (dO u i) i).c.procs);have hl2:i<(dO u i).c.procs.length:=by rw [dO,iP];exact hi2
    have hl3:=hnext.len;repeat' (first|refine av ?_ ?_|(refine aa 9 rfl ?_;first|(refine cH (qf [(1,1020),(2,1021),(3,1040),(4,1041)]) (PK d u i hi2) ?_)|(refine cH (qf [(1,1040),(2,1041),(3,1050),(4,1051)]) (o9 d (dO u i) i hl2) ?_)|(refine cH (qf [(1,1050),(2,1051),(3,1060),(4,1061)]) (EK d (aZ (dO u i) i) hl3 ho2) ?_))|refine aq ?_|exact aw|refine ap fun hb=>?_)
    refine ⟨(m,aZ (dO u i) i),⟨hnext,hs⟩,by dsimp only;omega,?_⟩;dsimp only;rw [ho2];exact bo (qf [(1010,1060),(1011,1061)])
   rw [qDc hlt,List.drop_eq_getElem_cons (l:=keep) (by omega)] at hu hg;obtain ⟨u1,u2,u3,u4,u5⟩:=hu;obtain ⟨b,hb1⟩:=qGe (keep[k]'(by omega));have hgb:keep[k]? = some b:=by rw [qGg (by omega),hb1]
   obtain ⟨a,ha⟩:=qGe (L[k]);have hga:L[k]? = some a:=by rw [qGg hlt,ha]
   rw [hb1] at u5 hg;rw [ha] at u2 u5 hg;cases b with
   | false =>
    repeat' (first|refine av ?_ ?_|refine aa 9 rfl (cH (qf [(1,1020),(2,1021),(3,1030),(4,1031)]) (PM d u x a.name u1 u2 u3) ?_)|refine aq ?_|exact aw|refine ap fun hb=>?_)
    refine ⟨(k+1,bH u x a.name),⟨by dsimp only;omega,u5,hg⟩,by dsimp only;omega,?_⟩;exact bo (qf [(1020,1030),(1021,1031)])
   | true =>
    obtain ⟨j,hj,hFj,hqj⟩:=no u2;obtain ⟨y,hy⟩:∃y,u.c.procs[i]? = some y:=⟨_,qGg u4⟩;have hpy:=eI hy;obtain ⟨h,hh⟩:=qGe (ah u.c.queues[j].holds x.proc);have kH:=fS u.c.queues[j] x.proc;rw [hh] at kH;obtain ⟨l,hll⟩:=qGe (aC y.led.entries a.name);have kLh:=j5 y.led.entries a.name;rw [hll] at kLh;have hrec:gy u i x.proc a.name=bif decide (h=l) then u else u.setP i { y with led:=(d8 y.led ⟨a.name,l,h⟩).1 }:=by
     unfold gy;rw [hqj,hh,hpy,hll]
    rw [show bO x i (a :: L.drop (k+1)) (true :: keep.drop (k+1)) u=bO x i (L.drop (k+1)) (keep.drop (k+1)) (gy u i x.proc a.name) from rfl,hrec] at hg;rw [hrec] at u5;by_cases hhl:h=l
    ·rw [qDt hhl,qCt] at u5 hg;have:=dy u.c.queues a.name hFj;refine ao ?_;refine ⟨(k+1,u),⟨by dsimp only;omega,u5,hg⟩,by dsimp only;omega,?_⟩;exact aT
    ·rw [qDf hhl,qCf] at u5 hg;obtain ⟨R,hR⟩:=qGe (d8 y.led ⟨a.name,l,h⟩);rw [hR] at u5 hg;repeat' (first|refine av ?_ ?_|(refine aa 9 rfl ?_;first|(refine cB [] (dy u.c.queues a.name hFj) ?_)|(refine cB [] kH ?_)|(refine cB [] kLh ?_)|(refine cC [] (OJ y.led ⟨a.name,l,h⟩ hR) ?_))|refine aq ?_|(refine aa 4 rfl ?_;refine a8 (ak (z:={ y with led:=R.1 }) rfl rfl rfl rfl hy rfl rfl rfl rfl (qNl rfl) rfl rfl) rfl rfl rfl ?_)|exact aw|refine ap fun hb=>?_)
     refine ⟨(k+1,u.setP i { y with led:=R.1 }),⟨by dsimp only;omega,u5,hg⟩,by dsimp only;omega,?_⟩;exact aT
theorem Iq {all:List Sv} {n:Int}:∀{l:List Sv} {k:Nat} {a:Int},ou all n k a l=true->∀x∈l,0<=x.at_/\x.at_<=n
 | [],_,_,_=>by simp
 | s :: l,k,a,h=>by
  simp only [ou,qBa,decide_eq_true_eq] at h;intro x hx;rcases List.mem_cons.1 hx with rfl|hx
  ·exact ⟨h.1.1.1.1.2,h.1.1.1.2⟩
  ·exact Iq h.2 x hx
theorem Cz {l:List En} {s:List Sv} (h:mx l s=true):∀x∈s,0<=x.at_/\x.at_<=l.length:=by
 simp only [mx,qBa] at h;exact Iq h.2
theorem gG:∀(l:List En) (acc:List ByteArray),(ew acc l).length<=acc.length+l.length
 | [],acc=>by simp [ew]
 | e :: l,acc=>by
  rw [lX];cases eY e.name acc with
  | true=>have:=gG l acc;simp;omega
  | false=>have:=gG l (ja e.name acc);rw [lh] at this;simp;omega
def SB (R:Lg×List Tm×Int):TV:=.tup [R.1.a,.one (.sl c6 R.2.1),.one (.sc (.int .i64 R.2.2))]
theorem OR (l:List Sv) (n:Int) {k:Int} (h:bb n 0 l=k):FSpec prog 168 [.one (.sl lS l),.one (.sc (.int .i64 n))] [] [] (.i k) []:=h▸lW l n
theorem SC (g:Lg) (n:Int) {R:Lg×List Tm×Int} (hR:cQ g n=R):FSpec prog 169 [g.a,.one (.sc (.int .i64 n))] [] [] (SB R) []:=by
 refine a7 func169 ?_;cases hV:rT g with
 | false =>
  obtain rfl:R=(.zero,[],2):=by rw [<-hR];simp [cQ,hV]
  have:=dq g;refine ao ?_
  (refine dP (qf []) ?_;exact af)
 | true =>
  obtain ⟨h1,h2⟩:=eZ hV;have hat:=Cz hV;by_cases hf:n≠0/\bb n 0 g.saves<0
  case pos =>
   obtain ⟨hn0,hf⟩:=hf;obtain rfl:R=(.zero,[],10):=by rw [<-hR];simp [cQ,hV,hn0,hf]
   have:=dq g;have:=lW g.saves n;refine ao ?_
   (refine dP (qf []) ?_;exact af)
  obtain ⟨at_,sv,hX,ha1,ha2,hs1,hs2,hcase⟩:∃(at_:Int) (sv:Nat),cN g n=⟨g.entries.take at_.toNat,g.saves.take sv⟩/\0<=at_/\at_<=g.entries.length/\0<=sv/\sv<=g.saves.length/\((n=0/\at_=0/\sv=0)\/(n≠0/\∃i,∃hi:i<g.saves.length,bb n 0 g.saves=(i:Int)/\g.saves[i].at_=at_/\sv=i+1)):=by
   by_cases hn:n=0
   ·exact ⟨0,0,by simp [cN,hn],by omega,by omega,by omega,by omega,.inl ⟨hn,rfl,rfl⟩⟩
   ·obtain ⟨i,hi,he,_⟩:=jO (n:=n) (l:=g.saves) (k:=0) (by by_cases h:bb n 0 g.saves<0;exact absurd ⟨hn,h⟩ hf;omega);have he2:bb n 0 g.saves=(i:Int):=by rw [he];simp
    have:=hat _ (List.getElem_mem hi);exact ⟨g.saves[i].at_,i+1,by simp [cN,hn,he2,hi,List.getD_eq_getElem?_getD],this.1,this.2,by omega,by omega,.inr ⟨hn,i,hi,he2,rfl,rfl⟩⟩
  have hl1:(g.entries.take at_.toNat).length=at_.toNat:=by simp;omega
  obtain ⟨N,hN⟩:=qGe (cg (g.entries.drop at_.toNat));have hNl:N.length<=72:=by
   rw [<-hN];have:=gG (g.entries.drop at_.toNat) [];simp at this;unfold cg;omega
  obtain rfl:R=(⟨g.entries.take at_.toNat,g.saves.take sv⟩,N.map fun m=>⟨m,aC (g.entries.take at_.toNat) m⟩,0):=by
   rw [<-hR];unfold cQ;rw [hX,hV,hl1,hN];rcases hcase with ⟨rfl,_⟩|⟨h0,i,hi,he,_⟩
   ·simp
   ·have hi0:¬((i:Int)<0):=by omega
    simp [h0,he,hi0]
  clear hR hf hX;rcases hcase with ⟨rfl,rfl,rfl⟩|⟨h0,i,hi,he,rfl,rfl⟩
  ·skip
   have:=dq g;have:=yH (g.entries.drop (Int.toNat 0)) (by simp;omega);refine ao ?_;refine cj 11 1000 44 c6 rfl rfl rfl ?_;obtain ⟨X,hXg⟩:∃X:Lg,X=⟨g.entries.take (Int.toNat 0),g.saves.take 0⟩:=⟨_,rfl⟩;refine ab (fun x:Nat×List Tm=>x.1<=N.length/\x.2.length=x.1/\x.2++((N.drop x.1).map fun m=>(⟨m,aC (g.entries.take (Int.toNat 0)) m⟩:Tm))=N.map fun m=>⟨m,aC (g.entries.take (Int.toNat 0)) m⟩) (fun x=>bP [4,10,1000,1001,1002] [(4,.c (.ptr 4 0)),(10,.c (.ptr 10 0)),(11,.c (.own 1000)),(12,.c (.sl xF N)),(13,.i x.1)] [(4,.box 80 [.sc (.slice none 0 0),.sc (.slice none 0 0)]),(10,.box 80 [.sl ke (g.entries.take (Int.toNat 0)),.sl lS (g.saves.take 0)]),(1000,.arr 44 c6 x.2)]) (fun x=>N.length-x.1) (0,[]) ⟨Nat.zero_le _,rfl,rfl⟩ (by rw [<-hN];exact aT) ?_;rintro ⟨k,acc⟩ ⟨hk,hal,hs⟩;dsimp only at *
   by_cases hlt:k<N.length
   ·rw [qDc hlt,List.map_cons] at hs;repeat' (first|refine av ?_ ?_|(refine aa 8 rfl ?_;refine be (ae rfl rfl (aH rfl rfl) (aN [⟨N[k],aC (g.entries.take (Int.toNat 0)) N[k]⟩] rfl rfl rfl rfl) rfl aQ aQ) rfl rfl rfl ?_)|refine aa 9 rfl (cB [] (j5 (g.entries.take (Int.toNat 0)) N[k]) ?_)|refine aq ?_|exact aw|refine ap fun hb=>?_)
    refine ⟨(k+1,acc++[⟨N[k],aC (g.entries.take (Int.toNat 0)) N[k]⟩]),⟨by dsimp only;omega,by simp;omega,by dsimp only;rw [<-hs];simp⟩,by dsimp only;omega,?_⟩;exact bo (qf [(1000,73)])
   ·have e:acc=N.map fun m=>⟨m,aC (g.entries.take (Int.toNat 0)) m⟩:=by rw [<-hs,qDn (by omega)];simp
    rw [<-e];refine ao ?_
    (refine dP (qf []) ?_;exact af)
  ·skip
   have:=dq g;have:=OR g.saves n he;have:=yH (g.entries.drop g.saves[i].at_.toNat) (by simp;omega);refine ao ?_;refine cj 11 1000 44 c6 rfl rfl rfl ?_;obtain ⟨X,hXg⟩:∃X:Lg,X=⟨g.entries.take g.saves[i].at_.toNat,g.saves.take (i+1)⟩:=⟨_,rfl⟩;refine ab (fun x:Nat×List Tm=>x.1<=N.length/\x.2.length=x.1/\x.2++((N.drop x.1).map fun m=>(⟨m,aC (g.entries.take g.saves[i].at_.toNat) m⟩:Tm))=N.map fun m=>⟨m,aC (g.entries.take g.saves[i].at_.toNat) m⟩) (fun x=>bP [4,10,1000,1001,1002] [(4,.c (.ptr 4 0)),(10,.c (.ptr 10 0)),(11,.c (.own 1000)),(12,.c (.sl xF N)),(13,.i x.1)] [(4,.box 80 [.sc (.slice none 0 0),.sc (.slice none 0 0)]),(10,.box 80 [.sl ke (g.entries.take g.saves[i].at_.toNat),.sl lS (g.saves.take (i+1))]),(1000,.arr 44 c6 x.2)]) (fun x=>N.length-x.1) (0,[]) ⟨Nat.zero_le _,rfl,rfl⟩ (by rw [<-hN];exact aT) ?_;rintro ⟨k,acc⟩ ⟨hk,hal,hs⟩;dsimp only at *
   by_cases hlt:k<N.length
   ·rw [qDc hlt,List.map_cons] at hs;repeat' (first|refine av ?_ ?_|(refine aa 8 rfl ?_;refine be (ae rfl rfl (aH rfl rfl) (aN [⟨N[k],aC (g.entries.take g.saves[i].at_.toNat) N[k]⟩] rfl rfl rfl rfl) rfl aQ aQ) rfl rfl rfl ?_)|refine aa 9 rfl (cB [] (j5 (g.entries.take g.saves[i].at_.toNat) N[k]) ?_)|refine aq ?_|exact aw|refine ap fun hb=>?_)
    refine ⟨(k+1,acc++[⟨N[k],aC (g.entries.take g.saves[i].at_.toNat) N[k]⟩]),⟨by dsimp only;omega,by simp;omega,by dsimp only;rw [<-hs];simp⟩,by dsimp only;omega,?_⟩;exact bo (qf [(1000,73)])
   ·have e:acc=N.map fun m=>⟨m,aC (g.entries.take g.saves[i].at_.toNat) m⟩:=by rw [<-hs,qDn (by omega)];simp
    rw [<-e];refine ao ?_
    (refine dP (qf []) ?_;exact af)
end Go.Proofs.YthpgjkjgkhjjlaaGreatDoor
namespace Go.Proofs
open Go.Shelf
def Tryz.lays106_ren:Go.Shelf.Ren:=⟨fun|106=>249|213=>302|265=>339|n=>n,fun|9=>9|3=>3|n=>n,fun|n=>n⟩
theorem Tryz.lays106:Go.Proofs.Lays.n106 Tryz.prog Tryz.lays106_ren:={
 mixed:=by kernel_rfl
 f106:=Tryz.func249.trans (congrArg some (by kernel_rfl))
 f213:=Tryz.func302.trans (congrArg some (by kernel_rfl))
 f265:=Tryz.func339.trans (congrArg some (by kernel_rfl))
 t3:=Tryz.underlying3
 a3:=Tryz.isAgg3
 z3:=Tryz.sizeOf3
 v3:=Tryz.zeroValue3
 t9:=Tryz.underlying9
 a9:=Tryz.isAgg9
 z9:=Tryz.sizeOf9
 v9:=Tryz.zeroValue9 }
open Go.RowKit in
theorem Tryz.strings_Compare (a b:ByteArray) (w:World) :
  Calls Tryz.prog 249 #[.string a,.string b] w fun e w'=>e = .returned (.int .i64 (Lib.compareBytes a.data.toList b.data.toList))/\w'=w:=Any.strings_Compare Tryz.lays106 a b w
end Go.Proofs
namespace Go.Proofs
open Go.Shelf
def Tryz.sortAtoms_ren:Go.Shelf.Ren:=⟨fun|6=>189|15=>248|14=>247|28=>300|29=>301|20=>292|21=>293|22=>294|23=>295|24=>296|25=>297|26=>298|27=>299|46=>334|47=>335|48=>336|49=>337|50=>338|57=>349|n=>n,fun|22=>88|24=>44|25=>221|3=>3|39=>164|0=>0|53=>284|55=>286|4=>4|46=>278|45=>277|50=>260|5=>5|9=>9|66=>309|70=>272|76=>319|77=>210|n=>n,fun|n=>n⟩
theorem Tryz.sortAtoms:Go.Proofs.SlLaysF0.n6 Tryz.prog Tryz.sortAtoms_ren:={
 mixed:=by kernel_rfl
 f6:=⟨Tryz.f189.name,by decide,Tryz.func189.trans (congrArg some (by kernel_rfl))⟩
 f14:=⟨Tryz.f247.name,by decide,Tryz.func247.trans (congrArg some (by kernel_rfl))⟩
 f15:=Tryz.func248.trans (congrArg some (by kernel_rfl))
 f20:=⟨Tryz.f292.name,by decide,Tryz.func292.trans (congrArg some (by kernel_rfl))⟩
 f21:=⟨Tryz.f293.name,by decide,Tryz.func293.trans (congrArg some (by kernel_rfl))⟩
 f22:=⟨Tryz.f294.name,by decide,Tryz.func294.trans (congrArg some (by kernel_rfl))⟩
 f23:=⟨Tryz.f295.name,by decide,Tryz.func295.trans (congrArg some (by kernel_rfl))⟩
 f24:=⟨Tryz.f296.name,by decide,Tryz.func296.trans (congrArg some (by kernel_rfl))⟩
 f25:=⟨Tryz.f297.name,by decide,Tryz.func297.trans (congrArg some (by kernel_rfl))⟩
 f26:=⟨Tryz.f298.name,by decide,Tryz.func298.trans (congrArg some (by kernel_rfl))⟩
 f27:=⟨Tryz.f299.name,by decide,Tryz.func299.trans (congrArg some (by kernel_rfl))⟩
 f28:=Tryz.func300.trans (congrArg some (by kernel_rfl))
 f29:=Tryz.func301.trans (congrArg some (by kernel_rfl))
 f46:=⟨Tryz.f334.name,by decide,Tryz.func334.trans (congrArg some (by kernel_rfl))⟩
 f47:=Tryz.func335.trans (congrArg some (by kernel_rfl))
 f48:=Tryz.func336.trans (congrArg some (by kernel_rfl))
 f49:=⟨Tryz.f337.name,by decide,Tryz.func337.trans (congrArg some (by kernel_rfl))⟩
 f50:=⟨Tryz.f338.name,by decide,Tryz.func338.trans (congrArg some (by kernel_rfl))⟩
 f57:=⟨Tryz.f349.name,by decide,Tryz.func349.trans (congrArg some (by kernel_rfl))⟩
 t0:=Tryz.underlying0
 a0:=Tryz.isAgg0
 z0:=Tryz.sizeOf0
 v0:=Tryz.zeroValue0
 t3:=Tryz.underlying3
 a3:=Tryz.isAgg3
 z3:=Tryz.sizeOf3
 v3:=Tryz.zeroValue3
 t4:=Tryz.underlying4
 a4:=Tryz.isAgg4
 z4:=Tryz.sizeOf4
 v4:=Tryz.zeroValue4
 t5:=Tryz.underlying5
 a5:=Tryz.isAgg5
 z5:=Tryz.sizeOf5
 v5:=Tryz.zeroValue5
 t9:=Tryz.underlying9
 a9:=Tryz.isAgg9
 z9:=Tryz.sizeOf9
 v9:=Tryz.zeroValue9
 t22:=Tryz.underlying88
 a22:=Tryz.isAgg88
 z22:=Tryz.sizeOf88
 v22:=Tryz.zeroValue88
 t25:=Tryz.underlying221
 a25:=Tryz.isAgg221
 z25:=Tryz.sizeOf221
 v25:=Tryz.zeroValue221
 t39:=Tryz.underlying164
 a39:=Tryz.isAgg164
 z39:=Tryz.sizeOf164
 v39:=Tryz.zeroValue164
 t45:=Tryz.underlying277
 a45:=Tryz.isAgg277
 z45:=Tryz.sizeOf277
 v45:=Tryz.zeroValue277
 t46:=Tryz.underlying278
 a46:=Tryz.isAgg278
 z46:=Tryz.sizeOf278
 v46:=Tryz.zeroValue278
 t50:=Tryz.underlying260
 a50:=Tryz.isAgg260
 z50:=Tryz.sizeOf260
 v50:=Tryz.zeroValue260
 t53:=Tryz.underlying284
 a53:=Tryz.isAgg284
 z53:=Tryz.sizeOf284
 v53:=Tryz.zeroValue284
 t55:=Tryz.underlying286
 a55:=Tryz.isAgg286
 z55:=Tryz.sizeOf286
 v55:=Tryz.zeroValue286
 t66:=Tryz.underlying309
 a66:=Tryz.isAgg309
 z66:=Tryz.sizeOf309
 v66:=Tryz.zeroValue309
 t70:=Tryz.underlying272
 a70:=Tryz.isAgg272
 z70:=Tryz.sizeOf272
 v70:=Tryz.zeroValue272
 t76:=Tryz.underlying319
 a76:=Tryz.isAgg319
 z76:=Tryz.sizeOf319
 v76:=Tryz.zeroValue319
 t77:=Tryz.underlying210
 a77:=Tryz.isAgg210
 z77:=Tryz.sizeOf210
 v77:=Tryz.zeroValue210 }
end Go.Proofs
namespace Go.Proofs.YthpgjkjgkhjjlaaGreatDoor
open Go.RowKit Go.Proofs.Tryz
section
open Go.Shelf Go.Sort
def lq (a b:ByteArray):Int:=Lib.compareBytes a.data.toList b.data.toList
theorem IC:∀{l m:List UInt8},(Lib.compareBytes l m<0↔l<m)/\(Lib.compareBytes l m=0↔l=m)
 | [],[]=>by simp [Lib.compareBytes]
 | [],_ :: _=>by simp [Lib.compareBytes]
 | _ :: _,[]=>by simp [Lib.compareBytes]
 | a :: l,b :: m=>by
  obtain ⟨h1,h2⟩:=IC (l:=l) (m:=m);rw [List.cons_lt_cons_iff];unfold Lib.compareBytes;by_cases ha:a<b
  ·simp [ha];intro e;subst e;exact absurd ha (UInt8.lt_irrefl _)
  ·by_cases hb:b<a
   ·simp [ha,hb];constructor <;> (intro e;subst e;exact absurd hb (UInt8.lt_irrefl _))
   ·have e:a=b:=UInt8.le_antisymm (UInt8.not_lt.1 hb) (UInt8.not_lt.1 ha);subst e;simp [h1,h2]
theorem OW {a b:ByteArray}:lq a b<0↔jN a b=true:=by
 unfold lq jN;rw [bytesLess_eq,decide_eq_true_eq,IC.1,ByteArray.toList_eq,ByteArray.toList_eq]
theorem Bu (a b:ByteArray):ltOf lq a b=jN a b:=by
 unfold ltOf;rw [Bool.eq_iff_iff,decide_eq_true_iff,OW]
theorem jE:Go.Sort.SWO (ltOf lq) where
 irrefl x:=by rw [Bu];exact fD x
 trans x y z h1 h2:=by rw [Bu] at *;exact ij h1 h2
 ntrans x y z h1 h2:=by
  rw [Bu] at *
  cases h:jN x z with
  | false=>rfl
  | true =>
   exfalso;by_cases e:x=y
   ·subst e;rw [h] at h2;cases h2
   ·have h3:=pO h1 e;rw [ij h3 h] at h2;cases h2
theorem GG (x y:ByteArray) (h1:ltOf lq x y=false) (h2:ltOf lq y x=false):x=y:=by
 rw [Bu] at *
 by_cases e:x=y
 ·exact e
 ·rw [pO h1 e] at h2;cases h2
def PS (h:ByteArray->Am) (n:ByteArray):List Value:=[.string n,.int .i64 (h n).mode,.int .i64 (h n).units]
def rU (h:ByteArray->Am) (n:ByteArray):Tm:=⟨n,h n⟩
theorem J7 (x y:Tm) (w:World):Calls prog 190 #[.agg x.cells.toArray,.agg y.cells.toArray] w fun e w'=>e = .returned (.int .i64 (lq x.name y.name))/\∃os,w'=Go.Sort.grow w os:=by
 have HC:=Lib.hid (fun w=>strings_Compare x.name y.name w);obtain ⟨n,⟨m,u⟩⟩:=x;obtain ⟨n',⟨m',u'⟩⟩:=y;unfold Tm.cells;dsimp only
 go_enter func190,ntmps190
 go_wp2_with fail
 refine (HC.out _).mono ?_;rintro e w1 ⟨rfl,rfl⟩;go_wp2
 go_ret
 exact ⟨rfl,_,by rw [Go.Sort.alloc_eq_grow,Go.Sort.alloc_eq_grow,Go.Sort.grow_grow]⟩
def fJ (N:List ByteArray):List ByteArray:=N.mergeSort fun x y=>!(ltOf lq) y x
theorem J8 (h:ByteArray->Am) (N:List ByteArray) (hl:N.length<=100000) (w:World) {v:Value} {F:Nat->Prop} {xs:List Value} (h1:w.ownsRow 0 44 c6.n v (N.map (rU h)).length xs) (h2:Reps c6 w F (N.map (rU h)) xs) :
  Calls prog 189 #[v,.func (.func 190) #[] #[]] w fun e w'=>e = .returned (.tuple #[])/\(Frx w w' fun b=>kb v=some b)/\∃ys,w'.ownsRow 0 44 c6.n v ((fJ N).map (rU h)).length ys/\∀F',Reps c6 w' F' ((fJ N).map (rU h)) ys:=by
 have hxs:xs=(N.map (PS h)).flatten:=by
  rw [Reps.plain h2,List.map_map];rfl
 have hl':(N.map (rU h)).length=N.length:=by simp
 have one:∀x,∀u∈PS h x,u.oneCell'=true:=by intro x u hu;simp [PS] at hu;rcases hu with rfl|rfl|rfl <;> rfl
 have hrep:∀(w:World) (F:Nat->Prop) (M:List ByteArray),Reps c6 w F (M.map (rU h)) (M.map (PS h)).flatten:=fun w F M=>by
  have this:Reps c6 w F (M.map (rU h)) ((M.map (rU h)).map Tm.cells).flatten:=Reps.plain_mk _;rw [List.map_map] at this;exact this
 have hown:OwnRows (El.plain 3 (by decide) (PS h) (fun _=>rfl) one) 44 w 0 v N:=⟨Nat.zero_le _,xs,by rw [<-hl'];exact h1,by rw [hxs];exact Reps.plain_mk N⟩;rcases Nat.eq_zero_or_pos N.length with h0|h0
 ·obtain ⟨A,cap,rfl,_,_,_,_⟩:=hown.form2;obtain rfl:=List.eq_nil_of_length_eq_zero h0;refine (AnyF.slices_SortFunc_none { sortAtoms with } A cap _ w).mono ?_;rintro e w' ⟨rfl,rfl⟩;exact ⟨rfl,Frx.refl _ _,xs,by simpa [fJ] using h1,fun F'=>by rw [hxs];simpa [fJ] using hrep w' F' []⟩
 ·obtain ⟨g,cap,rfl,hg,hg2,_,_,_,_⟩:=hown.addr h0;have eg:∀args w,(callFunc 190 args).run prog w = .ok (.enter 190 args) w:=enters_of func190 (by kernel_rfl) rfl;have hcmp:CmpLays prog 190 #[] (PS h) 3 lq g 0 N.toArray.size w:=fun _ _ _ _ x y=>(J7 (rU h x) (rU h y) _).mono fun e w' ⟨he,os,hw⟩=>⟨he,0,os,hw⟩;have:=AnyQ.slices_SortFunc_total sortAtoms 3 isAgg44 sizeOf44 (PS h) (fun _=>rfl) one lq jE 190 #[] g 0 cap N.toArray w eg hcmp hown.holdsK hg2 (by simp;omega) GG;refine Calls.mono this ?_;rintro e w' ⟨rfl,n,os,rfl⟩;have hs:=hown.sorted hg2 (l':=fJ N) (by simp [fJ]) n os;have hb:∀b,b<w.heap.size->b≠g->(sortWorldK (PS h) 3 w g 0 n (fJ N).toArray os).heap[b]? = w.heap[b]?:=fun b hb hn=>by
   show (w.heap.modify g _++os)[b]? = _;rw [Array.getElem?_append_left (by simpa using hb),Array.getElem?_modify,if_neg (fun e=>hn e.symm)]
  refine ⟨rfl,⟨rfl,rfl,rfl,by simp [sortWorldK,grow,putRowK,putRow,mapBlock],fun b hlt hn=>hb b hlt fun e=>hn (by rw [e];rfl)⟩,?_⟩;obtain ⟨_,ys,h3,h4⟩:=hs;refine ⟨ys,?_,fun F'=>?_⟩
  ·rw [List.length_map];have e9:(fJ N).length=N.length:=by simp [fJ]
   rw [e9] at h3 ⊢;exact h3
  ·rw [Reps.plain h4];exact hrep _ F' (fJ N)
theorem MM (h:ByteArray->Am) (N:List ByteArray) (hl:N.length<=100000):FSpec prog 189 [.one (.own 0),.one (.sc (.func (.func 190) #[] #[]))] [(0,.arr 44 c6 (N.map (rU h)))] [] (.tup []) [(0,some (.arr 44 c6 ((fJ N).map (rU h))))]:=by
 refine ⟨fun b W=>by kernel_rfl,fun q c st ρ a w vs hr hinj hargs hhin hus=>?_⟩
 match vs,hargs with
 | [v,f],⟨h0,h1,_⟩ =>
  obtain rfl:v=ρ (q 0):=h0;obtain rfl:f = .func (.func 190) #[] #[]:=h1;have hk:=hhin 0 _ rfl;obtain ⟨xs,hx1,hx2⟩:=hr.hp (q 0) _ hk;refine (J8 h N hl w hx1 hx2).mono ?_;rintro e w' ⟨rfl,hf,ys,hy1,hy2⟩;refine ⟨_,rfl,fun dst hdst=>⟨ρ,?_⟩⟩;have hkk:∀k':Nat,aL [(q 0,some (Box.arr 44 c6 ((fJ N).map (rU h))))] k'=true->k'=q 0:=fun k' h=>by
   simp only [aL,Bool.or_false] at h;exact (qNb h).symm
  refine hr.app (e:=⟨.tup [],[(q 0,some (.arr 44 c6 ((fJ N).map (rU h))))],[]⟩) hdst (fun k h=>by simp [aX] at h) (fun _ _=>rfl) (fun k' h=>.inr (by rw [hkk k' h];exact hr.nfh hk)) ⟨hf.os,hf.tape,hf.output,hf.size,fun b hlt hn=>hf.keep b hlt fun e=>hn ⟨q 0,_,by simp [aL],hk,e⟩⟩ ?_ ?_ (fun k h=>by simp [TV.has] at h) ?_ ?_ ⟨[],rfl,trivial⟩
  ·intro k' bx g' h _ hg';rw [hkk k' h] at hg';exact ⟨Nat.lt_of_lt_of_le (hr.ltb hk hg') hf.size,.inr ⟨q 0,_,by simp [aL],hk,hg'⟩⟩
  ·intro k1 k2 _ _ _ h h' _ _ _ _;rw [hkk k1 h,hkk k2 h']
  ·intro k1 k2 bx h hp hx;rw [hkk k2 h] at hp;simp only [hput,Nat.beq_refl,qCt,Option.some.injEq] at hp;subst hp;simp [Box.has] at hx
  ·intro k2 bx h hp;rw [hkk k2 h] at hp ⊢;simp only [hput,Nat.beq_refl,qCt,Option.some.injEq] at hp;subst hp;exact ⟨ys,hy1,hy2 _⟩
end
theorem Kq {N:List ByteArray} (hnd:N.Nodup):oU (fJ N):=by
 have hp:=List.mergeSort_perm N fun x y=>!(ltOf lq) y x;have hs:(fJ N).Pairwise fun a b=>(!(ltOf lq) b a)=true:=List.pairwise_mergeSort (fun a b c h1 h2=>by
  simp only [Bool.not_eq_true'] at *
  exact jE.ntrans c b a h2 h1) (fun a b=>by
  cases h1:ltOf lq b a with
  | false=>rfl
  | true =>
   cases h2:ltOf lq a b with
   | false=>rfl
   | true=>have:=jE.trans _ _ _ h1 h2;rw [jE.irrefl] at this;cases this) N
 have hn2:(fJ N).Nodup:=(hp.nodup_iff).2 hnd;refine (hs.and hn2).imp fun {a b} ⟨h1,h2⟩=>?_;rw [Bu,Bool.not_eq_true'] at h1;exact pO h1 (fun e=>h2 e.symm)
theorem Kr {N:List ByteArray} {x:ByteArray}:x∈fJ N↔x∈N:=(List.mergeSort_perm N fun x y=>!(ltOf lq) y x).mem_iff
theorem jU {β:Type} {z:β} {x:ByteArray×β}:∀{m:List (ByteArray×β)},(m.map (·.1)).Nodup->x∈m->pk z x.1 m=x.2
 | y :: m,hn,hx=>by
  obtain ⟨h1,h2⟩:=List.nodup_cons.1 hn;show (bif bC y.1 x.1 then y.2 else pk z x.1 m)=x.2;rcases List.mem_cons.1 hx with rfl|hx
  ·rw [bj.2 rfl];rfl
  ·rw [cd.2 (fun e=>h1 (by show y.1∈m.map (·.1);rw [e];exact List.mem_map.2 ⟨x,hx,rfl⟩))];exact jU h2 hx
def IW (m:List (ByteArray×Am)) (seen:List Nat):List ByteArray:=((seen.filterMap fun j=>m[j]?).filter fun x=>!aR x.2).map (·.1)
theorem Pg {m:List (ByteArray×Am)} {seen:List Nat} {j:Nat} {x:ByteArray×Am} (h:m[j]? = some x):IW m (seen++[j])=IW m seen++bif aR x.2 then [] else [x.1]:=by
 unfold IW;rw [List.filterMap_append,List.filter_append,List.map_append];congr 1
 cases hz:aR x.2 <;> simp [h,hz]
theorem M1 (m:List (ByteArray×Am)) (seen:List Nat):(IW m seen).length<=seen.length:=by
 unfold IW;rw [List.length_map];exact Nat.le_trans (List.length_filter_le _ _) (List.length_filterMap_le _ _)
theorem Rn {l:List En} {m:List (ByteArray×Am)} (hm:fT l=m) {seen:List Nat} (hn:seen.Nodup) (hs:∀j∈seen,j<m.length) (ha:∀j,j<m.length->j∈seen):fJ (IW m seen)=(cg l).filter fun n=>!aR (aC l n):=by
 have hk:(m.map (·.1)).Nodup:=by rw [<-hm];exact jf l [] (by simp)
 have hsub:(IW m seen).Sublist (jT m seen):=List.Sublist.map _ List.filter_sublist;have hnd:(IW m seen).Nodup:=hsub.nodup ((EY hn hs ha).nodup_iff.2 hk);refine y5 (Kq hnd) ((gx l).filter _) fun x=>?_;rw [Kr,List.mem_filter,dY];unfold IW;rw [List.mem_map];constructor
 ·rintro ⟨y,hy,rfl⟩;obtain ⟨hy1,hy2⟩:=List.mem_filter.1 hy;obtain ⟨j,_,hj⟩:=List.mem_filterMap.1 hy1;have hym:y∈m:=List.mem_of_getElem? hj;have hg:sK y.1 m=y.2:=jU hk hym;rw [<-hm,jq] at hg;refine ⟨?_,by rw [hg];exact hy2⟩;have h3:y.1∈(fu [] l).map (·.1):=List.mem_map.2 ⟨y,by show y∈fT l;rw [hm];exact hym,rfl⟩;rw [mh] at h3;simpa using h3
 ·rintro ⟨h1,h2⟩;have h3:x∈(fu [] l).map (·.1):=(mh l []).2 (.inr h1);obtain ⟨y,hy,rfl⟩:=List.mem_map.1 h3;have hym:y∈m:=by rw [<-hm];exact hy
  obtain ⟨j,hj,e⟩:=List.getElem_of_mem hym;have hg:sK y.1 m=y.2:=jU hk hym;rw [<-hm,jq] at hg;refine ⟨y,List.mem_filter.2 ⟨List.mem_filterMap.2 ⟨j,ha j hj,by rw [qGg hj,e]⟩,?_⟩,rfl⟩;rw [<-hg];exact h2
theorem M2 (g:Lg):dx g=((cg g.entries).filter fun n=>!aR (aC g.entries n)).map (rU (aC g.entries)):=by
 unfold dx;rw [List.filter_map];rfl
theorem M3 (g:Lg) (hl:g.entries.length<=72) {R:List Tm} (hR:dx g=R):FSpec prog 122 [g.a] [] [] (.c (.sl c6 R)) []:=by
 refine a7 func122 ?_;obtain ⟨H,hH⟩:∃H:ByteArray->Am,aC g.entries=H:=⟨_,rfl⟩;have k2:=Iz g.entries;obtain ⟨m,hm⟩:=qGe (fT g.entries);have hfin:∀seen:List Nat,seen.Nodup->(∀j∈seen,j<m.length)->(∀j,j<m.length->j∈seen)->(fJ (IW m seen)).map (rU H)=R:=fun seen q1 q2 q3=>by
  rw [<-hR,M2,Rn hm q1 q2 q3,hH]
 have hgm:∀(j:Nat) (x:ByteArray×Am),m[j]? = some x->x.2=H x.1:=fun j x hx=>by
  have hk:(m.map (·.1)).Nodup:=by rw [<-hm];exact jf g.entries [] (by simp)
  have hg:sK x.1 m=x.2:=jU hk (List.mem_of_getElem? hx);rw [<-hg,<-hm,jq,hH]
 have hm9:m.length<=100000:=by
  have q1:=qo g.entries;have q2:=gG g.entries [];rw [hm] at q1;unfold cg at q1;simp at q2;omega
 rw [hm] at k2;clear hR hm hH;repeat' (first|refine av ?_ ?_|refine aa 9 rfl (cH (qf [(0,1004)]) k2 ?_)|(refine aa 25 rfl ?_;refine sx (Bt y4 rfl rfl rfl rfl) ?_)|refine aq ?_|exact aw|refine ap fun hb=>?_)
 refine cj 3 1000 44 c6 rfl rfl rfl ?_;refine ab (fun seen:List Nat=>seen.Nodup/\∀j∈seen,j<m.length) (fun seen=>bP [9,1000,1004] [(3,.c (.own 1000)),(9,.c (.own 9))] [(9,.it 1004 (CH m).length seen),(1000,.arr 44 c6 ((IW m seen).map (rU H))),(1004,.mp (CH m))]) (fun seen=>m.length-seen.length) [] ⟨by simp,by simp⟩ aT ?_;rintro seen ⟨hn,hs⟩;refine sj (IB (L:=CH m) (n:=(CH m).length) rfl rfl rfl rfl rfl rfl rfl rfl rfl rfl rfl rfl (fun j hj hjs=>?_) (fun hall=>?_))
 ·have hj:j<m.length:=by simpa [mt] using hj
  obtain ⟨x,hx⟩:∃x,m[j]? = some x:=⟨_,qGg hj⟩;have hT:=Pg (seen:=seen) hx;have hxe:=hgm j x hx;obtain ⟨n,a⟩:=x;obtain rfl:a=H n:=hxe;have hx2:(CH m)[j]? = some (.string n,Q3 (H n)):=by simp [mt,hx]
  dsimp only at hT;have hls:=lr hn hs;have hn2:(seen++[j]).Nodup:=List.nodup_append.2 ⟨hn,by simp,fun b hb c hc=>by rw [List.mem_singleton] at hc;subst hc;exact fun e=>hjs (e▸hb)⟩;have hs2:∀k∈seen++[j],k<m.length:=fun k hk=>by
   rcases List.mem_append.1 hk with hk|hk
   ·exact hs k hk
   ·rw [List.mem_singleton] at hk;subst hk;exact hj
  have hls2:=lr hn2 hs2;have hcl:((IW m seen).map (rU H)).length<=100000:=by
   have:=M1 m seen;rw [List.length_map];omega
  generalize hC:(IW m seen).map (rU H)=C at *
  show AW _ _ _ _ _ _;by_cases hz:H n=⟨0,0⟩
  ·rw [hz,show aR ⟨0,0⟩=true from rfl,qCt,List.append_nil] at hT;repeat' (first|refine av ?_ ?_|(refine aa 27 rfl ?_;refine sx (sN (y:=(H n).a) rfl rfl rfl rfl rfl hx2 (fun _ _ _=>⟨_,rfl,rfl,rfl,trivial⟩) (fun _=>rfl)) ?_)|refine aq ?_|exact aw|(refine ap fun hb=>?_;first|(exact absurd hz hb)|skip))
   refine ⟨seen++[j],⟨hn2,hs2⟩,by simp at hls2 ⊢;omega,?_⟩;rw [hT,hC];exact aT
  ·rw [bN.2 hz,qCf] at hT;repeat' (first|refine av ?_ ?_|(refine aa 8 rfl ?_;refine be (ae rfl rfl (aH rfl rfl) (aN [rU H n] rfl rfl rfl rfl) rfl aQ aQ) rfl rfl rfl ?_)|(refine aa 27 rfl ?_;refine sx (sN (y:=(H n).a) rfl rfl rfl rfl rfl hx2 (fun _ _ _=>⟨_,rfl,rfl,rfl,trivial⟩) (fun _=>rfl)) ?_)|refine aq ?_|exact aw|(refine ap fun hb=>?_;first|(exact absurd hb hz)|skip))
   refine ⟨seen++[j],⟨hn2,hs2⟩,by simp at hls2 ⊢;omega,?_⟩;rw [hT,List.map_append,hC];exact bo (qf [(1000,23)])
 ·have hM:=hfin seen hn hs fun j hj=>hall j (by simpa [mt] using hj);have kS:=MM H (IW m seen) (by
   have:=M1 m seen;have:=lr hn hs;omega)
  rw [hM] at kS;show AW _ _ _ _ _ _;repeat' (first|refine av ?_ ?_|refine aa 9 rfl (cH (qf [(0,1000)]) kS ?_)|refine aq ?_|exact aw|refine ap fun hb=>?_|exact bg|fail)
end Go.Proofs.YthpgjkjgkhjjlaaGreatDoor
