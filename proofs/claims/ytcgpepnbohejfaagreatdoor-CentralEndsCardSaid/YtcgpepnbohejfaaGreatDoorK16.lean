/- Part 16 of 56 of the proof of both_hold (no condition). -/
import Derived.Test.YtcgpepnbohejfaaGreatDoorK14
import Derived.RangeFuncNested
import Derived.RangeFuncBox
import Derived.RangeFuncLeaves
set_option linter.unusedVariables false
set_option linter.unusedSimpArgs false
set_option maxRecDepth 100000
set_option maxHeartbeats 64000000
namespace Go.Proofs.YtcgpepnbohejfaaGreatDoor
open Go.RowKit Go.Proofs.Tryz
instance:ST prog zE 59 42 16:=⟨ElTB.mk' underlying59 (.agg #[.int .i64 0,.int .i64 0]) 2 16 (by kernel_rfl) rfl rfl⟩
theorem B8 (l:List Ho) (hl:l.length≤100000):FSpec prog 11 [.one (.sl jR l)] [] [] (.c (.sl zE (gp l))) []:=by
 refine aT func11 ?_;repeat' (first|refine af ?_ ?_|refine ae ?_|exact ah|refine ab fun hb=>?_)
 refine cZ 3 1000 42 zE rfl rfl rfl ?_;refine ak (fun i=>i≤l.length) (fun i=>cq [1000] [(0,.c (.sl jR l)),(3,.c (.own 1000)),(4,.i i)] [(1000,.arr 42 zE (gp (l.take i)))]) (fun i=>l.length-i) 0 (Nat.zero_le _) a7 ?_;intro i hi;have hlen:(gp (l.take i)).length=i:=by simp [gp];omega
 by_cases hlt:i<l.length
 ·have e:gp (l.take (i+1))=gp (l.take i)++[l[i].am]:=by unfold gp;rw [List.take_succ_eq_append_getElem hlt,List.map_append];rfl
  repeat' (first|refine af ?_ ?_|(refine aa 8 rfl ?_;refine bh (ap rfl rfl (aH rfl rfl) (aL [l[i].am] rfl rfl rfl rfl) rfl aK aK) rfl rfl rfl ?_)|refine ae ?_|exact ah|refine ab fun hb=>?_)
  refine ⟨i+1,by omega,by omega,?_⟩;rw [e];exact bw (qf [(1000,18)])
 ·obtain rfl:i=l.length:=by omega
  rw [List.take_length];repeat' (first|refine af ?_ ?_|refine ae ?_|exact ah|refine ab fun hb=>?_|exact bB|fail)
def Wt.a (x:Wt):V0:=.ag [.sc (.int .i64 x.proc.site),.sc (.int .i64 x.proc.inc),.sc (.int .i64 x.proc.num),.sc (.int .i64 x.am.mode),.sc (.int .i64 x.am.units),.sc (.int .i64 x.prio),.sc (.int .i64 x.passed)]
theorem yP {all:List Wt}:∀{l:List Wt} {k:Nat},uX all k l=true→∀x∈l,rk x=true
 | [],_,_,_,hx=>absurd hx (by simp)
 | y :: l,k,h,x,hx=>by
  rw [mj] at h;simp only [Bool.and_eq_true] at h;rcases List.mem_cons.1 hx with rfl|hx
  ·exact h.1.1
  ·exact yP h.2 x hx
def pD (q:Qu):Wt:=(dm q).getD ⟨⟨0,0,0⟩,⟨0,0⟩,0,0⟩
def Gk (o:Option Am):Am:=o.getD ⟨0,0⟩
theorem jl (p:Pr):∀(l:List Wt) (k:Nat),(fZ p k l = -1∧fx l p=none)∨∃i,∃h:i<l.length,fZ p k l=((k+i:Nat):Int)∧fx l p=some l[i].am
 | [],_=>.inl ⟨rfl,rfl⟩
 | x :: l,k=>by
  rw [ew,cd];cases decide (x.proc=p) with
  | true=>exact .inr ⟨0,by simp,rfl,rfl⟩
  | false =>
   rcases jl p l (k+1) with ⟨h1,h2⟩|⟨i,h,h1,h2⟩
   ·exact .inl ⟨h1,h2⟩
   ·exact .inr ⟨i+1,by simpa using h,by rw [cond_false,h1];congr 1;omega,by simpa using h2⟩
theorem yQ (m:Int):FSpec prog 110 [iV m] [] [] (.b (bM m)) []:=by
 unfold bM;refine aT func110 ?_;repeat' (first|refine af ?_ ?_|refine ae ?_|exact ah|refine ab fun hb=>?_)
 all_goals (refine fm ?_;simp [*])
theorem lR (a b:Int):FSpec prog 99 [iV a,iV b] [] [] (.b (cS a b)) [] :=
 cP (fun b W=>by kernel_rfl) rfl fun w S ρ vs _ h=>by
  match vs,h with
  | [_,_],⟨rfl,rfl,_⟩=>exact (ox a b w).mono fun _ _=>jF
theorem og (r:Rs):FSpec prog 109 [r.a] [] [] (.b (aU r)) []:=by
 unfold aU;refine aT func109 ?_;repeat' (first|refine af ?_ ?_|refine ae ?_|exact ah|refine ab fun hb=>?_)
 all_goals (refine fm ?_;first|(simp [*];done)|(simp [*];omega)|(simp [*] <;> rfl))
theorem dy (r:Rs) (x:Am):FSpec prog 67 [r.a,x.a] [] [] (.b (aC r x)) []:=by
 unfold aC;refine aT func67 ?_;repeat' (first|refine af ?_ ?_|(refine aa 9 rfl ?_;first|(refine cB [] (og r) ?_)|(refine cB [] (yQ x.mode) ?_))|refine ae ?_|exact ah|refine ab fun hb=>?_)
 all_goals (refine fm ?_;simp [*] <;> rfl)
theorem fH (x:Am):FSpec prog 98 [x.a] [] [] (.b (aG x)) []:=by
 refine aT func98 ?_;repeat' (first|refine af ?_ ?_|refine ae ?_|exact ah|refine ab fun hb=>?_)
 exact fm rfl
theorem yR (r:Rs) (x:Am):FSpec prog 97 [r.a,x.a] [] [] (.b (aX r x)) []:=by
 unfold aX;refine aT func97 ?_;repeat' (first|refine af ?_ ?_|(refine aa 9 rfl ?_;first|(refine cB [] (og r) ?_)|(refine cB [] (fH x) ?_)|(refine cB [] (dy r x) ?_))|refine ae ?_|exact ah|refine ab fun hb=>?_)
 all_goals (refine fm ?_;simp [*])
theorem eL (r:Rs) (x y:Am):FSpec prog 60 [r.a,x.a,y.a] [] [] (.b (a8 r x y)) []:=by
 unfold a8;refine aT func60 ?_;repeat' (first|refine af ?_ ?_|(refine aa 9 rfl ?_;first|(refine cB [] (yR r x) ?_)|(refine cB [] (yR r y) ?_)|(refine cB [] (fH x) ?_)|(refine cB [] (fH y) ?_)|(refine cB [] (lR x.mode y.mode) ?_))|refine ae ?_|exact ah|refine ab fun hb=>?_)
 all_goals (refine fm ?_;simp [*])
theorem H5 (a b:Int):FSpec prog 202 [iV a,iV b] [] [] (.i (mA a b)) []:=by
 obtain ⟨v,hv⟩:∃v,mA a b=v:=⟨_,rfl⟩;rw [hv];refine aT func202 ?_;repeat' (first|refine af ?_ ?_|refine ae ?_|exact ah|refine ab fun hb=>?_)
 refine ak (fun x:Nat×Int=>x.1≤5∧x.2+x.1=6∧Gi a b x.1 x.2=v) (fun x=>cq [] [(0,.i a),(1,.i b),(5,.i x.2)] []) (fun x=>x.1) (5,1) ⟨by decide,rfl,hv⟩ a7 ?_;rintro ⟨n,m⟩ ⟨h5,hm,hs⟩;dsimp only at *
 cases n with
 | zero =>
  repeat' (first|refine af ?_ ?_|refine ae ?_|exact ah|refine ab fun hb=>?_)
  exact fm (congrArg _ hs)
 | succ n =>
  unfold Gi at hs;repeat' (first|refine af ?_ ?_|(refine aa 9 rfl ?_;first|(refine cB [] (lR m a) ?_)|(refine cB [] (lR m b) ?_))|refine ae ?_|exact ah|refine ab fun hb=>?_)
  ·refine fm (congrArg _ ?_);rw [←hs];simp [*]
  all_goals
   refine ⟨(n,m+1),⟨by dsimp only;omega,by dsimp only;omega,?_⟩,by dsimp only;omega,?_⟩
   ·rw [←hs];simp [*]
   ·exact a7
theorem Ey (r:Rs) (l:List Am):FSpec prog 224 [r.a,.one (.sl zE l)] [] [] (.b (f0 r l)) [] :=
 nv (fun b W=>by kernel_rfl) rfl fun w S ρ vs hp hS h=>by
  match vs,h with
  | [_,_],⟨h1,⟨A,c,rfl,hc,hR⟩,_⟩=>rw [Rs.open h1];exact (oA r A w.heap.size c l w hp.1 (Nat.le_trans hc.1 hc.2) (Nat.le_refl _) (hR.lo hS)).mono fun _ _=>jF
section
variable {P:Program} {s:Mst} {o:Oper} {α:Type} {E:El α} {l:List α} {e':TypeId}
theorem Ez {t e:TypeId} {k by_:Nat} {cp:Int} {y:Operand} [T:ST P E t e by_] (ho:o.op = .makeSlice t (.const (.int .i64 0)) y) (hdk:o.dst=some k) (hy:s.ev y = .i cp) (h0:0≤cp) (hc:cp≤1000000) (hb:by_≤1024:=by decide):LOp P o s [] ⟨.c (.own k),[(k,some (.arr e E []))],[k]⟩:=by
 intro c st ρ a w hr h1 h2 h3 h4;obtain ⟨n,rfl⟩:=Int.eq_ofNat_of_zero_le h0;have hv2:a.eval y = .int .i64 (n:Int):=by have:=hr.ev y;rwa [h1 y (by simp [ho,Op.operands]),hy] at this
 have hfk:st.f k=true:=h3 k (by simp [aD]);obtain ⟨i0,z,hi,hz0,hz1,hz2,hz3⟩:=T.T.info;have hby:i0.bytes*n≤281474976710656:=Nat.le_trans (Nat.mul_le_mul (show i0.bytes≤1024 by omega) (show n≤1000000 by omega)) (by decide);have hrun:=gA (P:=P) t e i0 z T.T.under hi hz0 .i64 .i64 0 n (Nat.zero_le _) hby (by omega) w;have hsz:(madeCells z.cells (n*i0.size)).size=n*E.n:=by rw [size_madeCells,hz1]
 have ho1:=World.ownsRow_made (e:=e) (size:=E.n) (base:=0) w (madeCells z.cells (n*i0.size)) n (Nat.zero_le _) (by simp only [maxLen];omega) hsz;have hkk:∀k':Nat,ax [(k,some (Box.arr e E ([]:List α)))] k'=true→k'=k:=fun k' h=>by
  simp only [ax,Bool.or_false] at h;exact (Nat.eq_of_beq_eq_true h).symm
 refine Oper.wp_value (v:=.slice (some ⟨w.heap.size,0,none⟩) 0 n) (w':=w.alloc (.cells (madeCells z.cells (n*i0.size)) e)) ?_ ⟨upd ρ k (.slice (some ⟨w.heap.size,0,none⟩) 0 n),hr.app (e:=⟨.c (.own k),[(k,some (.arr e E []))],[k]⟩) h4 (fun k' h=>?_) (fun k' h=>?_) (fun k' h=>.inl ?_) (Frx.alloc _ _ _) (fun k' bx g' h _ hg'=>?_) (fun k1 k2 _ _ _ h h' _ _ _ _=>?_) (fun k' h=>.inl ?_) (fun k1 k2 bx h hp hx=>?_) (fun k2 bx h hp=>?_) ?_⟩
 ·unfold execOp;rw [ho];have hv1:a.eval (.const (.int .i64 0)) = .int .i64 0:=rfl;simp only [hv1,hv2,Sem.run_bind,show (Instr.makeSlice t (.int .i64 0) (.int .i64 (n:Int))).run P w=_ from hrun,Result.andThen_ok,Sem.run_pure]
 ·have:k'=k:=by simp [aD] at h;exact h.symm
  subst this;exact ⟨hfk,by simp [ax]⟩
 ·exact de (by simpa [aD] using h)
 ·rw [hkk k' h];simp [aD]
 ·rw [hkk k' h,aI] at hg';injection hg' with hg';subst hg';exact ⟨by simp,.inl (Nat.le_refl _)⟩
 ·rw [hkk k1 h,hkk k2 h']
 ·have:k'=k:=by simp [TV.has,V0.has,D.has] at h;exact h.symm
  subst this;simp [aD]
 ·rw [hkk k2 h] at hp;simp only [hput,Nat.beq_refl,cond_true,Option.some.injEq] at hp;subst hp;simp [Box.has] at hx
 ·rw [hkk k2 h] at hp ⊢;simp only [hput,Nat.beq_refl,cond_true,Option.some.injEq] at hp;subst hp;rw [aI];exact ⟨[],ho1,rfl⟩
 ·exact (aI _ _ _).symm
theorem xJ {t e:TypeId} {x y:Operand} {row:Bool} {n k:Nat} {z:Int} (ho:o.op = .slice t x (some y) none none) (hx:s.ev x = .c (.own k)) (hk:s.h k=some (.arr e' E l)) (hy:s.ev y = .i z) (hz:0≤z) [I:SE P t e] [J:TI P e row n] (hn:E.n=n) (hj:z.toNat≤l.length) (h0:0<l.length) :
  LOp P o s [k] ⟨.c (.osl k n z.toNat l.length false),[],[]⟩ :=
 bi fun c st ρ a w hr h1 h2=>by
  obtain ⟨j,rfl⟩:=Int.eq_ofNat_of_zero_le hz;simp only [Int.toNat_natCast] at hj ⊢;have he:=h1 x (by simp [ho,Op.operands]);rw [hx] at he;have hv:=hr.ev x;rw [he] at hv;have hv2:a.eval y = .int .i64 (j:Int):=by have:=hr.ev y;rwa [h1 y (by simp [ho,Op.operands]),hy] at this
  obtain ⟨A,cap,hA,hc,hp⟩:=dF (hr.hp k _ ((h2 k (by simp [aD])).trans hk));obtain ⟨g,xs,rfl,_⟩:=hp h0;have hv:a.eval x = .slice (some ⟨g,0,none⟩) l.length cap:=Eq.trans hv hA;obtain ⟨q,hq,hqn⟩:∃q,P.info? e=some q∧q.size=n:=by
   have:=J.s;cases h:P.info? e with
   | none=>simp [h] at this
   | some q=>exact ⟨q,rfl,by simpa [h] using this⟩
  subst hqn;have h3:j≤cap:=by omega
  refine ⟨.slice (some (if cap=j then ⟨g,0,none⟩ else ⟨g,j*q.size,none⟩)) (l.length-j) (cap-j),?_,⟨g,_,_,cap-j,_,hA,⟨hj,Nat.le_refl _,by omega,by omega⟩,(fun h=>by cases h),rfl,fun h=>?_⟩,fun k' hk'=>hr.nf (x:=x) he (by simpa [TV.has,V0.has,D.has] using hk')⟩
  ·unfold execOp;rw [ho];by_cases hi0:cap=j
   ·simp [hv,hv2,Instr.sliceAt,Instr.slice,Instr.sliceBounds,Instr.sliceBound,asIntOf,run_underlying I.u,sizeOf,typeInfo,hq,hi0,hj,h3];try omega
   ·simp [hv,hv2,Instr.sliceAt,Instr.slice,Instr.sliceBounds,Instr.sliceBound,asIntOf,run_underlying I.u,sizeOf,typeInfo,hq,hi0,hj,h3,eU,hc.1]
  ·rcases h with h|h
   ·subst h;simp
   ·rw [if_neg (by omega)]
theorem Au {t e:TypeId} {by_ n i j k:Nat} {x y:Operand} {l':List α} [T:ST P E t e by_] (ho:o.op = .call { callee:=.builtin .copy,args:=#[x,y],argTypes:=#[t,t] }) (hx:s.ev x = .c (.osl k n i l.length false)) (hy:s.ev y = .c (.osl k n j l.length false)) (hk:s.h k=some (.arr e E l))
  (hn:E.n=n) (hij:j≤i) (hi:i≤l.length) (hl':l.take i++(l.drop j).take (l.length-i)=l'):LOp P o s [k] ⟨.c .any,[(k,some (.arr e E l'))],[]⟩:=by
 intro c st ρ a w hr h1 h2 _ h4;subst hl';subst hn;have hk':=(h2 k (by simp [aD])).trans hk;have hv1:=hr.ev x;rw [h1 x (by simp [ho,Op.operands,Call.operands]),hx] at hv1;obtain ⟨g,nn,cap,c1,A1,hρ1,⟨_,b2,b3,b4⟩,b5,hv1,b6⟩:=(show (D.osl k E.n i l.length false).rep w (Fz c st.h ρ w) ρ (a.eval x) from hv1);have hv2:=hr.ev y;rw [h1 y (by simp [ho,Op.operands,Call.operands]),hy] at hv2;obtain ⟨g2,nn2,cap2,c2,A2,hρ2,⟨d1,d2,d3,d4⟩,_,hv2,d6⟩:=(show (D.osl k E.n j l.length false).rep w (Fz c st.h ρ w) ρ (a.eval y) from hv2);rw [hρ1] at hρ2;injection hρ2 with e1 e2 e3;injection e1 with e1;injection e1 with e1;subst e1;subst e2;subst e3;obtain ⟨xs,hown0,hreps⟩:=hr.hp k _ hk';have hown:=hown0;rw [hρ1] at hown;obtain rfl:nn=l.length:=by
  rcases hown.2 with ⟨hv,_⟩|⟨g',cap',cur,hv,_⟩
  ·cases hv
  ·injection hv
 have hxl:=hown.1;have hpos:=E.pos;obtain ⟨ti,z,hi1,hi2,hi3,hi4,hi5⟩:=T.T.info;obtain ⟨cs,hcs⟩:∃cs,(xs.drop (j*E.n)).take ((l.length-i)*E.n)=cs:=⟨_,rfl⟩;have hm:l.length-i≤l.length-j:=by omega
 have e5:(l.length-j)*E.n=l.length*E.n-j*E.n:=Nat.sub_mul _ _ _;have e6:(l.length-i)*E.n=l.length*E.n-i*E.n:=Nat.sub_mul _ _ _;have e7:=Nat.mul_le_mul_right E.n hm;have e8:=Nat.mul_le_mul_right E.n hi;have hcl:cs.length=(l.length-i)*E.n:=by
  rw [←hcs,List.length_take,List.length_drop,hxl,←e5];exact Nat.min_eq_left e7
 have hrc:Reps E w (Fz c st.h ρ w) ((l.drop j).take (l.length-i)) cs:=hcs▸(hreps.drop j).take (l.length-i);have hmin:Nat.min (l.length-j) (l.length-i)=l.length-i:=Nat.min_eq_right hm;have hrun:(Builtin.copy_ #[t,t] o.type #[a.eval x,a.eval y]).run P w = .ok (goInt (l.length-i:Nat)) (w.setCells g (i*E.n) cs):=by
  rw [hv1,hv2];by_cases h0:l.length-i=0
  ·have h9:cs=[]:=List.eq_nil_of_length_eq_zero (by rw [hcl,h0,Nat.zero_mul]);subst h9;have:=i5 (P:=P) w t o.type e E.n (some A1) (some A2) (l.length-i) c1 (l.length-j) c2 T.T.under (by rw [hi1];simp [hi3]) (by rw [hmin];exact h0);rw [this,h0];rfl
  ·obtain rfl:A1=⟨g,i*E.n,none⟩:=b6 (.inr (by omega));obtain rfl:A2=⟨g,j*E.n,none⟩:=d6 (.inr (by omega));have:=fS (P:=P) w t o.type e E.n g (i*E.n) (l.length-i) c1 ⟨g,j*E.n,none⟩ (l.length-j) c2 cs T.T.under (by rw [hi1];simp [hi3]) (by rw [hmin];exact hcl) (fun q u hq=>by
    rw [eU];rw [←hcs,List.getElem?_take] at hq;split at hq
    ·rw [List.getElem?_drop] at hq;have hlt:=(List.getElem?_eq_some_iff.1 hq).1;rw [World.ownsRow.cellAt hown _ (by omega)];exact hq
    ·cases hq) (fun q hq=>(ez hown (by omega)).1) (fun q hq=>(ez hown (by omega)).2) (fun v hv=>hrc.one v hv)
   rw [this,hmin]
 have hrow:=ed cs (i*E.n) w xs hown (by omega);have hkb:kb (ρ k)=some g:=by rw [hρ1];rfl
 have hsize:=bp (g:=g) cs (i*E.n) w;have hoth:∀b,b≠g→(w.setCells g (i*E.n) cs).heap[b]? = w.heap[b]?:=fun b hb=>bj cs _ w b hb;have hbel:=cz (B:=0) (w:=w) (Nat.zero_le g) cs (i*E.n) w (Below.refl _ _);obtain ⟨L,hL⟩:∃L,l.take i++(l.drop j).take (l.length-i)=L:=⟨_,rfl⟩;have hLl:L.length=l.length:=by rw [←hL];simp;omega
 have hnew:Reps E w (Fz c st.h ρ w) L (xs.take (i*E.n)++cs++xs.drop (i*E.n+cs.length)):=by
  rw [show xs.drop (i*E.n+cs.length)=[] from List.drop_eq_nil_of_le (by omega),List.append_nil,←hL];exact (hreps.take i).append hrc
 rw [hL];have hkk:∀k':Nat,ax [(k,some (Box.arr e E L))] k'=true→k'=k:=fun k' h=>by
  simp only [ax,Bool.or_false] at h;exact (Nat.eq_of_beq_eq_true h).symm
 have hfz:∀b,Fz c st.h ρ w b→Fz c (hput [(k,some (Box.arr e E L))] st.h) ρ (w.setCells g (i*E.n) cs) b∧(w.setCells g (i*E.n) cs).heap[b]? = w.heap[b]?:=fun b ⟨f1,f2,f3⟩=>by
  have hbg:b≠g:=fun e=>f3 k _ hk' (by rw [hkb,e]);refine ⟨⟨f1,by rw [hsize];exact f2,fun k' bx hk2=>?_⟩,hoth b hbg⟩;simp only [hput] at hk2;cases h9:k.beq k' with
  | true=>rw [←Nat.eq_of_beq_eq_true h9,hkb];intro e;injection e with e;exact hbg e.symm
  | false=>rw [h9] at hk2;exact f3 k' bx hk2
 refine Oper.wp_value (v:=goInt (l.length-i:Nat)) (w':=w.setCells g (i*E.n) cs) ?_ ⟨ρ,hr.app (e:=⟨.c .any,[(k,some (.arr e E L))],[]⟩) h4 (fun k h=>by simp [aD] at h) (fun _ _=>rfl) (fun k' h=>.inr (by rw [hkk k' h];exact hr.nfh hk')) ⟨hbel.os,hbel.tape,hbel.output,hbel.size,fun b hlt hn=>hoth b fun e=>hn ⟨k,_,by simp [ax],hk',by rw [hkb,e]⟩⟩ ?_ ?_ (fun k h=>by simp [TV.has,V0.has,D.has] at h) ?_ ?_ trivial⟩
 ·unfold execOp;simp only [ho,resolve,invoke,builtin,Sem.run_bind,Sem.run_pure,Result.andThen_ok,List.map_toArray,List.map_cons,List.map_nil,hrun]
 ·intro k' bx g' h _ hg';rw [hkk k' h,hkb] at hg';injection hg' with hg';subst hg';exact ⟨by rw [hsize];exact hr.ltb hk' hkb,.inr ⟨k,_,by simp [ax],hk',hkb⟩⟩
 ·intro k1 k2 _ _ _ h h' _ _ _ _;rw [hkk k1 h,hkk k2 h']
 ·intro k1 k2 bx h hp hx;rw [hkk k2 h] at hp;simp only [hput,Nat.beq_refl,cond_true,Option.some.injEq] at hp;subst hp;simp [Box.has] at hx
 ·intro k2 bx h hp;rw [hkk k2 h] at hp ⊢;simp only [hput,Nat.beq_refl,cond_true,Option.some.injEq] at hp;subst hp;refine ⟨_,by rw [hLl,hρ1];exact hrow,?_⟩;exact hnew.same (fun b hb=>(hfz b hb).2) fun b hb=>(hfz b hb).1
end
theorem s0 (z:Array Value):∀n,(madeCells z (n*z.size)).toList=(List.replicate n z.toList).flatten
 | 0=>by simp [madeCells]
 | n+1=>by
  have ih:=s0 z n;unfold madeCells at ih ⊢;simp only [Array.toList_map,Array.toList_range] at ih ⊢;rw [Nat.succ_mul,List.range_add,List.map_append,ih,List.replicate_succ',List.flatten_append];congr 1
  simp only [List.map_map,List.flatten_cons,List.flatten_nil,List.append_nil];apply List.ext_getElem
  ·simp
  ·intro i h1 h2;simp only [List.length_map,List.length_range] at h1;simp only [List.getElem_map,List.getElem_range,Function.comp_apply,Array.getElem_toList];rw [Nat.add_comm,Nat.add_mul_mod_self_right,Nat.mod_eq_of_lt h1];exact getElem!_pos z i h1
section
variable {P:Program} {s:Mst} {o:Oper} {α:Type} {E:El α} {l:List α} {e':TypeId}
theorem uk {t e:TypeId} {k by_ n:Nat} {x y:Operand} {z:Value} (y0:α) [T:ST P E t e by_] (ho:o.op = .makeSlice t x y) (hdk:o.dst=some k) (hx:s.ev x = .i n) (hy:s.ev y = .i n) (hn:n≤1000000) (hz:(P.info? e).bind (·.zero)=some z) (hy0:∀w S,E.rep w S y0 z.cells.toList) (hb:by_≤1024):LOp P o s [] ⟨.c (.own k),[(k,some (.arr e E (List.replicate n y0)))],[k]⟩:=by
 intro c st ρ a w hr h1 h2 h3 h4;have hv1:a.eval x = .int .i64 (n:Int):=by have:=hr.ev x;rwa [h1 x (by simp [ho,Op.operands]),hx] at this
 have hv2:a.eval y = .int .i64 (n:Int):=by have:=hr.ev y;rwa [h1 y (by simp [ho,Op.operands]),hy] at this
 have hfk:st.f k=true:=h3 k (by simp [aD]);obtain ⟨i0,z',hi,hz0,hz1,hz2,hz3⟩:=T.T.info;obtain rfl:z=z':=by rw [hi] at hz;simp [hz0] at hz;exact hz.symm
 have hby:i0.bytes*n≤281474976710656:=Nat.le_trans (Nat.mul_le_mul (show i0.bytes≤1024 by omega) (show n≤1000000 by omega)) (by decide);have hrun:=gA (P:=P) t e i0 z T.T.under hi hz0 .i64 .i64 n n (Nat.le_refl _) hby (by omega) w;have hzs:z.cells.size=i0.size:=by first|exact hz3|(rw [hz1];exact hz3)|omega
 rw [←hzs] at hrun;have ho1:=World.ownsRow_lit (e:=e) (size:=E.n) (base:=0) w (madeCells z.cells (n*z.cells.size)) n (Nat.zero_le _) (by simp only [maxLen];omega) (by rw [size_madeCells,hzs,hz1]);rw [s0] at ho1;have hgen:∀(W:World) (S:Nat→Prop) (q:Nat),Reps E W S (List.replicate q y0) (List.replicate q z.cells.toList).flatten:=by
  intro W S q;induction q with
  | zero=>rfl
  | succ q ih=>exact ⟨z.cells.toList,(List.replicate q z.cells.toList).flatten,by rw [List.replicate_succ,List.flatten_cons],hy0 _ _,ih⟩
 have hkk:∀k':Nat,ax [(k,some (Box.arr e E (List.replicate n y0)))] k'=true→k'=k:=fun k' h=>by
  simp only [ax,Bool.or_false] at h;exact (Nat.eq_of_beq_eq_true h).symm
 refine Oper.wp_value (v:=.slice (some ⟨w.heap.size,0,none⟩) n n) (w':=w.alloc (.cells (madeCells z.cells (n*z.cells.size)) e)) ?_ ⟨upd ρ k (.slice (some ⟨w.heap.size,0,none⟩) n n),hr.app (e:=⟨.c (.own k),[(k,some (.arr e E (List.replicate n y0)))],[k]⟩) h4 (fun k' h=>?_) (fun k' h=>?_) (fun k' h=>.inl ?_) (Frx.alloc _ _ _) (fun k' bx g' h _ hg'=>?_) (fun k1 k2 _ _ _ h h' _ _ _ _=>?_) (fun k' h=>.inl ?_) (fun k1 k2 bx h hp hx=>?_) (fun k2 bx h hp=>?_) ?_⟩
 ·unfold execOp;rw [ho];simp only [hv1,hv2,Sem.run_bind,hrun,Result.andThen_ok,Sem.run_pure]
 ·have:k'=k:=by simp [aD] at h;exact h.symm
  subst this;exact ⟨hfk,by simp [ax]⟩
 ·exact de (by simpa [aD] using h)
 ·rw [hkk k' h];simp [aD]
 ·rw [hkk k' h,aI] at hg';injection hg' with hg';subst hg';exact ⟨by simp,.inl (Nat.le_refl _)⟩
 ·rw [hkk k1 h,hkk k2 h']
 ·have:k'=k:=by simp [TV.has,V0.has,D.has] at h;exact h.symm
  subst this;simp [aD]
 ·rw [hkk k2 h] at hp;simp only [hput,Nat.beq_refl,cond_true,Option.some.injEq] at hp;subst hp;simp [Box.has] at hx
 ·rw [hkk k2 h] at hp ⊢;simp only [hput,Nat.beq_refl,cond_true,Option.some.injEq] at hp;subst hp;rw [aI];exact ⟨_,by rw [List.length_replicate];exact ho1,hgen _ _ n⟩
 ·exact (aI _ _ _).symm
theorem s5 {t e:TypeId} {by_ k:Nat} {x y:Operand} {m l':List α} {R:List Nat} [T:ST P E t e by_] (ho:o.op = .call { callee:=.builtin .copy,args:=#[x,y],argTypes:=#[t,t] }) (hx:s.ev x = .c (.own k)) (hk:s.h k=some (.arr e E l)) (hy:Fj s E y m R)
  (h0:0<l.length) (hm:m.length≤l.length) (hl':m++l.drop m.length=l'):LOp P o s (k :: R) ⟨.c .any,[(k,some (.arr e E l'))],[]⟩:=by
 intro c st ρ a w hr h1 h2 _ h4;subst hl';have hk':=(h2 k (by simp [aD])).trans hk;have hv1:=hr.ev x;rw [h1 x (by simp [ho,Op.operands,Call.operands]),hx] at hv1;have hv1:a.eval x=ρ k:=hv1;obtain ⟨A2,cap2,ys,hv2,hrc,hsrc⟩:=hy c st ρ a w hr (h1 y (by simp [ho,Op.operands,Call.operands])) fun k' hk'=>h2 k' (by simp only [aD,Bool.or_eq_true];exact .inr hk');obtain ⟨xs,hown0,hreps⟩:=hr.hp k _ hk';obtain ⟨g,cap,hρ1⟩:∃g cap,ρ k = .slice (some ⟨g,0,none⟩) l.length cap:=by
  rcases hown0.2 with ⟨_,hn⟩|⟨g',cap',cur,hv,_⟩
  ·omega
  ·exact ⟨g',cap',hv⟩
 have hown:=hown0;rw [hρ1] at hown;have hxl:=hown.1;have hpos:=E.pos;obtain ⟨ti,z,hi1,hi2,hi3,hi4,hi5⟩:=T.T.info;have hcl:ys.length=m.length*E.n:=hrc.length;have e8:=Nat.mul_le_mul_right E.n hm;have hmin:Nat.min m.length l.length=m.length:=Nat.min_eq_left hm;have hrun:(Builtin.copy_ #[t,t] o.type #[a.eval x,a.eval y]).run P w = .ok (goInt m.length) (w.setCells g 0 ys):=by
  rw [hv1,hρ1,hv2];by_cases hz:m.length=0
  ·have h9:ys=[]:=List.eq_nil_of_length_eq_zero (by rw [hcl,hz,Nat.zero_mul]);subst h9;have:=i5 (P:=P) w t o.type e E.n (some ⟨g,0,none⟩) A2 l.length cap m.length cap2 T.T.under (by rw [hi1];simp [hi3]) (by rw [hmin];exact hz);rw [this,hz];rfl
  ·obtain ⟨b,off,rfl,hcell⟩:=hsrc (by omega);have:=fS (P:=P) w t o.type e E.n g 0 l.length cap ⟨b,off,none⟩ m.length cap2 ys T.T.under (by rw [hi1];simp [hi3]) (by rw [hmin];exact hcl) (fun q u hq=>by
    rw [eU];exact hcell q u hq) (fun q hq=>(ez hown (by omega)).1) (fun q hq=>(ez hown (by omega)).2) (fun v hv=>hrc.one v hv)
   rw [this,hmin]
 have hrow:=ed ys 0 w xs hown (by omega);have hkb:kb (ρ k)=some g:=by rw [hρ1];rfl
 have hsize:=bp (g:=g) ys 0 w;have hoth:∀b,b≠g→(w.setCells g 0 ys).heap[b]? = w.heap[b]?:=fun b hb=>bj ys _ w b hb;have hbel:=cz (B:=0) (w:=w) (Nat.zero_le g) ys 0 w (Below.refl _ _);obtain ⟨L,hL⟩:∃L,m++l.drop m.length=L:=⟨_,rfl⟩;have hLl:L.length=l.length:=by rw [←hL];simp;omega
 have hnew:Reps E w (Fz c st.h ρ w) L (xs.take 0++ys++xs.drop (0+ys.length)):=by
  rw [←hL,Nat.zero_add,List.take_zero,List.nil_append,hcl];exact hrc.append (hreps.drop m.length)
 rw [hL];have hkk:∀k':Nat,ax [(k,some (Box.arr e E L))] k'=true→k'=k:=fun k' h=>by
  simp only [ax,Bool.or_false] at h;exact (Nat.eq_of_beq_eq_true h).symm
 have hfz:∀b,Fz c st.h ρ w b→Fz c (hput [(k,some (Box.arr e E L))] st.h) ρ (w.setCells g 0 ys) b∧(w.setCells g 0 ys).heap[b]? = w.heap[b]?:=fun b ⟨f1,f2,f3⟩=>by
  have hbg:b≠g:=fun e=>f3 k _ hk' (by rw [hkb,e]);refine ⟨⟨f1,by rw [hsize];exact f2,fun k' bx hk2=>?_⟩,hoth b hbg⟩;simp only [hput] at hk2;cases h9:k.beq k' with
  | true=>rw [←Nat.eq_of_beq_eq_true h9,hkb];intro e;injection e with e;exact hbg e.symm
  | false=>rw [h9] at hk2;exact f3 k' bx hk2
 refine Oper.wp_value (v:=goInt m.length) (w':=w.setCells g 0 ys) ?_ ⟨ρ,hr.app (e:=⟨.c .any,[(k,some (.arr e E L))],[]⟩) h4 (fun k h=>by simp [aD] at h) (fun _ _=>rfl) (fun k' h=>.inr (by rw [hkk k' h];exact hr.nfh hk')) ⟨hbel.os,hbel.tape,hbel.output,hbel.size,fun b hlt hn=>hoth b fun e=>hn ⟨k,_,by simp [ax],hk',by rw [hkb,e]⟩⟩ ?_ ?_ (fun k h=>by simp [TV.has,V0.has,D.has] at h) ?_ ?_ trivial⟩
 ·unfold execOp;simp only [ho,resolve,invoke,builtin,Sem.run_bind,Sem.run_pure,Result.andThen_ok,List.map_toArray,List.map_cons,List.map_nil,hrun]
 ·intro k' bx g' h _ hg';rw [hkk k' h,hkb] at hg';injection hg' with hg';subst hg';exact ⟨by rw [hsize];exact hr.ltb hk' hkb,.inr ⟨k,_,by simp [ax],hk',hkb⟩⟩
 ·intro k1 k2 _ _ _ h h' _ _ _ _;rw [hkk k1 h,hkk k2 h']
 ·intro k1 k2 bx h hp hx;rw [hkk k2 h] at hp;simp only [hput,Nat.beq_refl,cond_true,Option.some.injEq] at hp;subst hp;simp [Box.has] at hx
 ·intro k2 bx h hp;rw [hkk k2 h] at hp ⊢;simp only [hput,Nat.beq_refl,cond_true,Option.some.injEq] at hp;subst hp;refine ⟨_,by rw [hLl,hρ1];exact hrow,?_⟩;exact hnew.same (fun b hb=>(hfz b hb).2) fun b hb=>(hfz b hb).1
end
section
variable {P:Program} {o:Oper} {s:Mst}
theorem cl {f:FuncId} {xs:Array Operand} {ks:List Nat} (ho:o.op = .makeFunc (.func f) #[] xs) (hx:xs.toList.map s.ev=ks.map fun k=>.c (.ptr k 0)):LOp P o s [] ⟨.c (.clo f ks),[],[]⟩ :=
 bi fun c st ρ a w hr h1 _=>by
  have h1':xs.toList.map st.ev=ks.map fun k=>TV.c (.ptr k 0):=by
   rw [←hx];exact List.map_congr_left fun x hx=>h1 x (by simp [ho,Op.operands];simpa using hx)
  have key:∀(l:List Operand) (ks:List Nat),l.map st.ev=ks.map (fun k=>TV.c (.ptr k 0))→All2 (fun k u=>u=ρ k) ks (l.map a.eval)∧∀k,(∃j∈ks,j.beq k=true)→st.f k=false:=by
   intro l;induction l with
   | nil=>intro ks h;cases ks with
    | nil=>exact ⟨trivial,fun k ⟨j,hj,_⟩=>by cases hj⟩
    | cons=>simp at h
   | cons x l ih =>
    intro ks h;cases ks with
    | nil=>simp at h
    | cons k ks =>
     simp only [List.map_cons,List.cons.injEq] at h;obtain ⟨i1,i2⟩:=ih ks h.2;have hv:=hr.ev x;rw [h.1] at hv;obtain ⟨g,hg,hv⟩:=hv;have hnf:st.f k=false:=hr.nf (x:=x) h.1 (by simp [TV.has,V0.has,D.has]);refine ⟨⟨?_,i1⟩,fun k' ⟨j,hj,hb⟩=>?_⟩
     ·show a.eval x=ρ k;rw [hv,hg]
     ·rcases List.mem_cons.1 hj with rfl|hj
      ·rw [←Nat.eq_of_beq_eq_true hb];exact hnf
      ·exact i2 k' ⟨j,hj,hb⟩
  obtain ⟨k1,k2⟩:=key _ _ h1';refine ⟨.func (.func f) #[] (xs.map a.eval),?_,⟨xs.toList.map a.eval,by congr 1;apply Array.toList_inj.1;simp,k1⟩,fun k hk=>k2 k ?_⟩
  ·unfold execOp;rw [ho];simp [Instr.makeFunc]
  ·obtain ⟨j,hj,hb⟩:=List.any_eq_true.1 (show (D.clo f ks).has k=true from hk);exact ⟨j,hj,hb⟩
variable {n l:Nat}
end
section
variable {P:Program} {o:Oper} {s:Mst}
def Gq:Option Box→Bool
 | some (.box ..)=>true
 | _=>false
theorem wi {α:Type _} {β:Type _} {R:α→β→Prop}:∀{l:List α} {m:List β} {l':List α} {m':List β},All2 R l m→All2 R l' m'→All2 R (l++l') (m++m')
 | [],[],_,_,_,k=>k
 | _ :: _,_ :: _,_,_,h,k=>⟨h.1,wi h.2 k⟩
 | [],_ :: _,_,_,h,_=>h.elim
 | _ :: _,[],_,_,h,_=>h.elim
theorem Ay {y:Operand} {f:FuncId} {xs:Array Operand} {ts:Array TypeId} {ar:List V0} {n:Nat} {kc:List Nat} {hin:List (Nat×Box)} {us:List Nat} {res:TV} {hout:List (Nat×Option Box)} (hs:FSpec P f ar hin us res hout) (q:Nat→Nat) (ho:o.op = .call { callee:=.value y,args:=xs,argTypes:=ts })
  (hy:s.ev y = .c (.clo f (kc.map q))) (hA:ar.drop n=kc.map fun k=>.one (.ptr k 0)) (hk:kc.all (fun k=>Gq (df hin k))=true)
  (ha:All2 (fun x d=>s.ev x = .v (V0.ren q d)) xs.toList (ar.take n)) (hn:dG ((aj hin++us).map q)=true) (hh:sE s q hin):LOp P o s ((aj hin).map q) ⟨res.ren q,dx q hout,us.map q⟩:=by
 intro c st ρ a w hr h1 h2 h3 h4;have hin':∀k b,df hin k=some b→st.h (q k)=some (b.ren q):=fun k b hk=>by
  rw [h2 (q k) (by rw [ba];exact List.mem_map.2 ⟨k,ba.1 (cf hk).1,rfl⟩)];exact mx hh k b (cf hk).2
 have hargs:All2 (fun d v=>(V0.ren q d).rep w (Fz c st.h ρ w) ρ v) (ar.take n) (xs.toList.map a.eval):=by
  have key:∀(l:List Operand) (m:List V0),(∀x∈l,st.ev x=s.ev x)→All2 (fun x d=>s.ev x = .v (V0.ren q d)) l m→All2 (fun d v=>(V0.ren q d).rep w (Fz c st.h ρ w) ρ v) m (l.map a.eval):=by
   intro l;induction l with
   | nil=>intro m _ h;cases m with
    | nil=>trivial
    | cons=>exact h.elim
   | cons x l ih =>
    intro m hl h;cases m with
    | nil=>exact h.elim
    | cons d m =>
     refine ⟨?_,ih m (fun y hy=>hl y (by simp [hy])) h.2⟩;have:=hr.ev x;rw [hl x (by simp),h.1] at this;exact this
  exact key _ _ (fun x hx=>h1 x (by simp [ho,Op.operands,Call.operands];exact .inr (by simpa using hx))) ha
 have hv:=hr.ev y;rw [h1 y (by simp [ho,Op.operands,Call.operands]),hy] at hv;obtain ⟨vs,hv,hvs⟩:=hv;have hcap:All2 (fun d v=>(V0.ren q d).rep w (Fz c st.h ρ w) ρ v) (ar.drop n) vs:=by
  rw [hA];have key:∀(l:List Nat) (m:List Value),l.all (fun k=>Gq (df hin k))=true→All2 (fun k u=>u=ρ k) (l.map q) m→All2 (fun d v=>(V0.ren q d).rep w (Fz c st.h ρ w) ρ v) (l.map fun k=>V0.one (.ptr k 0)) m:=by
   intro l;induction l with
   | nil=>intro m _ h;cases m with
    | nil=>trivial
    | cons=>exact h.elim
   | cons k l ih =>
    intro m hb h;cases m with
    | nil=>exact h.elim
    | cons u m =>
     rw [List.all_cons,Bool.and_eq_true] at hb;refine ⟨?_,ih m hb.2 h.2⟩;have hu:u=ρ (q k):=h.1;cases h9:df hin k with
     | none=>rw [h9] at hb;cases hb.1
     | some b =>
      rw [h9] at hb;have h8:=hr.hp _ _ (hin' k b h9);cases b with
      | box t cs =>
       obtain ⟨g,_,e,_⟩:=h8;exact ⟨g,e,hu.trans e⟩
      | arr=>cases hb.1
      | mp=>cases hb.1
      | it=>cases hb.1
  exact key kc vs hk hvs
 have hall:All2 (fun d v=>(V0.ren q d).rep w (Fz c st.h ρ w) ρ v) ar (xs.toList.map a.eval++vs):=by
  have:=wi hargs hcap
  rwa [List.take_append_drop] at this
 have hc:=hs.ca q c st ρ a w (xs.toList.map a.eval++vs) hr (fun k k' hk hk' e=>gP hn k k' hk hk' e) hall hin' fun k hk=>h3 _ (by show aD (us.map q) (q k)=true;rw [ba];exact List.mem_map.2 ⟨k,ba.1 hk,rfl⟩);have he:(xs.toList.map a.eval++vs).toArray=xs.map a.eval++vs.toArray:=by apply Array.toList_inj.1;simp
 rw [he] at hc;unfold Oper.wp execOp;simp only [ho,resolve,hv,Deferred.ofValue,invoke,Sem.run_bind,Sem.run_pure,Result.andThen_ok,Array.append_empty,Array.empty_append];rw [hs.en];refine hc.mono fun e w' ⟨v,hv,hk⟩=>?_;subst hv;exact hk o.dst h4
end
section
variable {P:Program} {nt:Nat} {Ks:List Nat} {s:Mst} {K:Mst→Prop} {ops:Array Oper} {draw:Bool} {o:Oper} {l:List Oper} {acc:List (List Nat×List Nat)} {t:Nat}
theorem jW {y:Operand} {f:FuncId} {xs:Array Operand} {ts:Array TypeId} {ar:List V0} {ot:Option Nat} {res:TV} {hin:List (Nat×Box)} {us:List Nat} {hout:List (Nat×Option Box)} (n:Nat) (kc:List Nat) (q:Nat→Nat) (hs:FSpec P f ar hin us res hout) (h:DA P ops draw l (((aj hin).map q,aj (dx q hout)) :: acc) (s.app ot ⟨res.ren q,dx q hout,us.map q⟩) K) (ho:o.op = .call { callee:=.value y,args:=xs,argTypes:=ts }:=by rfl) (hy:s.ev y = .c (.clo f (kc.map q)):=by rfl) (hA:ar.drop n=kc.map (fun k=>.one (.ptr k 0)):=by rfl) (hk:kc.all (fun k=>Gq (df hin k))=true:=by rfl) (ha:All2 (fun x d=>s.ev x = .v (V0.ren q d)) xs.toList (ar.take n):=by (repeat' (first|exact trivial|refine ⟨rfl,?_⟩));first|done|fail) (hn:dG ((aj hin++us).map q)=true:=by rfl) (hh:sE s q hin:=by (repeat' (first|exact trivial|refine ⟨rfl,?_⟩));first|done|fail) (hd:o.dst=ot:=by first|exact (rfl:_=some _)|exact (rfl:_=none)) (hg:s.gd ops o=some true:=by rfl) (hf:(us.map q).all s.f=true:=by rfl):DA P ops draw (o :: l) acc s K:=ui (Ay hs q ho hy hA hk ha hn hh) hd hg hf h
end
theorem nH (n:ByteArray):∀{t t':List Qu} (k:Nat),dN t=dN t'→bR n k t=bR n k t'
 | [],[],_,_=>rfl
 | [],_ :: _,_,h=>by simp [dN] at h
 | _ :: _,[],_,h=>by simp [dN] at h
 | q :: t,q' :: t',k,h=>by
  have h':q.res.name :: dN t=q'.res.name :: dN t':=h;injection h' with h1 h2;rw [eR,eR,h1,nH n (k+1) h2]
theorem fV {t t':List Qu} (h:dN t=dN t') (n:ByteArray):aS t n=aS t' n∧gE t n=gE t' n:=by
 unfold aS gE;rw [nH n 0 h];exact ⟨rfl,rfl⟩
theorem mG {t:List Qu} {n:ByteArray} (h:aS t n=true):∃i,∃hi:i<t.length,gE t n=i∧t[i].res.name=n∧a6 t n=t[i]:=by
 unfold aS at h;obtain ⟨i,hi,e1,e2⟩:=ir (of_decide_eq_true h);have e3:gE t n=i:=by unfold gE;rw [e1];omega
 refine ⟨i,hi,e3,e2,?_⟩;unfold a6;rw [e3];simp [hi]
theorem cW {t:List Qu} {n:ByteArray} (h:aS t n=true):a6 t n∈t∧(a6 t n).res.name=n:=by
 obtain ⟨i,hi,_,e2,e3⟩:=mG h;rw [e3];exact ⟨List.getElem_mem hi,e2⟩
theorem jH {t:List Qu} (hv:dl t=true) {q:Qu} (hq:q∈t):aS t q.res.name=true∧a6 t q.res.name=q:=by
 obtain ⟨i,hi,rfl⟩:=List.mem_iff_getElem.1 hq;have h:=vM (k:=0) hi (vL hv);unfold aS a6 gE;rw [h];refine ⟨decide_eq_true (by omega),?_⟩;have:((0+i:Nat):Int).toNat=i:=by omega
 rw [this];simp [hi]
structure TStep (t t':List Qu) (p:Pr) (n:ByteArray):Prop where
 v:dl t'=true
 nm:dN t'=dN t
 has:aS t n=true
 oth:∀m,m≠n→aS t m=true→a6 t' m=a6 t m
 out:Out (a6 t n) (a6 t' n) p
 sub:∀r∈aB t',r=p∨r∈aB t
theorem TOut.step {t t':List Qu} {i:Nat} {p:Pr} {n:ByteArray} (h:TOut t t' i p) (hv:dl t=true) (hn:(t[i]'h.lt).res.name=n) (hp:(aB t).length≤7∨p∈aB t∨p ∉ aB t'):TStep t t' p n:=by
 have hm:=h.names;have hmem:=jH hv (List.getElem_mem h.lt);rw [hn] at hmem;have hix:gE t n=i:=by
  obtain ⟨j,hj,e1,e2,e3⟩:=mG hmem.1;rw [e1];have hnd:=vL hv;unfold dN at hnd;rcases Nat.lt_trichotomy j i with hlt|he|hgt
  ·have:=List.pairwise_iff_getElem.1 hnd j i (by simpa using hj) (by simpa using h.lt) hlt;simp only [List.getElem_map] at this;exact absurd (e2.trans hn.symm) this
  ·exact he
  ·have:=List.pairwise_iff_getElem.1 hnd i j (by simpa using h.lt) (by simpa using hj) hgt;simp only [List.getElem_map] at this;exact absurd (hn.trans e2.symm) this
 refine ⟨h.valid hv hp,hm,hmem.1,fun m hne hh=>?_,?_,sM hv h⟩
 ·unfold a6;rw [(fV hm m).2];obtain ⟨j,hj,e1,e2,_⟩:=mG hh;rw [e1];have hji:j≠i:=fun e=>by subst e;exact hne (e2.symm.trans hn)
  have:=h.other hji;simp only [List.getD_eq_getElem?_getD,this]
 ·obtain ⟨q,e,ho⟩:=h.at;have e2:a6 t' n=q:=by
   unfold a6;rw [(fV hm n).2,hix];simp only [List.getD_eq_getElem?_getD,e];rfl
  rw [e2,hmem.2];exact ho
theorem TStep.hasE {t t':List Qu} {p:Pr} {n:ByteArray} (h:TStep t t' p n) (m:ByteArray):aS t' m=aS t m:=(fV h.nm m).1
structure TP (t t':List Qu) (p:Pr):Prop where
 v:dl t'=true
 nm:dN t'=dN t
 out:∀n,aS t n=true→Out (a6 t n) (a6 t' n) p
 sub:∀r∈aB t',r=p∨r∈aB t
theorem TStep.tp {t t':List Qu} {p:Pr} {n:ByteArray} (hv:dl t=true) (h:TStep t t' p n):TP t t' p:=by
 refine ⟨h.v,h.nm,fun m hm=>?_,h.sub⟩;by_cases e:m=n
 ·subst e;exact h.out
 ·rw [h.oth m e hm];exact Out.same p (cj hv (cW hm).1)
theorem TP.hasE {t t':List Qu} {p:Pr} (h:TP t t' p) (m:ByteArray):aS t' m=aS t m:=(fV h.nm m).1
abbrev fv (x:Pc) (n:ByteArray):Am:=ay x.led.entries n
structure FitR (t:List Qu) (n:ByteArray) (x:Pc):Prop where
 h:ao (a6 t n).holds x.proc=fv x n
 w:ai (a6 t n) x.proc=none
abbrev jn (t:List Qu) (n:ByteArray) (x:Pc) (a:Am):Am:=bN (a6 t n).res (fv x n) a
def FitA (t:List Qu) (n:ByteArray) (x:Pc) (a:Am):Prop :=
  (a8 (a6 t n).res (fv x n) a=true∧FitR t n x)∨(a8 (a6 t n).res (fv x n) a=false∧
    ((ao (a6 t n).holds x.proc=jn t n x a∧ai (a6 t n) x.proc=none)∨
     (ao (a6 t n).holds x.proc=fv x n∧ai (a6 t n) x.proc=some (jn t n x a)∧∀y∈(a6 t n).waits,y.proc=x.proc→y.prio=x.req.prio)))
def cG (l:List Tm) (n:ByteArray):Option Tm:=l.find? fun a=>aZ a.name n
def FitW (t:List Qu) (n:ByteArray) (x:Pc) (l:List Tm):Prop:=match cG l n with
 | none=>FitR t n x
 | some a=>FitA t n x a.am
theorem FitR.tp {t t':List Qu} {p:Pr} {m:ByteArray} {x:Pc} (hs:TP t t' p) (hp:x.proc≠p) (hm:aS t m=true) (h:FitR t m x):FitR t' m x:=by
 rcases (hs.out m hm).eff x.proc hp with ⟨h1,h2⟩|⟨a,h1,_⟩
 ·exact ⟨h1.trans h.h,h2.trans h.w⟩
 ·rw [h.w] at h1;cases h1
theorem FitA.tp {t t':List Qu} {p:Pr} {m:ByteArray} {x:Pc} {a:Am} (hs:TP t t' p) (hp:x.proc≠p) (hm:aS t m=true) (h:FitA t m x a):FitA t' m x a:=by
 have hr:=(hs.out m hm).res;unfold FitA jn at *
 rw [hr];rcases h with ⟨h1,h2⟩|⟨h1,h2⟩
 ·exact .inl ⟨h1,h2.tp hs hp hm⟩
 ·refine .inr ⟨h1,?_⟩;rcases h2 with ⟨h3,h4⟩|⟨h3,h4,h5⟩
  ·rcases (hs.out m hm).eff x.proc hp with ⟨k1,k2⟩|⟨b,k1,_⟩
   ·exact .inl ⟨k1.trans h3,k2.trans h4⟩
   ·rw [h4] at k1;cases k1
  ·rcases (hs.out m hm).eff x.proc hp with ⟨k1,k2⟩|⟨b,k1,k2,k3⟩
   ·refine .inr ⟨k1.trans h3,k2.trans h4,fun y hy hyp=>?_⟩;obtain ⟨z,hz,e1,e2⟩:=(hs.out m hm).prio y hy (by rw [hyp];exact hp);rw [←e2];exact h5 z hz (e1.trans hyp)
   ·rw [h4] at k1;injection k1 with k1;exact .inl ⟨k2.trans k1.symm,k3⟩
theorem FitW.tp {t t':List Qu} {p:Pr} {m:ByteArray} {x:Pc} {l:List Tm} (hs:TP t t' p) (hp:x.proc≠p) (hm:aS t m=true) (h:FitW t m x l):FitW t' m x l:=by
 unfold FitW at *
 cases hf:cG l m with
 | none=>rw [hf] at h;exact h.tp hs hp hm
 | some a=>rw [hf] at h;exact h.tp hs hp hm
structure PStat (t:List Qu) (x:Pc):Prop where
 vp:j8 x.proc=true
 cost:1≤x.cost∧x.cost≤1000
 led:Ld x.led
 gen:0≤x.gen∧x.gen≤1073741824
 hf:∀n,fv x n≠⟨0,0⟩→aS t n=true∧aC (a6 t n).res (fv x n)=true
theorem wl {t t':List Qu} {p:Pr} (hs:TP t t' p):∀l:List Tm,gV t' l=gV t l
 | []=>rfl
 | a :: l=>by
  unfold gV;rw [hs.hasE,wl hs l];cases hh:aS t a.name with
  | false=>rfl
  | true=>rw [(hs.out _ hh).res]
theorem yX {t t':List Qu} {p:Pr} (hs:TP t t' p) (x:Ex):iP t' x=iP t x:=by
 unfold iP;rw [wl hs]
structure PWait (t:List Qu) (now:Int) (x:Pc):Prop where
 rq:sV x.req=true
 rs:iP t x.req.expr=0
 sn:0≤x.since∧x.since≤now
structure PInv (t:List Qu) (now:Int) (x:Pc):Prop where
 stat:PStat t x
 run:x.waiting=false→x.req=Rq.zero∧x.since=0∧∀n,aS t n=true→FitR t n x
 wat:x.waiting=true→PWait t now x∧∀n,aS t n=true→FitW t n x (cJ x.req.expr)
theorem PStat.tp {t t':List Qu} {p:Pr} {x:Pc} (hs:TP t t' p) (h:PStat t x):PStat t' x :=
 ⟨h.vp,h.cost,h.led,h.gen,fun m hm=>by
  obtain ⟨h1,h2⟩:=h.hf m hm;exact ⟨by rw [hs.hasE];exact h1,by rw [(hs.out m h1).res];exact h2⟩⟩
theorem PWait.tp {t t':List Qu} {p:Pr} {now:Int} {x:Pc} (hs:TP t t' p) (h:PWait t now x):PWait t' now x:=⟨h.rq,by rw [yX hs];exact h.rs,h.sn⟩
theorem PInv.tp {t t':List Qu} {p:Pr} {now:Int} {x:Pc} (hs:TP t t' p) (hp:x.proc≠p) (h:PInv t now x):PInv t' now x:=by
 refine ⟨h.stat.tp hs,fun hw=>?_,fun hw=>?_⟩
 ·obtain ⟨h1,h2,h3⟩:=h.run hw;exact ⟨h1,h2,fun m hm=>by rw [hs.hasE] at hm;exact (h3 m hm).tp hs hp hm⟩
 ·obtain ⟨h1,h2⟩:=h.wat hw;exact ⟨h1.tp hs,fun m hm=>by rw [hs.hasE] at hm;exact (h2 m hm).tp hs hp hm⟩
theorem ur {t:List Qu} {n:ByteArray} {p:Pr} {q':Qu} (h:aS t n=true) (ho:Out (a6 t n) q' p):∃i,∃hi:i<t.length,gE t n=i∧t[i].res.name=n∧TOut t (t.set (gE t n) q') i p:=by
 obtain ⟨i,hi,e1,e2,e3⟩:=mG h;refine ⟨i,hi,e1,e2,hi,q',by rw [e1],?_⟩;rw [e3] at ho;exact ho
theorem ut {t:List Qu} {n:ByteArray} {q':Qu} (h:aS t n=true) (hn:dN (t.set (gE t n) q')=dN t):a6 (t.set (gE t n) q') n=q':=by
 obtain ⟨i,hi,e1,e2,e3⟩:=mG h;unfold a6;rw [(fV hn n).2,e1];simp [hi]
theorem pH {t:List Qu} {p:Pr} {n:ByteArray} (hv:dl t=true) (h:aS t n=true) (hw:(ai (a6 t n) p).isSome=true) :
  bz t p n=(t.set (gE t n) (be (a6 t n) p).1,aM n (be (a6 t n) p).2.1,0)∧TStep t (bz t p n).1 p n∧ao (a6 (bz t p n).1 n).holds p=ao (a6 t n).holds p∧ai (a6 (bz t p n).1 n) p=none:=by
 have hq:=cW h;have hs:=uc (cj hv hq.1) hw;obtain ⟨ho,h1,h2⟩:=vO hs;have e:bz t p n=(t.set (gE t n) (be (a6 t n) p).1,aM n (be (a6 t n) p).2.1,0):=by
  unfold aS at h;have hf:=of_decide_eq_true h;unfold bz;rw [hv,decide_eq_false (show ¬bR n 0 t<0 by omega)];simp only [Bool.not_true,cond_false];rw [show t.getD (gE t n) iI=a6 t n from rfl,decide_eq_true hs];rfl
 obtain ⟨i,hi,e1,e2,hto⟩:=ur h ho;have hp:p∈aB t:=by
  unfold aB;rw [cI,eE];exact ⟨_,hq.1,(dh (aF (cj hv hq.1)) p).2 (by unfold eQ;rw [hw];rfl)⟩
 have hst:TStep t (bz t p n).1 p n:=by rw [e];exact hto.step hv e2 (.inr (.inl hp))
 have hq2:a6 (bz t p n).1 n=(be (a6 t n) p).1:=by
  have:=hst.nm;rw [e] at this ⊢;exact ut h this
 exact ⟨e,hst,by rw [hq2];exact h1,by rw [hq2];exact h2⟩
theorem mH {t:List Qu} {p:Pr} {a:Tm} (hv:dl t=true) (h:aS t a.name=true) (h0:ao (a6 t a.name).holds p≠⟨0,0⟩) (hw:ai (a6 t a.name) p=none) (hc:a8 (a6 t a.name).res (ao (a6 t a.name).holds p) a.am=true) :
  cg t p a=(t.set (gE t a.name) (bk (a6 t a.name) p a.am).1,(bif decide (ao (a6 t a.name).holds p=a.am) then [] else [⟨3,p,a.name,a.am⟩])++aM a.name (bk (a6 t a.name) p a.am).2.1,0)∧TStep t (cg t p a).1 p a.name∧ao (a6 (cg t p a).1 a.name).holds p=a.am∧ai (a6 (cg t p a).1 a.name) p=none:=by
 have hq:=cW h;have hs:=vP (cj hv hq.1) h0 hw hc;obtain ⟨ho,h1,h2⟩:=xD hs;have e:cg t p a=(t.set (gE t a.name) (bk (a6 t a.name) p a.am).1,(bif decide (ao (a6 t a.name).holds p=a.am) then [] else [⟨3,p,a.name,a.am⟩])++aM a.name (bk (a6 t a.name) p a.am).2.1,0):=by
  unfold aS at h;have hf:=of_decide_eq_true h;unfold cg;rw [hv,decide_eq_false (show ¬bR a.name 0 t<0 by omega)];simp only [Bool.not_true,cond_false];rw [show t.getD (gE t a.name) iI=a6 t a.name from rfl,decide_eq_true hs];rfl
 obtain ⟨i,hi,e1,e2,hto⟩:=ur h ho;have hp:p∈aB t:=by
  unfold aB;rw [cI,eE];exact ⟨_,hq.1,(dh (aF (cj hv hq.1)) p).2 (by unfold eQ;rw [bb.2 h0];simp)⟩
 have hst:TStep t (cg t p a).1 p a.name:=by rw [e];exact hto.step hv e2 (.inr (.inl hp))
 have hq2:a6 (cg t p a).1 a.name=(bk (a6 t a.name) p a.am).1:=by
  have:=hst.nm;rw [e] at this ⊢;exact ut h this
 exact ⟨e,hst,by rw [hq2];exact h1,by rw [hq2];exact h2⟩
theorem AA {t:List Qu} {p:Pr} {a:Tm} {prio:Int} (hv:dl t=true) (h:aS t a.name=true) (hvp:j8 p=true) (hr:0≤prio∧prio≤7) (hf:aC (a6 t a.name).res a.am=true) (hw:ai (a6 t a.name) p=none)
  (hl:ao (a6 t a.name).holds p≠⟨0,0⟩∨(a6 t a.name).holds.length+(a6 t a.name).waits.length<8) (hp:(aB t).length≤7∨p∈aB t) :
  bt t p a prio=(t.set (gE t a.name) (bv (a6 t a.name) p a.am prio).1,aM a.name (bv (a6 t a.name) p a.am prio).2.1,0)∧TStep t (bt t p a prio).1 p a.name∧ClOut (a6 t a.name) (a6 (bt t p a prio).1 a.name) p a.am prio:=by
 have hq:=cW h;have hs:=vN (cj hv hq.1) hvp hr hf hw hl;have ho:=xC hs;have e:bt t p a prio=(t.set (gE t a.name) (bv (a6 t a.name) p a.am prio).1,aM a.name (bv (a6 t a.name) p a.am prio).2.1,0):=by
  unfold aS at h;have hf:=of_decide_eq_true h;have hc:(decide ((aB t).length=8) && !decide (p∈aB t))=false:=by
   rcases hp with hp|hp
   ·rw [decide_eq_false (by omega)];rfl
   ·rw [decide_eq_true hp];simp
  unfold bt;rw [hv,decide_eq_false (show ¬bR a.name 0 t<0 by omega),hc];simp only [Bool.not_true,cond_false];rw [show t.getD (gE t a.name) iI=a6 t a.name from rfl,decide_eq_true hs];rfl
 obtain ⟨i,hi,e1,e2,hto⟩:=ur h ho.out;have hst:TStep t (bt t p a prio).1 p a.name:=by
  rw [e];refine hto.step hv e2 ?_;rcases hp with hp|hp
  ·exact .inl hp
  ·exact .inr (.inl hp)
 have hq2:a6 (bt t p a prio).1 a.name=(bv (a6 t a.name) p a.am prio).1:=by
  have:=hst.nm;rw [e] at this ⊢;exact ut h this
 exact ⟨e,hst,by rw [hq2];exact ho⟩
theorem Eff.trans {a b c:Qu} {p:Pr} (h:Eff a b p) (k:Eff b c p):Eff a c p:=by
 rcases h with ⟨h1,h2⟩|⟨x,h1,h2,h3⟩
 ·rcases k with ⟨k1,k2⟩|⟨x,k1,k2,k3⟩
  ·exact .inl ⟨k1.trans h1,k2.trans h2⟩
  ·exact .inr ⟨x,h2.symm.trans k1,k2,k3⟩
 ·rcases k with ⟨k1,k2⟩|⟨y,k1,_⟩
  ·exact .inr ⟨x,h1,k1.trans h2,k2.trans h3⟩
  ·rw [h3] at k1;cases k1
theorem Out.trans {a b c:Qu} {p:Pr} (h:Out a b p) (k:Out b c p):Out a c p :=
 ⟨k.ok,k.res.trans h.res,fun r hr=>(h.eff r hr).trans (k.eff r hr),fun x hx hp=>by
  obtain ⟨y,hy,e1,e2⟩:=k.prio x hx hp;obtain ⟨z,hz,e3,e4⟩:=h.prio y hy (by rw [e1];exact hp);exact ⟨z,hz,e3.trans e1,e4.trans e2⟩⟩
theorem TP.refl {t:List Qu} (hv:dl t=true) (p:Pr):TP t t p:=⟨hv,rfl,fun _ hn=>Out.same p (cj hv (cW hn).1),fun _ hr=>.inr hr⟩
theorem TP.trans {a b c:List Qu} {p:Pr} (h:TP a b p) (k:TP b c p):TP a c p :=
 ⟨k.v,k.nm.trans h.nm,fun n hn=>(h.out n hn).trans (k.out n (by rw [h.hasE];exact hn)),fun r hr=>by
  rcases k.sub r hr with e|e
  ·exact .inl e
  ·exact h.sub r e⟩
structure WS (w w':Wk) (p:Pr) (N:ByteArray→Prop):Prop where
 tp:TP w.c.queues w'.c.queues p
 oth:∀m,¬N m→aS w.c.queues m=true→a6 w'.c.queues m=a6 w.c.queues m
 procs:w'.c.procs=w.c.procs
 now:w'.c.now=w.c.now
theorem WS.refl {w:Wk} (hv:dl w.c.queues=true) (p:Pr) (N:ByteArray→Prop):WS w w p N:=⟨TP.refl hv p,fun _ _ _=>rfl,rfl,rfl⟩
theorem WS.trans {a b c:Wk} {p:Pr} {N:ByteArray→Prop} (h:WS a b p N) (k:WS b c p N):WS a c p N :=
 ⟨h.tp.trans k.tp,fun m hm hh=>(k.oth m hm (by rw [h.tp.hasE];exact hh)).trans (h.oth m hm hh),k.procs.trans h.procs,k.now.trans h.now⟩
theorem WS.mono {a b:Wk} {p:Pr} {N M:ByteArray→Prop} (h:WS a b p N) (hm:∀m,N m→M m):WS a b p M:=⟨h.tp,fun m hM hh=>h.oth m (fun e=>hM (hm m e)) hh,h.procs,h.now⟩
theorem WS.take {w:Wk} {t:List Qu} {ev:List Ev} {p:Pr} {n:ByteArray} (hv:dl w.c.queues=true) (h:TStep w.c.queues t p n):WS w (w.take t ev) p (· = n):=⟨h.tp hv,fun m hm hh=>h.oth m hm hh,rfl,rfl⟩
theorem Cv {r:Rs} {l a:Am} (hs:aU r=true) (ha:aC r a=true) (hc:a8 r l a=false) (hl:l=⟨0,0⟩∨aC r l=true) :
  aC r (bN r l a)=true∧a8 r (bN r l a) l=true∧a8 r (bN r l a) a=true∧bN r l a≠l:=by
 rcases hl with rfl|hl
 ·rw [pq ha];have p0:aX r ⟨0,0⟩=true:=by unfold aX aG;rw [hs];rfl
  refine ⟨ha,?_,pi ha,?_⟩
  ·unfold a8;rw [cw ha,p0];rfl
  ·exact bb.1 (dC ha)
 ·exact yF hl ha hc
theorem jo {t:List Qu} {x:Pc} (h:PStat t x) (n:ByteArray):fv x n=⟨0,0⟩∨aC (a6 t n).res (fv x n)=true:=by
 by_cases e:fv x n=⟨0,0⟩
 ·exact .inl e
 ·exact .inr (h.hf n e).2
theorem jI {t:List Qu} (hv:dl t=true) {n:ByteArray} (h:aS t n=true):aU (a6 t n).res=true:=(aF (cj hv (cW h).1)).hv.shp
theorem pJ {w:Wk} {x:Pc} {n:ByteArray} {a:Am} (hv:dl w.c.queues=true) (hn:aS w.c.queues n=true) (hs:PStat w.c.queues x) (ha:aC (a6 w.c.queues n).res a=true) (hf:FitA w.c.queues n x a) :
  WS w (bq w x n) x.proc (· = n)∧FitR (bq w x n).c.queues n x:=by
 have same:FitR w.c.queues n x→WS w (bq w x n) x.proc (· = n)∧FitR (bq w x n).c.queues n x:=by
  intro h;have e1:eK w x.proc n=w:=by unfold eK;rw [h.w];rfl
  have e2:bq w x n=w:=by
   unfold bq bX;rw [e1,decide_eq_true h.h];rfl
  rw [e2];exact ⟨WS.refl hv _ _,h⟩
 rcases hf with ⟨_,h⟩|⟨hc,⟨h1,h2⟩|⟨h1,h2,_⟩⟩
 ·exact same h
 ·obtain ⟨j1,j2,_,j4⟩:=Cv (jI hv hn) ha hc (jo hs n);have e1:eK w x.proc n=w:=by unfold eK;rw [h2];rfl
  have hne:ao (a6 w.c.queues n).holds x.proc≠ay x.led.entries n:=by rw [h1];exact j4
  have h0:ao (a6 w.c.queues n).holds x.proc≠⟨0,0⟩:=by rw [h1];exact bb.1 (dC j1)
  obtain ⟨e,hst,k1,k2⟩:=mH (a:=⟨n,ay x.led.entries n⟩) hv hn h0 h2 (by rw [h1];exact j2);have e2:bq w x n=eJ w x.proc ⟨n,ay x.led.entries n⟩:=by
   unfold bq bX;rw [e1,decide_eq_false hne];rfl
  rw [e2];exact ⟨WS.take hv hst,⟨k1,k2⟩⟩
 ·obtain ⟨e,hst,k1,k2⟩:=pH (p:=x.proc) hv hn (by rw [h2];rfl);have e1:eK w x.proc n=gu w x.proc n:=by unfold eK;rw [h2];rfl
  have hq:ao (a6 (gu w x.proc n).c.queues n).holds x.proc=ay x.led.entries n:=k1.trans h1;have e2:bq w x n=gu w x.proc n:=by
   unfold bq bX;rw [e1,decide_eq_true hq];rfl
  rw [e2];exact ⟨WS.take hv hst,⟨hq,k2⟩⟩
theorem xO {l:List Tm} {n:ByteArray} {a:Tm} (h:cG l n=some a):a∈l∧a.name=n:=by
 unfold cG at h;exact ⟨List.mem_of_find?_eq_some h,aP.1 (by have:=List.find?_some h;simpa using this)⟩
theorem gm {l:List Tm} {n:ByteArray}:cG l n=none↔∀a∈l,a.name≠n:=by
 unfold cG;rw [List.find?_eq_none];constructor
 ·intro h a ha e;exact h a ha (aP.2 e)
 ·intro h a ha e;exact h a ha (aP.1 e)
theorem cA (a:Tm) (l:List Tm) (n:ByteArray):cG (a :: l) n=bif aZ a.name n then some a else cG l n:=by
 unfold cG;rw [List.find?_cons];cases aZ a.name n <;> rfl
def A8 (l:List Tm):Prop:=l.Pairwise fun a b=>a.name≠b.name
def Rsl (t:List Qu) (l:List Tm):Prop:=∀a∈l,aS t a.name=true∧aC (a6 t a.name).res a.am=true
theorem s9 {t:List Qu}:∀{l:List Tm},gV t l=0↔Rsl t l
 | []=>by simp [gV,Rsl]
 | a :: l=>by
  unfold gV;cases h1:aS t a.name with
  | false =>
   simp only [Bool.not_false,cond_true];constructor
   ·intro h;cases h
   ·intro h;have:=(h a (by simp)).1;rw [h1] at this;cases this
  | true =>
   simp only [Bool.not_true,cond_false];cases h2:aC (a6 t a.name).res a.am with
   | false =>
    simp only [Bool.not_false,cond_true];constructor
    ·intro h;cases h
    ·intro h;have:=(h a (by simp)).2;rw [h2] at this;cases this
   | true =>
    simp only [Bool.not_true,cond_false];rw [s9];constructor
    ·intro h b hb;rcases List.mem_cons.1 hb with rfl|hb
     ·exact ⟨h1,h2⟩
     ·exact h b hb
    ·intro h b hb;exact h b (by simp [hb])
theorem Rsl.tp {t t':List Qu} {p:Pr} {l:List Tm} (hs:TP t t' p) (h:Rsl t l):Rsl t' l:=fun a ha=>by
 obtain ⟨h1,h2⟩:=h a ha;exact ⟨by rw [hs.hasE];exact h1,by rw [(hs.out _ h1).res];exact h2⟩
theorem FitR.eq {t t':List Qu} {n:ByteArray} {x:Pc} (h:FitR t n x) (e:a6 t' n=a6 t n):FitR t' n x:=⟨by rw [e];exact h.h,by rw [e];exact h.w⟩
theorem FitA.eq {t t':List Qu} {n:ByteArray} {x:Pc} {a:Am} (h:FitA t n x a) (e:a6 t' n=a6 t n):FitA t' n x a:=by
 unfold FitA jn at *
 rw [e];rcases h with ⟨h1,h2⟩|h
 ·exact .inl ⟨h1,h2.eq e⟩
 ·exact .inr h
theorem FitW.eq {t t':List Qu} {n:ByteArray} {x:Pc} {l:List Tm} (h:FitW t n x l) (e:a6 t' n=a6 t n):FitW t' n x l:=by
 unfold FitW at *
 cases hf:cG l n with
 | none=>rw [hf] at h;exact h.eq e
 | some a=>rw [hf] at h;exact h.eq e
def DrT (x:Pc):List Tm→Wk→Prop
 | [],_=>True
 | a :: l,w=>dl w.c.queues=true∧aS w.c.queues a.name=true∧DrT x l (bq w x a.name)
theorem pK:∀(l:List Tm) (w:Wk) (x:Pc),dl w.c.queues=true→PStat w.c.queues x→A8 l→Rsl w.c.queues l→(∀n,aS w.c.queues n=true→FitW w.c.queues n x l)→
  WS w (cO x l w) x.proc (fun _=>True)∧(∀n,aS w.c.queues n=true→FitR (cO x l w).c.queues n x)∧DrT x l w
 | [],w,x,hv,_,_,_,hf=>⟨WS.refl hv _ _,fun n hn=>hf n hn,trivial⟩
 | a :: l,w,x,hv,hs,hnd,hr,hf=>by
  obtain ⟨h1,h2⟩:=List.pairwise_cons.1 hnd;obtain ⟨ha1,ha2⟩:=hr a (by simp);have hfa:FitA w.c.queues a.name x a.am:=by
   have:=hf a.name ha1;unfold FitW at this;rw [cA,aP.2 rfl] at this;exact this
  obtain ⟨k1,k2⟩:=pJ hv ha1 hs ha2 hfa;have ih:=pK l (bq w x a.name) x k1.tp.v (hs.tp k1.tp) h2 ((show Rsl w.c.queues l from fun b hb=>hr b (by simp [hb])).tp k1.tp) (fun n hn=>by
   rw [k1.tp.hasE] at hn;by_cases e:n=a.name
   ·subst e;unfold FitW;rw [gm.2 (fun b hb e=>h1 b hb e.symm)];exact k2
   ·have e1:=k1.oth n e hn;have h3:=hf n hn;unfold FitW at h3;rw [cA,bJ.2 (fun h=>e h.symm)] at h3;exact FitW.eq (l:=l) h3 e1)
  exact ⟨(k1.mono fun _ _=>trivial).trans ih.1,fun n hn=>ih.2.1 n (by rw [k1.tp.hasE];exact hn),hv,ha1,ih.2.2⟩
theorem Cy {t:List Qu} {L:List Pr} (hc:∀r∈aB t,r∈L) (hl:L.length≤8) {p:Pr} (hp:p∈L):(aB t).length≤7∨p∈aB t:=by
 by_cases h:p∈aB t
 ·exact .inr h
 ·left
  have:=gf (l:=p :: aB t) (m:=L) (List.nodup_cons.2 ⟨h,eF t⟩) fun r hr=>by
   rcases List.mem_cons.1 hr with rfl|hr
   ·exact hp
   ·exact hc r hr
  rw [List.length_cons] at this;omega
theorem Cz {t:List Qu} {L:List Pr} (hv:dl t=true) (hc:∀r∈aB t,r∈L) (hl:L.length≤8) {p:Pr} (hp:p∈L) {n:ByteArray} (hn:aS t n=true) (hw:ai (a6 t n) p=none) :
  ao (a6 t n).holds p≠⟨0,0⟩∨(a6 t n).holds.length+(a6 t n).waits.length<8:=by
 by_cases h0:ao (a6 t n).holds p=⟨0,0⟩
 ·right
  have hq:=cW hn;have hd:=aF (cj hv hq.1);have hno:=dv.1 hw;have hnd:(c8 (a6 t n).holds++bZ (a6 t n).waits).Nodup:=by
   rw [List.nodup_append];refine ⟨hd.hv.asc.imp fun {a b} (hab:fC a b) (e:a=b)=>by rw [e] at hab;exact bI b hab,hd.wnd,?_⟩;intro u hu v hv2 e;obtain ⟨x,hx,rfl⟩:=List.mem_map.1 hu;obtain ⟨y,hy,rfl⟩:=List.mem_map.1 hv2;have h1:=jg hd.hv.asc hx;rw [e,(hd.wok y hy).2.2] at h1;exact bb.1 (dC (hd.hv.fit x hx).2) h1.symm
  have hpn:p ∉ c8 (a6 t n).holds++bZ (a6 t n).waits:=by
   intro hm;rcases List.mem_append.1 hm with hm|hm
   ·obtain ⟨x,hx,rfl⟩:=List.mem_map.1 hm;have h1:=jg hd.hv.asc hx;rw [h0] at h1;exact bb.1 (dC (hd.hv.fit x hx).2) h1.symm
   ·obtain ⟨y,hy,e⟩:=List.mem_map.1 hm;exact hno y (by simp [hy]) e
  have hsub:∀r∈p :: (c8 (a6 t n).holds++bZ (a6 t n).waits),r∈L:=by
   intro r hr;rcases List.mem_cons.1 hr with rfl|hr
   ·exact hp
   ·refine hc r ?_;unfold aB;rw [cI,eE];refine ⟨_,hq.1,?_⟩;unfold ef;rw [cI];rcases List.mem_append.1 hr with hr|hr
    ·exact List.mem_append.2 (.inl hr)
    ·refine List.mem_append.2 (.inr ?_);show r∈bZ ((a6 t n).convs++(a6 t n).waits);unfold bZ at hr ⊢;rw [List.map_append];exact List.mem_append.2 (.inr hr)
  have:=gf (List.nodup_cons.2 ⟨hpn,hnd⟩) hsub;rw [List.length_cons,List.length_append] at this;unfold c8 bZ at this;rw [List.length_map,List.length_map] at this;omega
 ·exact .inl h0
theorem ta (L:List Pr) (hl:L.length≤8):∀(l pre:List Tm) (w:Wk) (x:Pc),dl w.c.queues=true→PStat w.c.queues x→x.proc∈L→(∀r∈aB w.c.queues,r∈L)→(0≤x.req.prio∧x.req.prio≤7)→A8 (pre++l)→Rsl w.c.queues l→
  (∀n,aS w.c.queues n=true→(cG l n=none→FitW w.c.queues n x (pre++l))∧(∀a,cG l n=some a→FitR w.c.queues n x))→
  WS w (co x.proc x.req.prio l w) x.proc (fun _=>True)∧(∀n,aS w.c.queues n=true→FitW (co x.proc x.req.prio l w).c.queues n x (pre++l))∧∀r∈aB (co x.proc x.req.prio l w).c.queues,r∈L
 | [],pre,w,x,hv,_,_,hc,_,_,_,hf=>⟨WS.refl hv _ _,fun n hn=>(hf n hn).1 rfl,hc⟩
 | a :: l,pre,w,x,hv,hs,hpL,hc,hpr,hnd,hr,hf=>by
  have hnd2:A8 (a :: l):=(List.pairwise_append.1 hnd).2.1;obtain ⟨h1,h2⟩:=List.pairwise_cons.1 hnd2;obtain ⟨ha1,ha2⟩:=hr a (by simp);have hfr:FitR w.c.queues a.name x:=(hf a.name ha1).2 a (by rw [cA,aP.2 rfl];rfl);obtain ⟨e,hst,ho⟩:=AA (a:=a) (prio:=x.req.prio) hv ha1 hs.vp hpr ha2 hfr.w (Cz hv hc hl hpL ha1 hfr.w) (Cy hc hl hpL);have hws:=WS.take (ev:=(bt w.c.queues x.proc a x.req.prio).2.1) hv hst;have hc2:∀r∈aB (bt w.c.queues x.proc a x.req.prio).1,r∈L:=fun r hr2=>by
   rcases hst.sub r hr2 with e|e
   ·rw [e];exact hpL
   ·exact hc r e
  have hres:=hst.out.res;have hfa:FitA (bt w.c.queues x.proc a x.req.prio).1 a.name x a.am:=by
   unfold FitA jn;rw [hres];have hh:=hfr.h;rcases ho.own with ⟨k1,k2⟩|⟨k1,k2⟩
   ·rw [hh] at k1;exact .inl ⟨k1,hfr.eq k2⟩
   ·rw [hh] at k1 k2;rcases k2 with ⟨k3,k4⟩|⟨k3,k4⟩
    ·exact .inr ⟨k1,.inr ⟨k3,k4,fun y hy hyp=>ho.pr y hy hyp⟩⟩
    ·exact .inr ⟨k1,.inl ⟨k3,k4⟩⟩
  have happ:pre++a :: l=(pre++[a])++l:=by simp
  have hat:∀n,cG (pre++a :: l) n=some a∨n≠a.name:=by
   intro n;by_cases e:n=a.name
   ·left
    subst e;unfold cG;rw [List.find?_append];have hpre:List.find? (fun b:Tm=>aZ b.name a.name) pre=none:=by
     rw [List.find?_eq_none];intro b hb e2;exact (List.pairwise_append.1 hnd).2.2 b hb a (by simp) (aP.1 e2)
    rw [hpre,List.find?_cons,aP.2 rfl];rfl
   ·exact .inr e
  have ih:=ta L hl l (pre++[a]) (w.take (bt w.c.queues x.proc a x.req.prio).1 (bt w.c.queues x.proc a x.req.prio).2.1) x hws.tp.v (hs.tp hws.tp) hpL hc2 hpr (by rw [←happ];exact hnd) ((show Rsl w.c.queues l from fun b hb=>hr b (by simp [hb])).tp hws.tp) (fun n hn=>by
   rw [hws.tp.hasE] at hn;rw [←happ];by_cases e:n=a.name
   ·subst e;refine ⟨fun _=>?_,fun b hb=>?_⟩
    ·unfold FitW;rcases hat a.name with h3|h3
     ·rw [h3];exact hfa
     ·exact absurd rfl h3
    ·have:=xO hb;exact absurd this.2.symm (h1 b this.1)
   ·have e1:=hws.oth n e hn;have h3:=hf n hn;rw [cA,bJ.2 (fun h=>e h.symm),cond_false] at h3;exact ⟨fun h4=>FitW.eq (h3.1 h4) e1,fun b hb=>(h3.2 b hb).eq e1⟩)
  rw [←happ] at ih;exact ⟨(hws.mono fun _ _=>trivial).trans ih.1,fun n hn=>ih.2.1 n (by rw [hws.tp.hasE];exact hn),ih.2.2⟩
theorem wn {r:Rs} {l j:Am} (hj:aC r j=true) (hc:a8 r j l=true) (hne:j≠l) (hl:l=⟨0,0⟩∨aC r l=true):dI l j=true:=by
 unfold dI;rw [jf hj,decide_eq_false (fun e=>hne e.symm)];rcases hl with rfl|hl
 ·rfl
 ·rw [jf hl];have z:=dC hl;have zj:=dC hj;have hs:aU r=true:=by unfold aC at hj;rw [Bool.and_eq_true] at hj;exact hj.1
  unfold a8 at hc;rw [cw hj,cw hl,z,zj] at hc;unfold aC at hl hj;simp only [Bool.true_and,Bool.false_or,Bool.not_false] at hc ⊢;rw [z,Bool.false_or];rcases bQ hs with ⟨hk,_⟩|⟨hk,_⟩
  ·rw [if_pos hk] at hc hl;simp only [Bool.and_eq_true,eW] at hl;rw [decide_eq_false (show ¬l.mode=0 by omega)];exact hc
  ·rw [if_neg (by omega)] at hc hl hj;simp only [Bool.and_eq_true,decide_eq_true_eq] at hl hj hc;rw [decide_eq_true hl.2.1.1];simp only [Bool.not_true,cond_false,decide_eq_true_eq];rcases Int.lt_or_eq_of_le hc with h|h
   ·exact h
   ·exfalso;apply hne
    obtain ⟨lm,lu⟩:=l;obtain ⟨jm,ju⟩:=j;dsimp only at *
    rw [hl.2.1.1,hj.2.1.1,h]
theorem yZ {l:List En} (h:Ents l):∀e∈l,ay l e.name≠⟨0,0⟩:=by
 refine lI (P:=fun l=>∀e∈l,ay l e.name≠⟨0,0⟩) (fun e he=>absurd he (by simp)) ?_ l h;intro l e _ he ih f hf;have hu:∀a:Am,br a=true→a≠⟨0,0⟩:=fun a ha e=>by rw [e] at ha;exact absurd ha (by decide)
 rw [iv];rcases List.mem_append.1 hf with hf|hf
 ·cases aZ e.name f.name with
  | true=>exact hu _ (lK he.gr).1
  | false=>exact ih f hf
 ·rw [List.mem_singleton] at hf;subst hf;rw [aP.2 rfl];exact hu _ (lK he.gr).1
theorem tc {t:List Qu} {x:Pc} (hs:PStat t x):∀e∈x.led.entries,e.name∈dN t:=fun e he=>by
 obtain ⟨h1,_⟩:=hs.hf e.name (yZ hs.led.ents e he);obtain ⟨h2,h3⟩:=cW h1;exact List.mem_map.2 ⟨_,h2,h3⟩
theorem y4 {t:List Qu} (hv:dl t=true) {n:ByteArray} (hn:aS t n=true):cE n.toList=true:=by
 obtain ⟨h2,h3⟩:=cW hn;have h4:=(aF (cj hv h2)).res;unfold jQ Rs.key at h4;rw [h3] at h4;simp only [Bool.and_eq_true] at h4;exact h4.1.1.1
structure GrP (x y:Pc):Prop where
 proc:y.proc=x.proc
 ents:∃m,y.led.entries=x.led.entries++m
 svs:y.led.saves=x.led.saves
theorem GrP.refl (x:Pc):GrP x x:=⟨rfl,⟨[],by simp⟩,rfl⟩
theorem GrP.trans {x y z:Pc} (h:GrP x y) (k:GrP y z):GrP x z:=by
 obtain ⟨h1,⟨m,h2⟩,h3⟩:=h;obtain ⟨k1,⟨m',k2⟩,k3⟩:=k;exact ⟨k1.trans h1,⟨m++m',by rw [k2,h2,List.append_assoc]⟩,k3.trans h3⟩
structure LedOf (t:List Qu) (x y:Pc):Prop where
 eq:y = { x with led:=y.led }
 stat:PStat t y
 gr:GrP x y
theorem LedOf.proc {t:List Qu} {x y:Pc} (h:LedOf t x y):y.proc=x.proc:=by rw [h.eq]
theorem CA {w:Wk} {i:Nat} {x y:Pc} {n:ByteArray} {a:Am} (hv:dl w.c.queues=true) (hn:aS w.c.queues n=true) (hy:w.pc i=y) (hi:i<w.c.procs.length) (hl:LedOf w.c.queues x y) (hlh:fv y n=fv x n) (ha:aC (a6 w.c.queues n).res a=true) (hf:FitA w.c.queues n x a)
  (hc:a8 (a6 w.c.queues n).res (ao (a6 w.c.queues n).holds x.proc) a=true) :
  ∃y',gW w i x.proc n=w.setP i y'∧LedOf w.c.queues x y'∧FitR w.c.queues n y'∧∀m,m≠n→fv y' m=fv y m:=by
 have same:FitR w.c.queues n x→∃y',gW w i x.proc n=w.setP i y'∧LedOf w.c.queues x y'∧FitR w.c.queues n y'∧∀m,m≠n→fv y' m=fv y m:=by
  intro h;have h1:ao (a6 w.c.queues n).holds x.proc=ay (w.pc i).led.entries n:=by rw [hy];exact h.h.trans hlh.symm
  refine ⟨y,?_,hl,⟨?_,?_⟩,fun _ _=>rfl⟩
  ·unfold gW;rw [decide_eq_true h1,cond_true];unfold Wk.setP;have:w.c.procs.set i y=w.c.procs:=by
    apply List.ext_getElem
    ·simp
    ·intro j h1 h2;rw [List.getElem_set];split
     ·next e =>
      subst e;unfold Wk.pc at hy;rw [←hy];simp [hi]
     ·rfl
   rw [this]
  ·rw [hl.proc];exact h.h.trans hlh.symm
  ·rw [hl.proc];exact h.w
 rcases hf with ⟨_,h⟩|⟨hc2,⟨h1,h2⟩|⟨h1,h2,_⟩⟩
 ·exact same h
 ·obtain ⟨j1,j2,_,j4⟩:=Cv (jI hv hn) ha hc2 (by rw [←hlh];exact jo hl.stat n);have hne:ao (a6 w.c.queues n).holds x.proc≠ay (w.pc i).led.entries n:=by rw [hy,h1,show ay y.led.entries n=fv x n from hlh];exact j4
  have hgr:dI (fv x n) (jn w.c.queues n x a)=true:=wn j1 j2 j4 (by rw [←hlh];exact jo hl.stat n);obtain ⟨e1,e2⟩:=sU (g:=y.led) hl.stat.led (e:=⟨n,fv x n,jn w.c.queues n x a⟩) (y4 hv hn) (by show fv x n=ay y.led.entries n;exact hlh.symm) hgr (ns:=dN w.c.queues) (by unfold dN;rw [List.length_map];exact (bE hv).1) (tc hl.stat) (by obtain ⟨h3,h4⟩:=cW hn;exact List.mem_map.2 ⟨_,h3,h4⟩);have hlhn:∀m,ay (y.led.entries++[(⟨n,fv x n,jn w.c.queues n x a⟩:En)]) m=bif aZ n m then jn w.c.queues n x a else fv y m:=fun m=>iv _ _ _;refine ⟨{ y with led:=⟨y.led.entries++[⟨n,fv x n,jn w.c.queues n x a⟩],y.led.saves⟩ },?_,⟨?_,?_,hl.gr.trans ⟨rfl,⟨_,rfl⟩,rfl⟩⟩,⟨?_,?_⟩,fun m hm=>?_⟩
  ·unfold gW;rw [decide_eq_false hne,cond_false,hy,h1,show ay y.led.entries n=fv x n from hlh,e1]
  ·have:=hl.eq;generalize y.led=g at *
   subst this;rfl
  ·have hst:=hl.stat;refine ⟨hst.vp,hst.cost,e2,hst.gen,fun m hm=>?_⟩;have h5:fv { y with led:=⟨y.led.entries++[⟨n,fv x n,jn w.c.queues n x a⟩],y.led.saves⟩ } m=bif aZ n m then jn w.c.queues n x a else fv y m:=hlhn m;rw [h5] at hm ⊢;cases he:aZ n m with
   | true =>
    have:=aP.1 he;subst this;exact ⟨hn,j1⟩
   | false =>
    rw [he] at hm;exact hst.hf m hm
  ·show ao (a6 w.c.queues n).holds y.proc=ay _ n;rw [hl.proc,h1,hlhn,aP.2 rfl];rfl
  ·show ai (a6 w.c.queues n) y.proc=none;rw [hl.proc];exact h2
  ·show ay _ m=_;rw [hlhn,bJ.2 (fun e=>hm e.symm)];rfl
 ·rw [h1,hc2] at hc;cases hc
theorem eM {w:Wk} {i:Nat} (hi:i<w.c.procs.length) (x:Pc):(w.setP i x).pc i=x:=by
 unfold Wk.setP Wk.pc;simp [hi]
theorem fa (w:Wk) (i:Nat) (x y:Pc):(w.setP i x).setP i y=w.setP i y:=by
 unfold Wk.setP;simp
theorem LedOf.refl {t:List Qu} {x:Pc} (h:PStat t x):LedOf t x x:=⟨rfl,h,GrP.refl x⟩
theorem FitR.led {t:List Qu} {n:ByteArray} {x y:Pc} (h:FitR t n x) (hp:y.proc=x.proc) (hl:fv y n=fv x n):FitR t n y:=⟨by rw [hp,hl];exact h.h,by rw [hp];exact h.w⟩
def GD (x:Pc) (i:Nat):List Tm→List Bool→Wk→Prop
 | a :: l,b :: bs,w=>dl w.c.queues=true∧aS w.c.queues a.name=true∧i<w.c.procs.length∧GD x i l bs (bif b then gW w i x.proc a.name else bq w x a.name)
 | _,_,_=>True
theorem pN:∀(l:List Tm) (bs:List Bool) (w:Wk) (i:Nat) (x y:Pc),l.length=bs.length→dl w.c.queues=true→w.pc i=y→i<w.c.procs.length→PStat w.c.queues x→LedOf w.c.queues x y→(∀a∈l,fv y a.name=fv x a.name)→A8 l→Rsl w.c.queues l→
  (∀n,aS w.c.queues n=true→(∀a,cG l n=some a→FitA w.c.queues n x a.am)∧(cG l n=none→FitR w.c.queues n y))→
  (∀k (h:k<l.length),bs.getD k false=true→a8 (a6 w.c.queues l[k].name).res (ao (a6 w.c.queues l[k].name).holds x.proc) l[k].am=true)→
  ∃y',TP w.c.queues (da x i l bs w).c.queues x.proc∧(da x i l bs w).c.procs=w.c.procs.set i y'∧(da x i l bs w).c.now=w.c.now∧LedOf (da x i l bs w).c.queues x y'∧(∀n,aS w.c.queues n=true→FitR (da x i l bs w).c.queues n y')∧GD x i l bs w
 | [],bs,w,i,x,y,_,hv,hy,hi,_,hl,_,_,_,hf,_=>by
  have e:da x i [] bs w=w:=by cases bs <;> rfl
  rw [e];refine ⟨y,TP.refl hv _,?_,rfl,hl,fun n hn=>(hf n hn).2 rfl,by cases bs <;> trivial⟩;apply List.ext_getElem
  ·simp
  ·intro j h1 h2;rw [List.getElem_set];split
   ·next e =>
    subst e;unfold Wk.pc at hy;rw [←hy];simp [hi]
   ·rfl
 | a :: l,[],w,i,x,y,hlen,_,_,_,_,_,_,_,_,_,_=>by simp at hlen
 | a :: l,b :: bs,w,i,x,y,hlen,hv,hy,hi,hsx,hl,hlh,hnd,hr,hf,hc=>by
  obtain ⟨h1,h2⟩:=List.pairwise_cons.1 hnd;obtain ⟨ha1,ha2⟩:=hr a (by simp);have hfa:FitA w.c.queues a.name x a.am:=(hf a.name ha1).1 a (by rw [cA,aP.2 rfl];rfl);have hr2:Rsl w.c.queues l:=fun b hb=>hr b (by simp [hb]);have hat:∀n,n≠a.name→cG (a :: l) n=cG l n:=fun n hn=>by rw [cA,bJ.2 (fun h=>hn h.symm)];rfl
  have hnone:cG l a.name=none:=gm.2 fun b hb e=>h1 b hb e.symm;cases b with
  | true =>
   obtain ⟨y1,e1,k1,k2,k3⟩:=CA hv ha1 hy hi hl (hlh a (by simp)) ha2 hfa (by have:=hc 0 (by simp) (by simp);simpa using this);have e:da x i (a :: l) (true :: bs) w=da x i l bs (w.setP i y1):=by
    show da x i l bs (bif true then gW w i x.proc a.name else bq w x a.name)=_;rw [cond_true,e1]
   rw [e];have ih:=pN l bs (w.setP i y1) i x y1 (by simpa using hlen) hv (eM hi y1) (by show i<(w.c.procs.set i y1).length;simpa using hi) hsx k1 (fun b hb=>by rw [k3 _ (fun e=>h1 b hb e.symm)];exact hlh b (by simp [hb])) h2 hr2
    (fun n hn=>by
     by_cases en:n=a.name
     ·subst en;exact ⟨fun b hb=>(by rw [hnone] at hb;cases hb),fun _=>k2⟩
     ·have h3:=hf n hn;rw [hat n en] at h3;exact ⟨h3.1,fun h4=>(h3.2 h4).led (by rw [k1.proc,hl.proc]) (k3 n en)⟩)
    (fun k hk hb=>by
     have h5:=hc (k+1) (by simpa using hk) (by simpa using hb);simp only [List.getElem_cons_succ] at h5;exact h5)
   obtain ⟨y',q1,q2,q3,q4,q5,q6⟩:=ih;refine ⟨y',q1,?_,q3,q4,q5,hv,ha1,hi,by rw [cond_true,e1];exact q6⟩;rw [q2];show (w.c.procs.set i y1).set i y'=_;simp
  | false =>
   obtain ⟨k1,k2⟩:=pJ hv ha1 hsx ha2 hfa;have e:da x i (a :: l) (false :: bs) w=da x i l bs (bq w x a.name):=rfl;rw [e];have ih:=pN l bs (bq w x a.name) i x y (by simpa using hlen) k1.tp.v (by unfold Wk.pc at hy ⊢;rw [k1.procs];exact hy) (by rw [k1.procs];exact hi) (hsx.tp k1.tp) ⟨hl.eq,hl.stat.tp k1.tp,hl.gr⟩ (fun b hb=>hlh b (by simp [hb])) h2 (hr2.tp k1.tp)
    (fun n hn=>by
     rw [k1.tp.hasE] at hn;by_cases en:n=a.name
     ·subst en;exact ⟨fun b hb=>(by rw [hnone] at hb;cases hb),fun _=>k2.led hl.proc (hlh a (by simp))⟩
     ·have h3:=hf n hn;rw [hat n en] at h3;have e1:=k1.oth n en hn;exact ⟨fun b hb=>(h3.1 b hb).eq e1,fun h4=>(h3.2 h4).eq e1⟩)
    (fun k hk hb=>by
     have h5:=hc (k+1) (by simpa using hk) (by simpa using hb);simp only [List.getElem_cons_succ] at h5;have hm:l[k]∈l:=List.getElem_mem hk;rw [k1.oth l[k].name (fun e=>h1 _ hm e.symm) (hr2 _ hm).1];exact h5)
   obtain ⟨y',q1,q2,q3,q4,q5,q6⟩:=ih;exact ⟨y',k1.tp.trans q1,by rw [q2,k1.procs],q3.trans k1.now,q4,fun n hn=>q5 n (by rw [k1.tp.hasE];exact hn),hv,ha1,hi,q6⟩
theorem pO (x:Ex) (L:List Tm):∀(n:Nat) (out:List Bool) (k:Nat),(iw x L n out).getD k false=true→out.getD k false=true
 | 0,_,_,h=>h
 | n+1,out,k,h=>by
  have h1:=pO x L n _ k h;cases hb:out.getD n false with
  | false=>rw [hb] at h1;exact h1
  | true =>
   rw [hb,cond_true] at h1;by_cases hk:k=n
   ·subst hk;exact hb
   ·rw [List.getD_eq_getElem?_getD,List.getElem?_set_ne (fun e=>hk e.symm),←List.getD_eq_getElem?_getD] at h1;exact h1
theorem pP (x:Ex) (L:List Tm):∀(n:Nat) (out:List Bool),(iw x L n out).length=out.length
 | 0,_=>rfl
 | n+1,out=>by
  unfold iw;rw [pP x L n];cases out.getD n false <;> simp
theorem mJ (x:Ex) (set:List Bool):(cY x set).length=(cJ x).length:=by
 unfold cY;cases dE x set with
 | true=>rw [cond_true,pP];simp
 | false=>simp
theorem td {x:Ex} {set:List Bool} {k:Nat} (h:(cY x set).getD k false=true):set.getD k false=true:=by
 unfold cY at h;cases hh:dE x set with
 | true =>
  rw [hh,cond_true] at h;have h1:=pO x (cJ x) _ _ k h;rw [List.getD_eq_getElem?_getD,List.getElem?_map] at h1;by_cases hk:k<(cJ x).length
  ·rw [List.getElem?_range hk] at h1;exact h1
  ·rw [List.getElem?_eq_none (by simpa using hk)] at h1;cases h1
 | false =>
  rw [hh,cond_false,List.getD_eq_getElem?_getD] at h;by_cases hk:k<(cJ x).length
  ·rw [List.getElem?_replicate,if_pos hk] at h;cases h
  ·rw [List.getElem?_replicate,if_neg hk] at h;cases h
theorem CB {x:Ex} (h:kf x=true):A8 (cJ x):=by
 have h1:=(mt h).2.2;unfold cJ;rw [h,cond_true];unfold kf at h;simp only [Bool.and_eq_true,decide_eq_true_eq] at h;exact h.2.2.2
theorem ky (x:Ex):A8 (cJ x):=by
 cases h:kf x with
 | true=>exact CB h
 | false=>rw [oL h];exact List.Pairwise.nil
structure CI (c:Cs):Prop where
 now:0≤c.now∧c.now≤1073741824
 tv:dl c.queues=true
 len:c.procs.length≤8
 asc:(c.procs.map (·.proc)).Pairwise fC
 cov:∀r∈aB c.queues,r∈c.procs.map (·.proc)
 inv:∀x∈c.procs,PInv c.queues c.now x
theorem bG {w:Wk} {i:Nat} (hi:i<w.c.procs.length):w.pc i=w.c.procs[i]:=by unfold Wk.pc;simp [hi]
theorem pQ {c:Cs} (h:CI c) {i j:Nat} (hi:i<c.procs.length) (hj:j<c.procs.length) (hij:i≠j):c.procs[i].proc≠c.procs[j].proc:=by
 intro e;have hp:=List.pairwise_iff_getElem.1 h.asc;rcases Nat.lt_or_gt_of_ne hij with hlt|hlt
 ·have:=hp i j (by simpa using hi) (by simpa using hj) hlt;simp only [List.getElem_map] at this;rw [e] at this;exact bI _ this
 ·have:=hp j i (by simpa using hj) (by simpa using hi) hlt;simp only [List.getElem_map] at this;rw [e] at this;exact bI _ this
theorem CI.upd {c c':Cs} (h:CI c) {i:Nat} (hi:i<c.procs.length) {y:Pc} (hp:c'.procs=c.procs.set i y) (hn:c'.now=c.now) (hyp:y.proc=c.procs[i].proc) (ht:TP c.queues c'.queues y.proc) (hy:PInv c'.queues c'.now y):CI c':=by
 have hm:c'.procs.map (·.proc)=c.procs.map (·.proc):=by
  rw [hp,List.map_set,hyp];apply List.ext_getElem
  ·simp
  ·intro j h1 h2;rw [List.getElem_set];split
   ·next e=>subst e;simp
   ·rfl
 refine ⟨by rw [hn];exact h.now,ht.v,by rw [hp];simpa using h.len,by rw [hm];exact h.asc,fun r hr=>?_,fun x hx=>?_⟩
 ·rw [hm];rcases ht.sub r hr with e|e
  ·rw [e,hyp];exact List.mem_map.2 ⟨_,List.getElem_mem hi,rfl⟩
  ·exact h.cov r e
 ·rw [hp] at hx;obtain ⟨j,hj,e⟩:=List.mem_iff_getElem.1 hx;rw [List.getElem_set] at e;have hj2:j<c.procs.length:=by simpa using hj
  split at e
  ·subst e;exact hy
  ·next hij =>
   subst e;have h1:=h.inv _ (List.getElem_mem hj2);rw [←hn] at h1;exact h1.tp ht (by rw [hyp];exact pQ h hj2 hi (fun e=>hij e.symm))
def bY (l:List Pc):Nat:=(l.filter (·.waiting)).length
theorem te {l:List Pc} {i:Nat} (hi:i<l.length) {y:Pc} (h1:l[i].waiting=true) (h2:y.waiting=false):bY (l.set i y)+1=bY l:=by
 unfold bY;induction l generalizing i with
 | nil=>simp at hi
 | cons x l ih =>
  cases i with
  | zero =>
   have h1':x.waiting=true:=h1;rw [List.set_cons_zero,List.filter_cons,List.filter_cons,if_neg (by rw [h2];simp),if_pos h1'];rfl
  | succ i =>
   have:=ih (i:=i) (by simpa using hi) (by simpa using h1);rw [List.set_cons_succ,List.filter_cons,List.filter_cons];cases x.waiting with
   | true=>rw [if_pos rfl,if_pos rfl,List.length_cons,List.length_cons];omega
   | false=>rw [if_neg (by simp),if_neg (by simp)];exact this
theorem lV (l:List Pc):bY l≤l.length:=List.length_filter_le _ _
theorem wt {t:List Qu} {now:Int} {y:Pc} (hs:PStat t y) (hf:∀n,aS t n=true→FitR t n y):PInv t now { y with waiting:=false,req:=Rq.zero,since:=0 } :=
 ⟨⟨hs.vp,hs.cost,hs.led,hs.gen,hs.hf⟩,fun _=>⟨rfl,rfl,fun n hn=>⟨(hf n hn).h,(hf n hn).w⟩⟩,fun h=>by cases h⟩
theorem PInv.regen {t:List Qu} {now:Int} {y:Pc} (h:PInv t now y) (g:Int):PInv t now { y with gen:=aJ g } :=
 ⟨⟨h.stat.vp,h.stat.cost,h.stat.led,by have:=lD (n:=g);show 0≤aJ g∧aJ g≤1073741824;omega,h.stat.hf⟩,fun hw=>by
  obtain ⟨h1,h2,h3⟩:=h.run hw;exact ⟨h1,h2,fun n hn=>⟨(h3 n hn).h,(h3 n hn).w⟩⟩,fun hw=>by
  obtain ⟨h1,h2⟩:=h.wat hw;refine ⟨⟨h1.rq,h1.rs,h1.sn⟩,fun n hn=>?_⟩;have:=h2 n hn;unfold FitW at this ⊢;cases ha:cG (cJ y.req.expr) n with
  | none=>rw [ha] at this;exact ⟨this.h,this.w⟩
  | some a =>
   rw [ha] at this;rcases this with ⟨k1,k2⟩|k
   ·exact .inl ⟨k1,k2.h,k2.w⟩
   ·exact .inr k⟩
theorem mK {t:List Qu} {x:Ex} (h:iP t x=0):kf x=true∧Rsl t (cJ x):=by
 unfold iP at h;cases hv:kf x with
 | false=>rw [hv] at h;cases h
 | true =>
  rw [hv] at h;exact ⟨rfl,s9.1 h⟩
def KW (l l':List Pc):Prop:=∀x∈l',x.waiting=true→x∈l
theorem KW.refl (l:List Pc):KW l l:=fun _ h _=>h
theorem KW.trans {a b c:List Pc} (h:KW a b) (k:KW b c):KW a c:=fun x hx hw=>h x (k x hx hw) hw
theorem KW.set {l:List Pc} {i:Nat} {y:Pc} (hy:y.waiting=false):KW l (l.set i y):=fun x hx hw=>by
 rcases List.mem_or_eq_of_mem_set hx with h|rfl
 ·exact h
 ·rw [hy] at hw;cases hw
def KG (l l':List Pc):Prop:=∀x∈l,∃x'∈l',GrP x x'
theorem KG.refl (l:List Pc):KG l l:=fun x h=>⟨x,h,GrP.refl x⟩
theorem KG.trans {a b c:List Pc} (h:KG a b) (k:KG b c):KG a c:=fun x hx=>by
 obtain ⟨y,hy,h1⟩:=h x hx;obtain ⟨z,hz,h2⟩:=k y hy;exact ⟨z,hz,h1.trans h2⟩
theorem KG.set {l:List Pc} {i:Nat} (hi:i<l.length) {y:Pc} (hy:GrP l[i] y):KG l (l.set i y):=fun x hx=>by
 obtain ⟨j,hj,e⟩:=List.mem_iff_getElem.1 hx;by_cases hji:j=i
 ·subst hji;exact ⟨y,List.mem_iff_getElem.2 ⟨j,by simpa using hj,by simp⟩,by rw [←e];exact hy⟩
 ·refine ⟨x,List.mem_iff_getElem.2 ⟨j,by simpa using hj,?_⟩,GrP.refl x⟩;rw [List.getElem_set_ne (fun e2=>hji e2.symm)];exact e
structure KN (l l':List Pc):Prop where
 nw:∀x∈l,x.waiting=false→x∈l'
 gr:KG l l'
theorem KN.refl (l:List Pc):KN l l:=⟨fun _ h _=>h,KG.refl l⟩
theorem KN.trans {a b c:List Pc} (h:KN a b) (k:KN b c):KN a c:=⟨fun x hx hw=>k.nw x (h.nw x hx hw) hw,h.gr.trans k.gr⟩
theorem KN.set {l:List Pc} {i:Nat} (hi:i<l.length) (hw:l[i].waiting=true) {y:Pc} (hy:GrP l[i] y):KN l (l.set i y):=⟨fun x hx hxw=>by
 obtain ⟨j,hj,e⟩:=List.mem_iff_getElem.1 hx;have hji:j≠i:=fun e2=>by subst e2;rw [e,hxw] at hw;cases hw
 refine List.mem_iff_getElem.2 ⟨j,by simpa using hj,?_⟩;rw [List.getElem_set_ne (fun e2=>hji e2.symm)];exact e,KG.set hi hy⟩
theorem CC {w:Wk} {i:Nat} (h:CI w.c) (hi:i<w.c.procs.length) (hw:(w.pc i).waiting=true) :
  CI (gX w i).c∧bY (gX w i).c.procs+1=bY w.c.procs∧(gX w i).c.procs.length=w.c.procs.length∧(gX w i).c.now=w.c.now∧KW w.c.procs (gX w i).c.procs∧(gX w i).c.procs.map (·.proc)=w.c.procs.map (·.proc)∧KN w.c.procs (gX w i).c.procs∧dN (gX w i).c.queues=dN w.c.queues∧GD (w.pc i) i (cJ (w.pc i).req.expr) (cY (w.pc i).req.expr (bo w.c.queues (w.pc i).proc (w.pc i).req.expr)) (w.note 2 (w.pc i).proc):=by
 have hpc:=bG hi;have hinv:=h.inv _ (List.getElem_mem hi);rw [←hpc] at hinv;obtain ⟨hwt,hfit⟩:=hinv.wat hw;obtain ⟨hve,hrsl⟩:=mK hwt.rs;obtain ⟨y',q1,q2,q3,q4,q5,q6⟩:=pN (cJ (w.pc i).req.expr) (cY (w.pc i).req.expr (bo w.c.queues (w.pc i).proc (w.pc i).req.expr)) (w.note 2 (w.pc i).proc) i (w.pc i) (w.pc i) (mJ _ _).symm h.tv rfl hi hinv.stat (LedOf.refl hinv.stat) (fun _ _=>rfl) (ky _) hrsl
  (fun n hn=>by
   have:=hfit n hn;unfold FitW at this;exact ⟨fun a ha=>by rw [ha] at this;exact this,fun ha=>by rw [ha] at this;exact this⟩)
  (fun k hk hb=>by
   have h1:=td hb;unfold bo at h1;rw [List.getD_eq_getElem?_getD,List.getElem?_map,List.getElem?_eq_getElem hk] at h1;have h2:(aS w.c.queues (cJ (w.pc i).req.expr)[k].name && a8 (a6 w.c.queues (cJ (w.pc i).req.expr)[k].name).res (ao (a6 w.c.queues (cJ (w.pc i).req.expr)[k].name).holds (w.pc i).proc) (cJ (w.pc i).req.expr)[k].am)=true:=h1;rw [Bool.and_eq_true] at h2;exact h2.2)
 have e:∀g:Wk,da (w.pc i) i (cJ (w.pc i).req.expr) (cY (w.pc i).req.expr (bo w.c.queues (w.pc i).proc (w.pc i).req.expr)) (w.note 2 (w.pc i).proc)=g→gX w i=aY (gg g i) i:=fun g hg=>by unfold gX;rw [hg]
 generalize hg:da (w.pc i) i (cJ (w.pc i).req.expr) (cY (w.pc i).req.expr (bo w.c.queues (w.pc i).proc (w.pc i).req.expr)) (w.note 2 (w.pc i).proc)=g at *
 rw [e g rfl];have q2':g.c.procs=w.c.procs.set i y':=q2;have hgi:i<g.c.procs.length:=by rw [q2'];simpa using hi
 have hgp:g.pc i=y':=by rw [bG hgi];simp [q2']
 have hproc:y'.proc=w.c.procs[i].proc:=by rw [q4.proc,hpc]
 have e2:aY (gg g i) i=g.setP i { y' with waiting:=false,req:=Rq.zero,since:=0,gen:=aJ y'.gen }:=by
  unfold aY gg;rw [hgp,eM hgi,fa]
 rw [e2];have hfin:PInv g.c.queues g.c.now { y' with waiting:=false,req:=Rq.zero,since:=0,gen:=aJ y'.gen } :=
  (wt q4.stat (fun n hn=>q5 n (by have:=q1.hasE n;rw [this] at hn;exact hn)):PInv g.c.queues g.c.now { y' with waiting:=false,req:=Rq.zero,since:=0 }).regen y'.gen
 have hps:(g.setP i { y' with waiting:=false,req:=Rq.zero,since:=0,gen:=aJ y'.gen }).c.procs=w.c.procs.set i { y' with waiting:=false,req:=Rq.zero,since:=0,gen:=aJ y'.gen }:=by
  show g.c.procs.set i _=_;rw [q2',List.set_set]
 have hn:g.c.now=w.c.now:=q3;have hmap:(w.c.procs.set i { y' with waiting:=false,req:=Rq.zero,since:=0,gen:=aJ y'.gen }).map (·.proc)=w.c.procs.map (·.proc):=by
  rw [List.map_set];apply List.ext_getElem
  ·simp
  ·intro j h1 h2;rw [List.getElem_set];split
   ·next e=>subst e;simp [hproc]
   ·rfl
 refine ⟨h.upd hi hps hn hproc ?_ hfin,?_,by rw [hps];simp,hn,by rw [hps];exact KW.set rfl,by rw [hps];exact hmap,by rw [hps];exact KN.set hi (by rw [←hpc];exact hw) (by rw [←hpc];exact ⟨q4.gr.proc,q4.gr.ents,q4.gr.svs⟩),q1.nm,q6⟩
 ·have:y'.proc=(w.pc i).proc:=q4.proc;show TP w.c.queues g.c.queues y'.proc;rw [this];exact q1
 ·rw [hps];exact te hi (by rw [←hpc];exact hw) rfl
theorem iz {t:List Qu}:∀{l:List Pc} {k i:Nat},gh t k l=some i→∃j,∃h:j<l.length,i=k+j∧dP t l[j]=true
 | [],_,_,h=>by cases h
 | x :: l,k,i,h=>by
  unfold gh at h;cases hs:dP t x with
  | true =>
   rw [hs,cond_true] at h;injection h with h;exact ⟨0,by simp,by omega,hs⟩
  | false =>
   rw [hs,cond_false] at h;obtain ⟨j,hj,e,h2⟩:=iz h;exact ⟨j+1,by simpa using hj,by omega,by simpa using h2⟩
theorem pR {t:List Qu}:∀{l:List Pc} {k:Nat},gh t k l=none→∀x∈l,dP t x=false
 | [],_,_,x,hx=>absurd hx (by simp)
 | y :: l,k,h,x,hx=>by
  unfold gh at h;cases hs:dP t y with
  | true=>rw [hs] at h;cases h
  | false =>
   rw [hs,cond_false] at h;rcases List.mem_cons.1 hx with rfl|hx
   ·exact hs
   ·exact pR h x hx
theorem jJ {l:List Pc} {i:Nat} (hi:i<l.length) (h:l[i].waiting=true):0<bY l:=by
 unfold bY;exact List.length_pos_of_mem (List.mem_filter.2 ⟨List.getElem_mem hi,h⟩)
theorem pS:∀(n:Nat) (w:Wk),CI w.c→bY w.c.procs≤n→CI (aW n w).c∧(∀x∈(aW n w).c.procs,dP (aW n w).c.queues x=false)∧(aW n w).c.procs.map (·.proc)=w.c.procs.map (·.proc)∧(aW n w).c.now=w.c.now∧bY (aW n w).c.procs≤bY w.c.procs∧KW w.c.procs (aW n w).c.procs∧KN w.c.procs (aW n w).c.procs∧dN (aW n w).c.queues=dN w.c.queues
 | 0,w,h,hn=>by
  refine ⟨h,fun x hx=>?_,rfl,rfl,Nat.le_refl _,KW.refl _,KN.refl _,rfl⟩;cases hw:x.waiting with
  | false=>unfold dP;rw [hw];rfl
  | true =>
   obtain ⟨i,hi,e⟩:=List.mem_iff_getElem.1 hx;have:=jJ hi (by rw [e];exact hw);have hn':bY w.c.procs≤0:=hn;have this':0<bY w.c.procs:=this;omega
 | n+1,w,h,hn=>by
  unfold aW;cases hs:gh w.c.queues 0 w.c.procs with
  | none=>exact ⟨h,pR hs,rfl,rfl,Nat.le_refl _,KW.refl _,KN.refl _,rfl⟩
  | some i =>
   obtain ⟨j,hj,e,h2⟩:=iz hs;have e':i=j:=by omega
   subst e';have hwt:(w.pc i).waiting=true:=by
    rw [bG hj];unfold dP at h2;rw [Bool.and_eq_true] at h2;exact h2.1
   obtain ⟨k1,k2,k3,k4,k5,k6,k7,k8,_⟩:=CC h hj hwt;obtain ⟨l1,l2,l3,l4,l5,l6,l7,l8⟩:=pS n (gX w i) k1 (by omega);exact ⟨l1,l2,l3.trans k6,l4.trans k4,Nat.le_trans l5 (by omega),k5.trans l6,k7.trans l7,l8.trans k8⟩
theorem g7 {w:Wk} (h:CI w.c):CI (bf w).c∧(∀x∈(bf w).c.procs,dP (bf w).c.queues x=false)∧(bf w).c.procs.map (·.proc)=w.c.procs.map (·.proc)∧(bf w).c.now=w.c.now∧bY (bf w).c.procs≤bY w.c.procs∧KW w.c.procs (bf w).c.procs∧KN w.c.procs (bf w).c.procs∧dN (bf w).c.queues=dN w.c.queues :=
 pS _ w h (lV _)
structure Kp (w w':Wk):Prop where
 kw:KW w.c.procs w'.c.procs
 now:w'.c.now=w.c.now
 pr:w'.c.procs.map (·.proc)=w.c.procs.map (·.proc)
 nm:dN w'.c.queues=dN w.c.queues
theorem Kp.trans {a b c:Wk} (h:Kp a b) (k:Kp b c):Kp a c:=⟨h.kw.trans k.kw,k.now.trans h.now,k.pr.trans h.pr,k.nm.trans h.nm⟩
theorem Kp.len {a b:Wk} (h:Kp a b):b.c.procs.length=a.c.procs.length:=by have:=congrArg List.length h.pr;simpa using this
theorem fW {w:Wk} (h:CI w.c):CI (bf w).c∧(∀x∈(bf w).c.procs,dP (bf w).c.queues x=false)∧Kp w (bf w):=by
 obtain ⟨h1,h2,h3,h4,_,h6,_,h8⟩:=g7 h;exact ⟨h1,h2,h6,h4,h3,h8⟩
theorem jK {w:Wk} (h:CI w.c):KN w.c.procs (bf w).c.procs:=(g7 h).2.2.2.2.2.2.1
def KO (p:Pr) (l l':List Pc):Prop:=∀x∈l,x.proc≠p→∃x'∈l',GrP x x'
theorem KO.then {p:Pr} {a b c:List Pc} (h:KO p a b) (k:KG b c):KO p a c:=fun x hx hp=>by
 obtain ⟨y,hy,h1⟩:=h x hx hp;obtain ⟨z,hz,h2⟩:=k y hy;exact ⟨z,hz,h1.trans h2⟩
theorem KO.pre {p:Pr} {a b c:List Pc} (h:KG a b) (k:KO p b c):KO p a c:=fun x hx hp=>by
 obtain ⟨y,hy,h1⟩:=h x hx;obtain ⟨z,hz,h2⟩:=k y hy (by rw [h1.proc];exact hp);exact ⟨z,hz,h1.trans h2⟩
theorem KO.set {p:Pr} {l:List Pc} {i:Nat} (hi:i<l.length) (hp:l[i].proc=p) (y:Pc):KO p l (l.set i y):=fun x hx hxp=>by
 obtain ⟨j,hj,e⟩:=List.mem_iff_getElem.1 hx;have hji:j≠i:=fun e2=>by subst e2;rw [e] at hp;exact hxp hp
 refine ⟨x,List.mem_iff_getElem.2 ⟨j,by simpa using hj,?_⟩,GrP.refl x⟩;rw [List.getElem_set_ne (fun e2=>hji e2.symm)];exact e
theorem GrP.led {x y:Pc} (hp:y.proc=x.proc) (hl:y.led=x.led):GrP x y:=⟨hp,⟨[],by rw [hl];simp⟩,by rw [hl]⟩
theorem EK {w:Wk} {i:Nat} (hi:i<w.c.procs.length):KG w.c.procs (aY w i).c.procs:=by
 have hps:(aY w i).c.procs=w.c.procs.set i { w.pc i with gen:=aJ (w.pc i).gen }:=rfl;rw [hps];exact KG.set hi (GrP.led (by rw [bG hi]) (by rw [bG hi]))
theorem eN {l:List Pc} {i:Nat} (hi:i<l.length) {y:Pc} (hp:y.proc=l[i].proc):(l.set i y).map (·.proc)=l.map (·.proc):=by
 rw [List.map_set];apply List.ext_getElem
 ·simp
 ·intro j h1 h2;rw [List.getElem_set];split
  ·next e=>subst e;simp [hp]
  ·rfl
theorem db {w:Wk} {i:Nat} (h:CI w.c) (hi:i<w.c.procs.length) (hw:(w.pc i).waiting=true) :
  CI (az w i).c∧bY (az w i).c.procs+1=bY w.c.procs∧Kp w (az w i)∧(az w i).c.procs=w.c.procs.set i { w.pc i with waiting:=false,req:=Rq.zero,since:=0 }∧∀n,aS (az w i).c.queues n=true→FitR (az w i).c.queues n (w.pc i):=by
 have hpc:=bG hi;have hinv:=h.inv _ (List.getElem_mem hi);rw [←hpc] at hinv;obtain ⟨hwt,hfit⟩:=hinv.wat hw;obtain ⟨hve,hrsl⟩:=mK hwt.rs;obtain ⟨hws,hfr,hdt⟩:=pK (cJ (w.pc i).req.expr) w (w.pc i) h.tv hinv.stat (ky _) hrsl hfit;have e:az w i=gg (cO (w.pc i) (cJ (w.pc i).req.expr) w) i:=rfl;generalize hg:cO (w.pc i) (cJ (w.pc i).req.expr) w=g at *
 rw [e];have hgi:i<g.c.procs.length:=by rw [hws.procs];exact hi
 have hgp:g.pc i=w.pc i:=by unfold Wk.pc;rw [hws.procs]
 have hps:(gg g i).c.procs=w.c.procs.set i { w.pc i with waiting:=false,req:=Rq.zero,since:=0 }:=by
  unfold gg Wk.setP;rw [hgp];show g.c.procs.set i _=_;rw [hws.procs]
 have hfin:PInv g.c.queues g.c.now { w.pc i with waiting:=false,req:=Rq.zero,since:=0 }:=wt (hinv.stat.tp hws.tp) fun n hn=>hfr n (by rw [hws.tp.hasE] at hn;exact hn);refine ⟨h.upd (c':=(gg g i).c) hi hps hws.now (by rw [hpc]) hws.tp hfin,?_,⟨by rw [hps];exact KW.set rfl,hws.now,by rw [hps];exact eN hi (by rw [hpc]),hws.tp.nm⟩,hps,fun n hn=>hfr n (by
  have h5:aS g.c.queues n=true:=hn;rw [hws.tp.hasE] at h5;exact h5)⟩
 rw [hps];exact te hi (by rw [←hpc];exact hw) rfl
theorem gw {w:Wk} {i:Nat} (h:CI w.c) (hi:i<w.c.procs.length) (hw:(w.pc i).waiting=false):CI (aY w i).c∧Kp w (aY w i)∧bY (aY w i).c.procs=bY w.c.procs:=by
 have hpc:=bG hi;have hinv:=h.inv _ (List.getElem_mem hi);rw [←hpc] at hinv;have hps:(aY w i).c.procs=w.c.procs.set i { w.pc i with gen:=aJ (w.pc i).gen }:=rfl;refine ⟨h.upd (c':=(aY w i).c) hi hps rfl (by rw [hpc]) (TP.refl h.tv _) (hinv.regen _),⟨by rw [hps];exact KW.set hw,rfl,by rw [hps];exact eN hi (by rw [hpc]),rfl⟩,?_⟩;rw [hps];unfold bY;have gen:∀(l:List Pc) (i:Nat) (y:Pc),(∀h:i<l.length,l[i].waiting=y.waiting)→((l.set i y).filter (·.waiting)).length=(l.filter (·.waiting)).length:=by
  intro l;induction l with
  | nil=>intro i y _;rfl
  | cons x l ih =>
   intro i y hxy;cases i with
   | zero =>
    have:x.waiting=y.waiting:=hxy (by simp);rw [List.set_cons_zero,List.filter_cons,List.filter_cons,this];cases y.waiting <;> rfl
   | succ i =>
    have:=ih i y (fun h=>by have:=hxy (by simpa using h);simpa using this);rw [List.set_cons_succ,List.filter_cons,List.filter_cons];cases x.waiting with
    | true=>rw [if_pos rfl,if_pos rfl,List.length_cons,List.length_cons,this]
    | false=>rw [if_neg (by simp),if_neg (by simp),this]
 exact gen _ _ _ fun h=>by rw [←hpc]
theorem xP {w:Wk} {i:Nat} (h:CI w.c) (hi:i<w.c.procs.length) (hw:(w.pc i).waiting=true):DrT (w.pc i) (cJ (w.pc i).req.expr) w:=by
 have hpc:=bG hi;have hinv:=h.inv _ (List.getElem_mem hi);rw [←hpc] at hinv;obtain ⟨hwt,hfit⟩:=hinv.wat hw;obtain ⟨hve,hrsl⟩:=mK hwt.rs;exact (pK (cJ (w.pc i).req.expr) w (w.pc i) h.tv hinv.stat (ky _) hrsl hfit).2.2
def IJ (w:Wk) (i:Nat) (r:Rq):Wk:=aY (w.setP i { w.pc i with waiting:=true,req:=r,since:=w.c.now }) i
def CD (w:Wk) (i:Nat) (r:Rq):Wk:=co (w.pc i).proc r.prio (cJ r.expr) (IJ w i r)
theorem nJ {w:Wk} {i:Nat} {r:Rq} (h:CI w.c) (hi:i<w.c.procs.length) (hw:(w.pc i).waiting=false) (hq:sV r=true) (hr:iP w.c.queues r.expr=0) :
  CI (CD w i r).c∧(CD w i r).c.procs=w.c.procs.set i { w.pc i with waiting:=true,req:=r,since:=w.c.now,gen:=aJ (w.pc i).gen }∧(CD w i r).c.now=w.c.now∧dN (CD w i r).c.queues=dN w.c.queues:=by
 have hpc:=bG hi;unfold CD IJ;have hinv:=h.inv _ (List.getElem_mem hi);rw [←hpc] at hinv;obtain ⟨_,_,hrun⟩:=hinv.run hw;obtain ⟨hve,hrsl⟩:=mK hr;have hx:aY (w.setP i { w.pc i with waiting:=true,req:=r,since:=w.c.now }) i=w.setP i { w.pc i with waiting:=true,req:=r,since:=w.c.now,gen:=aJ (w.pc i).gen }:=by
  unfold aY;rw [eM hi,fa]
 rw [hx];have hst:PStat w.c.queues { w.pc i with waiting:=true,req:=r,since:=w.c.now,gen:=aJ (w.pc i).gen }:=⟨hinv.stat.vp,hinv.stat.cost,hinv.stat.led,by have:=lD (n:=(w.pc i).gen);show 0≤aJ (w.pc i).gen∧aJ (w.pc i).gen≤1073741824;omega,hinv.stat.hf⟩;have hprio:0≤r.prio∧r.prio≤7:=by unfold sV at hq;simp only [Bool.and_eq_true,decide_eq_true_eq] at hq;exact ⟨hq.1.1.1.2,hq.1.1.2⟩
 obtain ⟨hws,hfw,_⟩:=ta (w.c.procs.map (fun x:Pc=>x.proc)) (by simpa using h.len) (cJ r.expr) [] (w.setP i { w.pc i with waiting:=true,req:=r,since:=w.c.now,gen:=aJ (w.pc i).gen }) { w.pc i with waiting:=true,req:=r,since:=w.c.now,gen:=aJ (w.pc i).gen } h.tv hst (List.mem_map.2 ⟨_,List.getElem_mem hi,by rw [←hpc]⟩) h.cov hprio (ky _) hrsl
  (fun n hn=>by
   have h1:FitR w.c.queues n { w.pc i with waiting:=true,req:=r,since:=w.c.now,gen:=aJ (w.pc i).gen }:=(hrun n hn).led rfl rfl;refine ⟨fun h2=>?_,fun a _=>h1⟩;unfold FitW;rw [List.nil_append,h2];exact h1)
 rw [List.nil_append] at hfw;have e:co (w.pc i).proc r.prio (cJ r.expr) (w.setP i { w.pc i with waiting:=true,req:=r,since:=w.c.now,gen:=aJ (w.pc i).gen })=co ({ w.pc i with waiting:=true,req:=r,since:=w.c.now,gen:=aJ (w.pc i).gen }:Pc).proc ({ w.pc i with waiting:=true,req:=r,since:=w.c.now,gen:=aJ (w.pc i).gen }:Pc).req.prio (cJ r.expr) (w.setP i { w.pc i with waiting:=true,req:=r,since:=w.c.now,gen:=aJ (w.pc i).gen }):=rfl;rw [e];generalize co ({ w.pc i with waiting:=true,req:=r,since:=w.c.now,gen:=aJ (w.pc i).gen }:Pc).proc ({ w.pc i with waiting:=true,req:=r,since:=w.c.now,gen:=aJ (w.pc i).gen }:Pc).req.prio (cJ r.expr) (w.setP i { w.pc i with waiting:=true,req:=r,since:=w.c.now,gen:=aJ (w.pc i).gen })=g at *
 have hps:g.c.procs=w.c.procs.set i { w.pc i with waiting:=true,req:=r,since:=w.c.now,gen:=aJ (w.pc i).gen }:=hws.procs;have hnow:g.c.now=w.c.now:=hws.now;have hpv:PInv g.c.queues g.c.now { w.pc i with waiting:=true,req:=r,since:=w.c.now,gen:=aJ (w.pc i).gen }:=by
  refine ⟨hst.tp hws.tp,fun hf=>(by cases hf),fun _=>⟨⟨hq,?_,?_⟩,fun n hn=>?_⟩⟩
  ·rw [yX hws.tp];exact hr
  ·rw [hnow];exact ⟨h.now.1,Int.le_refl _⟩
  ·exact hfw n (by rw [hws.tp.hasE] at hn;exact hn)
 have hci:=h.upd (c':=g.c) hi hps hnow (by rw [hpc]) hws.tp hpv;exact ⟨hci,hps,hnow,hws.tp.nm⟩
theorem pT {w:Wk} {i:Nat} {r:Rq} (h:CI w.c) (hi:i<w.c.procs.length) (he:(ck w i r).2=0) :
  CI (ck w i r).1.c∧(∀x∈(ck w i r).1.c.procs,dP (ck w i r).1.c.queues x=false)∧(ck w i r).1.c.now=w.c.now∧(ck w i r).1.c.procs.map (·.proc)=w.c.procs.map (·.proc)∧(∀x∈(ck w i r).1.c.procs,x.waiting=true→x∈w.c.procs∨(x = { w.pc i with waiting:=true,req:=r,since:=w.c.now,gen:=aJ (w.pc i).gen }))∧KG w.c.procs (ck w i r).1.c.procs∧dN (ck w i r).1.c.queues=dN w.c.queues:=by
 unfold ck at he ⊢;cases hw:(w.pc i).waiting with
 | true=>rw [hw] at he;simp at he
 | false =>
  rw [hw] at he;simp only [cond_false] at he ⊢;cases hq:sV r with
  | false=>rw [hq] at he;simp at he
  | true =>
   rw [hq] at he;simp only [Bool.not_true,cond_false] at he ⊢;by_cases hr:iP w.c.queues r.expr=0
   ·rw [decide_eq_true hr];simp only [Bool.not_true,cond_false];have hpc:=bG hi;obtain ⟨hci,hps,hnow,hnm⟩:=nJ h hi hw hq hr;have e:co (w.pc i).proc r.prio (cJ r.expr) (aY (w.setP i { w.pc i with waiting:=true,req:=r,since:=w.c.now }) i)=CD w i r:=rfl;rw [e];generalize CD w i r=g at *
    obtain ⟨k1,k2,k3⟩:=fW hci;refine ⟨k1,k2,k3.now.trans hnow,k3.pr.trans (by rw [hps];exact eN hi (by rw [hpc])),fun x hx hxw=>?_,KG.trans (by rw [hps];exact KG.set hi (GrP.led (by rw [hpc]) (by rw [hpc]))) (jK hci).gr,k3.nm.trans hnm⟩;have h5:=k3.kw x hx hxw;rw [hps] at h5;rcases List.mem_or_eq_of_mem_set h5 with h6|rfl
    ·exact .inl h6
    ·exact .inr rfl
   ·rw [decide_eq_false hr] at he;simp only [Bool.not_false,cond_true] at he;exact absurd he hr
theorem AB {g:Lg} (h:Ld g) {n:ByteArray} (hn:ay g.entries n≠⟨0,0⟩):(gU g n).1=fh g n:=by
 have hne:(fh g n).entries.length≠g.entries.length:=by
  intro e;have h1:g.entries.filter (oth n)=g.entries:=List.Sublist.eq_of_length List.filter_sublist e;have h2:=fN n n g.entries;rw [h1,if_pos rfl] at h2;exact hn h2
 unfold gU;rw [fc.2 h,decide_eq_false hne];rfl
def ry (w:Wk) (i:Nat) (n:ByteArray):Wk:=aY ((eJ w (w.pc i).proc ⟨n,⟨0,0⟩⟩).setP i { w.pc i with led:=(gU (w.pc i).led n).1 }) i
theorem nK {w:Wk} {i:Nat} {n:ByteArray} (h:CI w.c) (hi:i<w.c.procs.length) (hw:(w.pc i).waiting=false) (h0:ay (w.pc i).led.entries n≠⟨0,0⟩) :
  CI (ry w i n).c∧(ry w i n).c.procs=w.c.procs.set i { w.pc i with led:=fh (w.pc i).led n,gen:=aJ (w.pc i).gen }∧(ry w i n).c.now=w.c.now∧dN (ry w i n).c.queues=dN w.c.queues:=by
 have hpc:=bG hi;unfold ry;have hinv:=h.inv _ (List.getElem_mem hi);rw [←hpc] at hinv;obtain ⟨hrq,hsn,hrun⟩:=hinv.run hw;obtain ⟨hn,hfit⟩:=hinv.stat.hf n h0;have hfr:=hrun n hn;have hcov:a8 (a6 w.c.queues n).res (ao (a6 w.c.queues n).holds (w.pc i).proc) ⟨0,0⟩=true:=by
  rw [hfr.h];have p0:aX (a6 w.c.queues n).res ⟨0,0⟩=true:=by unfold aX aG;rw [jI h.tv hn];rfl
  unfold a8;rw [cw hfit,p0];rfl
 obtain ⟨_,hst,k1,k2⟩:=mH (p:=(w.pc i).proc) (a:=⟨n,⟨0,0⟩⟩) h.tv hn (by rw [hfr.h];exact h0) hfr.w hcov;have hws:WS w (eJ w (w.pc i).proc ⟨n,⟨0,0⟩⟩) (w.pc i).proc (· = n):=WS.take h.tv hst;generalize hg:eJ w (w.pc i).proc ⟨n,⟨0,0⟩⟩=g at *
 have hgq:g.c.queues=(cg w.c.queues (w.pc i).proc ⟨n,⟨0,0⟩⟩).1:=by rw [←hg];rfl
 rw [←hgq] at k1 k2;have hgi:i<g.c.procs.length:=by rw [hws.procs];exact hi
 have hgp:g.pc i=w.pc i:=by unfold Wk.pc;rw [hws.procs]
 have hdr:=AB hinv.stat.led h0;have hx:aY (g.setP i { w.pc i with led:=(gU (w.pc i).led n).1 }) i=g.setP i { w.pc i with led:=fh (w.pc i).led n,gen:=aJ (w.pc i).gen }:=by
  unfold aY;rw [eM hgi,fa,hdr]
 rw [hx];have hlh:∀m,fv { w.pc i with led:=fh (w.pc i).led n,gen:=aJ (w.pc i).gen } m=if m=n then ⟨0,0⟩ else fv (w.pc i) m:=fun m=>fN n m _
 have hps:(g.setP i { w.pc i with led:=fh (w.pc i).led n,gen:=aJ (w.pc i).gen }).c.procs=w.c.procs.set i { w.pc i with led:=fh (w.pc i).led n,gen:=aJ (w.pc i).gen }:=by
  show g.c.procs.set i _=_;rw [hws.procs]
 have hpv:PInv g.c.queues g.c.now { w.pc i with led:=fh (w.pc i).led n,gen:=aJ (w.pc i).gen }:=by
  refine ⟨⟨hinv.stat.vp,hinv.stat.cost,Em hinv.stat.led n,by have:=lD (n:=(w.pc i).gen);show 0≤aJ (w.pc i).gen∧aJ (w.pc i).gen≤1073741824;omega,fun m hm=>?_⟩,fun _=>⟨hrq,hsn,fun m hm=>?_⟩,fun hf=>by
   have:(w.pc i).waiting=true:=hf;rw [hw] at this;cases this⟩
  ·rw [hlh] at hm ⊢;by_cases e:m=n
   ·rw [if_pos e] at hm;exact absurd rfl hm
   ·rw [if_neg e] at hm ⊢;exact (hinv.stat.tp hws.tp).hf m hm
  ·rw [hws.tp.hasE] at hm;by_cases e:m=n
   ·subst e;exact ⟨by rw [hlh,if_pos rfl];exact k1,k2⟩
   ·have e1:=hws.oth m e hm;exact ((hrun m hm).eq e1).led rfl (by rw [hlh,if_neg e])
 have hci:=h.upd (c':=(g.setP i { w.pc i with led:=fh (w.pc i).led n,gen:=aJ (w.pc i).gen }).c) hi hps hws.now (by rw [hpc]) hws.tp hpv;exact ⟨hci,hps,hws.now,hws.tp.nm⟩
theorem pU {w:Wk} {i:Nat} {n:ByteArray} (h:CI w.c) (hi:i<w.c.procs.length) (he:(dJ w i n).2=0) :
  CI (dJ w i n).1.c∧(∀x∈(dJ w i n).1.c.procs,dP (dJ w i n).1.c.queues x=false)∧Kp w (dJ w i n).1∧KO (w.pc i).proc w.c.procs (dJ w i n).1.c.procs:=by
 unfold dJ at he ⊢;cases hw:(w.pc i).waiting with
 | true=>rw [hw] at he;simp at he
 | false =>
  rw [hw] at he;simp only [cond_false] at he ⊢;by_cases h0:ay (w.pc i).led.entries n=⟨0,0⟩
  ·rw [decide_eq_true h0] at he;simp at he
  ·rw [decide_eq_false h0];simp only [cond_false];have hpc:=bG hi;obtain ⟨hci,hps,hnow,hnm⟩:=nK h hi hw h0;have e:aY ((eJ w (w.pc i).proc ⟨n,⟨0,0⟩⟩).setP i { (eJ w (w.pc i).proc ⟨n,⟨0,0⟩⟩).pc i with led:=(gU ((eJ w (w.pc i).proc ⟨n,⟨0,0⟩⟩).pc i).led n).1 }) i=ry w i n:=rfl;rw [e];generalize ry w i n=g at *
   obtain ⟨q1,q2,q3⟩:=fW hci;have hk:Kp w g:=⟨by rw [hps];exact KW.set hw,hnow,by rw [hps];exact eN hi (by rw [hpc]),hnm⟩;exact ⟨q1,q2,hk.trans q3,KO.then (by rw [hps];exact KO.set hi (by rw [hpc]) _) (jK hci).gr⟩
theorem pV {r:Rs} {b a:Am} (hb:aC r b=true) (h:a=⟨0,0⟩∨Fp b a):a8 r b a=true:=by
 have hs:aU r=true:=by unfold aC at hb;rw [Bool.and_eq_true] at hb;exact hb.1
 rcases h with rfl|h
 ·have p0:aX r ⟨0,0⟩=true:=by unfold aX aG;rw [hs];rfl
  unfold a8;rw [cw hb,p0];rfl
 ·rcases h with rfl|⟨h1,h2,h3⟩
  ·exact pi hb
  ·have hfb:=hb;unfold aC at hfb;have key:aC r a=true∧(if r.kind=1 then cS b.mode a.mode else decide (a.units≤b.units))=true:=by
    rcases bQ hs with ⟨hk,_⟩|⟨hk,_⟩
    ·rw [if_pos hk] at hfb ⊢;simp only [Bool.and_eq_true,decide_eq_true_eq,eW] at hfb;rcases h3 with ⟨h4,h5⟩|⟨_,h4,_⟩
     ·refine ⟨?_,h5⟩;unfold aC;rw [if_pos hk,hs];rcases cL h1 with ⟨h6,h7⟩|⟨h6,_⟩
      ·rw [h6,h7];rfl
      ·exact absurd h6 h4
     ·omega
    ·have hk1:¬r.kind=1:=by omega
     rw [if_neg hk1] at hfb ⊢;simp only [Bool.and_eq_true,decide_eq_true_eq] at hfb;rcases h3 with ⟨_,h5⟩|⟨h4,_,h5⟩
     ·rw [lJ] at h5;omega
     ·refine ⟨?_,by rw [decide_eq_true_eq];omega⟩;unfold aC;rw [if_neg hk1,hs];simp only [Bool.and_eq_true,decide_eq_true_eq,Bool.true_and];rcases cL h1 with ⟨h6,_⟩|⟨_,h6,_⟩
      ·rw [eW] at h6;omega
      ·omega
   unfold a8;rw [cw hb,cw key.1,dC hb,key.2];simp
def LwT (p:Pr):List Tm→Wk→Prop
 | [],_=>True
 | a :: l,w=>aS w.c.queues a.name=true∧LwT p l (bX w p a.name a.am)
theorem tf:∀(l:List Tm) (w:Wk) (x y:Pc),dl w.c.queues=true→PStat w.c.queues x→y.proc=x.proc→A8 l→
  (∀a∈l,a.am=fv y a.name∧fv x a.name≠⟨0,0⟩∧(a.am=⟨0,0⟩∨Fp (fv x a.name) a.am))→
  (∀n,aS w.c.queues n=true→(∀a,cG l n=some a→FitR w.c.queues n x)∧(cG l n=none→FitR w.c.queues n y))→
  WS w (bH x.proc l w) x.proc (fun _=>True)∧(∀n,aS w.c.queues n=true→FitR (bH x.proc l w).c.queues n y)∧LwT x.proc l w
 | [],w,x,y,hv,_,_,_,_,hf=>⟨WS.refl hv _ _,fun n hn=>(hf n hn).2 rfl,trivial⟩
 | a :: l,w,x,y,hv,hs,hp,hnd,hl,hf=>by
  obtain ⟨h1,h2⟩:=List.pairwise_cons.1 hnd;obtain ⟨e1,e2,e3⟩:=hl a (by simp);obtain ⟨hn,hfit⟩:=hs.hf a.name e2;have hfr:FitR w.c.queues a.name x:=(hf a.name hn).1 a (by rw [cA,aP.2 rfl];rfl);have hnone:cG l a.name=none:=gm.2 fun b hb e=>h1 b hb e.symm;have hat:∀n,n≠a.name→cG (a :: l) n=cG l n:=fun n hn=>by rw [cA,bJ.2 (fun h=>hn h.symm)];rfl
  have step:∃g,bX w x.proc a.name a.am=g∧WS w g x.proc (· = a.name)∧FitR g.c.queues a.name y:=by
   unfold bX;by_cases hd:ao (a6 w.c.queues a.name).holds x.proc=a.am
   ·rw [decide_eq_true hd];exact ⟨w,rfl,WS.refl hv _ _,by rw [hp,hd,e1],by rw [hp];exact hfr.w⟩
   ·rw [decide_eq_false hd];obtain ⟨_,hst,k1,k2⟩:=mH (p:=x.proc) (a:=⟨a.name,a.am⟩) hv hn (by rw [hfr.h];exact e2) hfr.w (by rw [hfr.h];exact pV hfit e3);exact ⟨_,rfl,WS.take hv hst,by rw [hp,←e1];exact k1,by rw [hp];exact k2⟩
  obtain ⟨g,hg,hws,hfy⟩:=step;have e:bH x.proc (a :: l) w=bH x.proc l g:=by
   show bH x.proc l (bX w x.proc a.name a.am)=_;rw [hg]
  rw [e];have ih:=tf l g x y hws.tp.v (hs.tp hws.tp) hp h2 (fun b hb=>hl b (by simp [hb])) (fun n hn2=>by
   rw [hws.tp.hasE] at hn2;by_cases en:n=a.name
   ·subst en;exact ⟨fun b hb=>(by rw [hnone] at hb;cases hb),fun _=>hfy⟩
   ·have h3:=hf n hn2;rw [hat n en] at h3;have e4:=hws.oth n en hn2;exact ⟨fun b hb=>(h3.1 b hb).eq e4,fun h4=>(h3.2 h4).eq e4⟩)
  exact ⟨(hws.mono fun _ _=>trivial).trans ih.1,fun n hn2=>ih.2.1 n (by rw [hws.tp.hasE];exact hn2),hn,by rw [hg];exact ih.2.2⟩
theorem fb (n:ByteArray):∀(m:List En) (a:Am),(∀e∈m,e.name≠n)→di n a m=a
 | [],_,_=>rfl
 | e :: m,a,h=>by
  show di n (bif aZ e.name n then e.after else a) m=a;rw [bJ.2 (h e (by simp))];exact fb n m a fun f hf=>h f (by simp [hf])
theorem pW {l:List En} {k:Nat} {n:ByteArray} (h:n ∉ bS (l.drop k)):ay l n=ay (l.take k) n:=by
 conv=>lhs;rw [←List.take_append_drop k l]
 unfold ay;rw [kt,fb n (l.drop k) _ fun e he e2=>h (dj.2 ⟨e,he,e2⟩)]
structure Rest (w w1:Wk) (i:Nat):Prop where
 ci:CI w1.c
 hi:i<w1.c.procs.length
 kp:Kp w w1
 led:(w1.pc i).led=(w.pc i).led
 proc:(w1.pc i).proc=(w.pc i).proc
 run:(w1.pc i).waiting=false
 kg:KG w.c.procs w1.c.procs
theorem y5 {w:Wk} {i:Nat} (h:CI w.c) (hi:i<w.c.procs.length):Rest w (bif (w.pc i).waiting then az w i else w) i:=by
 cases hw:(w.pc i).waiting with
 | false=>exact ⟨h,hi,⟨KW.refl _,rfl,rfl,rfl⟩,rfl,rfl,hw,KG.refl _⟩
 | true =>
  obtain ⟨k1,_,k3,k4,_⟩:=db h hi hw;have hlen:i<(az w i).c.procs.length:=by rw [k3.len];exact hi
  have hp:(az w i).pc i = { w.pc i with waiting:=false,req:=Rq.zero,since:=0 }:=by rw [bG hlen];simp [k4]
  exact ⟨k1,hlen,k3,by rw [cond_true,hp],by rw [cond_true,hp],by rw [cond_true,hp],by rw [cond_true,k4];exact KG.set hi (GrP.led (by rw [bG hi]) (by rw [bG hi]))⟩
def kz (w:Wk) (i:Nat):Wk:=bif (w.pc i).waiting then az w i else w
def xQ (w:Wk) (i:Nat) (n:Int):Wk:=(kz w i).setP i { (kz w i).pc i with led:=(dq (w.pc i).led n).1 }
def nZ (w:Wk) (i:Nat) (n:Int):Wk:=aY (bH (w.pc i).proc (dq (w.pc i).led n).2.1 (xQ w i n)) i
theorem lW {w:Wk} {i:Nat} {n:Int} (h:CI w.c) (hi:i<w.c.procs.length) (hu:(dq (w.pc i).led n).2.2=0) :
  LwT (w.pc i).proc (dq (w.pc i).led n).2.1 (xQ w i n)∧CI (nZ w i n).c∧Kp w (nZ w i n)∧KO (w.pc i).proc w.c.procs (nZ w i n).c.procs∧∃y∈(nZ w i n).c.procs,y.proc=(w.pc i).proc∧y.waiting=false∧y.led=bW (w.pc i).led n:=by
 obtain ⟨hld,hld2,hue,htk⟩:=Ek hu;have hr:Rest w (kz w i) i:=y5 h hi;unfold nZ xQ;generalize kz w i=w1 at *
 have hpc:=bG hr.hi;have hinv:=hr.ci.inv _ (List.getElem_mem hr.hi);rw [←hpc] at hinv;obtain ⟨hrq,hsn,hrun⟩:=hinv.run hr.run;rw [hue];dsimp only;have hst:=hinv.stat;have hlt:∀m,fv { w1.pc i with led:=bW (w.pc i).led n } m=ay ((w1.pc i).led.entries.take (bW (w.pc i).led n).entries.length) m:=by
  intro m;show ay (bW (w.pc i).led n).entries m=_;rw [hr.led];exact congrArg (ay · m) htk
 have hst2:PStat w1.c.queues { w1.pc i with led:=bW (w.pc i).led n }:=by
  refine ⟨hst.vp,hst.cost,hld2,hst.gen,fun m hm=>?_⟩;rw [hlt] at hm ⊢;rcases sO hst.led.ents m (bW (w.pc i).led n).entries.length with h1|h1
  ·exact absurd h1 hm
  ·have hne:fv (w1.pc i) m≠⟨0,0⟩:=by
    intro e0;have e0':ay (w1.pc i).led.entries m=⟨0,0⟩:=e0;rw [e0'] at h1;rcases h1 with h1|⟨_,h2,_⟩
    ·exact hm h1
    ·exact absurd h2 (by decide)
   obtain ⟨k1,k2⟩:=hst.hf m hne;refine ⟨k1,?_⟩;have hc:=pV k2 (.inr h1);unfold a8 aX at hc;simp only [Bool.and_eq_true,Bool.or_eq_true] at hc;rcases hc.1.2.2 with h3|h3
   ·exact absurd (of_decide_eq_true h3) hm
   ·exact h3
 have hw2:(w1.setP i { w1.pc i with led:=bW (w.pc i).led n }).c.queues=w1.c.queues:=rfl;obtain ⟨hws,hfy,hlw⟩:=tf ((bS ((w.pc i).led.entries.drop (bW (w.pc i).led n).entries.length)).map fun m=>(⟨m,ay (bW (w.pc i).led n).entries m⟩:Tm)) (w1.setP i { w1.pc i with led:=bW (w.pc i).led n }) (w1.pc i) { w1.pc i with led:=bW (w.pc i).led n } hr.ci.tv hst rfl
  (by
   have h1:=kv (eV ((w.pc i).led.entries.drop (bW (w.pc i).led n).entries.length));unfold A8;rw [List.pairwise_map];exact h1.imp fun {a b} (hab:a≠b)=>hab)
  (fun a ha=>by
   obtain ⟨m,hm,rfl⟩:=List.mem_map.1 ha;refine ⟨rfl,?_,?_⟩
   ·obtain ⟨e,he2,hen⟩:=dj.1 hm;have:=yZ hld.ents e (List.mem_of_mem_drop he2);rw [hen,←hr.led] at this;exact this
   ·have h1:=sO hst.led.ents m (bW (w.pc i).led n).entries.length;rw [←hlt m] at h1;exact h1)
  (fun m hm=>by
   have hm':aS w1.c.queues m=true:=hm;refine ⟨fun a _=>hrun m hm',fun hno=>(hrun m hm').led rfl ?_⟩;rw [hlt];have h1:m ∉ bS ((w1.pc i).led.entries.drop (bW (w.pc i).led n).entries.length):=by
    rw [hr.led];intro hmem;exact gm.1 hno ⟨m,ay (bW (w.pc i).led n).entries m⟩ (List.mem_map.2 ⟨m,hmem,rfl⟩) rfl
   exact (pW h1).symm)
 rw [←hr.proc];refine ⟨hlw,?_⟩;clear hlw;generalize bH (w1.pc i).proc ((bS ((w.pc i).led.entries.drop (bW (w.pc i).led n).entries.length)).map fun m=>(⟨m,ay (bW (w.pc i).led n).entries m⟩:Tm)) (w1.setP i { w1.pc i with led:=bW (w.pc i).led n })=g at *
 have hps:g.c.procs=w1.c.procs.set i { w1.pc i with led:=bW (w.pc i).led n }:=hws.procs;have hpv:PInv g.c.queues g.c.now { w1.pc i with led:=bW (w.pc i).led n } :=
  ⟨hst2.tp hws.tp,fun _=>⟨hrq,hsn,fun m hm=>hfy m (by
   rw [hws.tp.hasE] at hm;exact hm)⟩,fun hf=>by
   have:(w1.pc i).waiting=true:=hf;rw [hr.run] at this;cases this⟩
 have hci:=hr.ci.upd (c':=g.c) hr.hi hps hws.now (by rw [hpc]) hws.tp hpv;have hgi:i<g.c.procs.length:=by rw [hps];simpa using hr.hi
 have hgp:g.pc i = { w1.pc i with led:=bW (w.pc i).led n }:=by rw [bG hgi];simp [hps]
 obtain ⟨n1,n2,_⟩:=gw hci hgi (by rw [hgp];exact hr.run);have hk:Kp w1 g:=⟨by rw [hps];exact KW.set hr.run,hws.now,by rw [hps];exact eN hr.hi (by rw [hpc]),hws.tp.nm⟩;refine ⟨n1,(hr.kp.trans hk).trans n2,?_,?_⟩
 ·refine KO.then (KO.pre hr.kg ?_) (EK hgi);rw [hps];exact KO.set hr.hi (by rw [←hpc]) _
 ·refine ⟨{ g.pc i with gen:=aJ (g.pc i).gen },List.mem_iff_getElem.2 ⟨i,by show i<(g.c.procs.set i _).length;simpa using hgi,by show (g.c.procs.set i _)[i]'_=_;simp⟩,?_,?_,?_⟩
  ·show (g.pc i).proc=_;rw [hgp]
  ·show (g.pc i).waiting=false;rw [hgp];exact hr.run
  ·show (g.pc i).led=_;rw [hgp]
theorem nL {w:Wk} {i:Nat} {n:Int} (h:CI w.c) (hi:i<w.c.procs.length) (he:(cy w i n).2=0) :
  CI (cy w i n).1.c∧(∀x∈(cy w i n).1.c.procs,dP (cy w i n).1.c.queues x=false)∧Kp w (cy w i n).1∧KO (w.pc i).proc w.c.procs (cy w i n).1.c.procs∧∃y∈(cy w i n).1.c.procs,y.proc=(w.pc i).proc∧y.waiting=false∧y.led=bW (w.pc i).led n:=by
 unfold cy at he ⊢;by_cases hu:(dq (w.pc i).led n).2.2=0
 ·rw [decide_eq_true hu];simp only [Bool.not_true,cond_false];obtain ⟨_,n1,n2,hko,y,hy,hy1,hy2,hy3⟩:=lW h hi hu;have e:aY (bH (w.pc i).proc (dq (w.pc i).led n).2.1 ((bif (w.pc i).waiting then az w i else w).setP i { (bif (w.pc i).waiting then az w i else w).pc i with led:=(dq (w.pc i).led n).1 })) i=nZ w i n:=rfl;rw [e];generalize nZ w i n=g at *
  obtain ⟨q1,q2,q3⟩:=fW n1;have hkn:=jK n1;exact ⟨q1,q2,n2.trans q3,hko.then hkn.gr,y,hkn.nw _ hy hy2,hy1,hy2,hy3⟩
 ·rw [decide_eq_false hu] at he;simp only [Bool.not_false,cond_true] at he;exact absurd he hu
def mL (p:Pr) (q:Qu):Qu:=bif !eQ q p then q else (aV q p).1
theorem nM (p:Pr):∀t:List Qu,(aN p t).1=t.map (mL p)
 | []=>rfl
 | q :: t=>by
  rw [List.map_cons,←nM p t];have e:aN p (q :: t)=bif !eQ q p then (q :: (aN p t).1,(aN p t).2) else
   ((aV q p).1 :: (aN p t).1,(bif aG (ao q.holds p) then [] else [⟨3,p,q.res.name,⟨0,0⟩⟩])++aM (aV q p).1.res.name (aV q p).2.1++(aN p t).2):=rfl
  rw [e];unfold mL;cases eQ q p <;> rfl
theorem jL {p:Pr} {q:Qu} (h:av q=true):Out q (mL p q) p∧eQ (mL p q) p=false:=by
 unfold mL;cases hh:eQ q p with
 | false=>exact ⟨Out.same p h,hh⟩
 | true =>
  obtain ⟨h1,h2,h3⟩:=vQ (ue h hh);refine ⟨h1,?_⟩;show eQ (aV q p).1 p=false;unfold eQ;rw [h2,h3];rfl
theorem wu {f:Qu→Qu} (hf:∀q,av q=true→av (f q)=true∧(f q).res=q.res):∀{l:List Qu} {o:Option ByteArray},jT o l=true→jT o (l.map f)=true
 | [],_,h=>h
 | q :: l,o,h=>by
  rw [du] at h;simp only [Bool.and_eq_true] at h;obtain ⟨h1,h2⟩:=hf q h.1.1;rw [List.map_cons,du,h2];simp only [Bool.and_eq_true];exact ⟨⟨h1,h.1.2⟩,wu hf h.2⟩
theorem tg {t:List Qu} (hv:dl t=true) (p:Pr):TP t (b9 t p).1 p∧p ∉ aB (b9 t p).1:=by
 have e:(b9 t p).1=t.map (mL p):=by
  unfold b9;rw [hv];exact nM p t
 rw [e];obtain ⟨h1,h2,h3⟩:=bE hv;have hsd:∀q∈t,av q=true:=fun q hq=>cj hv hq;have hnm:dN (t.map (mL p))=dN t:=by
  unfold dN;rw [List.map_map];exact List.map_congr_left fun q hq=>by
   show (mL p q).res.name=_;rw [(jL (hsd q hq)).1.res]
 have hnp:p ∉ aB (t.map (mL p)):=by
  intro hm;unfold aB at hm;rw [cI,eE] at hm;obtain ⟨q,hq,hpq⟩:=hm;obtain ⟨q0,hq0,rfl⟩:=List.mem_map.1 hq;have k:=jL (p:=p) (hsd q0 hq0);have:=(dh (aF k.1.ok) p).1 hpq;rw [k.2] at this;cases this
 have hsub:∀r∈aB (t.map (mL p)),r=p∨r∈aB t:=by
  intro r hr;by_cases hrp:r=p
  ·exact .inl hrp
  ·right
   unfold aB at hr ⊢;rw [cI,eE] at hr ⊢;obtain ⟨q,hq,hrq⟩:=hr;obtain ⟨q0,hq0,rfl⟩:=List.mem_map.1 hq;have k:=jL (p:=p) (hsd q0 hq0);exact ⟨q0,hq0,(dh (aF (hsd q0 hq0)) r).2 ((k.1.eff r hrp).has ((dh (aF k.1.ok) r).1 hrq))⟩
 refine ⟨⟨?_,hnm,fun n hn=>?_,hsub⟩,hnp⟩
 ·unfold dl f7;simp only [Bool.and_eq_true,decide_eq_true_eq];refine ⟨⟨by simpa using h1,wu (fun q hq=>⟨(jL hq).1.ok,(jL hq).1.res⟩) h2⟩,?_⟩;have:=gf (m:=aB t) (eF (t.map (mL p))) fun r hr=>by
   rcases hsub r hr with e|e
   ·exact absurd (e▸hr) hnp
   ·exact e
  omega
 ·obtain ⟨i,hi,e1,e2,e3⟩:=mG hn;have e4:a6 (t.map (mL p)) n=mL p (a6 t n):=by
   rw [e3];unfold a6;rw [(fV hnm n).2,e1];simp [hi]
  rw [e4];exact (jL (cj hv (cW hn).1)).1
def Ia (w:Wk) (i:Nat):Wk:=Wk.note ⟨{ w.c with queues:=(b9 w.c.queues (w.pc i).proc).1,procs:=w.c.procs.eraseIdx i },w.ev++(b9 w.c.queues (w.pc i).proc).2⟩ 5 (w.pc i).proc
theorem wv {w:Wk} {i:Nat} (h:CI w.c) (hi:i<w.c.procs.length):CI (Ia w i).c:=by
 obtain ⟨htp,hnp⟩:=tg h.tv (w.pc i).proc;have hpc:=bG hi;have hmem:∀{x:Pc},x∈w.c.procs.eraseIdx i→x∈w.c.procs:=fun hx=>List.mem_of_mem_eraseIdx hx;have hne:∀x∈w.c.procs.eraseIdx i,x.proc≠(w.pc i).proc:=by
  intro x hx;obtain ⟨j,hj,hji,e⟩:=List.mem_eraseIdx_iff_getElem.1 hx;rw [hpc,←e];exact pQ h hj hi hji
 show CI ({ w.c with queues:=(b9 w.c.queues (w.pc i).proc).1,procs:=w.c.procs.eraseIdx i }:Cs);refine ⟨h.now,htp.v,?_,?_,fun r hr=>?_,fun x hx=>?_⟩
 ·have:=(List.eraseIdx_sublist w.c.procs i).length_le;have:=h.len;show (w.c.procs.eraseIdx i).length≤8;omega
 ·exact h.asc.sublist ((List.eraseIdx_sublist _ _).map _)
 ·have hrp:r≠(w.pc i).proc:=fun e=>hnp (e▸hr);rcases htp.sub r hr with e|e
  ·exact absurd e hrp
  ·obtain ⟨x,hx,hxr⟩:=List.mem_map.1 (h.cov r e);obtain ⟨j,hj,e2⟩:=List.mem_iff_getElem.1 hx;refine List.mem_map.2 ⟨x,List.mem_eraseIdx_iff_getElem.2 ⟨j,hj,fun e3=>?_,e2⟩,hxr⟩;subst e3;apply hrp
   rw [hpc,e2,hxr]
 ·exact (h.inv x (hmem hx)).tp htp (hne x hx)
theorem ux {w:Wk} {i:Nat} (h:CI w.c) (hi:i<w.c.procs.length):CI (fG w i).c∧(∀x∈(fG w i).c.procs,dP (fG w i).c.queues x=false)∧KW w.c.procs (fG w i).c.procs∧(fG w i).c.now=w.c.now∧(fG w i).c.procs.map (·.proc)=(w.c.procs.eraseIdx i).map (·.proc)∧KO (w.pc i).proc w.c.procs (fG w i).c.procs∧dN (fG w i).c.queues=dN w.c.queues:=by
 have htp:=(tg h.tv (w.pc i).proc).1;have hpc:=bG hi;have hmem:∀{x:Pc},x∈w.c.procs.eraseIdx i→x∈w.c.procs:=fun hx=>List.mem_of_mem_eraseIdx hx;have hci:CI (Ia w i).c:=wv h hi;have e:fG w i=bf (Wk.note ⟨{ w.c with queues:=(b9 w.c.queues (w.pc i).proc).1,procs:=w.c.procs.eraseIdx i },w.ev++(b9 w.c.queues (w.pc i).proc).2⟩ 5 (w.pc i).proc):=rfl;rw [e];obtain ⟨k1,k2,k3⟩:=fW (w:=Wk.note ⟨{ w.c with queues:=(b9 w.c.queues (w.pc i).proc).1,procs:=w.c.procs.eraseIdx i },w.ev++(b9 w.c.queues (w.pc i).proc).2⟩ 5 (w.pc i).proc) hci;refine ⟨k1,k2,fun x hx hw=>hmem (k3.kw x hx hw),k3.now,k3.pr,KO.then (fun x hx hxp=>?_) (jK (w:=Wk.note ⟨{ w.c with queues:=(b9 w.c.queues (w.pc i).proc).1,procs:=w.c.procs.eraseIdx i },w.ev++(b9 w.c.queues (w.pc i).proc).2⟩ 5 (w.pc i).proc) hci).gr,k3.nm.trans htp.nm⟩;obtain ⟨j,hj,e2⟩:=List.mem_iff_getElem.1 hx;exact ⟨x,List.mem_eraseIdx_iff_getElem.2 ⟨j,hj,fun e3=>by subst e3;rw [hpc,e2] at hxp;exact hxp rfl,e2⟩,GrP.refl x⟩
theorem CE {α:Type} {R:α→α→Prop} (irr:∀a,¬R a a) (asy:∀a b,R a b→¬R b a):∀{l l':List α},l.Pairwise R→l'.Pairwise R→(∀x,x∈l↔x∈l')→l=l'
 | [],[],_,_,_=>rfl
 | [],b :: m,_,_,h=>absurd ((h b).2 (by simp)) (by simp)
 | a :: l,[],_,_,h=>absurd ((h a).1 (by simp)) (by simp)
 | a :: l,b :: m,h1,h2,h=>by
  obtain ⟨k1,k2⟩:=List.pairwise_cons.1 h1;obtain ⟨k3,k4⟩:=List.pairwise_cons.1 h2;have hab:a=b:=by
   rcases List.mem_cons.1 ((h a).1 (by simp)) with e|e
   ·exact e
   ·rcases List.mem_cons.1 ((h b).2 (by simp)) with e2|e2
    ·exact e2.symm
    ·exact absurd (k1 b e2) (asy b a (k3 a e))
  subst hab;congr 1
  refine CE irr asy k2 k4 fun x=>⟨fun hx=>?_,fun hx=>?_⟩
  ·rcases List.mem_cons.1 ((h x).1 (by simp [hx])) with e|e
   ·subst e;exact absurd (k1 x hx) (irr x)
   ·exact e
  ·rcases List.mem_cons.1 ((h x).2 (by simp [hx])) with e|e
   ·subst e;exact absurd (k3 x hx) (irr x)
   ·exact e
def Hf (a b:Tm):Prop:=jE a.name b.name=true
theorem EL (a:Tm):¬Hf a a:=fun h=>by unfold Hf at h;rw [dH] at h;cases h
theorem EM (a b:Tm) (h:Hf a b):¬Hf b a:=fun k=>by
 have:=fU h k;rw [dH] at this;cases this
theorem g8 {g:Lg} {a:Tm}:a∈eH g↔ay g.entries a.name=a.am∧a.am≠⟨0,0⟩:=by
 unfold eH;rw [List.mem_filter,List.mem_map];constructor
 ·rintro ⟨⟨m,_,rfl⟩,h⟩;rw [Bool.not_eq_true',bb] at h;exact ⟨rfl,h⟩
 ·rintro ⟨h1,h2⟩;refine ⟨⟨a.name,?_,by rw [h1]⟩,by rw [Bool.not_eq_true',bb];exact h2⟩;refine Classical.byContradiction fun hn=>h2 ?_;rw [←h1];exact fb a.name g.entries ⟨0,0⟩ fun e he e2=>hn (dj.2 ⟨e,he,e2⟩)
theorem AC (g:Lg):(eH g).Pairwise Hf:=by
 unfold eH;refine List.Pairwise.sublist List.filter_sublist ?_;rw [List.pairwise_map];exact eV g.entries
theorem mM {t:List Qu} {p:Pr} {a:Tm}:a∈eI t p↔(∃q∈t,q.res.name=a.name∧ao q.holds p=a.am)∧a.am≠⟨0,0⟩:=by
 unfold eI;rw [List.mem_filter,List.mem_map,Bool.not_eq_true',bb];constructor
 ·rintro ⟨⟨q,hq,rfl⟩,h⟩;exact ⟨⟨q,hq,rfl,rfl⟩,h⟩
 ·rintro ⟨⟨q,hq,h1,h2⟩,h⟩;exact ⟨⟨q,hq,by rw [h1,h2]⟩,h⟩
theorem AD {t:List Qu} (hv:dl t=true) (p:Pr):(eI t p).Pairwise Hf:=by
 unfold eI;refine List.Pairwise.sublist List.filter_sublist ?_;rw [List.pairwise_map];have:=(jh (bE hv).2.1).1;unfold dN at this;rw [List.pairwise_map] at this;exact this
theorem jp {p:Pr}:∀{t:List Qu},cn p t=[]↔∀q∈t,ai q p=none
 | []=>by simp [cn]
 | q :: t=>by
  unfold cn;cases hw:ai q p with
  | some a =>
   constructor
   ·intro h;cases h
   ·intro h;have:=h q (by simp);rw [hw] at this;cases this
  | none =>
   dsimp only;rw [jp];constructor
   ·intro h x hx;rcases List.mem_cons.1 hx with rfl|hx
    ·exact hw
    ·exact h x hx
   ·intro h x hx;exact h x (by simp [hx])
theorem y6 {t:List Qu} {x:Pc} (hv:dl t=true) (hf:∀n,fv x n≠⟨0,0⟩→aS t n=true):(eH x.led=eI t x.proc∧cn x.proc t=[])↔∀n,aS t n=true→FitR t n x:=by
 constructor
 ·rintro ⟨h1,h2⟩ n hn;obtain ⟨hm,hnm⟩:=cW hn;refine ⟨?_,jp.1 h2 _ hm⟩;by_cases h0:ao (a6 t n).holds x.proc=⟨0,0⟩
  ·rw [h0];refine Classical.byContradiction fun hne=>?_;have h3:(⟨n,fv x n⟩:Tm)∈eH x.led:=g8.2 ⟨rfl,fun e=>hne e.symm⟩;rw [h1,mM] at h3;obtain ⟨⟨q,hq,e1,e2⟩,_⟩:=h3;have h4:=(jH hv hq).2;rw [show q.res.name=n from e1] at h4;rw [h4,e2] at h0;exact hne h0.symm
  ·have h3:(⟨n,ao (a6 t n).holds x.proc⟩:Tm)∈eI t x.proc:=mM.2 ⟨⟨_,hm,hnm,rfl⟩,h0⟩;rw [←h1,g8] at h3;exact h3.1.symm
 ·intro h;refine ⟨CE EL EM (AC x.led) (AD hv x.proc) fun a=>?_,jp.2 fun q hq=>?_⟩
  ·rw [g8,mM];constructor
   ·rintro ⟨h1,h2⟩;have hn:aS t a.name=true:=hf a.name (by show ay x.led.entries a.name≠_;rw [h1];exact h2);obtain ⟨hm,hnm⟩:=cW hn;exact ⟨⟨_,hm,hnm,by rw [(h a.name hn).h];exact h1⟩,h2⟩
   ·rintro ⟨⟨q,hq,e1,e2⟩,h2⟩;obtain ⟨hn,hqa⟩:=jH hv hq;rw [e1] at hn hqa;have:=(h a.name hn).h;rw [hqa,e2] at this;exact ⟨this.symm,h2⟩
  ·obtain ⟨hn,hqa⟩:=jH hv hq;have:=(h _ hn).w;rw [hqa] at this;exact this
theorem lX {α:Type} {o:Option α}:o.isSome=false↔o=none:=by cases o <;> simp
theorem nN {t:List Qu} {q:Qu} {x:Pc} (hq:a6 t q.res.name=q):(decide (ao q.holds x.proc=ay x.led.entries q.res.name) && !(ai q x.proc).isSome)=true↔FitR t q.res.name x:=by
 rw [Bool.and_eq_true,decide_eq_true_eq,Bool.not_eq_true',lX];constructor
 ·rintro ⟨h1,h2⟩;exact ⟨by rw [hq];exact h1,by rw [hq];exact h2⟩
 ·rintro ⟨h1,h2⟩;rw [hq] at h1 h2;exact ⟨h1,h2⟩
theorem nO {q:Qu} {x:Pc}:∀{l:List Tm},(∀a∈l,a.name≠q.res.name)→cN q x l=(decide (ao q.holds x.proc=ay x.led.entries q.res.name) && !(ai q x.proc).isSome)
 | [],_=>rfl
 | a :: l,h=>by
  unfold cN;rw [bJ.2 (h a (by simp)),Bool.not_false,Bool.true_or,cond_true];exact nO fun b hb=>h b (by simp [hb])
theorem kK {t:List Qu} {q:Qu} {x:Pc} (hq:a6 t q.res.name=q):∀{l:List Tm},A8 l→(cN q x l=true↔FitW t q.res.name x l)
 | [],_=>by
  unfold cN FitW;exact nN hq
 | a :: l,hn=>by
  obtain ⟨h1,h2⟩:=List.pairwise_cons.1 hn;have ih:=kK (x:=x) hq h2;unfold FitW at ih ⊢;rw [cA];unfold cN;cases hnm:aZ a.name q.res.name with
  | false =>
   rw [Bool.not_false,Bool.true_or,cond_true,cond_false];exact ih
  | true =>
   have hname:=aP.1 hnm;have hno:∀b∈l,b.name≠q.res.name:=fun b hb e=>h1 b hb (hname.trans e.symm);rw [Bool.not_true,Bool.false_or,cond_true];dsimp only;unfold FitA jn;rw [hq];cases hc:a8 q.res (ay x.led.entries q.res.name) a.am with
   | true =>
    rw [cond_true,nO hno,nN hq];constructor
    ·intro h;exact .inl ⟨rfl,h⟩
    ·rintro (⟨_,h⟩|⟨h,_⟩)
     ·exact h
     ·cases h
   | false =>
    rw [cond_false];cases hw:ai q x.proc with
    | none =>
     simp only [Option.isSome_none,Bool.not_false,cond_true,decide_eq_true_eq];constructor
     ·intro h;exact .inr ⟨trivial,.inl ⟨h,trivial⟩⟩
     ·rintro (⟨h,_⟩|⟨_,⟨h,_⟩|⟨_,h,_⟩⟩)
      ·cases h
      ·exact h
      ·cases h
    | some b =>
     simp only [Option.isSome_some,Bool.not_true,cond_false];cases hp:q.waits.any (fun y=>decide (y.proc=x.proc) && !decide (y.prio=x.req.prio)) with
     | true =>
      rw [cond_true];constructor
      ·intro h;cases h
      ·rintro (⟨h,_⟩|⟨_,⟨_,h⟩|⟨_,_,h⟩⟩)
       ·cases h
       ·cases h
       ·rw [List.any_eq_true] at hp;obtain ⟨y,hy,h3⟩:=hp;simp only [Bool.and_eq_true,decide_eq_true_eq,Bool.not_eq_true',decide_eq_false_iff_not] at h3;exact absurd (h y hy h3.1) h3.2
     | false =>
      rw [cond_false,Bool.and_eq_true,decide_eq_true_eq,decide_eq_true_eq];rw [List.any_eq_false] at hp;constructor
      ·rintro ⟨h3,h4⟩;refine .inr ⟨trivial,.inr ⟨h3,h4,fun y hy hyp=>?_⟩⟩;have:=hp y hy;simp only [Bool.and_eq_true,decide_eq_true_eq,Bool.not_eq_true',decide_eq_false_iff_not,not_and,Decidable.not_not] at this;exact this hyp
      ·rintro (⟨h,_⟩|⟨_,⟨_,h⟩|⟨h3,h4,_⟩⟩)
       ·cases h
       ·cases h
       ·exact ⟨h3,h4⟩
def th (c:Cs) (x:Pc):Prop:=x.waiting=true→(x.req.limit=0∨c.now<x.since+x.req.limit)∧dP c.queues x=false
theorem mN {c:Cs} {x:Pc} (hv:dl c.queues=true):nu c x=true↔PInv c.queues c.now x∧th c x:=by
 have hhf:(eH x.led).all (fun a=>aS c.queues a.name && aC (a6 c.queues a.name).res a.am)=true↔∀n,fv x n≠⟨0,0⟩→aS c.queues n=true∧aC (a6 c.queues n).res (fv x n)=true:=by
  rw [List.all_eq_true];constructor
  ·intro h n hn;have:=h ⟨n,fv x n⟩ (g8.2 ⟨rfl,hn⟩);rw [Bool.and_eq_true] at this;exact this
  ·intro h a ha;obtain ⟨h1,h2⟩:=g8.1 ha;have:=h a.name (by show ay x.led.entries a.name≠_;rw [h1];exact h2);rw [show fv x a.name=a.am from h1] at this;rw [Bool.and_eq_true];exact this
 unfold nu;cases hw:x.waiting with
 | false =>
  simp only [Bool.not_false,cond_true,Bool.and_eq_true,decide_eq_true_eq,hhf,fc,Er];constructor
  ·rintro ⟨⟨⟨⟨⟨⟨⟨h1,h2⟩,h3⟩,h4⟩,h5⟩,h6⟩,h7⟩,⟨⟨h8,h9⟩,h10⟩,h11⟩;refine ⟨⟨⟨h1,⟨h2,h3⟩,h4,⟨h5,h6⟩,h7⟩,fun _=>⟨h8,h9,(y6 hv fun n hn=>(h7 n hn).1).1 ⟨h10,h11⟩⟩,fun h=>?_⟩,fun h=>?_⟩
   ·rw [hw] at h;cases h
   ·rw [hw] at h;cases h
  ·rintro ⟨⟨⟨h1,h2,h4,h5,h7⟩,h8,_⟩,_⟩;obtain ⟨k1,k2,k3⟩:=h8 hw;obtain ⟨k4,k5⟩:=(y6 hv fun n hn=>(h7 n hn).1).2 k3;exact ⟨⟨⟨⟨⟨⟨⟨h1,h2.1⟩,h2.2⟩,h4⟩,h5.1⟩,h5.2⟩,h7⟩,⟨⟨k1,k2⟩,k4⟩,k5⟩
 | true =>
  have hfw:c.queues.all (fun q=>cN q x (cJ x.req.expr))=true↔∀n,aS c.queues n=true→FitW c.queues n x (cJ x.req.expr):=by
   rw [List.all_eq_true];constructor
   ·intro h n hn;obtain ⟨hm,hnm⟩:=cW hn;have h1:=(kK (t:=c.queues) (q:=a6 c.queues n) (x:=x) (by rw [hnm]) (ky x.req.expr)).1 (h _ hm);rw [hnm] at h1;exact h1
   ·intro h q hq;obtain ⟨hn,hqa⟩:=jH hv hq;exact (kK hqa (ky x.req.expr)).2 (h _ hn)
  have hsat:dP c.queues x=dE x.req.expr (bo c.queues x.proc x.req.expr):=by unfold dP;rw [hw];rfl
  simp only [Bool.not_true,cond_false,Bool.and_eq_true,Bool.or_eq_true,decide_eq_true_eq,hhf,fc,hfw,Bool.not_eq_true',←hsat];constructor
  ·rintro ⟨⟨⟨⟨⟨⟨⟨h1,h2⟩,h3⟩,h4⟩,h5⟩,h6⟩,h7⟩,⟨⟨⟨⟨⟨h8,h9⟩,h10⟩,h11⟩,h12⟩,h13⟩,h14⟩;refine ⟨⟨⟨h1,⟨h2,h3⟩,h4,⟨h5,h6⟩,h7⟩,fun h=>?_,fun _=>⟨⟨h8,h9,h10,h11⟩,h14⟩⟩,fun _=>⟨h12,h13⟩⟩;rw [hw] at h;cases h
  ·rintro ⟨⟨⟨h1,h2,h4,h5,h7⟩,_,h8⟩,h9⟩;obtain ⟨k1,k2⟩:=h8 hw;obtain ⟨k3,k4⟩:=h9 hw;exact ⟨⟨⟨⟨⟨⟨⟨h1,h2.1⟩,h2.2⟩,h4⟩,h5.1⟩,h5.2⟩,h7⟩,⟨⟨⟨⟨⟨k1.rq,k1.rs⟩,k1.sn.1⟩,k1.sn.2⟩,k3⟩,k4⟩,k2⟩
theorem ww (c:Cs):∀(l:List Pc) (o:Option Pr),vW c o l=true↔(∀x∈l,nu c x=true)∧(l.map (·.proc)).Pairwise fC∧∀p,o=some p→∀x∈l,fC p x.proc
 | [],o=>by simp [vW]
 | x :: l,o=>by
  unfold vW;simp only [Bool.and_eq_true,ww c l,yC];constructor
  ·rintro ⟨⟨h1,h2⟩,h3,h4,h5⟩;refine ⟨?_,?_,?_⟩
   ·intro y hy;rcases List.mem_cons.1 hy with rfl|hy
    ·exact h1
    ·exact h3 y hy
   ·rw [List.map_cons];refine List.pairwise_cons.2 ⟨?_,h4⟩;intro p hp;obtain ⟨y,hy,rfl⟩:=List.mem_map.1 hp;exact h5 _ rfl y hy
   ·intro p hp y hy;rcases List.mem_cons.1 hy with rfl|hy
    ·exact h2 p hp
    ·exact cX (h2 p hp) (h5 _ rfl y hy)
  ·rintro ⟨h1,h2,h3⟩;rw [List.map_cons] at h2;obtain ⟨h4,h5⟩:=List.pairwise_cons.1 h2;refine ⟨⟨h1 x (by simp),fun p hp=>h3 p hp x (by simp)⟩,fun y hy=>h1 y (by simp [hy]),h5,?_⟩;intro p hp y hy;injection hp with hp;subst hp;exact h4 _ (List.mem_map.2 ⟨y,hy,rfl⟩)
theorem pX {p:Pr}:∀{l:List Pc} {k:Nat},cD p k l<0↔∀x∈l,x.proc≠p
 | [],k=>by simp [cD]
 | x :: l,k=>by
  unfold cD;by_cases hx:x.proc=p
  ·rw [decide_eq_true hx,cond_true];constructor
   ·intro h;omega
   ·intro h;exact absurd hx (h x (by simp))
  ·rw [decide_eq_false hx,cond_false,pX];constructor
   ·intro h y hy;rcases List.mem_cons.1 hy with rfl|hy
    ·exact hx
    ·exact h y hy
   ·intro h y hy;exact h y (by simp [hy])
theorem fX {p:Pr}:∀{l:List Pc} {k:Nat},0≤cD p k l→∃i,∃h:i<l.length,cD p k l=((k+i:Nat):Int)∧l[i].proc=p
 | [],k,h=>by simp [cD] at h
 | x :: l,k,h=>by
  have e:cD p k (x :: l)=bif decide (x.proc=p) then (k:Int) else cD p (k+1) l:=rfl;rw [e] at h ⊢;by_cases hx:x.proc=p
  ·exact ⟨0,by simp,by rw [decide_eq_true hx];simp,hx⟩
  ·rw [decide_eq_false hx,cond_false] at h ⊢;obtain ⟨i,hi,h1,h2⟩:=fX h;exact ⟨i+1,by simpa using hi,by rw [h1];omega,by simpa using h2⟩
theorem wx {p:Pr} {l:List Pc} {k:Nat}:0≤cD p k l↔p∈l.map (·.proc):=by
 constructor
 ·intro h;obtain ⟨i,hi,_,e⟩:=fX h;exact List.mem_map.2 ⟨_,List.getElem_mem hi,e⟩
 ·intro h;obtain ⟨x,hx,e⟩:=List.mem_map.1 h;refine Classical.byContradiction fun hn=>?_;exact pX.1 (show cD p k l<0 by omega) x hx e
theorem bU {c:Cs}:cM c=true↔CI c∧∀x∈c.procs,th c x:=by
 unfold cM;simp only [Bool.and_eq_true,decide_eq_true_eq,List.all_eq_true,ww,wx];constructor
 ·rintro ⟨⟨⟨⟨⟨h1,h2⟩,h3⟩,h4⟩,h5⟩,h6,h7,_⟩;exact ⟨⟨⟨h1,h2⟩,h3,h4,h7,h5,fun x hx=>((mN h3).1 (h6 x hx)).1⟩,fun x hx=>((mN h3).1 (h6 x hx)).2⟩
 ·rintro ⟨⟨h1,h3,h4,h7,h5,h6⟩,h8⟩;exact ⟨⟨⟨⟨⟨h1.1,h1.2⟩,h3⟩,h4⟩,h5⟩,fun x hx=>(mN h3).2 ⟨h6 x hx,h8 x hx⟩,h7,fun p hp=>by cases hp⟩
end Go.Proofs.YtcgpepnbohejfaaGreatDoor
