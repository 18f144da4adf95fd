/- Part 17 of 33 of the proof of centralDoes_holds (no condition). -/
import Derived.Test.YtjndcdcbjidocaaGreatDoorL16
import Derived.Laws.Cover1
import Derived.RangeFuncNested
import Derived.RangeFuncBox
import Derived.RangeFuncLeaves
set_option linter.unusedVariables false
set_option linter.unusedSimpArgs false
set_option maxRecDepth 100000
set_option maxHeartbeats 64000000
namespace Go.Proofs.YtjndcdcbjidocaaGreatDoor
open Go.RowKit Go.Proofs.Tryz
theorem ub {w:World} {S:Nat→Prop} {A:Option Addr} {l:Ct} (h:RowsAt eT w S A l) {i:Nat} (hi:i<l.length) {nm:ByteArray} {k u hm:Int} (e:l[i]=⟨nm,k,u,hm⟩) :
  ∃b off,A=some ⟨b,off,none⟩∧S b∧w.cell? ⟨b,off+i*4,none⟩=some (.string nm)∧w.cell? ⟨b,off+i*4+1,none⟩=some (.int .i64 k)∧
   w.cell? ⟨b,off+i*4+2,none⟩=some (.int .i64 u)∧w.cell? ⟨b,off+i*4+3,none⟩=some (.int .i64 hm):=by
 obtain ⟨b,off,cs,hA,hb,hr,hc⟩:=h.getx hi e;have hr':cs=[.string nm,.int .i64 k,.int .i64 u,.int .i64 hm]:=hr;subst hr';exact ⟨b,off,hA,hb,hc 0 (by decide),hc 1 (by decide),hc 2 (by decide),hc 3 (by decide)⟩
theorem xL (r:Rs):FSpec prog 97 [r.a] [] [] (.b (mm r)) [] :=
 cz (fun b W=>by kernel_rfl) rfl fun w S ρ vs _ h=>by
  match vs,h with
  | [_],⟨h1,_⟩=>rw [Rs.open h1];exact (uw _ w).mono fun _ _=>gT
theorem Eb (q:Qu):FSpec prog 184 [q.a] [] [] (.tup [(mA q).a,.one (.sc (.bool (dm q).isSome))]) []:=by
 obtain ⟨r,hs,cs,ws,gn⟩:=q;refine aP func184 ?_;refine aM (fun c ρ a w hr=>dj (t:=0) (i:=5) hr rfl rfl) (fun hl0_5=>?_);refine aM (fun c ρ a w hr=>dj (t:=0) (i:=6) hr rfl rfl) (fun hl0_6=>?_);cases cs with
 | cons x cs =>
  have e0:(x :: cs)[(0:Int).toNat]? = some x:=rfl;have e1:(x :: cs)[0]? = some x:=rfl;repeat' (first|refine af ?_ ?_|refine ae ?_|exact ah|(refine ab fun hb=>?_;first|(simp at hb;done)|skip)|(refine fe (qf []) ?_;exact aj))
 | nil =>
  cases ws with
  | cons x ws =>
   have e0:(x :: ws)[(0:Int).toNat]? = some x:=rfl;have e1:(x :: ws)[0]? = some x:=rfl;repeat' (first|refine af ?_ ?_|refine ae ?_|exact ah|(refine ab fun hb=>?_;first|(simp at hb;done)|skip)|(refine fe (qf []) ?_;exact aj))
  | nil =>
   repeat' (first|refine af ?_ ?_|refine ae ?_|exact ah|(refine ab fun hb=>?_;first|(simp at hb;done)|skip)|(refine fe (qf []) ?_;exact aj))
theorem eJ (q:Qu) (p:Pr):FSpec prog 102 [q.a,p.a] [] [] (.v (ao q.holds p).a) []:=by
 refine aP func102 ?_;repeat' (first|refine af ?_ ?_|refine aa 9 rfl (cB [] (Lb q.holds p) ?_)|refine ae ?_|exact ah|refine ab fun hb=>?_|exact aX|fail)
theorem Ec (q:Qu) (h2:q.convs.length≤8) (h3:q.waits.length≤8):FSpec prog 199 [q.a] [] [] (.c (.sl eM (q.convs++q.waits))) [] :=
 cz (fun b W=>by kernel_rfl) rfl fun w S ρ vs hS h=>by
  match vs,h with
  | [_],⟨h1,_⟩ =>
   obtain ⟨A1,A2,A3,c1,c2,c3,rfl,hq,k1,k2,k3⟩:=Qu.open h1;exact (AP q A1 A2 A3 c1 c2 c3 w w.heap.size (hq.qf hS)  h2 h3).mono fun _ _=>wW
theorem eK (q:Qu) (p:Pr) (h2:q.convs.length≤8) (h3:q.waits.length≤8) {v:Option Am} (hv:ap q p=v):FSpec prog 195 [q.a,p.a] [] [] (.tup [(yJ v).a,.one (.sc (.bool v.isSome))]) []:=by
 unfold ap at hv;have kO:=Ec q h2 h3;obtain ⟨L,hL⟩:∃L,q.convs++q.waits=L:=⟨_,rfl⟩;have hl:L.length≤16:=by rw [←hL];simp;omega
 rw [hL] at hv kO;refine aP func195 ?_;repeat' (first|refine af ?_ ?_|refine aa 9 rfl (cC [] (kO) ?_)|refine ae ?_|exact ah|refine ab fun hb=>?_)
 refine ai (fun i=>i≤L.length∧gF (L.drop i) p=v) (fun i=>bt [3,4] [(3,.c (.ptr 3 0)),(4,.c (.ptr 4 0)),(9,.c (.sl eM L)),(10,.i L.length),(11,.i i)] [jH 3 p,(4,.box 37 [.sc (.int .i64 0),.sc (.int .i64 0)])]) (fun i=>L.length-i) 0 ⟨Nat.zero_le _,hv⟩ aN ?_;rintro i ⟨hi,hs⟩;by_cases hlt:i<L.length
 ·rw [List.drop_eq_getElem_cons hlt,cM] at hs;obtain ⟨x,hx⟩:∃x,L[i]=x:=⟨_,rfl⟩;have hgx:L[i]? = some x:=by rw [List.getElem?_eq_getElem hlt,hx]
  rw [hx] at hs;repeat' (first|refine af ?_ ?_|refine ae ?_|exact ah|refine ab fun hb=>?_)
  ·obtain rfl:some x.am=v:=by rw [←hs];simp [*]
   refine fe (qf []) ?_;exact aj
  ·refine ⟨i+1,⟨by omega,by rw [←hs];simp [*]⟩,by omega,?_⟩;exact aN
 ·rw [List.drop_eq_nil_of_le (by omega)] at hs;obtain rfl:none=v:=hs;repeat' (first|refine af ?_ ?_|refine ae ?_|exact ah|refine ab fun hb=>?_|(refine fe (qf []) ?_;exact aj))
theorem Ed (q:Qu):FSpec prog 242 [q.a] [] [] (.b (Jl q)) []:=by
  obtain ⟨v,hv⟩:∃v,Jl q=v:=⟨_,rfl⟩;rw [hv];unfold Jl at hv;refine aP func242 ?_;refine aM (fun c ρ a w hr=>dj (t:=0) (i:=5) hr rfl rfl) (fun hl0_5=>?_);by_cases h8:8<q.convs.length
  · rw [decide_eq_false (by omega)] at hv
    obtain rfl:false=v:=hv;repeat' (first|refine af ?_ ?_|refine ae ?_|exact ah|refine ab fun hb=>?_|exact aX|fail)
  rw [decide_eq_true (by omega),Bool.true_and] at hv;repeat' (first|refine af ?_ ?_|refine ae ?_|exact ah|refine ab fun hb=>?_)
  refine ai (fun i=>i≤q.convs.length∧uz q i (q.convs.drop i)=v) (fun i=>bt [1] [(1,.c (.ptr 1 0)),(11,.c (.sl eM q.convs)),(12,.i q.convs.length),(13,.i i)] [(1,.box 81 q.d)]) (fun i=>q.convs.length-i) 0 ⟨Nat.zero_le _,hv⟩ aN ?_;rintro i ⟨hi,hs⟩;by_cases hlt:i<q.convs.length
  · rw [List.drop_eq_getElem_cons hlt,oh] at hs
    obtain ⟨x,hx⟩:∃x,q.convs[i]=x:=⟨_,rfl⟩;have hgx:q.convs[i]? = some x:=by rw [List.getElem?_eq_getElem hlt,hx]
    rw [hx] at hs;obtain ⟨h,hh⟩:∃h,ao q.holds x.proc=h:=⟨_,rfl⟩;have kG:=eJ q x.proc;unfold AO at hs;rw [hh] at hs kG;clear hv hx hh;repeat' (first|refine af ?_ ?_|(refine aa 9 rfl ?_;first|(refine cB [] (kG) ?_)|(refine cB [] (gM h) ?_)|(refine cB [] (eo q.res x.am) ?_)|(refine cB [] (fS q.res x.am h) ?_)|(refine cB [] (oT q.convs x.proc) ?_))|refine ae ?_|exact ah|refine ab fun hb=>?_)
    all_goals first
      | (obtain rfl:false=v:=by rw [←hs];simp [*]
         refine bP (qf []) ?_;exact aj)
      | (refine ⟨i+1,⟨by omega,by rw [←hs];simp [*]⟩,by omega,?_⟩
         exact aN)
  · rw [List.drop_eq_nil_of_le (by omega)] at hs
    obtain rfl:true=v:=hs;repeat' (first|refine af ?_ ?_|refine ae ?_|exact ah|refine ab fun hb=>?_|exact aX|fail)
theorem Ee (q:Qu) (hh:q.holds.length≤8):FSpec prog 243 [q.a] [] [] (.b (Jm q)) []:=by
  obtain ⟨v,hv⟩:∃v,Jm q=v:=⟨_,rfl⟩;rw [hv];unfold Jm at hv;refine aP func243 ?_;refine aM (fun c ρ a w hr=>dj (t:=0) (i:=6) hr rfl rfl) (fun hl0_6=>?_);cases hP:d9 q.waits && decide (q.holds.length+q.waits.length≤8) with
  | false =>
    rw [hP] at hv;obtain rfl:false=v:=hv;cases h1:d9 q.waits with
    | false =>
      repeat' (first|refine af ?_ ?_|refine aa 9 rfl (cB [] (pN q.waits) ?_)|refine ae ?_|exact ah|(refine ab fun hb=>?_;first|(simp [h1] at hb;done)|skip)|exact aX|fail)
    | true =>
      rw [h1,Bool.true_and,decide_eq_false_iff_not] at hP;have w8:q.waits.length≤8:=by have:=h1;simp [d9] at this;omega
      repeat' (first|refine af ?_ ?_|refine aa 9 rfl (cB [] (pN q.waits) ?_)|refine ae ?_|exact ah|(refine ab fun hb=>?_;first|(simp [h1] at hb;done)|skip)|exact aX|fail)
  | true =>
    rw [hP,Bool.true_and] at hv;obtain ⟨h1,h2⟩:d9 q.waits=true∧q.holds.length+q.waits.length≤8:=by simpa using hP
    repeat' (first|refine af ?_ ?_|refine aa 9 rfl (cB [] (pN q.waits) ?_)|refine ae ?_|exact ah|(refine ab fun hb=>?_;first|(simp [h1] at hb;done)|skip))
    refine ai (fun i=>i≤q.waits.length∧sG q (q.waits.drop i)=v) (fun i=>bt [1] [(1,.c (.ptr 1 0)),(20,.c (.sl eM q.waits)),(21,.i q.waits.length),(22,.i i)] [(1,.box 81 q.d)]) (fun i=>q.waits.length-i) 0 ⟨Nat.zero_le _,hv⟩ aN ?_;rintro i ⟨hi,hs⟩;by_cases hlt:i<q.waits.length
    · rw [List.drop_eq_getElem_cons hlt,ol] at hs
      repeat' (first|refine af ?_ ?_|(refine aa 9 rfl ?_;first|(refine cB [] (eo q.res q.waits[i].am) ?_)|(refine cB [] (eJ q q.waits[i].proc) ?_)|(refine cB [] (gM (ao q.holds q.waits[i].proc)) ?_))|refine ae ?_|exact ah|refine ab fun hb=>?_)
      all_goals first
        | (obtain rfl:false=v:=by rw [←hs];simp [*]
           refine bP (qf []) ?_;exact aj)
        | (refine ⟨i+1,⟨by omega,by rw [←hs];simp [*]⟩,by omega,?_⟩
           exact aN)
    · rw [List.drop_eq_nil_of_le (by omega)] at hs
      obtain rfl:true=v:=hs;repeat' (first|refine af ?_ ?_|refine ae ?_|exact ah|refine ab fun hb=>?_|exact aX|fail)
theorem Aj (q:Qu):FSpec prog 183 [q.a] [] [] (.b (iL q)) []:=by
 have hb8:te q.res q.holds=true→q.holds.length≤8:=fun h=>by simp [te] at h;omega
 unfold iL;refine aP func183 ?_;cases hP:te q.res q.holds with
 | false =>
  repeat' (first|refine af ?_ ?_|(refine aa 9 rfl ?_;first|(refine cB [] (xL q.res) ?_)|(refine cB [] (qb q.res q.holds) ?_))|refine ae ?_|exact ah|(refine ab fun hb=>?_;first|(simp [hP] at hb;done)|skip))
  all_goals (refine d7 ?_;simp [*])
 | true =>
  repeat' (first|refine af ?_ ?_|(refine aa 9 rfl ?_;first|(refine cB [] (xL q.res) ?_)|(refine cB [] (qb q.res q.holds) ?_)|(refine cB [] (Ed q) ?_)|(refine cB [] (Ee q (hb8 hP)) ?_))|refine ae ?_|exact ah|(refine ab fun hb=>?_;first|(simp [hP] at hb;done)|skip))
  all_goals (refine d7 ?_;simp [*])
theorem BM (q:Qu):FSpec prog 106 [q.a] [] [] (.b (aw q)) []:=by
 obtain ⟨v,hv⟩:∃v,aw q=v:=⟨_,rfl⟩;rw [hv];unfold aw at hv;have kH:=Eb q;obtain ⟨x,hx⟩:∃x,mA q=x:=⟨_,rfl⟩;rw [hx] at kH;unfold mA at hx;refine aP func106 ?_;cases hq:dm q with
 | none =>
  rw [hq] at hv kH;repeat' (first|refine af ?_ ?_|(refine aa 9 rfl ?_;first|(refine cB [] (Aj q) ?_)|(refine cB [] (kH) ?_))|refine ae ?_|exact ah|refine ab fun hb=>?_)
  all_goals (refine d7 ?_;rw [←hv];simp [*])
 | some y =>
  rw [hq] at hv kH hx;obtain rfl:y=x:=hx;repeat' (first|refine af ?_ ?_|(refine aa 9 rfl ?_;first|(refine cB [] (Aj q) ?_)|(refine cB [] (kH) ?_)|(refine cB [] (D9 q.res q.holds y.proc y.am) ?_))|refine ae ?_|exact ah|refine ab fun hb=>?_)
  all_goals (refine d7 ?_;rw [←hv];simp [*])
theorem cE (q:Qu):FSpec prog 46 [q.a] [] [] (.b (aw q)) []:=by
 refine aP func46 ?_;repeat' (first|refine af ?_ ?_|refine aa 9 rfl (cB [] (BM q) ?_)|refine ae ?_|exact ah|refine ab fun hb=>?_|(refine d7 ?_;rfl))
theorem Ef (l:List Pr) (hl:l.length≤1000000):FSpec prog 56 [.one (.sl fK l)] [] [] (.c (.sl fK (dM l))) [] :=
 cz (fun b W=>by kernel_rfl) rfl fun w S ρ vs hS h=>by
  match vs,h with
  | [_],⟨⟨A,c,rfl,_,r⟩,_⟩=>exact (sH A c l w (by omega) (r.lo hS)).mono fun _ _=>wW
theorem Eg (l:List Ho) (hl:l.length≤100000):FSpec prog 125 [.one (.sl fV l)] [] [0] (.c (.own 0)) [(0,some (.arr 35 fK (cQ l)))]:=by
 refine aP func125 ?_;repeat' (first|refine af ?_ ?_|refine ae ?_|exact ah|refine ab fun hb=>?_)
 refine bV 3 1000 35 fK rfl rfl rfl ?_;refine ai (fun i=>i≤l.length) (fun i=>bt [1000] [(3,.c (.own 1000)),(6,.c (.sl fV l)),(7,.i l.length),(8,.i i)] [(1000,.arr 35 fK (cQ (l.take i)))]) (fun i=>l.length-i) 0 (Nat.zero_le _) aN ?_;intro i hi;have hlen:(cQ (l.take i)).length=i:=by simp [cQ];omega
 by_cases hlt:i<l.length
 ·have e:cQ (l.take (i+1))=cQ (l.take i)++[l[i].proc]:=by unfold cQ;rw [List.take_succ_eq_append_getElem hlt,List.map_append];rfl
  repeat' (first|refine af ?_ ?_|(refine aa 8 rfl ?_;refine aV (ak rfl rfl (aB rfl rfl) (aD [l[i].proc] rfl rfl rfl rfl) rfl aL aL) rfl rfl rfl ?_)|refine ae ?_|exact ah|refine ab fun hb=>?_)
  refine ⟨i+1,by omega,by omega,?_⟩;rw [e];exact a8 (qf [(1000,16)])
 ·rw [List.take_of_length_le (by omega)];repeat' (first|refine af ?_ ?_|refine ae ?_|exact ah|refine ab fun hb=>?_|(refine bP (qf [(0,1000)]) ?_;exact aj))
theorem Gw (q:Qu) (h2:q.convs.length≤8) (h3:q.waits.length≤8):FSpec prog 126 [q.a] [] [] (.c (.sl fK (mF q))) []:=by
 have kO:=Ec q h2 h3;unfold mF;obtain ⟨L,hL⟩:∃L,q.convs++q.waits=L:=⟨_,rfl⟩;have hl:L.length≤16:=by rw [←hL];simp;omega
 rw [hL] at kO ⊢;refine aP func126 ?_;repeat' (first|refine af ?_ ?_|refine aa 9 rfl (cC [] (kO) ?_)|refine ae ?_|exact ah|refine ab fun hb=>?_)
 refine bV 3 1000 35 fK rfl rfl rfl ?_;refine ai (fun i=>i≤L.length) (fun i=>bt [1000] [(3,.c (.own 1000)),(7,.c (.sl eM L)),(8,.i L.length),(9,.i i)] [(1000,.arr 35 fK (bW (L.take i)))]) (fun i=>L.length-i) 0 (Nat.zero_le _) aN ?_;intro i hi;have hlen:(bW (L.take i)).length=i:=by simp [bW];omega
 by_cases hlt:i<L.length
 ·have e:bW (L.take (i+1))=bW (L.take i)++[L[i].proc]:=by unfold bW;rw [List.take_succ_eq_append_getElem hlt,List.map_append];rfl
  repeat' (first|refine af ?_ ?_|(refine aa 8 rfl ?_;refine aV (ak rfl rfl (aB rfl rfl) (aD [L[i].proc] rfl rfl rfl rfl) rfl aL aL) rfl rfl rfl ?_)|refine ae ?_|exact ah|refine ab fun hb=>?_)
  refine ⟨i+1,by omega,by omega,?_⟩;rw [e];exact a8 (qf [(1000,17)])
 ·rw [List.take_of_length_le (by omega)];repeat' (first|refine af ?_ ?_|refine ae ?_|exact ah|refine ab fun hb=>?_|exact aX|fail)
theorem vx (q:Qu) (h1:q.holds.length≤8) (h2:q.convs.length≤8) (h3:q.waits.length≤8):FSpec prog 55 [q.a] [] [] (.c (.sl fK (fq q))) []:=by
 unfold fq;have e1:(cQ q.holds).length=q.holds.length:=by simp [cQ]
 have e2:(mF q).length=q.convs.length+q.waits.length:=by simp [mF]
 refine aP func55 ?_;repeat' (first|refine af ?_ ?_|(refine aa 9 rfl ?_;first|(refine cH (qf [(0,1000)]) (Eg q.holds (by omega)) ?_)|(refine cC [] (Gw q h2 h3) ?_)|(refine cC [8] (Ef (cQ q.holds++mF q) (by simp;omega)) ?_))|refine ae ?_|exact ah|refine ab fun hb=>?_|exact aX|fail)
theorem Kf (r:Rs) (h:mm r=true):FSpec prog 38 [r.a] [] [] (.tup [(⟨r,[],[],[],0⟩:Qu).a,iV 0]) []:=by
 refine aP func38 ?_;repeat' (first|refine af ?_ ?_|refine aa 9 rfl (cB [] (xL r) ?_)|refine ae ?_|exact ah|(refine ab fun hb=>?_;first|(simp [h] at hb;done)|skip)|(refine fe (qf []) ?_;exact aj))
section
variable {P:Program} {o:Oper} {s:Mst}
theorem cS {f:FuncId} {xs:Array Operand} {ks:List Nat} (ho:o.op = .makeFunc (.func f) #[] xs) (hx:xs.toList.map s.ev=ks.map fun k=>.c (.ptr k 0)):LOp P o s [] ⟨.c (.clo f ks),[],[]⟩ :=
 bp fun c st ρ a w hr h1 _=>by
  have h1':xs.toList.map st.ev=ks.map fun k=>TV.c (.ptr k 0):=by
   rw [←hx];exact List.map_congr_left fun x hx=>h1 x (by simp [ho,Op.operands];simpa using hx)
  have key:∀(l:List Operand) (ks:List Nat),l.map st.ev=ks.map (fun k=>TV.c (.ptr k 0))→All2 (fun k u=>u=ρ k) ks (l.map a.eval)∧∀k,(∃j∈ks,j.beq k=true)→st.f k=false:=by
   intro l;induction l with
   | nil=>intro ks h;cases ks with
    | nil=>exact ⟨trivial,fun k ⟨j,hj,_⟩=>by cases hj⟩
    | cons=>simp at h
   | cons x l ih =>
    intro ks h;cases ks with
    | nil=>simp at h
    | cons k ks =>
     simp only [List.map_cons,List.cons.injEq] at h;obtain ⟨i1,i2⟩:=ih ks h.2;have hv:=hr.ev x;rw [h.1] at hv;obtain ⟨g,hg,hv⟩:=hv;have hnf:st.f k=false:=hr.nf (x:=x) h.1 (by simp [TV.has,V0.has,D.has]);refine ⟨⟨?_,i1⟩,fun k' ⟨j,hj,hb⟩=>?_⟩
     ·show a.eval x=ρ k;rw [hv,hg]
     ·rcases List.mem_cons.1 hj with rfl|hj
      ·rw [←Nat.eq_of_beq_eq_true hb];exact hnf
      ·exact i2 k' ⟨j,hj,hb⟩
  obtain ⟨k1,k2⟩:=key _ _ h1';refine ⟨.func (.func f) #[] (xs.map a.eval),?_,⟨xs.toList.map a.eval,by congr 1;apply Array.toList_inj.1;simp,k1⟩,fun k hk=>k2 k ?_⟩
  ·unfold execOp;rw [ho];simp [Instr.makeFunc]
  ·obtain ⟨j,hj,hb⟩:=List.any_eq_true.1 (show (D.clo f ks).has k=true from hk);exact ⟨j,hj,hb⟩
variable {n l:Nat}
end
section
variable {P:Program} {o:Oper} {s:Mst}
def II:Option Box→Bool
 | some (.box ..)=>true
 | _=>false
theorem xM {α:Type _} {β:Type _} {R:α→β→Prop}:∀{l:List α} {m:List β} {l':List α} {m':List β},All2 R l m→All2 R l' m'→All2 R (l++l') (m++m')
 | [],[],_,_,_,k=>k
 | _ :: _,_ :: _,_,_,h,k=>⟨h.1,xM h.2 k⟩
 | [],_ :: _,_,_,h,_=>h.elim
 | _ :: _,[],_,_,h,_=>h.elim
theorem BN {y:Operand} {f:FuncId} {xs:Array Operand} {ts:Array TypeId} {ar:List V0} {n:Nat} {kc:List Nat} {hin:List (Nat×Box)} {us:List Nat} {res:TV} {hout:List (Nat×Option Box)} (hs:FSpec P f ar hin us res hout) (q:Nat→Nat) (ho:o.op = .call { callee:=.value y,args:=xs,argTypes:=ts })
  (hy:s.ev y = .c (.clo f (kc.map q))) (hA:ar.drop n=kc.map fun k=>.one (.ptr k 0)) (hk:kc.all (fun k=>II (dU hin k))=true)
  (ha:All2 (fun x d=>s.ev x = .v (V0.ren q d)) xs.toList (ar.take n)) (hn:eD ((av hin++us).map q)=true) (hh:tx s q hin):LOp P o s ((av hin).map q) ⟨res.ren q,el q hout,us.map q⟩:=by
 intro c st ρ a w hr h1 h2 h3 h4;have hin':∀k b,dU hin k=some b→st.h (q k)=some (b.ren q):=fun k b hk=>by
  rw [h2 (q k) (by rw [bC];exact List.mem_map.2 ⟨k,bC.1 (cO hk).1,rfl⟩)];exact oz hh k b (cO hk).2
 have hargs:All2 (fun d v=>(V0.ren q d).rep w (Fz c st.h ρ w) ρ v) (ar.take n) (xs.toList.map a.eval):=by
  have key:∀(l:List Operand) (m:List V0),(∀x∈l,st.ev x=s.ev x)→All2 (fun x d=>s.ev x = .v (V0.ren q d)) l m→All2 (fun d v=>(V0.ren q d).rep w (Fz c st.h ρ w) ρ v) m (l.map a.eval):=by
   intro l;induction l with
   | nil=>intro m _ h;cases m with
    | nil=>trivial
    | cons=>exact h.elim
   | cons x l ih =>
    intro m hl h;cases m with
    | nil=>exact h.elim
    | cons d m =>
     refine ⟨?_,ih m (fun y hy=>hl y (by simp [hy])) h.2⟩;have:=hr.ev x;rw [hl x (by simp),h.1] at this;exact this
  exact key _ _ (fun x hx=>h1 x (by simp [ho,Op.operands,Call.operands];exact .inr (by simpa using hx))) ha
 have hv:=hr.ev y;rw [h1 y (by simp [ho,Op.operands,Call.operands]),hy] at hv;obtain ⟨vs,hv,hvs⟩:=hv;have hcap:All2 (fun d v=>(V0.ren q d).rep w (Fz c st.h ρ w) ρ v) (ar.drop n) vs:=by
  rw [hA];have key:∀(l:List Nat) (m:List Value),l.all (fun k=>II (dU hin k))=true→All2 (fun k u=>u=ρ k) (l.map q) m→All2 (fun d v=>(V0.ren q d).rep w (Fz c st.h ρ w) ρ v) (l.map fun k=>V0.one (.ptr k 0)) m:=by
   intro l;induction l with
   | nil=>intro m _ h;cases m with
    | nil=>trivial
    | cons=>exact h.elim
   | cons k l ih =>
    intro m hb h;cases m with
    | nil=>exact h.elim
    | cons u m =>
     rw [List.all_cons,Bool.and_eq_true] at hb;refine ⟨?_,ih m hb.2 h.2⟩;have hu:u=ρ (q k):=h.1;cases h9:dU hin k with
     | none=>rw [h9] at hb;cases hb.1
     | some b =>
      rw [h9] at hb;have h8:=hr.hp _ _ (hin' k b h9);cases b with
      | box t cs =>
       obtain ⟨g,_,e,_⟩:=h8;exact ⟨g,e,hu.trans e⟩
      | arr=>cases hb.1
      | mp=>cases hb.1
      | it=>cases hb.1
  exact key kc vs hk hvs
 have hall:All2 (fun d v=>(V0.ren q d).rep w (Fz c st.h ρ w) ρ v) ar (xs.toList.map a.eval++vs):=by
  have:=xM hargs hcap
  rwa [List.take_append_drop] at this
 have hc:=hs.ca q c st ρ a w (xs.toList.map a.eval++vs) hr (fun k k' hk hk' e=>iZ hn k k' hk hk' e) hall hin' fun k hk=>h3 _ (by show aK (us.map q) (q k)=true;rw [bC];exact List.mem_map.2 ⟨k,bC.1 hk,rfl⟩);have he:(xs.toList.map a.eval++vs).toArray=xs.map a.eval++vs.toArray:=by apply Array.toList_inj.1;simp
 rw [he] at hc;unfold Oper.wp execOp;simp only [ho,resolve,hv,Deferred.ofValue,invoke,Sem.run_bind,Sem.run_pure,Result.andThen_ok,Array.append_empty,Array.empty_append];rw [hs.en];refine hc.mono fun e w' ⟨v,hv,hk⟩=>?_;subst hv;exact hk o.dst h4
end
section
variable {P:Program} {nt:Nat} {Ks:List Nat} {s:Mst} {K:Mst→Prop} {ops:Array Oper} {draw:Bool} {o:Oper} {l:List Oper} {acc:List (List Nat×List Nat)} {t:Nat}
theorem mt {y:Operand} {f:FuncId} {xs:Array Operand} {ts:Array TypeId} {ar:List V0} {ot:Option Nat} {res:TV} {hin:List (Nat×Box)} {us:List Nat} {hout:List (Nat×Option Box)} (n:Nat) (kc:List Nat) (q:Nat→Nat) (hs:FSpec P f ar hin us res hout) (h:DA P ops draw l (((av hin).map q,av (el q hout)) :: acc) (s.app ot ⟨res.ren q,el q hout,us.map q⟩) K) (ho:o.op = .call { callee:=.value y,args:=xs,argTypes:=ts }:=by rfl) (hy:s.ev y = .c (.clo f (kc.map q)):=by rfl) (hA:ar.drop n=kc.map (fun k=>.one (.ptr k 0)):=by rfl) (hk:kc.all (fun k=>II (dU hin k))=true:=by rfl) (ha:All2 (fun x d=>s.ev x = .v (V0.ren q d)) xs.toList (ar.take n):=by (repeat' (first|exact trivial|refine ⟨rfl,?_⟩));first|done|fail) (hn:eD ((av hin++us).map q)=true:=by rfl) (hh:tx s q hin:=by (repeat' (first|exact trivial|refine ⟨rfl,?_⟩));first|done|fail) (hd:o.dst=ot:=by first|exact (rfl:_=some _)|exact (rfl:_=none)) (hg:s.gd ops o=some true:=by rfl) (hf:(us.map q).all s.f=true:=by rfl):DA P ops draw (o :: l) acc s K:=vc (BN hs q ho hy hA hk ha hn hh) hd hg hf h
end
theorem jg {P:Program} {o:Oper} {s:Mst} {t e:TypeId} {x:Operand} {k n:Nat} [SE P t e] (ho:o.op = .call { callee:=.builtin .len,args:=#[x],argTypes:=#[t] }) (hx:s.ev x = .c (.slb k n)):LOp P o s [] ⟨.i n,[],[]⟩ :=
 ig (ty:=0) ho fun c st ρ a w hr he _=>by
  have hv:=hr.ev x;rw [he,hx] at hv;obtain ⟨g,_,hv⟩:=hv;exact ⟨_,_,hv⟩
theorem dW {P:Program} {o:Oper} {s:Mst} {t e:TypeId} {x y:Operand} {row:Bool} {n i k m:Nat} {kd:IntKind} {z:Int} (ho:o.op = .indexAddr t x y) (hx:s.ev x = .c (.slb k m)) (hy:s.ev y = .c (.sc (.int kd z))) [SE P t e] [TI P e row n] (hz:z=(i:Int)) (hi:i<m) :
  LOp P o s [] ⟨.c (.ptr k (i*n)),[],[]⟩ :=
 bp fun c st ρ a w hr h1 _=>by
  have he:=h1 x (by simp [ho,Op.operands]);have he2:=h1 y (by simp [ho,Op.operands]);rw [hx] at he;rw [hy] at he2;have hv:=hr.ev x;rw [he] at hv;have hv2:=hr.ev y;rw [he2] at hv2;obtain ⟨g,hg,hv⟩:=hv;have hv2:a.eval y = .int kd z:=hv2;subst hz;refine ⟨.pointer (some ⟨g,i*n,none⟩),by unfold execOp;rw [ho];simp only [hv,hv2,Sem.run_bind,iD w m m i hi,Result.andThen_ok,Sem.run_pure,Nat.zero_add],⟨g,hg,rfl⟩,fun k' hk=>hr.nf (x:=x) he hk⟩
theorem mi (q:Qu) (h1:q.holds.length≤100000) (h2:q.convs.length≤100000) (h3:q.waits.length≤100000):FSpec prog 280 [q.a] [] [] (.v q.a) []:=by
 refine aP func280 ?_;repeat' (first|refine af ?_ ?_|refine ae ?_|exact ah|refine ab fun hb=>?_|exact aX|fail)
def KD (q:Qu) (k:Nat):List D:=[.sc (.string q.res.name),.sc (.int .i64 q.res.kind),.sc (.int .i64 q.res.units),.sc (.int .i64 q.res.home),.sl fV q.holds,.own k,.sl eM q.waits,.sc (.int .i64 q.gen)]
theorem Eh (q:Qu) (h1:q.holds.length≤100000) (h2:q.convs.length≤100000) (h3:q.waits.length≤100000):FSpec prog 280 [q.a] [] [0] (.v (.ag (KD q 0))) [(0,some (.arr 171 eM q.convs))]:=by
 refine aP func280 ?_;repeat' (first|refine af ?_ ?_|refine ae ?_|exact ah|refine ab fun hb=>?_)
 refine bP (qf [(0,9)]) ?_;exact aj
theorem jh (q:Qu) (hs:Sd q):FSpec prog 322 [.one (.ptr 0 0)] [(0,.box 81 q.d)] [] (.c (.sl fV (lf q).2)) [(0,some (.box 81 (lf q).1.d))]:=by
 have hh:=hs.hv.len;have h1:=hs.clen;have h2:=hs.wlen;have hm:fF q≤16:=by unfold fF;omega
 refine aP func322 ?_;repeat' (first|refine af ?_ ?_|((with_reducible refine Dj ?_);refine CU ?_)|((with_reducible refine Dj ?_);refine CT ?_)|refine ae ?_|exact ah|refine ab fun hb=>?_)
 refine bV 3 1000 197 fV rfl rfl rfl ?_;refine ai (fun x:Nat×Qu×List Ho=>Sd x.2.1∧fF x.2.1≤x.1∧eR x.1 x.2.1 x.2.2=lf q∧x.2.2.length+x.1≤16) (fun x=>bt [0,1000] [(0,.c (.ptr 0 0)),(3,.c (.own 1000))] [(0,.box 81 x.2.1.d),(1000,.arr 197 fV x.2.2)]) (fun x=>x.1) (fF q,q,[]) ⟨hs,Nat.le_refl _,rfl,by simpa using hm⟩ aN ?_;rintro ⟨n,q1,acc⟩ ⟨hs1,hn,hadv,hlen⟩;dsimp only at *
 have kH:=Eb q1;cases hset:aw q1 with
 | true =>
  rw [xe hs1 hset] at hadv;rw [←hadv];have hroom:=(cW.1 hset).2;cases hq:dm q1 with
  | none =>
   rw [hq,Option.isSome_none] at kH;repeat' (first|refine af ?_ ?_|refine aa 9 rfl (cB [] (kH) ?_)|refine ae ?_|exact ah|refine ab fun hb=>?_|(refine ⟨fun _ h=>(by cases h),?_⟩;refine bP (qf []) ?_;exact aj))
  | some x =>
   have hr:=hroom x hq;obtain ⟨z,hz⟩:∃z,mA q1=z:=⟨_,rfl⟩;rw [hq,hz,Option.isSome_some] at kH;obtain rfl:x=z:=by rw [←hz];unfold mA;rw [hq];rfl
   have kR:=D9 q1.res q1.holds x.proc x.am;rw [hr] at kR;repeat' (first|refine af ?_ ?_|(refine aa 9 rfl ?_;first|(refine cB [] (kH) ?_)|(refine cB [] (kR) ?_))|refine ae ?_|exact ah|refine ab fun hb=>?_|(refine ⟨fun _ h=>(by cases h),?_⟩;refine bP (qf []) ?_;exact aj))
 | false =>
  obtain ⟨x,hx,hs2,hn2,hpos,hgo⟩:=tM (acc:=acc) hs1 hset hn;rw [hgo] at hadv;have hh1:=hs1.hv.len;have kR:=D9 q1.res q1.holds x.proc x.am;rw [show fW q1.res q1.holds x.proc x.am=true by have:=hset;simpa [aw,mN.2 hs1,hx] using this] at kR;obtain ⟨z,hz⟩:∃z,mA q1=z:=⟨_,rfl⟩;rw [hx,hz,Option.isSome_some] at kH;obtain rfl:x=z:=by rw [←hz];unfold mA;rw [hx];rfl
  clear hz;obtain ⟨r,hs',cs,ws,gn⟩:=q1;cases cs with
  | cons y cs =>
   obtain rfl:y=x:=by simpa [dm] using hx
   repeat' (first|refine af ?_ ?_|(refine aa 8 rfl ?_;refine aV (ak rfl rfl (aB rfl rfl) (aD [⟨y.proc,y.am⟩] rfl rfl rfl rfl) rfl aL aL) rfl rfl rfl ?_)|(refine aa 9 rfl ?_;first|(refine cB [] (kH) ?_)|(refine cB [] (kR) ?_)|(refine cC [] (D8 hs' y.proc y.am (by dsimp only at hh1;omega)) ?_))|refine ae ?_|exact ah|(refine ab fun hb=>?_;first|(simp at hb;done)|skip))
   refine ⟨(n-1,gH ⟨r,hs',y :: cs,ws,gn⟩ y,acc++[⟨y.proc,y.am⟩]),⟨hs2,by dsimp only;omega,hadv,by simp;omega⟩,by dsimp only;omega,?_⟩;exact a8 (qf [(1000,74)])
  | nil =>
   obtain ⟨ws2,rfl⟩:∃m,ws=x :: m:=by
    cases ws with
    | nil=>simp [dm] at hx
    | cons z m=>exact ⟨m,by rw [show z=x by simpa [dm] using hx]⟩
   repeat' (first|refine af ?_ ?_|(refine aa 8 rfl ?_;refine aV (ak rfl rfl (aB rfl rfl) (aD [⟨x.proc,x.am⟩] rfl rfl rfl rfl) rfl aL aL) rfl rfl rfl ?_)|(refine aa 9 rfl ?_;first|(refine cB [] (kH) ?_)|(refine cB [] (kR) ?_)|(refine cC [] (D8 hs' x.proc x.am (by dsimp only at hh1;omega)) ?_))|refine ae ?_|exact ah|(refine ab fun hb=>?_;first|(simp at hb;done)|skip))
   refine ⟨(n-1,gH ⟨r,hs',[],x :: ws2,gn⟩ x,acc++[⟨x.proc,x.am⟩]),⟨hs2,by dsimp only;omega,hadv,by simp;omega⟩,by dsimp only;omega,?_⟩;exact a8 (qf [(1000,74)])
theorem ji (n:Int):FSpec prog 153 [iV n] [] [] (.i (aS n)) []:=by
 obtain ⟨v,hv⟩:∃v,aS n=v:=⟨_,rfl⟩;rw [hv];unfold aS at hv;refine aP func153 ?_;by_cases h:n<0∨1073741824≤n
 ·rw [if_pos h] at hv;obtain rfl:=hv;repeat' (first|refine af ?_ ?_|refine ae ?_|exact ah|refine ab fun hb=>?_|exact aX|fail)
 ·rw [if_neg h] at hv;obtain rfl:=hv;repeat' (first|refine af ?_ ?_|refine ae ?_|exact ah|refine ab fun hb=>?_|exact aX|fail)
theorem Lc (q:Qu) (p:Pr) (hl:q.convs.length≤100000):FSpec prog 331 [.one (.ptr 0 0),.one (.ptr 1 0)] [(0,.box 81 q.d),jH 1 p] [] (.tup []) [(0,some (.box 81 { q with convs:=bI q.convs p }.d)),(1,some (jH 1 p).2)]:=by
 refine aP func331 ?_;repeat' (first|refine af ?_ ?_|refine aa 9 rfl (cC [] (n9 q.convs p hl) ?_)|refine ae ?_|exact ah|refine ab fun hb=>?_|(exact mS (qf [])))
theorem Lf (q:Qu) (p:Pr) (hl:q.waits.length≤100000):FSpec prog 332 [.one (.ptr 0 0),.one (.ptr 1 0)] [(0,.box 81 q.d),jH 1 p] [] (.tup []) [(0,some (.box 81 { q with waits:=bI q.waits p }.d)),(1,some (jH 1 p).2)]:=by
 refine aP func332 ?_;repeat' (first|refine af ?_ ?_|refine aa 9 rfl (cC [] (n9 q.waits p hl) ?_)|refine ae ?_|exact ah|refine ab fun hb=>?_|(exact mS (qf [])))
theorem IJ (q:Qu) (p:Pr) (hc:q.convs.length≤100000) (hw:q.waits.length≤100000) {q2:Qu} (hq:{ q with convs:=bI q.convs p,waits:=bI q.waits p } = q2) (hs:Sd q2):FSpec prog 281 [.one (.ptr 0 0),.one (.slb 1 2)] [(0,.box 81 q.d),(1,.box 1 [.clo 331 [0,2],.clo 332 [0,2]]),jH 2 p] [] (nU (gK (dt q2))) [(0,none),(1,none),(2,none)]:=by
 refine aP func281 ?_;obtain ⟨q1,hq1⟩:∃q1,{ q with convs:=bI q.convs p } = q1:=⟨_,rfl⟩;have k1:=Lc q p hc;rw [hq1] at k1;have k2:=Lf q1 p (by rw [←hq1];exact hw);rw [show ({ q1 with waits:=bI q1.waits p }:Qu)=q2 by rw [←hq,←hq1]] at k2;repeat' (first|refine af ?_ ?_|(refine aa 7 rfl ?_;refine sx (jg rfl rfl) ?_)|refine ae ?_|exact ah|refine ab fun hb=>?_)
 refine ai (fun x:Nat×Qu=>x.1=0∧x.2=q∨x.1=1∧x.2=q1∨x.1=2∧x.2=q2) (fun x=>bt [0,1,2,4] [(0,.c (.ptr 0 0)),(4,.c (.ptr 4 0)),(10,.c (.slb 1 2)),(11,.i 2),(12,.i x.1)] [(0,.box 81 x.2.d),(4,.box 81 yK),(1,.box 1 [.clo 331 [0,2],.clo 332 [0,2]]),jH 2 p]) (fun x=>2-x.1) (0,q) (.inl ⟨rfl,rfl⟩) aN ?_;rintro ⟨i,z⟩ hz;dsimp only at *
 rcases hz with ⟨rfl,rfl⟩|⟨rfl,rfl⟩|⟨rfl,rfl⟩
 ·repeat' (first
   | refine af ?_ ?_
   | (refine aa 6 rfl ?_;refine sx (dW (i:=0) rfl rfl rfl rfl (by decide)) ?_)
   | (refine aa 9 rfl ?_;refine mt 0 [0,1] (qf [(0,0),(1,2)]) (k1) ?_)
   | refine ae ?_
   | exact ah|(refine ab fun hb=>?_;first|(exact absurd hb (by decide))|skip))
  refine ⟨(1,q1),.inr (.inl ⟨rfl,rfl⟩),by simp,?_⟩;exact aN
 ·repeat' (first
   | refine af ?_ ?_
   | (refine aa 6 rfl ?_;refine sx (dW (i:=1) rfl rfl rfl rfl (by decide)) ?_)
   | (refine aa 9 rfl ?_;refine mt 0 [0,1] (qf [(0,0),(1,2)]) (k2) ?_)
   | refine ae ?_
   | exact ah|(refine ab fun hb=>?_;first|(exact absurd hb (by decide))|skip))
  refine ⟨(2,q2),.inr (.inr ⟨rfl,rfl⟩),by simp,?_⟩;exact aN
 ·have kA:=jh z hs;unfold dt;obtain ⟨⟨N,G⟩,hN⟩:∃x,lf z=x:=⟨_,rfl⟩;have hg:N.gen=z.gen:=by have:=(dX hs).2.1;rw [hN] at this;exact this
  rw [hN] at kA ⊢;dsimp only;rw [←hg];repeat' (first|refine af ?_ ?_|(refine aa 9 rfl ?_;first|(refine cH (qf [(0,0)]) (kA) ?_)|(refine cB [] (ji N.gen) ?_))|refine ae ?_|exact ah|(refine ab fun hb=>?_;first|(exact absurd hb (by decide))|skip)|(refine cX (qf []) ?_;exact aj))
theorem Ei (q:Qu) (p:Pr) {R:Qu×List Ho×Int} (hR:bh q p=R):FSpec prog 319 [q.a,p.a] [] [] (nU R) []:=by
 refine aP func319 ?_;cases hS:aw q with
 | false =>
  obtain rfl:R=bK 2:=by rw [←hR];simp [bh,hS]
  repeat' (first|refine af ?_ ?_|refine aa 9 rfl (cB [] (cE q) ?_)|refine ae ?_|exact ah|(refine ab fun hb=>?_;first|(simp [hS] at hb;done)|skip)|(refine cX (qf []) ?_;exact aj))
 | true =>
  have hs:=aJ hS;have h1:=hs.hv.len;have h2:=hs.clen;have h3:=hs.wlen;cases hw:ap q p with
  | none =>
   obtain rfl:R=bK 10:=by rw [←hR];simp [bh,hS,hw]
   repeat' (first|refine af ?_ ?_|(refine aa 9 rfl ?_;first|(refine cB [] (cE q) ?_)|(refine cB [] (eK q p (by omega) (by omega) hw) ?_))|refine ae ?_|exact ah|(refine ab fun hb=>?_;first|(simp [hS] at hb;done)|skip)|(refine cX (qf []) ?_;exact aj))
  | some a =>
   obtain rfl:R=gK (dt { q with convs:=bI q.convs p,waits:=bI q.waits p }):=by rw [←hR];simp [bh,hS,hw]
   have hd:=hs.drop p;have kF:=IJ q p (by omega) (by omega) rfl hd;repeat' (first|refine af ?_ ?_|(refine aa 0 rfl ?_;refine sx (cS (ks:=[9,3]) rfl rfl) ?_)|(refine aa 9 rfl ?_;first|(refine cB [] (cE q) ?_)|(refine cB [] (eK q p (by omega) (by omega) hw) ?_)|(refine cC [] (mi q (by omega) (by omega) (by omega)) ?_)|(refine cH (qf [(0,9),(1,27),(2,3)]) (kF) ?_))|refine ae ?_|exact ah|(refine ab fun hb=>?_;first|(simp [hS] at hb;done)|skip)|(refine cX (qf []) ?_;exact aj))
theorem Lh (q:Qu) (p:Pr) (a:Am) (hl:q.holds.length≤100000):FSpec prog 325 [.one (.ptr 0 0),.one (.ptr 1 0),.one (.ptr 2 0)] [(0,.box 81 q.d),jH 1 p,(2,.box 37 [.sc (.int .i64 a.mode),.sc (.int .i64 a.units)])] [] (.tup []) [(0,some (.box 81 { q with holds:=cr q.holds p a }.d)),(1,some (jH 1 p).2),(2,some (.box 37 [.sc (.int .i64 a.mode),.sc (.int .i64 a.units)]))]:=by
 refine aP func325 ?_;repeat' (first|refine af ?_ ?_|refine aa 9 rfl (cC [] (D8 q.holds p a hl) ?_)|refine ae ?_|exact ah|refine ab fun hb=>?_|(exact mS (qf [])))
theorem IK (q:Qu) (p:Pr) (a:Am) (hc:q.holds.length≤100000) {q2:Qu} (hq:{ q with holds:=cr q.holds p a } = q2) (hs:Sd q2):FSpec prog 281 [.one (.ptr 0 0),.one (.slb 1 1)] [(0,.box 81 q.d),(1,.box 1 [.clo 325 [0,2,3]]),jH 2 p,(3,.box 37 [.sc (.int .i64 a.mode),.sc (.int .i64 a.units)])] [] (nU (gK (dt q2))) [(0,none),(1,none),(2,none),(3,none)]:=by
 refine aP func281 ?_;have k1:=Lh q p a hc;rw [hq] at k1;repeat' (first|refine af ?_ ?_|(refine aa 7 rfl ?_;refine sx (jg rfl rfl) ?_)|refine ae ?_|exact ah|refine ab fun hb=>?_)
 refine ai (fun x:Nat×Qu=>x.1=0∧x.2=q∨x.1=1∧x.2=q2) (fun x=>bt [0,1,2,3,4] [(0,.c (.ptr 0 0)),(4,.c (.ptr 4 0)),(10,.c (.slb 1 1)),(11,.i 1),(12,.i x.1)] [(0,.box 81 x.2.d),(4,.box 81 yK),(1,.box 1 [.clo 325 [0,2,3]]),jH 2 p,(3,.box 37 [.sc (.int .i64 a.mode),.sc (.int .i64 a.units)])]) (fun x=>1-x.1) (0,q) (.inl ⟨rfl,rfl⟩) aN ?_;rintro ⟨i,z⟩ hz;dsimp only at *
 rcases hz with ⟨rfl,rfl⟩|⟨rfl,rfl⟩
 ·repeat' (first
   | refine af ?_ ?_
   | (refine aa 6 rfl ?_;refine sx (dW (i:=0) rfl rfl rfl rfl (by decide)) ?_)
   | (refine aa 9 rfl ?_;refine mt 0 [0,1,2] (qf [(0,0),(1,2),(2,3)]) (k1) ?_)
   | refine ae ?_
   | exact ah|(refine ab fun hb=>?_;first|(exact absurd hb (by decide))|skip))
  refine ⟨(1,q2),.inr ⟨rfl,rfl⟩,by simp,?_⟩;exact aN
 ·have kA:=jh z hs;unfold dt;obtain ⟨⟨N,G⟩,hN⟩:∃x,lf z=x:=⟨_,rfl⟩;have hg:N.gen=z.gen:=by have:=(dX hs).2.1;rw [hN] at this;exact this
  rw [hN] at kA ⊢;dsimp only;rw [←hg];repeat' (first|refine af ?_ ?_|(refine aa 9 rfl ?_;first|(refine cH (qf [(0,0)]) (kA) ?_)|(refine cB [] (ji N.gen) ?_))|refine ae ?_|exact ah|(refine ab fun hb=>?_;first|(exact absurd hb (by decide))|skip)|(refine cX (qf []) ?_;exact aj))
theorem BO {q:Qu} {p:Pr} (hs:Sd q) (hz:ao q.holds p≠⟨0,0⟩):(0≤dG q.convs p)↔(ap q p).isSome=true:=by
 unfold ap;rw [eE];rcases gz p q.convs 0 with ⟨h1,h2⟩|⟨i,h,h1,h2⟩
 ·have hw:gF q.waits p=none:=by
   rcases gz p q.waits 0 with ⟨h3,h4⟩|⟨i,h,h3,h4⟩
   ·exact h4
   ·exfalso;have hf:∃x∈q.waits,x.proc=p:=Classical.byContradiction fun hn=>by
     have:=ld (p:=p) (l:=q.waits) (k:=0) fun x hx e=>hn ⟨x,hx,e⟩;rw [this] at h3;omega
    obtain ⟨x,hx,rfl⟩:=hf;exact hz (hs.wok _ hx).2.2
  unfold dG;rw [h1,h2,hw];simp
 ·unfold dG;rw [h1,h2];simp
theorem Gx (q:Qu) (p:Pr) (a:Am) {R:Qu×List Ho×Int} (hR:bi q p a=R):FSpec prog 285 [q.a,p.a,a.a] [] [] (nU R) []:=by
 refine aP func285 ?_;cases hS:aw q with
 | false =>
  obtain rfl:R=bK 2:=by rw [←hR];simp [bi,hS]
  repeat' (first|refine af ?_ ?_|refine aa 9 rfl (cB [] (cE q) ?_)|refine ae ?_|exact ah|(refine ab fun hb=>?_;first|(simp [hS] at hb;done)|skip)|(refine cX (qf []) ?_;exact aj))
 | true =>
  have hs:=aJ hS;have h1:=hs.hv.len;have h2:=hs.clen;have h3:=hs.wlen;cases hz:aH (ao q.holds p) with
  | true =>
   obtain rfl:R=bK 10:=by rw [←hR];simp [bi,hS,hz]
   repeat' (first|refine af ?_ ?_|(refine aa 9 rfl ?_;first|(refine cB [] (cE q) ?_)|(refine cB [] (eJ q p) ?_)|(refine cB [] (gM (ao q.holds p)) ?_))|refine ae ?_|exact ah|(refine ab fun hb=>?_;first|(simp [hS] at hb;done)|(simp [hz] at hb;done)|skip)|(refine cX (qf []) ?_;exact aj))
  | false =>
   have hcv:=BO hs (bl.1 hz);obtain ⟨n,hn⟩:∃n,dG q.convs p=n:=⟨_,rfl⟩;have kF:=oT q.convs p;rw [hn] at hcv kF;cases hw:ap q p with
   | some b =>
    obtain rfl:R=bK 14:=by rw [←hR];simp [bi,hS,hz,hw]
    have h0:0≤n:=hcv.2 (by rw [hw];rfl);repeat' (first|refine af ?_ ?_|(refine aa 9 rfl ?_;first|(refine cB [] (cE q) ?_)|(refine cB [] (eJ q p) ?_)|(refine cB [] (gM (ao q.holds p)) ?_)|(refine cB [] (kF) ?_))|refine ae ?_|exact ah|(refine ab fun hb=>?_;first|(simp [hS] at hb;done)|(simp [hz] at hb;done)|skip)|(refine cX (qf []) ?_;exact aj))
   | none =>
    have h0:¬0≤n:=fun h=>by have:=hcv.1 h;rw [hw] at this;cases this
    cases hc:bg q.res (ao q.holds p) a with
    | false =>
     obtain rfl:R=bK 12:=by rw [←hR];simp [bi,hS,hz,hw,hc]
     repeat' (first|refine af ?_ ?_|(refine aa 9 rfl ?_;first|(refine cB [] (cE q) ?_)|(refine cB [] (eJ q p) ?_)|(refine cB [] (gM (ao q.holds p)) ?_)|(refine cB [] (kF) ?_)|(refine cB [] (fS q.res (ao q.holds p) a) ?_))|refine ae ?_|exact ah|(refine ab fun hb=>?_;first|(simp [hS] at hb;done)|(simp [hz] at hb;done)|(simp [hc] at hb;done)|skip)|(refine cX (qf []) ?_;exact aj))
    | true =>
     have hd:=hs.lower hw (bl.1 hz) hc;obtain ⟨R1,hR1⟩:∃R1,R1=(bif decide (ao q.holds p=a) then gK (q,[]) else gK (dt { q with holds:=cr q.holds p a })):=⟨_,rfl⟩;obtain rfl:R=R1:=by rw [←hR,hR1];simp [bi,hS,hz,hw,hc]
     clear hR;have kL:=IK q p a (by omega) rfl hd;repeat' (first|refine af ?_ ?_|(refine aa 0 rfl ?_;refine sx (cS (ks:=[10,4,5]) rfl rfl) ?_)|(refine aa 9 rfl ?_;first|(refine cB [] (cE q) ?_)|(refine cB [] (eJ q p) ?_)|(refine cB [] (gM (ao q.holds p)) ?_)|(refine cB [] (kF) ?_)|(refine cB [] (fS q.res (ao q.holds p) a) ?_)|(refine cC [] (mi q (by omega) (by omega) (by omega)) ?_)|(refine cH (qf [(0,10),(1,41),(2,4),(3,5)]) (kL) ?_))|refine ae ?_|exact ah|(refine ab fun hb=>?_;first|(simp [hS] at hb;done)|(simp [hz] at hb;done)|(simp [hc] at hb;done)|skip))
     ·obtain rfl:R=gK (q,[]):=by rw [hR1];simp [hb]
      refine cX (qf []) ?_;exact aj
     ·obtain rfl:R=gK (dt { q with holds:=cr q.holds p a }):=by rw [hR1,decide_eq_false (fun h=>hb h.symm)];rfl
      refine cX (qf []) ?_;exact aj
theorem Ak {P:Program} {o:Oper} {s:Mst} {ts:Array TypeId} {x y:Operand} {a b:Int} (ho:o.op = .call { callee:=.builtin .max,args:=#[x,y],argTypes:=ts }) (hx:s.ev x = .i a) (hy:s.ev y = .i b):LOp P o s [] ⟨.i (max a b),[],[]⟩ :=
 iC (by rw [ho];rfl) hx hy fun ev w hx hy=>by
  have h:(if b > a then b else a)=max a b:=by rw [Int.max_def];split <;> split <;> omega
  simp [execOp,ho,hx,hy,resolve,invoke,builtin,Builtin.max_,Builtin.max2,h]
theorem Ej (s:ByteArray):FSpec prog 108 [.one (.sc (.string s))] [] [] (.b (cK s.toList)) [] :=
 cz (fun b W=>by kernel_rfl) rfl fun w S ρ vs _ h=>by
  match vs,h with
  | [_],⟨rfl,_⟩=>exact (mu s w).mono fun e w' h=>⟨_,h.1,by rw [h.2];exact Below.refl _ _,rfl⟩
theorem Kg:∀(x:Ex) (d lev n:Nat),lev≤5→n≤24→FSpec prog 296 [x.a d,iV lev,.one (.ptr 0 0)] [(0,.box 3 [.sc (.int .i64 n)])] [] (.i (iX x lev n).1) [(0,some (.box 3 [.sc (.int .i64 (iX x lev n).2)]))]:=by
 refine Ex.ind (fun k a l ih=>?_);intro d lev n hlev hn;obtain ⟨r,hr⟩:∃r,iX (.mk k a l) lev n=r:=⟨_,rfl⟩;rw [hr];rw [zu] at hr;show FSpec prog 296 [.ag (sO d k a l),iV lev,.one (.ptr 0 0)] [(0,.box 3 [.sc (.int .i64 n)])] [] (.i r.1) [(0,some (.box 3 [.sc (.int .i64 r.2)]))];refine aP func296 ?_;refine aM (fun c ρ a w hr=>iH (t:=0) (i:=4) hr rfl rfl) (fun hx=>?_);obtain ⟨hlen,hne⟩:=hx;by_cases hc:4<lev∨24<n+1
 ·rw [if_pos hc] at hr;obtain rfl:=hr;repeat' (first|refine af ?_ ?_|refine ae ?_|exact ah|refine ab fun hb=>?_|exact aX|fail)
  all_goals (exfalso;omega)
 rw [if_neg hc] at hr;repeat' (first|refine af ?_ ?_|refine ae ?_|exact ah|refine ab fun hb=>?_)
 refine ai (fun x:Nat×Nat×Nat=>x.1≤l.length∧x.2.1≤24∧x.2.2≤5∧mv (l.drop x.1) lev x.2.1 x.2.2=r) (fun x=>bt [0] [(1,.i lev),(2,.c (.ptr 0 0)),(7,.i x.2.2),(25,.c (.sl (nc d) l)),(26,.i l.length),(27,.i x.1)] [(0,.box 3 [.sc (.int .i64 x.2.1)])]) (fun x=>l.length-x.1) (0,n+1,0) ⟨Nat.zero_le _,by dsimp only;omega,Nat.zero_le _,hr⟩ aN ?_;rintro ⟨i,n1,m⟩ ⟨hi,hn1,hm,hs⟩;dsimp only at *
 by_cases hlt:i<l.length
 case neg =>
  rw [List.drop_eq_nil_of_le (by omega)] at hs;obtain rfl:=hs;repeat' (first|refine af ?_ ?_|refine ae ?_|exact ah|refine ab fun hb=>?_|exact aX|fail)
 rw [List.drop_eq_getElem_cons hlt,qv] at hs;obtain ⟨e,rfl⟩:=hne (by omega);obtain ⟨⟨a1,n2⟩,h1⟩:∃p,iX l[i] (lev+1) n1=p:=⟨_,rfl⟩;have h5:a1≤5∧(a1≠0→n2≤24):=by
  rcases zv l[i] (lev+1) n1 with ⟨b1,b2,b3⟩|⟨b1,b2,b3⟩ <;> rw [h1] at *
  ·injection b3;omega
  ·dsimp only at b2;omega
 have kS:FSpec prog 296 [l[i].a e,iV ((lev:Int)+1),.one (.ptr 0 0)] [(0,.box 3 [.sc (.int .i64 n1)])] [] (.i a1) [(0,some (.box 3 [.sc (.int .i64 n2)]))]:=by
  have:=ih l[i] (List.getElem_mem hlt) e (lev+1) n1 (by omega) hn1;rw [h1] at this;exact this
 rw [h1] at hs;dsimp only at hs;clear ih h1;repeat' (first|refine af ?_ ?_|(refine aa 9 rfl ?_;first|(refine sx (Ak rfl rfl rfl) ?_)|(refine cH (qf [(0,0)]) (kS) ?_))|refine ae ?_|exact ah|refine ab fun hb=>?_)
 ·obtain rfl:(0,n2)=r:=by rw [←hs,if_pos (by omega)]
  refine bP (qf []) ?_;exact aj
 ·refine ⟨(i+1,n2,max m a1),⟨by dsimp only;omega,by dsimp only;omega,by dsimp only;omega,by rw [←hs,if_neg (by omega)]⟩,by dsimp only;omega,?_⟩;dsimp only;exact aN
theorem y6 (x:Ex) (d:Nat) {n:Nat} (hn:(if x9 x then x.dep else 0:Nat)=n):FSpec prog 237 [x.a d] [] [] (.i n) []:=by
 have kM:=Kg x d 1 0 (by decide) (by decide);rw [Fd,hn] at kM;obtain ⟨m,hm⟩:∃m,(iX x 1 0).2=m:=⟨_,rfl⟩;rw [hm] at kM;refine aP func237 ?_;repeat' (first|refine af ?_ ?_|refine aa 9 rfl (cH (qf [(0,3)]) (kM) ?_)|refine ae ?_|exact ah|refine ab fun hb=>?_|exact aX|fail)
def Li (o:Option (List Tm)):List (Nat×Option Box):=match o with
 | some r=>[(0,some (.box 103 [.own 2])),(1,none),(2,some (.arr 39 cw r))]
 | none=>[(0,none),(1,none),(2,none)]
def mC:List Tm→List Tm→Tm→Int
 | [],acc,_=>if acc.length=8 then 4 else 0
 | b :: l,acc,a=>bif decide (a=b) then 0 else bif decide (a.name=b.name) then 13 else mC l acc a
theorem rL (b:Tm) (l acc:List Tm) (a:Tm):mC (b :: l) acc a=bif decide (a=b) then 0 else bif decide (a.name=b.name) then 13 else mC l acc a:=rfl
theorem xN (acc:List Tm) (a:Tm):∀l,(go l acc a=none∧(mC l acc a=4∨mC l acc a=13))∨(∃r,go l acc a=some r)∧mC l acc a=0
 | []=>by
  unfold go mC;by_cases h:acc.length=8
  ·rw [if_pos h,if_pos h];exact .inl ⟨rfl,.inl rfl⟩
  ·rw [if_neg h,if_neg h];exact .inr ⟨⟨_,rfl⟩,rfl⟩
 | b :: l=>by
  rw [jw,rL];cases decide (a=b) with
  | true=>exact .inr ⟨⟨_,rfl⟩,rfl⟩
  | false =>
   cases decide (a.name=b.name) with
   | true=>exact .inl ⟨rfl,.inr rfl⟩
   | false=>exact xN acc a l
theorem Hi (acc:List Tm) (a:Tm) (h8:acc.length≤8) {c:Int} (hc:mC acc acc a=c) {R:Option (List Tm)} (hR:go acc acc a=R):FSpec prog 298 [.one (.ptr 0 0),a.a] [(0,.box 103 [.own 1]),(1,.arr 39 cw acc)] [2] (.i c) (Li R):=by
 refine gp func298 rfl (fun b W=>by kernel_rfl) (by cases R <;> rfl) (Nat.le_of_ble_eq_true rfl) ?_;repeat' (first|refine af ?_ ?_|refine ae ?_|exact ah|refine ab fun hb=>?_)
 refine ai (fun i=>i≤acc.length∧mC (acc.drop i) acc a=c∧go (acc.drop i) acc a=R) (fun i=>bt [0,1,3] [(0,.c (.ptr 0 0)),(3,.c (.ptr 3 0)),(9,.c (.own 1)),(10,.i acc.length),(11,.i i)] [(0,.box 103 [.own 1]),(1,.arr 39 cw acc),(3,.box 39 [.sc (.string a.name),.sc (.int .i64 a.am.mode),.sc (.int .i64 a.am.units)])]) (fun i=>acc.length-i) 0 ⟨Nat.zero_le _,hc,hR⟩ aN ?_;rintro i ⟨hi,hc,hR⟩;by_cases hlt:i<acc.length
 ·rw [List.drop_eq_getElem_cons hlt] at hc hR;rw [rL] at hc;rw [jw] at hR;by_cases h1:a=acc[i]
  ·rw [decide_eq_true h1] at hc hR;obtain rfl:=hc;obtain rfl:=hR;repeat' (first|refine af ?_ ?_|refine ae ?_|exact ah|refine ab fun hb=>?_|(refine bP (qf [(2,1)]) ?_;exact aj))
  rw [decide_eq_false h1,cond_false] at hc hR;by_cases h2:a.name=acc[i].name
  ·rw [decide_eq_true h2] at hc hR;obtain rfl:=hc;obtain rfl:=hR;repeat' (first|refine af ?_ ?_|refine ae ?_|exact ah|(refine ab fun hb=>?_;first|(exact absurd (by rw [h2]) hb)|skip)|exact aX|fail)
  ·rw [decide_eq_false h2] at hc hR;repeat' (first|refine af ?_ ?_|refine ae ?_|exact ah|(refine ab fun hb=>?_;first|(exact absurd (toList_inj hb) h2)|skip))
   refine ⟨i+1,⟨by omega,hc,hR⟩,by omega,?_⟩;exact aN
 ·rw [List.drop_eq_nil_of_le (by omega)] at hc hR;unfold mC at hc;unfold go at hR;by_cases h9:acc.length=8
  ·rw [if_pos h9] at hc hR;obtain rfl:=hc;obtain rfl:=hR;repeat' (first|refine af ?_ ?_|refine ae ?_|exact ah|refine ab fun hb=>?_|exact aX|fail)
  ·rw [if_neg h9] at hc hR;obtain rfl:=hc;obtain rfl:=hR;repeat' (first|refine af ?_ ?_|(refine aa 8 rfl ?_;refine aV (ak rfl rfl (aB rfl rfl) (aD [a] rfl rfl rfl rfl) rfl aL aL) rfl rfl rfl ?_)|refine ae ?_|exact ah|refine ab fun hb=>?_|(refine bP (qf [(2,35)]) ?_;exact aj))
theorem y7 (a:Tm):FSpec prog 297 [a.a] [] [] (.b (jV a)) []:=by
 have hu:=vV a.am.mode a.am.units;unfold jV;rw [show bQ a.am=_ from hu];refine aP func297 ?_;repeat' (first|refine af ?_ ?_|(refine aa 9 rfl ?_;first|(refine cB [] (Ej a.name) ?_)|(refine cB [] (eo ⟨⟨#[]⟩,1,1,0⟩ a.am) ?_)|(refine cB [] (eo ⟨⟨#[]⟩,2,8,0⟩ a.am) ?_))|refine ae ?_|exact ah|refine ab fun hb=>?_)
 all_goals (refine d7 ?_;simp [*])
theorem Gy:∀(x:Ex) (d:Nat) (acc:List Tm),acc.length≤8→FSpec prog 238 [x.a d,.one (.ptr 0 0)] [(0,.box 103 [.own 1]),(1,.arr 39 cw acc)] [2] (.b (AX x acc).isSome) (Li (AX x acc)):=by
 refine Ex.ind (fun k a l ih=>?_);intro d acc h8;obtain ⟨R,hR⟩:∃R,AX (.mk k a l) acc=R:=⟨_,rfl⟩;rw [hR];rw [ym] at hR;show FSpec prog 238 [.ag (sO d k a l),.one (.ptr 0 0)] [(0,.box 103 [.own 1]),(1,.arr 39 cw acc)] [2] (.b R.isSome) (Li R);refine gp func238 rfl (fun b W=>by kernel_rfl) (by cases R <;> rfl) (Nat.le_of_ble_eq_true rfl) ?_;cases hE:l.isEmpty with
 | true =>
  obtain rfl:=List.isEmpty_iff.1 hE;rw [hE,cond_true,wi] at hR;cases hk:decide (k=0) && jV a with
  | false =>
   rw [hk] at hR;obtain rfl:none=R:=hR;repeat' (first|refine af ?_ ?_|refine aa 9 rfl (cB [] (y7 a) ?_)|refine ae ?_|exact ah|refine ab fun hb=>?_|exact aX|fail)
   all_goals (exfalso;revert hk;simp [*])
  | true =>
   rw [hk,cond_true] at hR;obtain ⟨h0,h1⟩:k=0∧jV a=true:=by simpa using hk
   rcases xN acc a acc with ⟨e1,e2⟩|⟨⟨r,e1⟩,e2⟩
   ·obtain rfl:none=R:=e1.symm.trans hR;rcases e2 with e2|e2;all_goals
     repeat' (first|refine af ?_ ?_|(refine aa 9 rfl ?_;first|(refine cB [] (y7 a) ?_)|(refine cH (qf [(0,0),(1,1),(2,1001)]) (Hi acc a h8 e2 e1) ?_))|refine ae ?_|exact ah|(refine ab fun hb=>?_;first|(simp [h1] at hb;done)|skip)|exact aX|fail)
   ·obtain rfl:some r=R:=e1.symm.trans hR;repeat' (first|refine af ?_ ?_|(refine aa 9 rfl ?_;first|(refine cB [] (y7 a) ?_)|(refine cH (qf [(0,0),(1,1),(2,1001)]) (Hi acc a h8 e2 e1) ?_))|refine ae ?_|exact ah|(refine ab fun hb=>?_;first|(simp [h1] at hb;done)|skip)|(refine bP (qf [(2,1001)]) ?_;exact aj))
 | false =>
  have hl0:0<l.length:=List.length_pos_iff.2 fun e=>by rw [e] at hE;cases hE
  rw [hE,cond_false] at hR;refine aM (fun c ρ a w hr=>iH (t:=0) (i:=4) hr rfl rfl) (fun hx=>?_);obtain ⟨hlen,hne⟩:=hx;obtain ⟨e,rfl⟩:=hne hl0;cases hg:oq k a l with
  | false =>
   rw [hg] at hR;obtain rfl:none=R:=hR;repeat' (first|refine af ?_ ?_|refine ae ?_|exact ah|refine ab fun hb=>?_|exact aX|fail)
   all_goals (exfalso;revert hg;simp [oq, *];try omega)
  | true =>
   rw [hg,cond_true] at hR;obtain ⟨⟨h1,h2⟩,h3⟩:(1≤k∧k≤(l.length:Int))∧a=iB:=by simpa [oq] using hg
   subst h3;repeat' (first|refine af ?_ ?_|refine ae ?_|exact ah|(refine ab fun hb=>?_;first|(simp at hb;done)|skip))
   refine ai (fun x:Nat×List Tm=>x.1≤l.length∧x.2.length≤8∧Ff (l.drop x.1) x.2=R) (fun x=>bt [0,1,1000] [(1,.c (.ptr 0 0)),(44,.c (.sl (nc (e+1)) l)),(45,.i l.length),(46,.i x.1)] [(0,.box 103 [.own 1000]),(1000,.arr 39 cw x.2)]) (fun x=>l.length-x.1) (0,acc) ⟨Nat.zero_le _,h8,hR⟩ (by exact a8 (qf [(1000,1)])) ?_;rintro ⟨i,acc1⟩ ⟨hi,hc,hs⟩;dsimp only at *
   by_cases hlt:i<l.length
   ·rw [List.drop_eq_getElem_cons hlt] at hs;rw [qA] at hs;have kS:=ih l[i] (List.getElem_mem hlt) e acc1 hc;have hlen2:=Fh l[i] acc1;clear ih;cases h1:AX l[i] acc1 with
    | none =>
     rw [h1] at hs kS;obtain rfl:none=R:=hs;repeat' (first|refine af ?_ ?_|refine aa 9 rfl (cH (qf [(0,0),(1,1000),(2,1001)]) (kS) ?_)|refine ae ?_|exact ah|refine ab fun hb=>?_|exact aX|fail)
    | some r =>
     rw [h1] at hs kS;have hlen3:=hlen2 r hc h1;repeat' (first|refine af ?_ ?_|refine aa 9 rfl (cH (qf [(0,0),(1,1000),(2,1001)]) (kS) ?_)|refine ae ?_|exact ah|refine ab fun hb=>?_)
     refine ⟨(i+1,r),⟨by dsimp only;omega,by dsimp only;omega,hs⟩,by dsimp only;omega,?_⟩;exact a8 (qf [(1000,1001)])
   ·rw [List.drop_eq_nil_of_le (by omega)] at hs;obtain rfl:some acc1=R:=hs;repeat' (first|refine af ?_ ?_|refine ae ?_|exact ah|refine ab fun hb=>?_|(refine bP (qf [(2,1000)]) ?_;exact aj))
theorem Lj (q:Qu) (p:Pr) (hl:q.holds.length≤100000):FSpec prog 286 [.one (.ptr 0 0),.one (.ptr 1 0)] [(0,.box 81 q.d),jH 1 p] [] (.tup []) [(0,some (.box 81 { q with holds:=cr q.holds p ⟨0,0⟩ }.d)),(1,some (jH 1 p).2)]:=by
 refine aP func286 ?_;repeat' (first|refine af ?_ ?_|refine aa 9 rfl (cC [] (D8 q.holds p ⟨0,0⟩ hl) ?_)|refine ae ?_|exact ah|refine ab fun hb=>?_|(exact mS (qf [])))
theorem Lk (q:Qu) (p:Pr) (hl:q.convs.length≤100000):FSpec prog 287 [.one (.ptr 0 0),.one (.ptr 1 0)] [(0,.box 81 q.d),jH 1 p] [] (.tup []) [(0,some (.box 81 { q with convs:=bI q.convs p }.d)),(1,some (jH 1 p).2)]:=by
 refine aP func287 ?_;repeat' (first|refine af ?_ ?_|refine aa 9 rfl (cC [] (n9 q.convs p hl) ?_)|refine ae ?_|exact ah|refine ab fun hb=>?_|(exact mS (qf [])))
theorem Ll (q:Qu) (p:Pr) (hl:q.waits.length≤100000):FSpec prog 289 [.one (.ptr 0 0),.one (.ptr 1 0)] [(0,.box 81 q.d),jH 1 p] [] (.tup []) [(0,some (.box 81 { q with waits:=bI q.waits p }.d)),(1,some (jH 1 p).2)]:=by
 refine aP func289 ?_;repeat' (first|refine af ?_ ?_|refine aa 9 rfl (cC [] (n9 q.waits p hl) ?_)|refine ae ?_|exact ah|refine ab fun hb=>?_|(exact mS (qf [])))
theorem IL (q:Qu) (p:Pr) (hh:q.holds.length≤100000) (hc:q.convs.length≤100000) (hw:q.waits.length≤100000) {q3:Qu} (hq:{ q with holds:=cr q.holds p ⟨0,0⟩,convs:=bI q.convs p,waits:=bI q.waits p } = q3) (hs:Sd q3):FSpec prog 281 [.one (.ptr 0 0),.one (.slb 1 3)] [(0,.box 81 q.d),(1,.box 1 [.clo 286 [0,2],.clo 287 [0,2],.clo 289 [0,2]]),jH 2 p] [] (nU (gK (dt q3))) [(0,none),(1,none),(2,none)]:=by
 refine aP func281 ?_;obtain ⟨q1,hq1⟩:∃q1,{ q with holds:=cr q.holds p ⟨0,0⟩ } = q1:=⟨_,rfl⟩;obtain ⟨q2,hq2⟩:∃q2,{ q1 with convs:=bI q1.convs p } = q2:=⟨_,rfl⟩;have k1:=Lj q p hh;rw [hq1] at k1;have k2:=Lk q1 p (by rw [←hq1];exact hc);rw [hq2] at k2;have k3:=Ll q2 p (by rw [←hq2,←hq1];exact hw);rw [show ({ q2 with waits:=bI q2.waits p }:Qu)=q3 by rw [←hq,←hq2,←hq1]] at k3;repeat' (first|refine af ?_ ?_|(refine aa 7 rfl ?_;refine sx (jg rfl rfl) ?_)|refine ae ?_|exact ah|refine ab fun hb=>?_)
 refine ai (fun x:Nat×Qu=>x.1=0∧x.2=q∨x.1=1∧x.2=q1∨x.1=2∧x.2=q2∨x.1=3∧x.2=q3) (fun x=>bt [0,1,2,4] [(0,.c (.ptr 0 0)),(4,.c (.ptr 4 0)),(10,.c (.slb 1 3)),(11,.i 3),(12,.i x.1)] [(0,.box 81 x.2.d),(4,.box 81 yK),(1,.box 1 [.clo 286 [0,2],.clo 287 [0,2],.clo 289 [0,2]]),jH 2 p]) (fun x=>3-x.1) (0,q) (.inl ⟨rfl,rfl⟩) aN ?_;rintro ⟨i,z⟩ hz;dsimp only at *
 rcases hz with ⟨rfl,rfl⟩|⟨rfl,rfl⟩|⟨rfl,rfl⟩|⟨rfl,rfl⟩
 ·repeat' (first
   | refine af ?_ ?_
   | (refine aa 6 rfl ?_;refine sx (dW (i:=0) rfl rfl rfl rfl (by decide)) ?_)
   | (refine aa 9 rfl ?_;refine mt 0 [0,1] (qf [(0,0),(1,2)]) (k1) ?_)
   | refine ae ?_
   | exact ah|(refine ab fun hb=>?_;first|(exact absurd hb (by decide))|skip))
  refine ⟨(1,q1),.inr (.inl ⟨rfl,rfl⟩),by simp,?_⟩;exact aN
 ·repeat' (first
   | refine af ?_ ?_
   | (refine aa 6 rfl ?_;refine sx (dW (i:=1) rfl rfl rfl rfl (by decide)) ?_)
   | (refine aa 9 rfl ?_;refine mt 0 [0,1] (qf [(0,0),(1,2)]) (k2) ?_)
   | refine ae ?_
   | exact ah|(refine ab fun hb=>?_;first|(exact absurd hb (by decide))|skip))
  refine ⟨(2,q2),.inr (.inr (.inl ⟨rfl,rfl⟩)),by simp,?_⟩;exact aN
 ·repeat' (first
   | refine af ?_ ?_
   | (refine aa 6 rfl ?_;refine sx (dW (i:=2) rfl rfl rfl rfl (by decide)) ?_)
   | (refine aa 9 rfl ?_;refine mt 0 [0,1] (qf [(0,0),(1,2)]) (k3) ?_)
   | refine ae ?_
   | exact ah|(refine ab fun hb=>?_;first|(exact absurd hb (by decide))|skip))
  refine ⟨(3,q3),.inr (.inr (.inr ⟨rfl,rfl⟩)),by simp,?_⟩;exact aN
 ·have kA:=jh z hs;unfold dt;obtain ⟨⟨N,G⟩,hN⟩:∃x,lf z=x:=⟨_,rfl⟩;have hg:N.gen=z.gen:=by have:=(dX hs).2.1;rw [hN] at this;exact this
  rw [hN] at kA ⊢;dsimp only;rw [←hg];repeat' (first|refine af ?_ ?_|(refine aa 9 rfl ?_;first|(refine cH (qf [(0,0)]) (kA) ?_)|(refine cB [] (ji N.gen) ?_))|refine ae ?_|exact ah|(refine ab fun hb=>?_;first|(exact absurd hb (by decide))|skip)|(refine cX (qf []) ?_;exact aj))
def vy (p:Pr):Nat→List Pr→Int
 | _,[]=>-1
 | k,x :: l=>bif decide (p=x) then (k:Int) else vy p (k+1) l
theorem uc (p x:Pr) (k:Nat) (l:List Pr):vy p k (x :: l)=bif decide (p=x) then (k:Int) else vy p (k+1) l:=rfl
theorem xO (p:Pr):∀(l:List Pr) (k:Nat),0≤vy p k l↔p∈l
 | [],_=>by simp [vy]
 | x :: l,k=>by
  rw [uc];by_cases h:p=x
  ·rw [decide_eq_true h];simp [h] <;> omega
  ·rw [decide_eq_false h,cond_false,xO p l (k+1)];simp [h]
theorem IM (l:List Pr) (p:Pr):FSpec prog 321 [.one (.sl fK l),p.a] [] [] (.i (vy p 0 l)) []:=by
 obtain ⟨v,hv⟩:∃v,vy p 0 l=v:=⟨_,rfl⟩;rw [hv];refine aP func321 ?_;refine aM (fun c ρ a w hr=>bz (t:=0) hr rfl) (fun hl0=>?_);repeat' (first|refine af ?_ ?_|refine ae ?_|exact ah|refine ab fun hb=>?_)
 refine ai (fun i=>i≤l.length∧vy p i (l.drop i)=v) (fun i=>bt [3] [(0,.c (.sl fK l)),(3,.c (.ptr 3 0)),(7,.i l.length),(8,.i i)] [jH 3 p]) (fun i=>l.length-i) 0 ⟨Nat.zero_le _,hv⟩ aN ?_;rintro i ⟨hi,hs⟩;by_cases hlt:i<l.length
 ·rw [List.drop_eq_getElem_cons hlt,uc] at hs;repeat' (first|refine af ?_ ?_|refine ae ?_|exact ah|refine ab fun hb=>?_)
  ·refine d7 ?_;rw [←hs];simp [*]
  ·refine ⟨i+1,⟨by omega,?_⟩,by omega,?_⟩
   ·rw [←hs];simp [*]
   ·exact aN
 ·rw [List.drop_eq_nil_of_le (by omega)] at hs;repeat' (first|refine af ?_ ?_|refine ae ?_|exact ah|refine ab fun hb=>?_)
  refine d7 ?_;rw [←hs];rfl
theorem Gz (l:List Pr) (p:Pr):FSpec prog 279 [.one (.sl fK l),p.a] [] [] (.b (decide (p∈l))) []:=by
 have h:=xO p l 0;have kI:=IM l p;obtain ⟨n,hn⟩:∃n,vy p 0 l=n:=⟨_,rfl⟩;rw [hn] at h kI;refine aP func279 ?_;repeat' (first|refine af ?_ ?_|refine aa 9 rfl (cB [] (kI) ?_)|refine ae ?_|exact ah|refine ab fun hb=>?_)
 refine d7 ?_;simp [h]
theorem oa (l:List Pr) (p:Pr):FSpec prog 222 [.one (.sl fK l),p.a] [] [] (.b (decide (p∈l))) []:=by
 refine aP func222 ?_;repeat' (first|refine af ?_ ?_|refine aa 9 rfl (cB [] (Gz l p) ?_)|refine ae ?_|exact ah|refine ab fun hb=>?_|(refine d7 ?_;rfl))
theorem Ek (q:Qu) (p:Pr) {R:Qu×List Ho×Int} (hR:a7 q p=R):FSpec prog 228 [q.a,p.a] [] [] (nU R) []:=by
 refine aP func228 ?_;cases hS:aw q with
 | false =>
  obtain rfl:R=bK 2:=by rw [←hR];simp [a7,hS]
  repeat' (first|refine af ?_ ?_|refine aa 9 rfl (cB [] (cE q) ?_)|refine ae ?_|exact ah|(refine ab fun hb=>?_;first|(simp [hS] at hb;done)|skip)|(refine cX (qf []) ?_;exact aj))
 | true =>
  have hs:=aJ hS;have h1:=hs.hv.len;have h2:=hs.clen;have h3:=hs.wlen;have hiff:=dY hs p;have kP:=oa (fq q) p;cases hh:eF q p with
  | false =>
   obtain rfl:R=bK 10:=by rw [←hR];simp [a7,hS,hh]
   rw [decide_eq_false (fun h=>by rw [hiff.1 h] at hh;cases hh)] at kP;repeat' (first|refine af ?_ ?_|(refine aa 9 rfl ?_;first|(refine cB [] (cE q) ?_)|(refine cC [] (vx q h1 (by omega) (by omega)) ?_)|(refine cB [] (kP) ?_))|refine ae ?_|exact ah|(refine ab fun hb=>?_;first|(simp [hS] at hb;done)|skip)|(refine cX (qf []) ?_;exact aj))
  | true =>
   obtain rfl:R=gK (dt { q with holds:=cr q.holds p ⟨0,0⟩,convs:=bI q.convs p,waits:=bI q.waits p }):=by rw [←hR];simp [a7,hS,hh]
   have hd:=hs.gone p;have kF:=IL q p (by omega) (by omega) (by omega) rfl hd;rw [decide_eq_true (hiff.2 hh)] at kP;repeat' (first|refine af ?_ ?_|(refine aa 0 rfl ?_;refine sx (cS (ks:=[7,3]) rfl rfl) ?_)|(refine aa 9 rfl ?_;first|(refine cB [] (cE q) ?_)|(refine cC [] (vx q h1 (by omega) (by omega)) ?_)|(refine cB [] (kP) ?_)|(refine cC [] (mi q (by omega) (by omega) (by omega)) ?_)|(refine cH (qf [(0,7),(1,23),(2,3)]) (kF) ?_))|refine ae ?_|exact ah|(refine ab fun hb=>?_;first|(simp [hS] at hb;done)|skip)|(refine cX (qf []) ?_;exact aj))
abbrev E6 (k:Nat) (a:Am):Nat×Box:=(k,.box 37 [.sc (.int .i64 a.mode),.sc (.int .i64 a.units)])
theorem GA {a b:Int} (ha:bY a=true) (hb:bY b=true):(dw a b=true→mO a b=a)∧(dw b a=true→mO a b=b):=by
 rcases cY ha with rfl|rfl|rfl|rfl|rfl <;> rcases cY hb with rfl|rfl|rfl|rfl|rfl <;> decide
theorem GB (r:Rs) (a b:Am):bG r a b=bif !bj r a || !bj r b then ⟨0,0⟩ else bif aH a then b else bif aH b then a else bif decide (r.kind=1) then ⟨mO a.mode b.mode,0⟩ else ⟨0,max a.units b.units⟩:=by
 unfold bG;cases h1:bj r a with
 | false=>rfl
 | true =>
  cases h2:bj r b with
  | false=>rfl
  | true =>
   unfold bg;rw [h1,h2];simp only [Bool.and_self,Bool.true_and,cond_true,Bool.not_true,Bool.or_self,cond_false];cases z1:aH a with
   | true =>
    have e1:a=⟨0,0⟩:=of_decide_eq_true z1;cases z2:aH b with
    | true=>have e2:b=⟨0,0⟩:=of_decide_eq_true z2;simp [e1,e2]
    | false=>simp
   | false =>
    cases z2:aH b with
    | true=>simp
    | false =>
     have f1:aF r a=true:=by unfold bj at h1;rw [z1] at h1;simpa using (Bool.and_eq_true_iff.1 h1).2
     have f2:aF r b=true:=by unfold bj at h2;rw [z2] at h2;simpa using (Bool.and_eq_true_iff.1 h2).2
     unfold aF at f1 f2;by_cases hk:r.kind=1
     ·rw [if_pos hk] at f1 f2;simp only [Bool.and_eq_true,decide_eq_true_eq] at f1 f2;obtain ⟨s1,s2⟩:=GA f1.2.1 f2.2.1;obtain ⟨am,au⟩:=a;obtain ⟨bm,bu⟩:=b;dsimp only at *
      obtain rfl:=f1.2.2;obtain rfl:=f2.2.2;simp only [hk,if_true,decide_true,cond_true,Bool.not_false,Bool.true_and,Bool.false_or];cases c1:dw am bm with
      | true=>rw [s1 c1];rfl
      | false =>
       cases c2:dw bm am with
       | true=>rw [s2 c2];rfl
       | false=>rfl
     ·rw [if_neg hk] at f1 f2;simp only [Bool.and_eq_true,decide_eq_true_eq] at f1 f2;obtain ⟨am,au⟩:=a;obtain ⟨bm,bu⟩:=b;dsimp only at *
      obtain rfl:=f1.2.1.1;obtain rfl:=f2.2.1.1;simp only [hk,if_false,decide_false,cond_false,Bool.not_false,Bool.true_and,Bool.false_or];by_cases c:bu≤au
      ·rw [decide_eq_true c,cond_true,Int.max_eq_left c]
      ·rw [decide_eq_false c,cond_false,decide_eq_true (by omega),cond_true,Int.max_eq_right (by omega)]
theorem Hj (r:Rs) (a b:Am):FSpec prog 198 [r.a,a.a,b.a] [] [] (.v (bG r a b).a) []:=by
  obtain ⟨v,hv⟩:∃v,bG r a b=v:=⟨_,rfl⟩;rw [hv];rw [GB] at hv;refine aP func198 ?_;repeat' (first|refine af ?_ ?_|(refine aa 9 rfl ?_;first|(refine sx (Ak rfl rfl rfl) ?_)|(refine cB [] (Ai r a) ?_)|(refine cB [] (Ai r b) ?_)|(refine cB [] (gM a) ?_)|(refine cB [] (gM b) ?_)|(refine cB [] (Ke a.mode b.mode) ?_))|refine ae ?_|exact ah|refine ab fun hb=>?_)
  all_goals first
    | (obtain rfl:v=⟨0,0⟩
       · (rw [←hv];simp [*];done)
       refine bP (qf []) ?_;exact aj)
    | (obtain rfl:v=b
       · (rw [←hv];simp [*];done)
       refine bP (qf []) ?_;exact aj)
    | (obtain rfl:v=a
       · (rw [←hv];simp [*];done)
       refine bP (qf []) ?_;exact aj)
    | (obtain rfl:v=⟨mO a.mode b.mode,0⟩
       · (rw [←hv];simp [*];done)
       refine bP (qf []) ?_;exact aj)
    | (obtain rfl:v=⟨0,max a.units b.units⟩
       · (rw [←hv];simp [*];done)
       refine bP (qf []) ?_;exact aj)
theorem Lm (q:Qu) (h a:Am) (p:Pr) (hl:q.convs.length≤100000):FSpec prog 282 [.one (.ptr 0 0),.one (.ptr 1 0),.one (.ptr 2 0),.one (.ptr 3 0)] [(0,.box 81 (KD q 5)),E6 1 h,E6 2 a,jH 3 p,(5,.arr 171 eM q.convs)] [] (.tup []) [(0,some (.box 81 { q with convs:=q.convs++[(⟨p,bG q.res h a,0,0⟩:Wt)] }.d)),(1,some (E6 1 h).2),(2,some (E6 2 a).2),(3,some (jH 3 p).2),(5,none)]:=by
 refine aP func282 ?_;repeat' (first|refine af ?_ ?_|(refine aa 8 rfl ?_;refine aV (ak rfl rfl (aB rfl rfl) (aD [⟨p,bG q.res h a,0,0⟩] rfl rfl rfl rfl) rfl aL aL) rfl rfl rfl ?_)|refine aa 9 rfl (cB [] (Hj q.res h a) ?_)|refine ae ?_|exact ah|refine ab fun hb=>?_|(exact mS (qf [])))
theorem IN (q:Qu) (h a:Am) (p:Pr) (hl:q.convs.length≤100000) {q2:Qu} (hq:{ q with convs:=q.convs++[(⟨p,bG q.res h a,0,0⟩:Wt)] } = q2) (hs:Sd q2):FSpec prog 281 [.one (.ptr 0 0),.one (.slb 1 1)] [(0,.box 81 (KD q 55)),(1,.box 1 [.clo 282 [0,2,3,54]]),E6 2 h,E6 3 a,jH 54 p,(55,.arr 171 eM q.convs)] [] (nU (gK (dt q2))) [(0,none),(1,none),(2,none),(3,none),(54,none),(55,none)]:=by
 refine aP func281 ?_;have k1:=Lm q h a p hl;rw [hq] at k1;repeat' (first|refine af ?_ ?_|(refine aa 7 rfl ?_;refine sx (jg rfl rfl) ?_)|refine ae ?_|exact ah|refine ab fun hb=>?_)
 refine ai (fun x:Option Qu=>x=none∨x=some q2) (fun x=>match x with
  | none=>bt [0,1,2,3,4,54,55] [(0,.c (.ptr 0 0)),(4,.c (.ptr 4 0)),(10,.c (.slb 1 1)),(11,.i 1),(12,.i 0)] [(0,.box 81 (KD q 55)),(4,.box 81 yK),(1,.box 1 [.clo 282 [0,2,3,54]]),E6 2 h,E6 3 a,jH 54 p,(55,.arr 171 eM q.convs)]
  | some z=>bt [0,1,2,3,4,54,55] [(0,.c (.ptr 0 0)),(4,.c (.ptr 4 0)),(10,.c (.slb 1 1)),(11,.i 1),(12,.i 1)] [(0,.box 81 z.d),(4,.box 81 yK),(1,.box 1 [.clo 282 [0,2,3,54]]),E6 2 h,E6 3 a,jH 54 p]) (fun x=>match x with|none=>1|some _=>0) none (.inl rfl) aN ?_
 rintro z hz;rcases hz with rfl|rfl
 ·dsimp only;repeat' (first|refine af ?_ ?_|(refine aa 6 rfl ?_;refine sx (dW (i:=0) rfl rfl rfl rfl (by decide)) ?_)|(refine aa 9 rfl ?_;refine mt 0 [0,1,2,3] (qf [(0,0),(1,2),(2,3),(3,54),(5,55)]) (k1) ?_)|refine ae ?_|exact ah|(refine ab fun hb=>?_;first|(exact absurd hb (by decide))|skip))
  refine ⟨some q2,.inr rfl,by simp,?_⟩;exact aN
 ·dsimp only;have kA:=jh q2 hs;unfold dt;obtain ⟨⟨N,G⟩,hN⟩:∃x,lf q2=x:=⟨_,rfl⟩;have hg:N.gen=q2.gen:=by have:=(dX hs).2.1;rw [hN] at this;exact this
  rw [hN] at kA ⊢;dsimp only;rw [←hg];repeat' (first|refine af ?_ ?_|(refine aa 9 rfl ?_;first|(refine cH (qf [(0,0)]) (kA) ?_)|(refine cB [] (ji N.gen) ?_))|refine ae ?_|exact ah|(refine ab fun hb=>?_;first|(exact absurd hb (by decide))|skip)|(refine cX (qf []) ?_;exact aj))
theorem Ln (q:Qu) (e:List Wt):FSpec prog 284 [.one (.ptr 0 0),.one (.ptr 1 0)] [(0,.box 79 [.sl eM e]),(1,.box 81 q.d)] [] (.tup []) [(1,some (.box 81 { q with waits:=e }.d)),(0,some (.box 79 [.sl eM e]))]:=by
 refine aP func284 ?_;repeat' (first|refine af ?_ ?_|refine ae ?_|exact ah|refine ab fun hb=>?_|(exact mS (qf [])))
theorem IP (q:Qu) (e:List Wt) {q2:Qu} (hq:{ q with waits:=e } = q2) (hs:Sd q2):FSpec prog 281 [.one (.ptr 0 0),.one (.slb 1 1)] [(0,.box 81 q.d),(1,.box 1 [.clo 284 [2,0]]),(2,.box 79 [.sl eM e])] [] (nU (gK (dt q2))) [(0,none),(1,none),(2,none)]:=by
 refine aP func281 ?_;have k1:=Ln q e;rw [hq] at k1;repeat' (first|refine af ?_ ?_|(refine aa 7 rfl ?_;refine sx (jg rfl rfl) ?_)|refine ae ?_|exact ah|refine ab fun hb=>?_)
 refine ai (fun x:Nat×Qu=>x.1=0∧x.2=q∨x.1=1∧x.2=q2) (fun x=>bt [0,1,2,4] [(0,.c (.ptr 0 0)),(4,.c (.ptr 4 0)),(10,.c (.slb 1 1)),(11,.i 1),(12,.i x.1)] [(0,.box 81 x.2.d),(4,.box 81 yK),(1,.box 1 [.clo 284 [2,0]]),(2,.box 79 [.sl eM e])]) (fun x=>1-x.1) (0,q) (.inl ⟨rfl,rfl⟩) aN ?_;rintro ⟨i,z⟩ hz;dsimp only at *
 rcases hz with ⟨rfl,rfl⟩|⟨rfl,rfl⟩
 ·repeat' (first
   | refine af ?_ ?_
   | (refine aa 6 rfl ?_;refine sx (dW (i:=0) rfl rfl rfl rfl (by decide)) ?_)
   | (refine aa 9 rfl ?_;refine mt 0 [0,1] (qf [(0,2),(1,0)]) (k1) ?_)
   | refine ae ?_
   | exact ah|(refine ab fun hb=>?_;first|(exact absurd hb (by decide))|skip))
  refine ⟨(1,q2),.inr ⟨rfl,rfl⟩,by simp,?_⟩;exact aN
 ·have kA:=jh z hs;unfold dt;obtain ⟨⟨N,G⟩,hN⟩:∃x,lf z=x:=⟨_,rfl⟩;have hg:N.gen=z.gen:=by have:=(dX hs).2.1;rw [hN] at this;exact this
  rw [hN] at kA ⊢;dsimp only;rw [←hg];repeat' (first|refine af ?_ ?_|(refine aa 9 rfl ?_;first|(refine cH (qf [(0,0)]) (kA) ?_)|(refine cB [] (ji N.gen) ?_))|refine ae ?_|exact ah|(refine ab fun hb=>?_;first|(exact absurd hb (by decide))|skip)|(refine cX (qf []) ?_;exact aj))
theorem GC (q:Qu) (p:Pr) (a:Am) (prio:Int) {R:Qu×List Ho×Int} (hR:bv q p a prio=R):FSpec prog 223 [q.a,p.a,a.a,.one (.sc (.int .i64 prio))] [] [] (nU R) []:=by
 refine aP func223 ?_;cases hS:aw q with
 | false =>
  obtain rfl:R=bK 2:=by rw [←hR];simp [bv,hS]
  repeat' (first|refine af ?_ ?_|refine aa 9 rfl (cB [] (cE q) ?_)|refine ae ?_|exact ah|(refine ab fun hb=>?_;first|(simp [hS] at hb;done)|skip)|(refine cX (qf []) ?_;exact aj))
 | true =>
  have hs:=aJ hS;have h1:=hs.hv.len;have h2:=hs.clen;have h3:=hs.wlen;by_cases hA:jl p=true∧0≤prio∧prio≤7
  case neg =>
   obtain rfl:R=bK 1:=by
    rw [←hR];unfold bv;rw [hS,bF (b:=!true) rfl,bT];cases hv:jl p <;> simp [hv] at hA ⊢
    omega
   have hN:∀b,jl p=b→(b=true→0≤prio→prio≤7→False):=fun b hb x y z=>hA ⟨hb.trans x,y,z⟩;clear hA;repeat' (first|refine af ?_ ?_|(refine aa 9 rfl ?_;first|(refine cB [] (cE q) ?_)|(refine cB [] (gj p) ?_))|refine ae ?_|exact ah|(refine ab fun hb=>?_;first|(exact (hN true (by assumption) rfl (by omega) (by omega)).elim)|(simp [hS] at hb;done)|skip)|(refine cX (qf []) ?_;exact aj))
  obtain ⟨hv,hp1,hp2⟩:=hA;cases hf:aF q.res a with
  | false =>
   obtain rfl:R=bK 12:=by rw [←hR];simp [bv,hS,hv,hp1,hp2,hf]
   repeat' (first|refine af ?_ ?_|(refine aa 9 rfl ?_;first|(refine cB [] (cE q) ?_)|(refine cB [] (gj p) ?_)|(refine cB [] (eo q.res a) ?_))|refine ae ?_|exact ah|(refine ab fun hb=>?_;first|(simp [hS] at hb;done)|skip)|(refine cX (qf []) ?_;exact aj))
  | true =>
   cases hw:ap q p with
   | some b =>
    obtain rfl:R=bK 14:=by rw [←hR];simp [bv,hS,hv,hp1,hp2,hf,hw]
    repeat' (first|refine af ?_ ?_|(refine aa 9 rfl ?_;first|(refine cB [] (cE q) ?_)|(refine cB [] (gj p) ?_)|(refine cB [] (eo q.res a) ?_)|(refine cB [] (eK q p (by omega) (by omega) hw) ?_))|refine ae ?_|exact ah|(refine ab fun hb=>?_;first|(simp [hS] at hb;done)|skip)|(refine cX (qf []) ?_;exact aj))
   | none =>
    cases hc:bg q.res (ao q.holds p) a with
    | true =>
     obtain rfl:R=gK (q,[]):=by rw [←hR];simp [bv,hS,hv,hp1,hp2,hf,hw,hc]
     repeat' (first|refine af ?_ ?_|(refine aa 9 rfl ?_;first|(refine cB [] (cE q) ?_)|(refine cB [] (gj p) ?_)|(refine cB [] (eo q.res a) ?_)|(refine cB [] (eK q p (by omega) (by omega) hw) ?_)|(refine cC [] (mi q (by omega) (by omega) (by omega)) ?_)|(refine cB [] (eJ q p) ?_)|(refine cB [] (fS q.res (ao q.holds p) a) ?_))|refine ae ?_|exact ah|(refine ab fun hb=>?_;first|(simp [hS] at hb;done)|skip)|(refine cX (qf []) ?_;exact aj))
    | false =>
     cases hz:aH (ao q.holds p) with
     | false =>
      obtain rfl:R=gK (dt { q with convs:=q.convs++[⟨p,bG q.res (ao q.holds p) a,0,0⟩] }):=by rw [g7 q p a prio hR hS hv hp1 hp2 hf hw hc,hz];rfl
      have hd:=(hs.cons (bl.1 hz) hw hf hc);have kF:=IN q (ao q.holds p) a p (by omega) rfl hd;repeat' (first|refine af ?_ ?_|(refine aa 0 rfl ?_;refine sx (cS (ks:=[13,14,6,5]) rfl rfl) ?_)|(refine aa 9 rfl ?_;first|(refine cB [] (cE q) ?_)|(refine cB [] (gj p) ?_)|(refine cB [] (eo q.res a) ?_)|(refine cB [] (eK q p (by omega) (by omega) hw) ?_)|(refine cH (qf [(0,1000)]) (Eh q (by omega) (by omega) (by omega)) ?_)|(refine cB [1000] (eJ q p) ?_)|(refine cB [] (fS q.res (ao q.holds p) a) ?_)|(refine cB [] (gM (ao q.holds p)) ?_)|(refine cH (qf [(0,13),(1,63),(2,14),(3,6),(54,5),(55,1000)]) (kF) ?_))|refine ae ?_|exact ah|(refine ab fun hb=>?_;first|(simp [hS] at hb;done)|skip)|(refine cX (qf []) ?_;exact aj))
     | true =>
      have hz0:ao q.holds p=⟨0,0⟩:=by simpa [aH] using hz
      by_cases hn:8≤q.holds.length+q.waits.length
      case pos =>
       obtain rfl:R=bK 4:=by rw [g7 q p a prio hR hS hv hp1 hp2 hf hw hc,hz];simp [hn]
       repeat' (first|refine af ?_ ?_|(refine aa 9 rfl ?_;first|(refine cB [] (cE q) ?_)|(refine cB [] (gj p) ?_)|(refine cB [] (eo q.res a) ?_)|(refine cB [] (eK q p (by omega) (by omega) hw) ?_)|(refine cC [] (mi q (by omega) (by omega) (by omega)) ?_)|(refine cB [] (eJ q p) ?_)|(refine cB [] (fS q.res (ao q.holds p) a) ?_)|(refine cB [] (gM (ao q.holds p)) ?_))|refine ae ?_|exact ah|(refine ab fun hb=>?_;first|(simp [hS] at hb;done)|skip)|(refine cX (qf []) ?_;exact aj))
      obtain ⟨e,he1,he2⟩:∃e,iP q.waits ⟨p,a,prio,0⟩=(0,e)∧Sd { q with waits:=e }:=by
       have hi:=nG hs hw hf hv ⟨hp1,hp2⟩ (Nat.lt_of_not_le hn);exact ⟨_,hi.1,hs.ins (w:=⟨p,a,prio,0⟩) hz0 hw hf hi.2 (Nat.lt_of_not_le hn)⟩
      have hI:=Ea q.waits ⟨p,a,prio,0⟩;rw [he1] at hI;obtain rfl:R=gK (dt { q with waits:=e }):=by rw [g7 q p a prio hR hS hv hp1 hp2 hf hw hc,hz,he1];simp [hn]
      have kF:=IP q e rfl he2;repeat' (first|refine af ?_ ?_|(refine aa 0 rfl ?_;refine sx (cS (ks:=[15,13]) rfl rfl) ?_)|(refine aa 9 rfl ?_;first|(refine cB [] (cE q) ?_)|(refine cB [] (gj p) ?_)|(refine cB [] (eo q.res a) ?_)|(refine cB [] (eK q p (by omega) (by omega) hw) ?_)|(refine cC [] (mi q (by omega) (by omega) (by omega)) ?_)|(refine cB [] (eJ q p) ?_)|(refine cB [] (fS q.res (ao q.holds p) a) ?_)|(refine cB [] (gM (ao q.holds p)) ?_)|(refine cC [] (hI) ?_)|(refine cH (qf [(0,13),(1,93),(2,15)]) (kF) ?_))|refine ae ?_|exact ah|(refine ab fun hb=>?_;first|(simp [hS] at hb;done)|skip)|(refine cX (qf []) ?_;exact aj))
end Go.Proofs.YtjndcdcbjidocaaGreatDoor
