/- Part 21 of 33 of the proof of centralDoes_holds (no condition). -/
import Derived.Test.YtjndcdcbjidocaaGreatDoorL20
set_option linter.unusedVariables false
set_option linter.unusedSimpArgs false
set_option maxRecDepth 100000
set_option maxHeartbeats 64000000
namespace Go.Proofs.YtjndcdcbjidocaaGreatDoor
open Go.RowKit Go.Proofs.Tryz
instance stExC (d:Nat):ST prog (nc (d+1)) 40 42 64:=⟨ElTB.mk' underlying40 (.agg #[.int .i64 0,.string ⟨#[]⟩,.int .i64 0,.int .i64 0,.slice none 0 0]) 5 64 (by kernel_rfl) rfl rfl⟩
theorem Kr (d:Nat) (x:Pc) (p:Pr):FSpec prog 58 [x.a d,.one (.ptr 9 0)] [jH 9 p] [] (.b (decide (bE x.proc p=0))) [(9,some (jH 9 p).2)]:=by
 refine aP func58 ?_;have kC:=jf x.proc p;repeat' (first|refine af ?_ ?_|refine aa 9 rfl (cB [] (kC) ?_)|refine ae ?_|exact ah|refine ab fun hb=>?_|exact aX|fail)
theorem Hs (d:Nat) (x:Pc) (p:Pr) {b:Bool} (hb:decide (x.proc=p)=b):FSpec prog 58 [x.a d,.one (.ptr 9 0)] [jH 9 p] [] (.b b) [(9,some (jH 9 p).2)]:=by
 have h:=Kr d x p;have e:decide (bE x.proc p=0)=b:=by
  rw [←hb];by_cases h1:x.proc=p
  ·rw [decide_eq_true h1,decide_eq_true ((lK _ _).2 h1)]
  ·rw [decide_eq_false h1,decide_eq_false (fun h2=>h1 ((lK _ _).1 h2))]
 rw [e] at h;exact h
theorem Kt (d:Nat) (l:List Pc) (p:Pr) (hl:l.length≤100000) {z:Int} (hz:db p 0 l=z):FSpec prog 57 [.one (.own 1),.one (.clo 58 [9])] [(1,.arr 63 (eI d) l),jH 9 p] [] (.i z) [(1,some (.arr 63 (eI d) l)),(9,some (jH 9 p).2)]:=by
 refine aP func57 ?_;repeat' (first|refine af ?_ ?_|refine ae ?_|exact ah|refine ab fun hb=>?_)
 refine ai (fun i=>i≤l.length∧db p i (l.drop i)=z) (fun i=>bt [1,9] [(0,.c (.own 1)),(1,.c (.clo 58 [9])),(7,.i l.length),(8,.i i)] [(1,.arr 63 (eI d) l),jH 9 p]) (fun i=>l.length-i) 0 ⟨Nat.zero_le _,hz⟩ aN ?_;rintro i ⟨hi,hs⟩;by_cases hlt:i<l.length
 ·obtain ⟨x,hx⟩:∃x,l[i]=x:=⟨_,rfl⟩;have hgx:l[i]? = some x:=by rw [List.getElem?_eq_getElem hlt,hx]
  rw [List.drop_eq_getElem_cons hlt,hx] at hs;have hs:(bif decide (x.proc=p) then (i:Int) else db p (i+1) (l.drop (i+1)))=z:=hs;obtain ⟨b,hb1⟩:∃b,decide (x.proc=p)=b:=⟨_,rfl⟩;have kS:=Hs d x p hb1;rw [hb1] at hs;cases b with
  | true =>
   obtain rfl:(i:Int)=z:=hs;repeat' (first|refine af ?_ ?_|(refine aa 9 rfl ?_;refine mt 1 [9] (qf [(1,1),(9,9)]) (kS) ?_)|refine ae ?_|exact ah|refine ab fun hb=>?_|exact aX|fail)
  | false =>
   repeat' (first|refine af ?_ ?_|(refine aa 9 rfl ?_;refine mt 1 [9] (qf [(1,1),(9,9)]) (kS) ?_)|refine ae ?_|exact ah|refine ab fun hb=>?_)
   refine ⟨i+1,⟨by omega,hs⟩,by omega,?_⟩;exact aN
 ·rw [List.drop_eq_nil_of_le (by omega)] at hs;obtain rfl : -1=z:=hs;repeat' (first|refine af ?_ ?_|refine ae ?_|exact ah|refine ab fun hb=>?_|exact aX|fail)
theorem vK (d:Nat) (l:List Pc) (p:Pr) (hl:l.length≤100000) {z:Int} (hz:db p 0 l=z):FSpec prog 27 [.one (.own 1),p.a] [(1,.arr 63 (eI d) l)] [] (.i z) [(1,some (.arr 63 (eI d) l))]:=by
 refine aP func27 ?_;have kF:=Kt d l p hl hz;repeat' (first|refine af ?_ ?_|(refine aa 0 rfl ?_;refine sx (cS (ks:=[3]) rfl rfl) ?_)|refine aa 9 rfl (cH (qf [(1,1),(9,3)]) (kF) ?_)|refine ae ?_|exact ah|refine ab fun hb=>?_|exact aX|fail)
theorem GM (x:Ex):1≤x.cnt:=by
 obtain ⟨k,a,l⟩:=x;rw [Ex.cnt_mk];omega
theorem Ay:∀(l:List Ex),l.length≤iM l∧∀x∈l,x.cnt≤iM l
 | []=>⟨Nat.zero_le _,fun _ h=>absurd h (by simp)⟩
 | y :: l=>by
  have ih:=Ay l;have h1:=GM y;rw [f0];refine ⟨by rw [List.length_cons];omega,fun x hx=>?_⟩;rcases List.mem_cons.1 hx with rfl|hx
  ·omega
  ·have:=ih.2 x hx;omega
theorem Az:∀(x:Ex) (d:Nat),x.cnt≤1000→FSpec prog 99 [x.a d] [] [] (.v (x.a d)) []:=by
 refine Ex.ind (fun k a l ih=>?_);intro d hcnt;rw [Ex.cnt_mk] at hcnt;have hcl:=Ay l;show FSpec prog 99 [.ag (sO d k a l)] [] [] (.v (.ag (sO d k a l))) [];refine aP func99 ?_;refine aM (fun c ρ a w hr=>iH (t:=0) (i:=4) hr rfl rfl) (fun hx=>?_);obtain ⟨hlen,hne⟩:=hx;rcases Nat.eq_zero_or_pos l.length with h0|h0
 ·obtain rfl:l=[]:=List.length_eq_zero_iff.1 h0;repeat' (first|refine af ?_ ?_|refine ae ?_|exact ah|refine ab fun hb=>?_)
  refine ai (fun i=>i=0) (fun i=>bt [1,2] [(1,.c (.ptr 1 0)),(2,.c (.ptr 2 0)),(3,.c (.sc (.slice none 0 0))),(7,.c (.sl (nc d) [])),(8,.i 0),(9,.i i)] [(1,.box 42 (sO d k a [])),(2,.box 42 [.sc (.int .i64 0),.sc (.string ⟨#[]⟩),.sc (.int .i64 0),.sc (.int .i64 0),.sc (.slice none 0 0)])]) (fun _=>0) 0 rfl aN ?_;rintro i rfl;repeat' (first|refine af ?_ ?_|refine ae ?_|exact ah|(refine ab fun hb=>?_;first|(exfalso;omega)|skip)|exact aX|fail)
 ·obtain ⟨e,rfl⟩:=hne h0;clear hne;repeat' (first|refine af ?_ ?_|refine ae ?_|exact ah|refine ab fun hb=>?_)
  refine bV 3 1000 42 (nc (e+1)) rfl rfl rfl ?_;refine ai (fun i=>i≤l.length) (fun i=>bt [1,2,1000] [(1,.c (.ptr 1 0)),(2,.c (.ptr 2 0)),(3,.c (.own 1000)),(7,.c (.sl (nc (e+1)) l)),(8,.i l.length),(9,.i i)] [(1,.box 42 (sO (e+1) k a l)),(2,.box 42 [.sc (.int .i64 0),.sc (.string ⟨#[]⟩),.sc (.int .i64 0),.sc (.int .i64 0),.sc (.slice none 0 0)]),(1000,.arr 42 (nc (e+1)) (l.take i))]) (fun i=>l.length-i) 0 (Nat.zero_le _) aN ?_;intro i hi;have hti:(l.take i).length=i:=by simp;omega
  by_cases hlt:i<l.length
  ·have kS:=ih l[i] (List.getElem_mem hlt) e (by have:=hcl.2 _ (List.getElem_mem hlt);omega);have hl9:l.length≤1000:=by have:=hcl.1;omega
   have e2:l.take (i+1)=l.take i++[l[i]]:=List.take_succ_eq_append_getElem hlt;clear ih hcl;repeat' (first|refine af ?_ ?_|(refine aa 8 rfl ?_;refine aV (ak rfl rfl (aB rfl rfl) (aD [l[i]] rfl rfl rfl rfl) rfl aL aL) rfl rfl rfl ?_)|refine aa 9 rfl (cC [] (kS) ?_)|refine ae ?_|exact ah|refine ab fun hb=>?_)
   refine ⟨i+1,by omega,by omega,?_⟩;rw [e2];exact a8 (qf [(1000,17)])
  ·have e2:l.take i=l:=List.take_of_length_le (by omega);rw [e2];repeat' (first|refine af ?_ ?_|refine ae ?_|exact ah|refine ab fun hb=>?_|exact aX|fail)
theorem AA {p:Pr}:∀{l:List Pc} {k:Nat},db p k l<0→∀x∈l,x.proc≠p
 | y :: l,k,h,x,hx=>by
  have h:(bif decide (y.proc=p) then (k:Int) else db p (k+1) l)<0:=h;by_cases e:y.proc=p
  ·rw [decide_eq_true e,cond_true] at h;omega
  ·rw [decide_eq_false e,cond_false] at h;rcases List.mem_cons.1 hx with rfl|hx
   ·exact e
   ·exact AA h x hx
def LI (p:Pr) (cost:Int):List D:=[.sc (.int .i64 p.site),.sc (.int .i64 p.inc),.sc (.int .i64 p.num),.sc (.int .i64 cost),.sc (.slice none 0 0),.sc (.slice none 0 0),.sc (.bool false),.sc (.int .i64 0),.sc (.string ⟨#[]⟩),.sc (.int .i64 0),.sc (.int .i64 0),.sc (.slice none 0 0),.sc (.int .i64 0),.sc (.int .i64 0),.sc (.int .i64 0),.sc (.int .i64 0)]
theorem GN (d:Nat) {p:Pr} {cost:Int} {w:World} {F:Nat→Prop} {ρ:Nat→Value} {vs:List Value} (h:All2 (D.rep w F ρ) (LI p cost) vs):(eI d).rep w F { B7 with proc:=p,cost:=cost } vs:=by
 match vs,h with
 | [_,_,_,_,_,_,_,_,_,_,_,_,_,_,_,_],⟨rfl,rfl,rfl,rfl,rfl,rfl,rfl,rfl,rfl,rfl,rfl,rfl,rfl,rfl,rfl,rfl,_⟩ =>
  exact ⟨none,0,none,0,none,0,rfl,RowsAt.nil _ _ _ _,⟨Nat.zero_le _,Nat.zero_le _⟩,RowsAt.nil _ _ _ _,⟨Nat.zero_le _,Nat.zero_le _⟩,RowsAt.nil _ _ _ _,⟨Nat.zero_le _,Nat.zero_le _⟩⟩
theorem I6 (d:Nat) (w:Wk) (p:Pr) (cost:Int) (h8:w.c.procs.length≤8) (hup:ID p w.c.procs) {Z:Wk×Int} (hZ:i4 w p cost=Z):FSpec prog 79 [gA,p.a,oK cost] (HP d w) [3,4] (.i Z.2) (HR d Z.1):=by
 refine aP func79 ?_;unfold i4 at hZ;have kV:=gj p;obtain ⟨bA,hA⟩:∃b,(jl p && decide (1≤cost) && decide (cost≤1000))=b:=⟨_,rfl⟩;rw [hA] at hZ;cases bA with
 | false =>
  obtain rfl:(w,1)=Z:=hZ;obtain ⟨v,hv⟩:∃v,jl p=v:=⟨_,rfl⟩;rw [hv] at kV hA;cases v with
  | false =>
   repeat' (first|refine af ?_ ?_|refine aa 9 rfl (cB [] (kV) ?_)|refine ae ?_|exact ah|refine ab fun hb=>?_|(refine bP (qf [(3,1),(4,2)]) ?_;exact aj))
  | true =>
   simp only [Bool.true_and,Bool.and_eq_false_iff,decide_eq_false_iff_not] at hA;by_cases h1:1≤cost
   ·repeat' (first|refine af ?_ ?_|refine aa 9 rfl (cB [] (kV) ?_)|refine ae ?_|exact ah|refine ab fun hb=>?_|(refine bP (qf [(3,1),(4,2)]) ?_;exact aj))
   ·repeat' (first|refine af ?_ ?_|refine aa 9 rfl (cB [] (kV) ?_)|refine ae ?_|exact ah|refine ab fun hb=>?_|(refine bP (qf [(3,1),(4,2)]) ?_;exact aj))
 | true =>
  simp only [Bool.and_eq_true,decide_eq_true_eq] at hA;obtain ⟨⟨hv,h1⟩,h2⟩:=hA;rw [hv] at kV;rw [Bool.not_true,cond_false] at hZ;obtain ⟨ix,hix⟩:∃ix,db p 0 w.c.procs=ix:=⟨_,rfl⟩;have kI:=vK d w.c.procs p (by omega) hix;rw [hix] at hZ;by_cases h0:0≤ix
  ·obtain rfl:(w,11)=Z:=by rw [←hZ,decide_eq_true h0];rfl
   repeat' (first|refine af ?_ ?_|(refine aa 9 rfl ?_;first|(refine cB [] (kV) ?_)|(refine cH (qf [(1,1)]) (kI) ?_))|(refine aa 21 rfl ?_;first|refine sx (ay rfl rfl) ?_|refine sx (aO rfl rfl) ?_)|refine ae ?_|exact ah|refine ab fun hb=>?_|(refine bP (qf [(3,1),(4,2)]) ?_;exact aj))
  ·rw [decide_eq_false h0,cond_false] at hZ;by_cases hl:w.c.procs.length=8
   ·obtain rfl:(w,4)=Z:=by rw [←hZ,decide_eq_true hl];rfl
    repeat' (first|refine af ?_ ?_|(refine aa 9 rfl ?_;first|(refine cB [] (kV) ?_)|(refine cH (qf [(1,1)]) (kI) ?_))|(refine aa 21 rfl ?_;first|refine sx (ay rfl rfl) ?_|refine sx (aO rfl rfl) ?_)|refine ae ?_|exact ah|refine ab fun hb=>?_|(refine bP (qf [(3,1),(4,2)]) ?_;exact aj))
   ·rw [decide_eq_false hl,cond_false] at hZ;have hno:=AA (by rw [hix];omega);obtain ⟨P,hP⟩:∃P,w.c.procs=P:=⟨_,rfl⟩;obtain ⟨x,hx⟩:∃x,({ B7 with proc:=p,cost:=cost }:Pc)=x:=⟨_,rfl⟩;have hxp:x.proc=p:=by rw [←hx]
    have hZ:((⟨{ w.c with procs:=j6 x w.c.procs },w.ev⟩,0):Wk×Int)=Z:=by rw [←hx];exact hZ
    have h00:∀(w:World) (F:Nat→Prop) (ρ:Nat→Value) (vs:List Value),All2 (D.rep w F ρ) (LI p cost) vs→(eI d).rep w F x vs:=fun w F ρ vs h=>by
     rw [←hx];exact GN d h
    have hPl:w.c.procs.length=P.length:=by rw [hP]
    rw [hP] at h8 hl hup hno;repeat' (first|refine af ?_ ?_|(refine aa 9 rfl ?_;first|(refine cB [] (kV) ?_)|(refine cH (qf [(1,1)]) (kI) ?_))|(refine aa 21 rfl ?_;first|refine sx (ay rfl rfl) ?_|refine sx (aO rfl rfl) ?_)|refine ae ?_|exact ah|(refine ab fun hb=>?_;first|(exfalso;omega)|skip))
    clear hx hix kI kV;refine ai (fun i=>i≤P.length∧∀j (hj:j<P.length),j<i→bE P[j].proc p<0) (fun i=>bt [0,1,2,4] [(0,.v gA),(2,.i cost),(4,.c (.ptr 4 0)),(7,.i i)] [(0,.box 85 (An w 2)),(1,.arr 63 (eI d) P),(2,.arr 67 fG w.ev),(4,.box 35 [.sc (.int .i64 p.site),.sc (.int .i64 p.inc),.sc (.int .i64 p.num)])]) (fun i=>P.length-i) 0 ⟨Nat.zero_le _,fun j _ h=>absurd h (by omega)⟩ (by rw [←hP];exact aN) ?_;rintro i ⟨hi,hs⟩;have fin:(∀j (hj:j<P.length),i≤j→0<bE P[j].proc p)→P.take i++x :: P.drop i=j6 x w.c.procs:=fun h=>by
     rw [hP];exact (yW x P i hi (fun j hj hji=>by rw [hxp];have:=hs j hj hji;omega) (fun j hj hij=>by rw [hxp];exact h j hj hij)).symm
    by_cases hlt:i<P.length
    ·obtain ⟨z,hz⟩:∃z,P[i]=z:=⟨_,rfl⟩;have hgz:P[i]? = some z:=by rw [List.getElem?_eq_getElem hlt,hz]
     obtain ⟨e,he⟩:∃e,bE z.proc p=e:=⟨_,rfl⟩;have kC:=jf z.proc p;rw [he] at kC;by_cases h0:e<0
     ·repeat' (first
       | refine af ?_ ?_
       | refine aa 9 rfl (cB [1] (kC) ?_)
       | (refine aa 21 rfl ?_;first|refine sx (ay rfl rfl) ?_|refine sx (aO rfl rfl) ?_)
       | refine ae ?_
       | exact ah|(refine ab fun hb=>?_;first|(exfalso;omega)|skip))
      refine ⟨i+1,⟨by omega,fun j hj hji=>?_⟩,by omega,?_⟩
      ·by_cases e2:j=i
       ·subst e2;rw [hz,he];exact h0
       ·exact hs j hj (by omega)
      ·exact aN
     ·have hpos:0<bE P[i].proc p:=by
       have:e≠0:=fun h=>hno z (hz▸List.getElem_mem hlt) ((lK _ _).1 (by rw [he];exact h));rw [hz,he];omega
      have hf:=fin fun j hj hij=>hup i j hlt hj hij hpos;have kN:=Ag d P i x h00 (by omega) hi hf;obtain rfl:Z=(⟨{ w.c with procs:=j6 x w.c.procs },w.ev⟩,0):=hZ.symm;clear fin hs hup hno hf;repeat' (first|refine af ?_ ?_|(refine aa 9 rfl ?_;first|(refine cB [1] (kC) ?_)|(refine cH (qf [(1,1),(2,1001),(3,71)]) (kN) ?_))|(refine aa 21 rfl ?_;first|refine sx (ay rfl rfl) ?_|refine sx (aO rfl rfl) ?_)|refine ae ?_|exact ah|(refine ab fun hb=>?_;first|(exfalso;omega)|skip)|(refine bP (qf [(3,1001),(4,2)]) ?_;exact aj))
    ·have hf:=fin fun j hj hij=>absurd hj (by omega);have kN:=Ag d P i x h00 (by omega) hi hf;obtain rfl:Z=(⟨{ w.c with procs:=j6 x w.c.procs },w.ev⟩,0):=hZ.symm;clear fin hs hup hno hf;repeat' (first|refine af ?_ ?_|refine aa 9 rfl (cH (qf [(1,1),(2,1001),(3,71)]) (kN) ?_)|(refine aa 21 rfl ?_;first|refine sx (ay rfl rfl) ?_|refine sx (aO rfl rfl) ?_)|refine ae ?_|exact ah|(refine ab fun hb=>?_;first|(exfalso;omega)|skip)|(refine bP (qf [(3,1001),(4,2)]) ?_;exact aj))
def HU (d:Nat) (w:Wk):List (Nat×Option Box):=[(0,some (.box 85 (An w 2))),(1,some (.arr 63 (eI d) w.c.procs)),(2,some (.arr 67 fG w.ev))]
theorem Ht (d:Nat) (w:Wk) (h8:w.c.procs.length≤100000) (hx:Jr w.c.procs) {e:Int} (he:eb w=e):FSpec prog 150 [gA] (HP d w) [] (.i e) (HU d w):=by
 refine aP func150 ?_;obtain ⟨E,hE⟩:∃E,ik w.c.now 0 w.c.procs (-1,0)=E:=⟨_,rfl⟩;obtain rfl:E.1=e:=by rw [←he,←hE];rfl
 clear he;repeat' (first|refine af ?_ ?_|(refine aa 21 rfl ?_;refine sx (aO rfl rfl) ?_)|refine ae ?_|exact ah|refine ab fun hb=>?_)
 refine ai (fun y:Nat×Int×Int=>y.1≤w.c.procs.length∧ik w.c.now y.1 (w.c.procs.drop y.1) y.2=E∧(y.2.1<0∨∃(m:Nat) (z:Pc),y.2.1=(m:Int)∧w.c.procs[m]? = some z∧y.2.2=z.since+z.req.limit)) (fun y=>bt [0,1,2] [(0,.v gA),(3,.i y.2.1),(10,.c (.own 1)),(11,.i w.c.procs.length),(12,.i y.1)] [(0,.box 85 (An w 2)),(1,.arr 63 (eI d) w.c.procs),(2,.arr 67 fG w.ev)]) (fun y=>w.c.procs.length-y.1) (0,-1,0) ⟨Nat.zero_le _,hE,.inl (by decide)⟩ aN ?_;rintro ⟨i,b⟩ ⟨hi,hs,hB⟩;dsimp only at *
 by_cases hlt:i<w.c.procs.length
 case neg =>
  obtain rfl:b=E:=by rw [←hs,List.drop_eq_nil_of_le (by omega)];rfl
  repeat' (first|refine af ?_ ?_|refine ae ?_|exact ah|refine ab fun hb=>?_|exact aX|fail)
 obtain ⟨x,hxe⟩:∃x,w.c.procs[i]=x:=⟨_,rfl⟩;have hgx:w.c.procs[i]? = some x:=by rw [List.getElem?_eq_getElem hlt,hxe]
 obtain ⟨⟨k1,k2⟩,k3,k4⟩:=hx x (hxe▸List.getElem_mem hlt);rw [List.drop_eq_getElem_cons hlt,hxe,rz] at hs;obtain ⟨b1,b2⟩:=b;dsimp only at *
 by_cases hc0:x.waiting=true∧¬x.req.limit=0∧x.since+x.req.limit≤w.c.now
 case neg =>
  rw [show (x.waiting && !decide (x.req.limit=0) && decide (x.since+x.req.limit≤w.c.now))=false by
   cases hh:(x.waiting && !decide (x.req.limit=0) && decide (x.since+x.req.limit≤w.c.now)) with
   | false=>rfl
   | true =>
    simp only [Bool.and_eq_true,Bool.not_eq_true',decide_eq_true_eq,decide_eq_false_iff_not] at hh;exact absurd ⟨hh.1.1,hh.1.2,hh.2⟩ hc0,Bool.false_and,cond_false] at hs
  have hc1:x.waiting=true→¬x.req.limit=0→x.since+x.req.limit≤w.c.now→False:=fun a b c=>hc0 ⟨a,b,c⟩;clear hc0;repeat' (first|refine af ?_ ?_|(refine aa 21 rfl ?_;refine sx (aO rfl rfl) ?_)|refine ae ?_|exact ah|(refine ab fun hb=>?_;first|(exact (hc1 (by assumption) (by assumption) (by omega)).elim)|skip))
  all_goals first|(exfalso;exact hc1 (by assumption) (by assumption) (by omega))|(refine ⟨(i+1,b1,b2),⟨by dsimp only;omega,hs,hB⟩,by dsimp only;omega,?_⟩;exact aN)
 obtain ⟨c1,c2,c3⟩:=hc0;rw [c1,decide_eq_false c2,decide_eq_true c3,show (true && !false && true)=true from rfl,Bool.true_and] at hs;by_cases hb1:b1<0
 ·rw [decide_eq_true hb1,Bool.true_or,cond_true] at hs;repeat' (first|refine af ?_ ?_|(refine aa 21 rfl ?_;refine sx (aO rfl rfl) ?_)|refine ae ?_|exact ah|(refine ab fun hb=>?_;first|(exfalso;first|omega|(simp_all;done))|skip))
  refine ⟨(i+1,(i:Int),x.since+x.req.limit),⟨by dsimp only;omega,hs,.inr ⟨i,x,rfl,hgx,rfl⟩⟩,by dsimp only;omega,?_⟩;exact aN
 ·obtain ⟨m,z,rfl,hgz,rfl⟩:=hB.resolve_left hb1;clear hB;have hm:=(List.getElem?_eq_some_iff.1 hgz).1;obtain ⟨⟨j1,j2⟩,j3,j4⟩:=hx z (List.mem_of_getElem? hgz);rw [decide_eq_false hb1,Bool.false_or] at hs;by_cases hd:x.since+x.req.limit<z.since+z.req.limit
  ·rw [decide_eq_true hd,cond_true] at hs;repeat' (first|refine af ?_ ?_|(refine aa 21 rfl ?_;refine sx (aO rfl rfl) ?_)|refine ae ?_|exact ah|(refine ab fun hb=>?_;first|(exfalso;first|omega|(simp_all;done))|skip))
   refine ⟨(i+1,(i:Int),x.since+x.req.limit),⟨by dsimp only;omega,hs,.inr ⟨i,x,rfl,hgx,rfl⟩⟩,by dsimp only;omega,?_⟩;exact aN
  ·rw [decide_eq_false hd,cond_false] at hs;repeat' (first|refine af ?_ ?_|(refine aa 21 rfl ?_;refine sx (aO rfl rfl) ?_)|refine ae ?_|exact ah|(refine ab fun hb=>?_;first|(exfalso;first|omega|(simp_all;done))|skip))
   refine ⟨(i+1,(m:Int),z.since+z.req.limit),⟨by dsimp only;omega,hs,.inr ⟨m,z,rfl,hgz,rfl⟩⟩,by dsimp only;omega,?_⟩;exact aN
theorem I7 (d:Nat) (w:Wk) (n:Int) (h:CI w.c) (hs:∀x∈w.c.procs,dA w.c.queues x=false) (he:w.ev.length≤1000) {Z:Wk×Int} (hZ:iF w n=Z):FSpec prog 80 [gA,oK n] (HP d w) [4] (.i Z.2) (HQ d Z.1):=by
 refine aP func80 ?_;rw [Aa] at hZ;have hnow:=h.now;by_cases h1:0≤n∧n≤1000
 case neg =>
  obtain rfl:(w,1)=Z:=by
   rw [←hZ,show (decide (0≤n) && decide (n≤1000))=false by rw [Bool.and_eq_false_iff];simp;omega];rfl
  repeat' (first|refine af ?_ ?_|(refine aa 21 rfl ?_;refine sx (aO rfl rfl) ?_)|refine ae ?_|exact ah|refine ab fun hb=>?_|(refine bP (qf [(4,2)]) ?_;exact aj))
  all_goals (exfalso;omega)
 obtain ⟨h1,h2⟩:=h1;rw [decide_eq_true h1,decide_eq_true h2] at hZ;by_cases h3:1073741824-n<w.c.now
 ·obtain rfl:(w,16)=Z:=by rw [←hZ,decide_eq_true h3];rfl
  repeat' (first|refine af ?_ ?_|(refine aa 21 rfl ?_;refine sx (aO rfl rfl) ?_)|refine ae ?_|exact ah|(refine ab fun hb=>?_;first|(exfalso;omega)|skip)|(refine bP (qf [(4,2)]) ?_;exact aj))
 obtain ⟨W,hW⟩:∃W,gL w.c.procs.length (E5 w n)=W:=⟨_,rfl⟩;obtain rfl:(W,0)=Z:=by rw [←hZ,decide_eq_false h3,hW];rfl
 have hA:CI (E5 w n).c:=h.later h1 (by omega);have kL:=Ht d (E5 w n) (by have:=hA.len;omega) (KB hA) rfl;repeat' (first|refine af ?_ ?_|refine aa 9 rfl (cH (qf [(0,0),(1,1),(2,2)]) (kL) ?_)|(refine aa 21 rfl ?_;refine sx (aO rfl rfl) ?_)|refine ae ?_|exact ah|(refine ab fun hb=>?_;first|(exfalso;omega)|skip))
 refine ai (fun y:Nat×Wk=>CI y.2.c∧(∀x∈y.2.c.procs,dA y.2.c.queues x=false)∧cJ y.2.c.procs≤y.1∧y.2.ev.length+3000*y.1≤300000∧gL y.1 y.2=W) (fun y=>bt [0,1,2,1011] [(0,.v gA),(5,.i (eb y.2))] [(0,.box 85 (An y.2 1011)),(1,.arr 63 (eI d) y.2.c.procs),(1011,.arr 67 fG y.2.ev)]) (fun y=>y.1) (w.c.procs.length,E5 w n) ⟨hA,hs,i8 _,(by show w.ev.length+_≤_;have:=h.len;omega),hW⟩ (by exact a8 (qf [(1011,2)])) ?_;clear hZ hW hA kL hs h he hnow h3;rintro ⟨m,v⟩ ⟨hc,hsv,hwc,hev,hs⟩;dsimp only at *
 obtain ⟨e,he⟩:∃e,eb v=e:=⟨_,rfl⟩;rw [he];by_cases hneg:e<0
 ·obtain rfl:v=W:=by
   rw [←hs];cases m with
   | zero=>rfl
   | succ m=>rw [jN,he,decide_eq_true hneg];rfl
  repeat' (first|refine af ?_ ?_|refine ae ?_|exact ah|refine ab fun hb=>?_|(refine bP (qf [(4,1011)]) ?_;exact aj))
 obtain ⟨hi,hl1,_⟩:=(mg v).2 (by omega);have hwt:(v.pc (eb v).toNat).waiting=true:=by rw [bU hi];exact hl1
 cases m with
 | zero=>exact absurd (g9 hi hl1) (by omega)
 | succ m =>
  have hts:Ge v=aU (az (v.note 4 (v.pc (eb v).toNat).proc) (eb v).toNat) (eb v).toNat:=rfl;rw [jN,he,decide_eq_false hneg,cond_false,hts,he] at hs;clear hl1;rw [he] at hi hwt;clear hts;obtain ⟨i,hei⟩:∃i:Nat,e=(i:Int):=⟨e.toNat,by omega⟩;subst hei;simp only [Int.toNat_natCast] at hi hwt hs;obtain ⟨x,hx⟩:∃x,v.c.procs[i]? = some x:=⟨_,List.getElem?_eq_getElem hi⟩;have hpc:=dJ hx;have hc0:CI (v.note 4 x.proc).c:=hc;have hp0:(v.note 4 x.proc).pc i=x:=hpc;have hw0:((v.note 4 x.proc).pc i).waiting=true:=by rw [hp0,←hpc];exact hwt
  obtain ⟨k1,k2,k3,k4,_⟩:=dV hc0 hi hw0;have hdr:=Lr hc0 hi hw0 (by rw [gU];omega);have hevw:=eQ (v.note 4 x.proc) i;rw [gU] at hevw;rw [hp0] at hdr;rw [hpc] at hs;have kN:=IT d v 4 x.proc (by omega);obtain ⟨V,hV⟩:∃V,az (v.note 4 x.proc) i=V:=⟨_,rfl⟩;have kW:=oZ d (v.note 4 x.proc) i hx hdr hV;rw [hV] at k1 k2 k3 k4 hevw hs;have hi2:i<V.c.procs.length:=by rw [k3.len];exact hi
  obtain ⟨y,hy⟩:∃y,V.c.procs[i]? = some y:=⟨_,List.getElem?_eq_getElem hi2⟩;have hrun:(V.pc i).waiting=false:=by rw [bU hi2];simp [k4]
  obtain ⟨n1,n2,n3⟩:=iI k1 hi2 hrun;have hN:aU V i=V.setP i { y with gen:=aS y.gen }:=by unfold aU;rw [dJ hy]
  obtain ⟨q1,q2,q3,q4,q5,q6,_⟩:=i9 n1;have k2':cJ V.c.procs+1=cJ v.c.procs:=k2;have he3:=t6 n1;have he2:(aU V i).ev.length≤v.ev.length+281:=by
   show V.ev.length≤_;omega
  have kS:=ml d (aU V i) _ (BW n1 (by omega));obtain ⟨F,hF⟩:∃F,aQ (aU V i).c.procs.length (aU V i)=F:=⟨_,rfl⟩;rw [show bS (aU V i)=F from hF] at q1 q2 q5;rw [hF] at kS hs he3;rw [hN] at kS he3;have kX:=Ht d F (by have:=q1.len;omega) (KB q1) rfl;have he4:(V.setP i { y with gen:=aS y.gen }).ev.length=V.ev.length:=rfl;have f1:cJ F.c.procs≤m:=by omega
  have f2:F.ev.length+3000*m≤300000:=by omega
  clear hF hN hV k4 hdr n1 n2 he2 k3 k1 hp0 hc0 hw0 he4 hrun hwt hevw k2 k2' he3 hwc hsv hev q5 n3 q3 q4 q6;repeat' (first|refine af ?_ ?_|(refine aa 9 rfl ?_;first|(refine cH (qf [(0,0),(1,1),(2,1011),(4,1020)]) (kN) ?_)|(refine cH (qf [(0,0),(1,1),(2,1020),(4,1030)]) (kW) ?_)|(refine cB [] (ji y.gen) ?_)|(refine cH (qf [(0,0),(50,1),(2,1030),(4,1040)]) (kS) ?_)|(refine cH (qf [(0,0),(1,1),(2,1040)]) (kX) ?_))|(refine aa 21 rfl ?_;first|refine sx (ay rfl rfl) ?_|refine sx (aO rfl rfl) ?_)|refine ae ?_|(refine aa 4 rfl ?_;refine aR (aq (z:={ y with gen:=aS y.gen }) rfl rfl rfl rfl hy rfl rfl rfl rfl (Nat.le_of_ble_eq_true rfl) rfl rfl) rfl rfl rfl ?_)|exact ah|(refine ab fun hb=>?_;first|(exfalso;omega)|skip))
  refine ⟨(m,F),⟨q1,q2,f1,f2,hs⟩,by dsimp only;omega,?_⟩;dsimp only;exact a8 (qf [(1011,1040)])
theorem rU (d:Nat) (r:Rq) {b:Bool} (hB:oG r=b):FSpec prog 116 [r.a d] [] [] (.b b) []:=by
 refine aP func116 ?_;have kE:=za d r.expr;repeat' (first|refine af ?_ ?_|refine aa 9 rfl (cB [] (kE) ?_)|refine ae ?_|exact ah|refine ab fun hb=>?_)
 all_goals (refine d7 ?_;rw [←hB];simp [oG, *];try omega)
theorem B2 (d:Nat) (w:Wk) (i:Nat) (r:Rq) {x:Pc} (hx:w.c.procs[i]? = some x) (h:CI w.c) (hev:w.ev.length≤400000) {Z:Wk×Int} (hZ:cG w i r=Z):FSpec prog 81 [gA,pp i,r.a d] (HP d w) [4] (.i Z.2) (HQ d Z.1):=by
 refine aP func81 ?_;have hi:=(List.getElem?_eq_some_iff.1 hx).1;have hpc:=dJ hx;rw [rG] at hZ;cases hw:x.waiting with
 | true =>
  rw [hpc,hw] at hZ;obtain rfl:(w,14)=Z:=hZ;repeat' (first|refine af ?_ ?_|(refine aa 21 rfl ?_;first|refine sx (ay rfl rfl) ?_|refine sx (aO rfl rfl) ?_)|refine ae ?_|exact ah|refine ab fun hb=>?_|(refine bP (qf [(4,2)]) ?_;exact aj))
 | false =>
 have hw':(w.pc i).waiting=false:=by rw [hpc];exact hw
 rw [hpc,hw,cond_false] at hZ;cases hq:oG r with
 | false =>
  rw [hq] at hZ;obtain rfl:(w,1)=Z:=hZ;have kV:=rU d r hq;repeat' (first|refine af ?_ ?_|refine aa 9 rfl (cB [] (kV) ?_)|(refine aa 21 rfl ?_;first|refine sx (ay rfl rfl) ?_|refine sx (aO rfl rfl) ?_)|refine ae ?_|exact ah|refine ab fun hb=>?_|(refine bP (qf [(4,2)]) ?_;exact aj))
 | true =>
 have kV:=rU d r hq;rw [hq,Bool.not_true,cond_false] at hZ;have hV:=h.tv;have kM:=Hr w.c.queues (by have:=(bf hV).1;omega);obtain ⟨c,hc⟩:∃c,gw w.c.queues r.expr=c:=⟨_,rfl⟩;have kR:=xZ d w.c.queues r.expr hV hc;by_cases h0:c=0
 case neg =>
  rw [hc,decide_eq_false h0] at hZ;obtain rfl:(w,c)=Z:=hZ;repeat' (first|refine af ?_ ?_|(refine aa 9 rfl ?_;first|(refine cB [] (kV) ?_)|(refine cC [] (kM) ?_)|(refine cB [] (kR) ?_))|(refine aa 21 rfl ?_;first|refine sx (ay rfl rfl) ?_|refine sx (aO rfl rfl) ?_)|refine ae ?_|exact ah|(refine ab fun hb=>?_;first|(exact absurd hb h0)|skip)|(refine bP (qf [(4,2)]) ?_;exact aj))
 subst h0;obtain ⟨c2,_,_,hnm⟩:=lA h hi hw' hq hc;rw [hc,decide_eq_true rfl] at hZ;have hv:kv r.expr=true:=by unfold oG at hq;simp only [Bool.and_eq_true] at hq;exact hq.1.1.1.1
 have h24:r.expr.cnt≤24:=by have h:=hv;simp [kv,x9] at h;exact h.1.2
 obtain ⟨_,hrsl⟩:=oM hc;have h8:=cd r.expr;obtain ⟨L,hL⟩:∃L,cy r.expr=L:=⟨_,rfl⟩;have kA:=jR d r.expr hL;have kE:=Az r.expr d (by omega);have s1:=fB hi { x with waiting:=true };have l1:i<(w.c.procs.set i { x with waiting:=true }).length:=by rw [List.length_set];exact hi
 have s2:=fB l1 { x with waiting:=true,req:=r };have l2:i<((w.c.procs.set i { x with waiting:=true }).set i { x with waiting:=true,req:=r }).length:=by rw [List.length_set];exact l1
 have s3:=fB l2 { x with waiting:=true,req:=r,since:=w.c.now };obtain ⟨B,hB⟩:∃B,B=(((w.setP i { x with waiting:=true }).setP i { x with waiting:=true,req:=r }).setP i { x with waiting:=true,req:=r,since:=w.c.now }).setP i { x with waiting:=true,req:=r,since:=w.c.now,gen:=aS x.gen }:=⟨_,rfl⟩;have hBe:Gc w i r=B:=by
  unfold Gc;rw [hpc];unfold aU;rw [fQ hi,gf,hB,gf,gf,gf]
 have hS:z6 w i r=ck x.proc r.prio L B:=by
  unfold z6;rw [hBe,hpc,hL]
 have hev2:=m6 x.proc r.prio L B;have hBev:B.ev.length=w.ev.length:=by rw [hB];rfl
 have hBq:B.c.queues=w.c.queues:=by rw [hB];rfl
 have hBp:∃v,B.c.procs[i]? = some v∧v.proc=x.proc:=⟨{ x with waiting:=true,req:=r,since:=w.c.now,gen:=aS x.gen },by rw [hB];exact fB (by rw [show ((((w.setP i { x with waiting:=true }).setP i { x with waiting:=true,req:=r }).setP i { x with waiting:=true,req:=r,since:=w.c.now }).c.procs)=((w.c.procs.set i { x with waiting:=true }).set i { x with waiting:=true,req:=r }).set i { x with waiting:=true,req:=r,since:=w.c.now } from rfl,List.length_set];exact l2) _,rfl⟩;rw [hS] at hZ c2 hnm;rw [hL] at hrsl h8;obtain ⟨W,hW⟩:∃W,ck x.proc r.prio L B=W:=⟨_,rfl⟩;rw [hW] at hZ c2 hnm hev2;have hWne:L=[]∨W.c.queues≠[]:=by
  cases L with
  | nil=>exact .inl rfl
  | cons a l=>exact .inr (Av hnm (rS (hrsl a (by simp)).1))
 obtain ⟨F,hF⟩:∃F,aQ W.c.procs.length W=F:=⟨_,rfl⟩;have kS:=ml d W _ (BW c2 (by omega));rw [hF] at kS hZ;obtain rfl:(F,(0:Int))=Z:=hZ;have hBl:B.ev.length+18*L.length≤500000:=by omega
 clear hS hBe hc c2 hnm hrsl hF hv hq hV hL hw' hpc hev2 hBev hBq h24;subst hB;repeat' (first|refine af ?_ ?_|(refine aa 9 rfl ?_;first|(refine cB [] (kV) ?_)|(refine cC [] (kM) ?_)|(refine cB [] (kR) ?_)|(refine cC [] (kE) ?_)|(refine cB [] (ji x.gen) ?_)|(refine cC [] (kA) ?_))|(refine aa 21 rfl ?_;first|refine sx (ay rfl rfl) ?_|refine sx (aO rfl rfl) ?_)|refine ae ?_|(refine aa 4 rfl ?_;first|(refine aR (aq (z:={ x with waiting:=true }) rfl rfl rfl rfl hx rfl rfl rfl rfl (Nat.le_of_ble_eq_true rfl) rfl rfl) rfl rfl rfl ?_)|(refine aR (aq (z:={ x with waiting:=true,req:=r }) rfl rfl rfl rfl s1 rfl rfl rfl rfl (Nat.le_of_ble_eq_true rfl) rfl rfl) rfl rfl rfl ?_)|(refine aR (jG (z:={ x with waiting:=true,req:=r }) rfl rfl rfl rfl s1 rfl rfl rfl rfl (Nat.le_of_ble_eq_true rfl) (by (repeat' (first|exact trivial|exact .same _|exact .nil|refine ⟨?_,?_⟩));first|done|fail) rfl) rfl rfl rfl ?_)|(refine aR (aq (z:={ x with waiting:=true,req:=r,since:=w.c.now }) rfl rfl rfl rfl s2 rfl rfl rfl rfl (Nat.le_of_ble_eq_true rfl) rfl rfl) rfl rfl rfl ?_)|(refine aR (aq (z:={ x with waiting:=true,req:=r,since:=w.c.now,gen:=aS x.gen }) rfl rfl rfl rfl s3 rfl rfl rfl rfl (Nat.le_of_ble_eq_true rfl) rfl rfl) rfl rfl rfl ?_))|exact ah|(refine ab fun hb=>?_;first|(exact absurd rfl hb)|skip))
 refine ai (fun y:Nat×Wk=>y.1≤L.length∧ck x.proc r.prio (L.drop y.1) y.2=W∧y.2.ev.length+18*(L.length-y.1)≤500000∧∃v,y.2.c.procs[i]? = some v∧v.proc=x.proc) (fun y=>bt [0,1,2,5,1011] [(0,.v gA),(1,.v (pp i)),(5,.c (.ptr 5 0)),(58,.c (.sl cw L)),(59,.i L.length),(60,.i y.1)] [(0,.box 85 (An y.2 1011)),(1,.arr 63 (eI d) y.2.c.procs),(5,.box 44 (r.d d)),(1011,.arr 67 fG y.2.ev)]) (fun y=>L.length-y.1) (0,(((w.setP i { x with waiting:=true }).setP i { x with waiting:=true,req:=r }).setP i { x with waiting:=true,req:=r,since:=w.c.now }).setP i { x with waiting:=true,req:=r,since:=w.c.now,gen:=aS x.gen }) ⟨Nat.zero_le _,hW,hBl,hBp⟩ (by exact a8 (qf [(1011,2)])) ?_;clear hx s1 s2 s3 l1 l2 hW hBl hBp kA kE kR kM kV;rintro ⟨k,u⟩ ⟨hk,hu,hue,v,hv1,hv2⟩;dsimp only at *
 by_cases hlt:k<L.length
 ·rw [List.drop_eq_getElem_cons hlt] at hu;obtain ⟨a,ha⟩:∃a,L[k]=a:=⟨_,rfl⟩;have hga:L[k]? = some a:=by rw [List.getElem?_eq_getElem hlt,ha]
  rw [ha] at hu;obtain ⟨R,hR⟩:∃R,bd u.c.queues x.proc a r.prio=R:=⟨_,rfl⟩;have hRl:=jO u.c.queues x.proc a r.prio;have hu:ck x.proc r.prio (L.drop (k+1)) (u.take R.1 R.2.1)=W:=by rw [←hR];exact hu
  have h00:R.2.2=0:=Classical.byContradiction fun hne=>by
   have e1:R.1=[]:=by rw [←hR];exact y9 (by rw [hR];exact hne)
   have e2:=rO (p:=x.proc) (prio:=r.prio) (l:=L.drop (k+1)) (w:=u.take R.1 R.2.1) e1;rw [hu] at e2;rcases hWne with e3|e3
   ·rw [e3] at hlt;exact absurd hlt (by simp)
   ·exact e3 e2
  have kC:=GE u.c.queues x.proc a r.prio hR;rw [hR] at hRl;obtain ⟨R1,R2,R3⟩:=R;obtain rfl:R3=0:=h00;have kT:=Ao d u R1 R2 (by dsimp only at hRl;omega);obtain ⟨z,hz⟩:∃z,u.take R1 R2=z:=⟨_,rfl⟩;have hzp:z.c.procs=u.c.procs:=by rw [←hz];rfl
  have hze:z.ev.length=u.ev.length+R2.length:=by rw [←hz,jP]
  have hu:ck x.proc r.prio (L.drop (k+1)) z=W:=by rw [←hz];exact hu
  rw [hz] at kT;rw [←hv2] at kC;dsimp only at hRl;have hz2:z.ev.length+18*(L.length-(k+1))≤500000:=by omega
  clear hz hze hue hRl hR;repeat' (first|refine af ?_ ?_|(refine aa 9 rfl ?_;first|(refine cC [] (kC) ?_)|(refine cH (qf [(0,0),(1,1),(2,1011),(4,1020)]) (kT) ?_))|(refine aa 21 rfl ?_;first|refine sx (ay rfl rfl) ?_|refine sx (aO rfl rfl) ?_)|refine ae ?_|exact ah|refine ab fun hb=>?_)
  refine ⟨(k+1,z),⟨by dsimp only;omega,hu,hz2,v,by dsimp only;rw [hzp];exact hv1,hv2⟩,by dsimp only;omega,?_⟩;dsimp only;exact a8 (qf [(1011,1020)])
 ·rw [List.drop_eq_nil_of_le (by omega)] at hu;obtain rfl:u=W:=hu;repeat' (first|refine af ?_ ?_|refine aa 9 rfl (cH (qf [(0,0),(50,1),(2,1011),(4,1020)]) (kS) ?_)|refine ae ?_|exact ah|refine ab fun hb=>?_|(refine bP (qf [(4,1020)]) ?_;exact aj))
theorem I8 (d:Nat) (w:Wk) (k:Cm) (h:CI w.c) (hs:∀x∈w.c.procs,dA w.c.queues x=false) (he:w.ev.length≤1000) {Z:Wk×Int} (hZ:zK w k=Z):FSpec prog 34 [gA,k.a d] (HP d w) [3,4] (.i Z.2) (HR d Z.1):=by
 refine aP func34 ?_;obtain ⟨kd,p,r,nm,n⟩:=k;unfold zK at hZ;dsimp only at hZ;have h8:=h.len;by_cases hA:1≤kd∧kd≤9
 case neg =>
  rw [show (decide (1≤kd) && decide (kd≤9))=false by rw [Bool.and_eq_false_iff];simp;omega] at hZ;obtain rfl:(w,1)=Z:=hZ;repeat' (first|refine af ?_ ?_|refine ae ?_|exact ah|(refine ab fun hb=>?_;first|(exfalso;omega)|skip)|(refine bP (qf [(3,1),(4,2)]) ?_;exact aj))
 obtain ⟨hA1,hA2⟩:=hA;rw [decide_eq_true hA1,decide_eq_true hA2,Bool.and_self,Bool.not_true,cond_false] at hZ;by_cases h1:kd=1
 ·subst h1;have hZ:i4 w p n=Z:=hZ;have kO:=I6 d w p n h8 (Kb h p) hZ;repeat' (first|refine af ?_ ?_|refine aa 9 rfl (cH (qf [(0,0),(1,1),(2,2),(3,1003),(4,1004)]) (kO) ?_)|refine ae ?_|exact ah|refine ab fun hb=>?_|(refine bP (qf [(3,1003),(4,1004)]) ?_;exact aj))
 rw [decide_eq_false h1,cond_false] at hZ;by_cases h9:kd=9
 ·subst h9;have hZ:iF w n=Z:=hZ;have kT:=I7 d w n h hs he hZ;repeat' (first|refine af ?_ ?_|refine aa 9 rfl (cH (qf [(0,0),(1,1),(2,2),(4,1004)]) (kT) ?_)|refine ae ?_|exact ah|refine ab fun hb=>?_|(refine bP (qf [(3,1),(4,1004)]) ?_;exact aj))
 rw [decide_eq_false h9,cond_false] at hZ;by_cases hI:db p 0 w.c.procs<0
 ·rw [decide_eq_true hI,cond_true] at hZ;obtain rfl:(w,10)=Z:=hZ;have kI:=vK d w.c.procs p (by omega) rfl;repeat' (first|refine af ?_ ?_|refine aa 9 rfl (cH (qf [(1,1)]) (kI) ?_)|(refine aa 21 rfl ?_;first|refine sx (ay rfl rfl) ?_|refine sx (aO rfl rfl) ?_)|refine ae ?_|exact ah|(refine ab fun hb=>?_;first|(exfalso;omega)|skip)|(refine bP (qf [(3,1),(4,2)]) ?_;exact aj))
 rw [decide_eq_false hI,cond_false] at hZ;obtain ⟨i,hi,ei,_⟩:=jd (p:=p) (l:=w.c.procs) (k:=0) (by omega);rw [Nat.zero_add] at ei;have kI:=vK d w.c.procs p (by omega) ei;rw [ei,Int.toNat_natCast] at hZ;clear hI ei;obtain ⟨x,hx⟩:∃x,w.c.procs[i]? = some x:=⟨_,List.getElem?_eq_getElem hi⟩;have hpc:=dJ hx;by_cases h2:kd=2
 ·subst h2;have hZ:cG w i r=Z:=hZ;have kT:=B2 d w i r hx h (by omega) hZ;repeat' (first|refine af ?_ ?_|(refine aa 9 rfl ?_;first|(refine cH (qf [(1,1)]) (kI) ?_)|(refine cH (qf [(0,0),(1,1),(2,2),(4,1004)]) (kT) ?_))|(refine aa 21 rfl ?_;first|refine sx (ay rfl rfl) ?_|refine sx (aO rfl rfl) ?_)|refine ae ?_|exact ah|(refine ab fun hb=>?_;first|(exfalso;omega)|skip)|(refine bP (qf [(3,1),(4,1004)]) ?_;exact aj))
 rw [decide_eq_false h2,cond_false] at hZ;by_cases h3:kd=3
 ·subst h3;rw [hpc] at hZ;have hZ:(bif !x.waiting then (w,(14:Int)) else (bS (aU (az w i) i),0))=Z:=hZ;have kT:=EL d w i hx h (by omega) hZ;repeat' (first|refine af ?_ ?_|(refine aa 9 rfl ?_;first|(refine cH (qf [(1,1)]) (kI) ?_)|(refine cH (qf [(0,0),(1,1),(2,2),(4,1004)]) (kT) ?_))|(refine aa 21 rfl ?_;first|refine sx (ay rfl rfl) ?_|refine sx (aO rfl rfl) ?_)|refine ae ?_|exact ah|(refine ab fun hb=>?_;first|(exfalso;omega)|skip)|(refine bP (qf [(3,1),(4,1004)]) ?_;exact aj))
 rw [decide_eq_false h3,cond_false] at hZ;by_cases h4:kd=4
 ·subst h4;have hZ:dR w i nm=Z:=hZ;have kT:=BY d w i nm hx h (by omega) hZ;repeat' (first|refine af ?_ ?_|(refine aa 9 rfl ?_;first|(refine cH (qf [(1,1)]) (kI) ?_)|(refine cH (qf [(0,0),(1,1),(2,2),(4,1004)]) (kT) ?_))|(refine aa 21 rfl ?_;first|refine sx (ay rfl rfl) ?_|refine sx (aO rfl rfl) ?_)|refine ae ?_|exact ah|(refine ab fun hb=>?_;first|(exfalso;omega)|skip)|(refine bP (qf [(3,1),(4,1004)]) ?_;exact aj))
 rw [decide_eq_false h4,cond_false] at hZ;by_cases h5:kd=5
 ·subst h5;rw [hpc] at hZ;have hZ:(bif x.waiting then (w,(14:Int)) else bif !decide ((dP x.led n).2=0) then (w,(dP x.led n).2) else (aU (w.setP i { x with led:=(dP x.led n).1 }) i,0))=Z:=hZ;have kT:=I3 d w i n hx hZ;repeat' (first|refine af ?_ ?_|(refine aa 9 rfl ?_;first|(refine cH (qf [(1,1)]) (kI) ?_)|(refine cH (qf [(0,0),(1,1),(2,2),(4,1004)]) (kT) ?_))|(refine aa 21 rfl ?_;first|refine sx (ay rfl rfl) ?_|refine sx (aO rfl rfl) ?_)|refine ae ?_|exact ah|(refine ab fun hb=>?_;first|(exfalso;omega)|skip)|(refine bP (qf [(3,1),(4,1004)]) ?_;exact aj))
 rw [decide_eq_false h5,cond_false] at hZ;by_cases h6:kd=6
 ·subst h6;have hZ:cP w i n=Z:=hZ;have kT:=zf d w i n hx h (by omega) hZ;repeat' (first|refine af ?_ ?_|(refine aa 9 rfl ?_;first|(refine cH (qf [(1,1)]) (kI) ?_)|(refine cH (qf [(0,0),(1,1),(2,2),(4,1004)]) (kT) ?_))|(refine aa 21 rfl ?_;first|refine sx (ay rfl rfl) ?_|refine sx (aO rfl rfl) ?_)|refine ae ?_|exact ah|(refine ab fun hb=>?_;first|(exfalso;omega)|skip)|(refine bP (qf [(3,1),(4,1004)]) ?_;exact aj))
 rw [decide_eq_false h6,cond_false] at hZ;obtain ⟨F,hF⟩:∃F,gy w i=F:=⟨_,rfl⟩;have kG:=I4 d w i hx h (by omega) hF;rw [hF,hpc] at hZ;by_cases h8b:kd=8
 ·subst h8b;cases hw:x.waiting with
  | true =>
   rw [hw] at hZ;obtain rfl:(w,14)=Z:=hZ;repeat' (first|refine af ?_ ?_|refine aa 9 rfl (cH (qf [(1,1)]) (kI) ?_)|(refine aa 21 rfl ?_;first|refine sx (ay rfl rfl) ?_|refine sx (aO rfl rfl) ?_)|refine ae ?_|exact ah|(refine ab fun hb=>?_;first|(cases hw.symm.trans hb;done)|(exfalso;omega)|skip)|(refine bP (qf [(3,1),(4,2)]) ?_;exact aj))
  | false =>
   rw [hw] at hZ;obtain rfl:(F,0)=Z:=hZ;repeat' (first|refine af ?_ ?_|(refine aa 9 rfl ?_;first|(refine cH (qf [(1,1)]) (kI) ?_)|(refine cH (qf [(0,0),(1,1),(2,2),(3,1003),(4,1004)]) (kG) ?_))|(refine aa 21 rfl ?_;first|refine sx (ay rfl rfl) ?_|refine sx (aO rfl rfl) ?_)|refine ae ?_|exact ah|(refine ab fun hb=>?_;first|(cases hw.symm.trans hb;done)|(exfalso;omega)|skip)|(refine bP (qf [(3,1003),(4,1004)]) ?_;exact aj))
 ·rw [decide_eq_false h8b] at hZ;obtain rfl:kd=7:=by omega
  obtain rfl:(F,0)=Z:=hZ;repeat' (first|refine af ?_ ?_|(refine aa 9 rfl ?_;first|(refine cH (qf [(1,1)]) (kI) ?_)|(refine cH (qf [(0,0),(1,1),(2,2),(3,1003),(4,1004)]) (kG) ?_))|(refine aa 21 rfl ?_;first|refine sx (ay rfl rfl) ?_|refine sx (aO rfl rfl) ?_)|refine ae ?_|exact ah|(refine ab fun hb=>?_;first|(exfalso;omega)|skip)|(refine bP (qf [(3,1003),(4,1004)]) ?_;exact aj))
theorem GO (q:Qu) (h1:q.holds.length≤100000) (h2:q.convs.length≤100000) (h3:q.waits.length≤100000):FSpec prog 78 [q.a] [] [] (.v q.a) []:=by
 refine aP func78 ?_;repeat' (first|refine af ?_ ?_|refine ae ?_|exact ah|refine ab fun hb=>?_|exact aX|fail)
theorem AB (d:Nat) (x:Pc) (h1:x.led.entries.length≤100000) (h2:x.led.saves.length≤100000) (h3:x.req.expr.cnt≤1000):FSpec prog 41 [x.a d] [] [] (.v (x.a d)) []:=by
 refine aP func41 ?_;have kE:=Az x.req.expr d h3;repeat' (first|refine af ?_ ?_|refine aa 9 rfl (cC [] (kE) ?_)|refine ae ?_|exact ah|refine ab fun hb=>?_|exact aX|fail)
def LJ (c:Cs):Prop:=c.queues.length≤100000∧c.procs.length≤100000∧(∀q∈c.queues,q.holds.length≤100000∧q.convs.length≤100000∧q.waits.length≤100000)∧∀x∈c.procs,x.led.entries.length≤100000∧x.led.saves.length≤100000∧x.req.expr.cnt≤1000
theorem GP (d:Nat) (c:Cs) (h:LJ c):FSpec prog 33 [.ag [.sc (.int .i64 c.now),.sl dC c.queues,.sl (eI d) c.procs]] [] [1] (.v (.ag [.sc (.int .i64 c.now),.sl dC c.queues,.own 1])) [(1,some (.arr 63 (eI d) c.procs))]:=by
 refine aP func33 ?_;obtain ⟨now,Q,P⟩:=c;obtain ⟨h1,h2,h3,h4⟩:=h;dsimp only at *
 repeat' (first|refine af ?_ ?_|refine ae ?_|exact ah|refine ab fun hb=>?_)
 refine lU 3 1 1000 81 dC rfl rfl rfl rfl ?_;refine lU 3 2 1001 63 (eI d) rfl rfl rfl rfl ?_;refine ai (fun i=>i≤Q.length) (fun i=>bt [1,2,3,1000,1001] [(1,.c (.ptr 1 0)),(2,.c (.ptr 2 0)),(3,.c (.ptr 3 0)),(12,.c (.sl dC Q)),(13,.i Q.length),(14,.i i)] [(1,.box 26 [.sc (.int .i64 now),.sl dC Q,.sl (eI d) P]),(2,.box 26 [.sc (.int .i64 0),.sc (.slice none 0 0),.sc (.slice none 0 0)]),(3,.box 26 [.sc (.int .i64 now),.own 1000,.own 1001]),(1000,.arr 81 dC (Q.take i)),(1001,.arr 63 (eI d) [])]) (fun i=>Q.length-i) 0 (Nat.zero_le _) aN ?_;intro i hi;have hti:(Q.take i).length=i:=by simp;omega
 by_cases hlt:i<Q.length
 ·obtain ⟨q,hq⟩:∃q,Q[i]=q:=⟨_,rfl⟩;have hgq:Q[i]? = some q:=by rw [List.getElem?_eq_getElem hlt,hq]
  obtain ⟨j1,j2,j3⟩:=h3 q (hq▸List.getElem_mem hlt);have kQ:=GO q j1 j2 j3;have e2:Q.take (i+1)=Q.take i++[q]:=by rw [List.take_succ_eq_append_getElem hlt,hq]
  clear h3 h4;repeat' (first|refine af ?_ ?_|(refine aa 8 rfl ?_;refine aV (ak rfl rfl (aB rfl rfl) (aD [q] rfl rfl rfl rfl) rfl aL aL) rfl rfl rfl ?_)|refine aa 9 rfl (cC [] (kQ) ?_)|refine ae ?_|exact ah|refine ab fun hb=>?_)
  refine ⟨i+1,by omega,by omega,?_⟩;rw [e2];exact a8 (qf [(1000,23)])
 have e2:Q.take i=Q:=List.take_of_length_le (by omega);rw [e2];clear h3 hti e2;repeat' (first|refine af ?_ ?_|refine ae ?_|exact ah|refine ab fun hb=>?_)
 refine ai (fun i=>i≤P.length) (fun i=>bt [1,2,3,1000,1001] [(1,.c (.ptr 1 0)),(2,.c (.ptr 2 0)),(3,.c (.ptr 3 0)),(27,.c (.sl (eI d) P)),(28,.i P.length),(29,.i i)] [(1,.box 26 [.sc (.int .i64 now),.sl dC Q,.sl (eI d) P]),(2,.box 26 [.sc (.int .i64 0),.sc (.slice none 0 0),.sc (.slice none 0 0)]),(3,.box 26 [.sc (.int .i64 now),.own 1000,.own 1001]),(1000,.arr 81 dC Q),(1001,.arr 63 (eI d) (P.take i))]) (fun i=>P.length-i) 0 (Nat.zero_le _) aN ?_;clear hi hlt;intro i hi;have hti:(P.take i).length=i:=by simp;omega
 by_cases hlt:i<P.length
 ·obtain ⟨x,hx⟩:∃x,P[i]=x:=⟨_,rfl⟩;have hgx:P[i]? = some x:=by rw [List.getElem?_eq_getElem hlt,hx]
  obtain ⟨j1,j2,j3⟩:=h4 x (hx▸List.getElem_mem hlt);have kP:=AB d x j1 j2 j3;have e2:P.take (i+1)=P.take i++[x]:=by rw [List.take_succ_eq_append_getElem hlt,hx]
  clear h4;repeat' (first|refine af ?_ ?_|(refine aa 8 rfl ?_;refine aV (ak rfl rfl (aB rfl rfl) (aD [x] rfl rfl rfl rfl) rfl aL aL) rfl rfl rfl ?_)|refine aa 9 rfl (cC [] (kP) ?_)|refine ae ?_|exact ah|refine ab fun hb=>?_)
  refine ⟨i+1,by omega,by omega,?_⟩;rw [e2];exact a8 (qf [(1001,38)])
 have e2:P.take i=P:=List.take_of_length_le (by omega);rw [e2];repeat' (first|refine af ?_ ?_|refine ae ?_|exact ah|refine ab fun hb=>?_|(refine bP (qf [(1,1001)]) ?_;exact aj))
theorem Ku (d:Nat) (l:List Rs) {v:Bool} (hv:I5 l=v) {Q:List Qu} (hQ:(bif v then l.map xQ else [])=Q):FSpec prog 5 [.one (.sl eT l)] [] [] (.tup [.ag [.sc (.int .i64 0),.sl dC Q,.sl (eI d) []],iV (bif v then 0 else 1)]) []:=by
 have kN:=Kn l hv;rw [hQ] at kN;refine aP func5 ?_;cases v with
 | true =>
  repeat' (first|refine af ?_ ?_|refine aa 9 rfl (cC [] (kN) ?_)|refine ae ?_|exact ah|(refine ab fun hb=>?_;first|(exact absurd rfl hb)|skip)|(refine fe (qf []) ?_;exact aj))
 | false =>
  obtain rfl:[]=Q:=hQ;repeat' (first|refine af ?_ ?_|refine aa 9 rfl (cC [] (kN) ?_)|refine ae ?_|exact ah|(refine ab fun hb=>?_;first|(exact absurd hb (by decide))|skip)|(refine fe (qf []) ?_;exact aj))
theorem GQ (l:List Ex):(((l.length:Nat):Int) == 0)=l.isEmpty:=by
 cases l with
 | nil=>rfl
 | cons x l =>
  show _=false;rw [beq_eq_false_iff_ne];simp only [List.length_cons];omega
theorem I9 (d:Nat) (r:Rq) {b:Bool} (hb0:E3 r=b):FSpec prog 121 [r.a d] [] [] (.b b) []:=by
 refine aP func121 ?_;have he:E3 r=(decide (r.prio=0) && decide (r.limit=0) && decide (r.expr.k=0) && decide (r.expr.atom=iB) && r.expr.kids.isEmpty):=by
  unfold E3 E0;cases decide (r.expr.k=0) <;> cases decide (r.expr.atom=iB) <;> cases r.expr.kids.isEmpty <;> cases decide (r.prio=0) <;> cases decide (r.limit=0) <;> rfl
 rw [he] at hb0;clear he;repeat' (first|refine af ?_ ?_|refine ae ?_|exact ah|refine ab fun hb=>?_)
 all_goals (refine d7 ?_;rw [←hb0];simp [*];try exact GQ _)
def Hu (n:ByteArray):Nat→List Tm→Int
 | _,[]=>-1
 | k,a :: l=>bif ba a.name n then (k:Int) else Hu n (k+1) l
theorem Ls (a:Tm) (q:Qu):FSpec prog 197 [a.a,.one (.ptr 9 0)] [(9,.box 81 q.d)] [] (.b (ba a.name q.res.name)) [(9,some (.box 81 q.d))]:=by
 refine aP func197 ?_;repeat' (first|refine af ?_ ?_|refine ae ?_|exact ah|refine ab fun hb=>?_|exact aX|fail)
theorem Hw (L:List Tm) (q:Qu) (hl:L.length≤100000) {z:Int} (hz:Hu q.res.name 0 L=z):FSpec prog 196 [.one (.sl cw L),.one (.clo 197 [9])] [(9,.box 81 q.d)] [] (.i z) [(9,some (.box 81 q.d))]:=by
 refine aP func196 ?_;repeat' (first|refine af ?_ ?_|refine ae ?_|exact ah|refine ab fun hb=>?_)
 refine ai (fun i=>i≤L.length∧Hu q.res.name i (L.drop i)=z) (fun i=>bt [9] [(0,.c (.sl cw L)),(1,.c (.clo 197 [9])),(7,.i L.length),(8,.i i)] [(9,.box 81 q.d)]) (fun i=>L.length-i) 0 ⟨Nat.zero_le _,hz⟩ aN ?_;rintro i ⟨hi,hs⟩;by_cases hlt:i<L.length
 ·obtain ⟨a,ha⟩:∃a,L[i]=a:=⟨_,rfl⟩;have hga:L[i]? = some a:=by rw [List.getElem?_eq_getElem hlt,ha]
  rw [List.drop_eq_getElem_cons hlt,ha] at hs;have hs:(bif ba a.name q.res.name then (i:Int) else Hu q.res.name (i+1) (L.drop (i+1)))=z:=hs;have kS:=Ls a q;obtain ⟨b,hb1⟩:∃b,ba a.name q.res.name=b:=⟨_,rfl⟩;rw [hb1] at hs kS;cases b with
  | true =>
   obtain rfl:(i:Int)=z:=hs;repeat' (first|refine af ?_ ?_|(refine aa 9 rfl ?_;refine mt 1 [9] (qf [(9,9)]) (kS) ?_)|refine ae ?_|exact ah|refine ab fun hb=>?_|exact aX|fail)
  | false =>
   repeat' (first|refine af ?_ ?_|(refine aa 9 rfl ?_;refine mt 1 [9] (qf [(9,9)]) (kS) ?_)|refine ae ?_|exact ah|refine ab fun hb=>?_)
   refine ⟨i+1,⟨by omega,hs⟩,by omega,?_⟩;exact aN
 ·rw [List.drop_eq_nil_of_le (by omega)] at hs;obtain rfl : -1=z:=hs;repeat' (first|refine af ?_ ?_|refine ae ?_|exact ah|refine ab fun hb=>?_|exact aX|fail)
def Ja (q:Qu) (x:Pc) (a:Tm):Bool :=
 bif !(ap q x.proc).isSome then decide (ao q.holds x.proc=bG q.res (ax x.led.entries q.res.name) a.am) else
 bif q.waits.any (fun y=>decide (y.proc=x.proc) && !decide (y.prio=x.req.prio)) then false else
 decide (ao q.holds x.proc=ax x.led.entries q.res.name) && decide (ap q x.proc=some (bG q.res (ax x.led.entries q.res.name) a.am))
theorem x7 (q:Qu) (x:Pc) (a:Tm) (l:List Tm):b7 q x (a :: l)=bif !ba a.name q.res.name || bg q.res (ax x.led.entries q.res.name) a.am then b7 q x l else Ja q x a:=rfl
theorem AC {q:Qu} {x:Pc}:∀{l:List Tm},(∀a∈l,a.name≠q.res.name)→b7 q x l=b7 q x []
 | [],_=>rfl
 | a :: l,h=>by
  rw [x7,bZ.2 (h a (by simp))];exact AC fun b hb=>h b (by simp [hb])
theorem AD {q:Qu} {x:Pc}:∀(L:List Tm) (k:Nat),B9 L→(Hu q.res.name k L = -1∧b7 q x L=b7 q x [])∨
  ∃(i:Nat) (a:Tm),Hu q.res.name k L=((k+i:Nat):Int)∧L[i]? = some a∧b7 q x L=bif bg q.res (ax x.led.entries q.res.name) a.am then b7 q x [] else Ja q x a
 | [],k,_=>.inl ⟨rfl,rfl⟩
 | a :: l,k,h=>by
  obtain ⟨h1,h2⟩:=List.pairwise_cons.1 h;have e:Hu q.res.name k (a :: l)=bif ba a.name q.res.name then (k:Int) else Hu q.res.name (k+1) l:=rfl;rw [e,x7];cases hn:ba a.name q.res.name with
  | true =>
   have hn:=bb.1 hn;refine .inr ⟨0,a,rfl,rfl,?_⟩;rw [AC (l:=l) fun b hb=>by rw [←hn];exact fun e=>h1 b hb e.symm];cases bg q.res (ax x.led.entries q.res.name) a.am <;> rfl
  | false =>
   rcases AD l (k+1) h2 with h3|⟨i,b,q1,q2,q3⟩
   ·exact .inl h3
   ·exact .inr ⟨i+1,b,by rw [cond_false,q1];omega,q2,q3⟩
theorem GR (d:Nat) (q:Qu) (x:Pc) (L:List Tm) (hnd:B9 L) (hl:L.length≤100000) (h2:q.convs.length≤8) (h3:q.waits.length≤8) {b:Bool} (hB:b7 q x L=b):FSpec prog 120 [q.a,x.a d,.one (.sl cw L)] [] [] (.b b) []:=by
 refine aP func120 ?_;have hpt:=AD (q:=q) (x:=x) L 0 hnd;rw [hB] at hpt;have e0:b7 q x []=(decide (ao q.holds x.proc=ax x.led.entries q.res.name) && !(ap q x.proc).isSome):=rfl;rw [e0] at hpt;unfold Ja at hpt;obtain ⟨l,hL⟩:∃l,ax x.led.entries q.res.name=l:=⟨_,rfl⟩;have kL:=EG x.led q.res.name hL;obtain ⟨h,hh⟩:∃h,ao q.holds x.proc=h:=⟨_,rfl⟩;have kH:=eJ q x.proc;rw [hh] at kH;obtain ⟨o,hw⟩:∃o,ap q x.proc=o:=⟨_,rfl⟩;have kW:=eK q x.proc h2 h3 hw;rw [hL,hh,hw] at hpt;clear hB e0 hw hh hL;rcases hpt with ⟨hz,hb1⟩|⟨i,a,hz,hga,hb1⟩
 ·have kT:=Hw L q hl hz;cases o with
  | none =>
   rw [Option.isSome_none] at kW hb1;repeat' (first|refine af ?_ ?_|(refine aa 0 rfl ?_;refine sx (cS (ks:=[3]) rfl rfl) ?_)|(refine aa 9 rfl ?_;first|(refine cB [] (kL) ?_)|(refine cB [] (kH) ?_)|(refine cB [] (kW) ?_)|(refine cH (qf [(9,3)]) (kT) ?_))|refine ae ?_|exact ah|refine ab fun hb=>?_)
   all_goals (refine d7 ?_;rw [hb1];simp [*])
  | some m =>
   rw [Option.isSome_some] at kW hb1;repeat' (first|refine af ?_ ?_|(refine aa 0 rfl ?_;refine sx (cS (ks:=[3]) rfl rfl) ?_)|(refine aa 9 rfl ?_;first|(refine cB [] (kL) ?_)|(refine cB [] (kH) ?_)|(refine cB [] (kW) ?_)|(refine cH (qf [(9,3)]) (kT) ?_))|refine ae ?_|exact ah|refine ab fun hb=>?_)
   all_goals (refine d7 ?_;rw [hb1];simp [*])
 ·rw [Nat.zero_add] at hz;have kT:=Hw L q hl hz;have kC:=fS q.res l a.am;obtain ⟨c,hc⟩:∃c,bg q.res l a.am=c:=⟨_,rfl⟩;obtain ⟨j,hj⟩:∃j,bG q.res l a.am=j:=⟨_,rfl⟩;have kJ:=Hj q.res l a.am;rw [hc,hj] at hb1;rw [hc] at kC;rw [hj] at kJ;have hi:=(List.getElem?_eq_some_iff.1 hga).1;cases c with
  | true =>
   rw [cond_true] at hb1;cases o with
   | none =>
    rw [Option.isSome_none] at kW hb1;repeat' (first|refine af ?_ ?_|(refine aa 0 rfl ?_;refine sx (cS (ks:=[3]) rfl rfl) ?_)|(refine aa 9 rfl ?_;first|(refine cB [] (kL) ?_)|(refine cB [] (kH) ?_)|(refine cB [] (kW) ?_)|(refine cH (qf [(9,3)]) (kT) ?_)|(refine cB [] (kC) ?_))|refine ae ?_|exact ah|(refine ab fun hb=>?_;first|(exfalso;omega)|skip))
    all_goals (refine d7 ?_;rw [hb1];simp [*])
   | some m =>
    rw [Option.isSome_some] at kW hb1;repeat' (first|refine af ?_ ?_|(refine aa 0 rfl ?_;refine sx (cS (ks:=[3]) rfl rfl) ?_)|(refine aa 9 rfl ?_;first|(refine cB [] (kL) ?_)|(refine cB [] (kH) ?_)|(refine cB [] (kW) ?_)|(refine cH (qf [(9,3)]) (kT) ?_)|(refine cB [] (kC) ?_))|refine ae ?_|exact ah|(refine ab fun hb=>?_;first|(exfalso;omega)|skip))
    all_goals (refine d7 ?_;rw [hb1];simp [*])
  | false =>
   rw [cond_false] at hb1;cases o with
   | none =>
    rw [Option.isSome_none] at kW hb1;repeat' (first|refine af ?_ ?_|(refine aa 0 rfl ?_;refine sx (cS (ks:=[3]) rfl rfl) ?_)|(refine aa 9 rfl ?_;first|(refine cB [] (kL) ?_)|(refine cB [] (kH) ?_)|(refine cB [] (kW) ?_)|(refine cH (qf [(9,3)]) (kT) ?_)|(refine cB [] (kC) ?_)|(refine cB [] (kJ) ?_))|refine ae ?_|exact ah|(refine ab fun hb=>?_;first|(exfalso;omega)|skip))
    all_goals (refine d7 ?_;rw [hb1];simp [*])
   | some m =>
    rw [Option.isSome_some] at kW hb1;rw [Bool.not_true,cond_false] at hb1;by_cases hboth:h=l∧m=j
    case neg =>
     obtain rfl:b=false:=by
      rw [hb1];cases q.waits.any (fun y=>decide (y.proc=x.proc) && !decide (y.prio=x.req.prio)) with
      | true=>rfl
      | false =>
       rw [cond_false,Bool.and_eq_false_iff];by_cases h1:h=l
       ·exact .inr (decide_eq_false fun h2=>hboth ⟨h1,Option.some.inj h2⟩)
       ·exact .inl (decide_eq_false h1)
     have hb2:h=l→m=j→False:=fun a b=>hboth ⟨a,b⟩;clear hb1 hboth;repeat' (first|refine af ?_ ?_|(refine aa 0 rfl ?_;refine sx (cS (ks:=[3]) rfl rfl) ?_)|(refine aa 9 rfl ?_;first|(refine cB [] (kL) ?_)|(refine cB [] (kH) ?_)|(refine cB [] (kW) ?_)|(refine cH (qf [(9,3)]) (kT) ?_)|(refine cB [] (kC) ?_)|(refine cB [] (kJ) ?_))|refine ae ?_|exact ah|(refine ab fun hb=>?_;first|(first|(exfalso;omega)|exact (hb2 (by assumption) (by assumption)).elim)|skip)|exact aX|fail)
    obtain ⟨rfl,rfl⟩:=hboth;have hb1:(!q.waits.any fun y=>decide (y.proc=x.proc) && !decide (y.prio=x.req.prio))=b:=by
     rw [hb1,decide_eq_true rfl,decide_eq_true rfl];cases q.waits.any (fun y=>decide (y.proc=x.proc) && !decide (y.prio=x.req.prio)) <;> rfl
    repeat' (first|refine af ?_ ?_|(refine aa 0 rfl ?_;refine sx (cS (ks:=[3]) rfl rfl) ?_)|(refine aa 9 rfl ?_;first|(refine cB [] (kL) ?_)|(refine cB [] (kH) ?_)|(refine cB [] (kW) ?_)|(refine cH (qf [(9,3)]) (kT) ?_)|(refine cB [] (kC) ?_)|(refine cB [] (kJ) ?_))|refine ae ?_|exact ah|(refine ab fun hb=>?_;first|(first|(exfalso;omega)|exact absurd rfl hb)|skip))
    refine ai (fun i=>i≤q.waits.length∧(!(q.waits.drop i).any fun y=>decide (y.proc=x.proc) && !decide (y.prio=x.req.prio))=b) (fun i=>bt [4] [(4,.c (.ptr 4 0)),(78,.c (.sl eM q.waits)),(79,.i q.waits.length),(80,.i i)] [(4,.box 63 (x.d d))]) (fun i=>q.waits.length-i) 0 ⟨Nat.zero_le _,hb1⟩ aN ?_;clear hb1 kT kL kH kW kC kJ;rintro i ⟨hi2,hs⟩;by_cases hlt:i<q.waits.length
    ·obtain ⟨y,hy⟩:∃y,q.waits[i]=y:=⟨_,rfl⟩;have hgy:q.waits[i]? = some y:=by rw [List.getElem?_eq_getElem hlt,hy]
     rw [List.drop_eq_getElem_cons hlt,hy,List.any_cons] at hs;have kP:=jf y.proc x.proc;obtain ⟨e,he⟩:∃e,bE y.proc x.proc=e:=⟨_,rfl⟩;rw [he] at kP;have hpe:y.proc=x.proc↔e=0:=by rw [←he];exact (lK _ _).symm
     by_cases hbad:e=0∧y.prio≠x.req.prio
     ·obtain rfl:b=false:=by rw [←hs,decide_eq_true (hpe.2 hbad.1),decide_eq_false hbad.2];rfl
      obtain ⟨hb3,hb4⟩:=hbad;repeat' (first|refine af ?_ ?_|refine aa 9 rfl (cB [] (kP) ?_)|refine ae ?_|exact ah|(refine ab fun hb=>?_;first|(first|exact absurd hb3 hb|exact absurd hb hb4)|skip)|exact aX|fail)
     ·have hs:(!(q.waits.drop (i+1)).any fun y=>decide (y.proc=x.proc) && !decide (y.prio=x.req.prio))=b:=by
       rw [←hs];by_cases h1:e=0
       ·rw [decide_eq_true (hpe.2 h1),decide_eq_true (Classical.byContradiction fun h2=>hbad ⟨h1,h2⟩)];rfl
       ·rw [decide_eq_false (fun h2=>h1 (hpe.1 h2))];rfl
      have hb2:e=0→y.prio≠x.req.prio→False:=fun a b=>hbad ⟨a,b⟩;clear hbad;repeat' (first|refine af ?_ ?_|refine aa 9 rfl (cB [] (kP) ?_)|refine ae ?_|exact ah|(refine ab fun hb=>?_;first|(exact (hb2 (by assumption) (by assumption)).elim)|skip))
      all_goals (refine ⟨i+1,⟨by omega,hs⟩,by omega,?_⟩;exact aN)
    ·rw [List.drop_eq_nil_of_le (by omega)] at hs;obtain rfl:true=b:=hs;repeat' (first|refine af ?_ ?_|refine ae ?_|exact ah|refine ab fun hb=>?_|exact aX|fail)
theorem B3 {N:List ByteArray} (hnd:N.Nodup):mQ (eL N):=by
 have hp:=List.mergeSort_perm N fun x y=>!(ltOf jj) y x;have hs:(eL N).Pairwise fun a b=>(!(ltOf jj) b a)=true:=List.pairwise_mergeSort (fun a b c h1 h2=>by
  simp only [Bool.not_eq_true'] at *
  exact iu.ntrans c b a h2 h1) (fun a b=>by
  cases h1:ltOf jj b a with
  | false=>rfl
  | true =>
   cases h2:ltOf jj a b with
   | false=>rfl
   | true=>have:=iu.trans _ _ _ h1 h2;rw [iu.irrefl] at this;cases this) N
 have hn2:(eL N).Nodup:=(hp.nodup_iff).2 hnd;refine (hs.and hn2).imp fun {a b} ⟨h1,h2⟩=>?_;rw [uk,Bool.not_eq_true'] at h1;exact nI h1 (fun e=>h2 e.symm)
theorem B4 {N:List ByteArray} {x:ByteArray}:x∈eL N↔x∈N:=(List.mergeSort_perm N fun x y=>!(ltOf jj) y x).mem_iff
theorem iK {β:Type} {z:β} {x:ByteArray×β}:∀{m:List (ByteArray×β)},(m.map (·.1)).Nodup→x∈m→m8 z x.1 m=x.2
 | y :: m,hn,hx=>by
  obtain ⟨h1,h2⟩:=List.nodup_cons.1 hn;show (bif ba y.1 x.1 then y.2 else m8 z x.1 m)=x.2;rcases List.mem_cons.1 hx with rfl|hx
  ·rw [bb.2 rfl];rfl
  ·rw [bZ.2 (fun e=>h1 (by show y.1∈m.map (·.1);rw [e];exact List.mem_map.2 ⟨x,hx,rfl⟩))];exact iK h2 hx
def AE (m:List (ByteArray×Am)) (seen:List Nat):List ByteArray:=((seen.filterMap fun j=>m[j]?).filter fun x=>!aH x.2).map (·.1)
theorem GS {m:List (ByteArray×Am)} {seen:List Nat} {j:Nat} {x:ByteArray×Am} (h:m[j]? = some x):AE m (seen++[j])=AE m seen++bif aH x.2 then [] else [x.1]:=by
 unfold AE;rw [List.filterMap_append,List.filter_append,List.map_append];congr 1
 cases hz:aH x.2 <;> simp [h,hz]
theorem EN (m:List (ByteArray×Am)) (seen:List Nat):(AE m seen).length≤seen.length:=by
 unfold AE;rw [List.length_map];exact Nat.le_trans (List.length_filter_le _ _) (List.length_filterMap_le _ _)
theorem Jb {l:List En} {m:List (ByteArray×Am)} (hm:eS l=m) {seen:List Nat} (hn:seen.Nodup) (hs:∀j∈seen,j<m.length) (ha:∀j,j<m.length→j∈seen):eL (AE m seen)=(bB l).filter fun n=>!aH (ax l n):=by
 have hk:(m.map (·.1)).Nodup:=by rw [←hm];exact gW l [] (by simp)
 have hsub:(AE m seen).Sublist (iJ m seen):=List.Sublist.map _ List.filter_sublist;have hnd:(AE m seen).Nodup:=hsub.nodup ((xV hn hs ha).nodup_iff.2 hk);refine rR (B3 hnd) ((fy l).filter _) fun x=>?_;rw [B4,List.mem_filter,dh];unfold AE;rw [List.mem_map];constructor
 ·rintro ⟨y,hy,rfl⟩;obtain ⟨hy1,hy2⟩:=List.mem_filter.1 hy;obtain ⟨j,_,hj⟩:=List.mem_filterMap.1 hy1;have hym:y∈m:=List.mem_of_getElem? hj;have hg:oV y.1 m=y.2:=iK hk hym;rw [←hm,ia] at hg;refine ⟨?_,by rw [hg];exact hy2⟩;have h3:y.1∈(et [] l).map (·.1):=List.mem_map.2 ⟨y,by show y∈eS l;rw [hm];exact hym,rfl⟩;rw [jS] at h3;simpa using h3
 ·rintro ⟨h1,h2⟩;have h3:x∈(et [] l).map (·.1):=(jS l []).2 (.inr h1);obtain ⟨y,hy,rfl⟩:=List.mem_map.1 h3;have hym:y∈m:=by rw [←hm];exact hy
  obtain ⟨j,hj,e⟩:=List.getElem_of_mem hym;have hg:oV y.1 m=y.2:=iK hk hym;rw [←hm,ia] at hg;refine ⟨y,List.mem_filter.2 ⟨List.mem_filterMap.2 ⟨j,ha j hj,by rw [List.getElem?_eq_getElem hj,e]⟩,?_⟩,rfl⟩;rw [←hg];exact h2
theorem EO (g:Lg):eH g=((bB g.entries).filter fun n=>!aH (ax g.entries n)).map (oe (ax g.entries)):=by
 unfold eH;rw [List.filter_map];rfl
theorem EP (g:Lg) (hl:g.entries.length≤72) {R:List Tm} (hR:eH g=R):FSpec prog 50 [g.a] [] [] (.c (.sl cw R)) []:=by
 refine aP func50 ?_;obtain ⟨H,hH⟩:∃H:ByteArray→Am,ax g.entries=H:=⟨_,rfl⟩;have k2:=Ap g.entries;obtain ⟨m,hm⟩:∃m,eS g.entries=m:=⟨_,rfl⟩;have hfin:∀seen:List Nat,seen.Nodup→(∀j∈seen,j<m.length)→(∀j,j<m.length→j∈seen)→(eL (AE m seen)).map (oe H)=R:=fun seen q1 q2 q3=>by
  rw [←hR,EO,Jb hm q1 q2 q3,hH]
 have hgm:∀(j:Nat) (x:ByteArray×Am),m[j]? = some x→x.2=H x.1:=fun j x hx=>by
  have hk:(m.map (·.1)).Nodup:=by rw [←hm];exact gW g.entries [] (by simp)
  have hg:oV x.1 m=x.2:=iK hk (List.mem_of_getElem? hx);rw [←hg,←hm,ia,hH]
 have hm9:m.length≤100000:=by
  have q1:=oc g.entries;have q2:=fI g.entries [];rw [hm] at q1;unfold bB at q1;simp at q2;omega
 rw [hm] at k2;clear hR hm hH;repeat' (first|refine af ?_ ?_|refine aa 9 rfl (cH (qf [(0,1004)]) (k2) ?_)|(refine aa 25 rfl ?_;refine sx (uj rQ rfl rfl rfl rfl) ?_)|refine ae ?_|exact ah|refine ab fun hb=>?_)
 refine bV 3 1000 39 cw rfl rfl rfl ?_;refine ai (fun seen:List Nat=>seen.Nodup∧∀j∈seen,j<m.length) (fun seen=>bt [9,1000,1004] [(3,.c (.own 1000)),(9,.c (.own 9))] [(9,.it 1004 (vD m).length seen),(1000,.arr 39 cw ((AE m seen).map (oe H))),(1004,.mp (vD m))]) (fun seen=>m.length-seen.length) [] ⟨by simp,by simp⟩ aN ?_;rintro seen ⟨hn,hs⟩;refine qJ (Ar (L:=vD m) (n:=(vD m).length) rfl rfl rfl rfl rfl rfl rfl rfl rfl rfl rfl rfl (fun j hj hjs=>?_) (fun hall=>?_))
 ·have hj:j<m.length:=by simpa [jX] using hj
  obtain ⟨x,hx⟩:∃x,m[j]? = some x:=⟨_,List.getElem?_eq_getElem hj⟩;have hT:=GS (seen:=seen) hx;have hxe:=hgm j x hx;obtain ⟨n,a⟩:=x;obtain rfl:a=H n:=hxe;have hx2:(vD m)[j]? = some (.string n,IV (H n)):=by simp [jX,hx]
  dsimp only at hT;have hls:=jk hn hs;have hn2:(seen++[j]).Nodup:=List.nodup_append.2 ⟨hn,by simp,fun b hb c hc=>by rw [List.mem_singleton] at hc;subst hc;exact fun e=>hjs (e▸hb)⟩;have hs2:∀k∈seen++[j],k<m.length:=fun k hk=>by
   rcases List.mem_append.1 hk with hk|hk
   ·exact hs k hk
   ·rw [List.mem_singleton] at hk;subst hk;exact hj
  have hls2:=jk hn2 hs2;have hcl:((AE m seen).map (oe H)).length≤100000:=by
   have:=EN m seen;rw [List.length_map];omega
  generalize hC:(AE m seen).map (oe H)=C at *
  show AW _ _ _ _ _ _;by_cases hz:H n=⟨0,0⟩
  ·rw [hz,show aH ⟨0,0⟩=true from rfl,cond_true,List.append_nil] at hT;repeat' (first|refine af ?_ ?_|(refine aa 27 rfl ?_;refine sx (oY (y:=(H n).a) rfl rfl rfl rfl rfl hx2 (fun _ _ _=>⟨_,rfl,rfl,rfl,trivial⟩) (fun _=>rfl)) ?_)|refine ae ?_|exact ah|(refine ab fun hb=>?_;first|(exact absurd hz hb)|skip))
   refine ⟨seen++[j],⟨hn2,hs2⟩,by simp at hls2 ⊢;omega,?_⟩;rw [hT,hC];exact aN
  ·rw [bl.2 hz,cond_false] at hT;repeat' (first|refine af ?_ ?_|(refine aa 8 rfl ?_;refine aV (ak rfl rfl (aB rfl rfl) (aD [oe H n] rfl rfl rfl rfl) rfl aL aL) rfl rfl rfl ?_)|(refine aa 27 rfl ?_;refine sx (oY (y:=(H n).a) rfl rfl rfl rfl rfl hx2 (fun _ _ _=>⟨_,rfl,rfl,rfl,trivial⟩) (fun _=>rfl)) ?_)|refine ae ?_|exact ah|(refine ab fun hb=>?_;first|(exact absurd hb hz)|skip))
   refine ⟨seen++[j],⟨hn2,hs2⟩,by simp at hls2 ⊢;omega,?_⟩;rw [hT,List.map_append,hC];exact a8 (qf [(1000,23)])
 ·have hM:=hfin seen hn hs fun j hj=>hall j (by simpa [jX] using hj);have kS:=EH H (AE m seen) (by
   have:=EN m seen;have:=jk hn hs;omega)
  rw [hM] at kS;show AW _ _ _ _ _ _;repeat' (first|refine af ?_ ?_|refine aa 9 rfl (cH (qf [(0,1000)]) (kS) ?_)|refine ae ?_|exact ah|refine ab fun hb=>?_|exact aX|fail)
theorem uo (c:Cs) (o:Option Pr) (x:Pc) (l:List Pc):uZ c o (x :: l)=(mx c x && EZ o x.proc && uZ c (some x.proc) l):=rfl
theorem GT (d:Nat) (c:Cs) {b:Bool} (hB:gx c=b):FSpec prog 10 [c.a d] [] [] (.b b) []:=by
 refine aP func10 ?_;unfold gx at hB;have kV:=dB c.queues;obtain ⟨v,hv⟩:∃v,du c.queues=v:=⟨_,rfl⟩;rw [hv] at kV;by_cases h1:0≤c.now∧c.now≤1073741824
 case neg =>
  obtain rfl:b=false:=by rw [←hB];by_cases h:0≤c.now <;> simp [h] <;> omega
  by_cases h2:c.now<0
  ·repeat' (first|refine af ?_ ?_|refine ae ?_|exact ah|refine ab fun hb=>?_|exact aX|fail)
  ·repeat' (first|refine af ?_ ?_|refine ae ?_|exact ah|refine ab fun hb=>?_|exact aX|fail)
 have hn:=h1;obtain ⟨h1,h2⟩:=h1;rw [hv,decide_eq_true h1,decide_eq_true h2] at hB;cases v with
 | false =>
  obtain rfl:b=false:=by rw [←hB];rfl
  repeat' (first|refine af ?_ ?_|refine aa 9 rfl (cB [] (kV) ?_)|refine ae ?_|exact ah|refine ab fun hb=>?_|exact aX|fail)
 | true =>
  have hp8:=bf hv;by_cases h8:c.procs.length≤8
  case neg =>
   obtain rfl:b=false:=by rw [←hB,decide_eq_false h8];rfl
   repeat' (first|refine af ?_ ?_|refine aa 9 rfl (cB [] (kV) ?_)|refine ae ?_|exact ah|refine ab fun hb=>?_|exact aX|fail)
  rw [decide_eq_true h8] at hB;simp only [Bool.true_and] at hB;obtain ⟨L,hL⟩:∃L,aC c.queues=L:=⟨_,rfl⟩;have kP:=nS c.queues (by omega) (fun q hq=>cA (ct hv hq));have hLl:L.length≤8:=by rw [←hL];exact hp8.2.2
  rw [hL] at kP hB;obtain ⟨G,hG⟩:∃G:Pr→Bool,(fun p=>decide (0≤db p 0 c.procs))=G:=⟨_,rfl⟩;have hG':∀p,decide (0≤db p 0 c.procs)=G p:=fun p=>congrFun hG p;rw [hG] at hB;repeat' (first|refine af ?_ ?_|(refine aa 9 rfl ?_;first|(refine cB [] (kV) ?_)|(refine cC [] (kP) ?_))|refine ae ?_|exact ah|refine ab fun hb=>?_)
  refine ai (fun i=>i≤L.length∧(L.all G=(L.drop i).all G)) (fun i=>bt [1] [(1,.c (.ptr 1 0)),(3,.c (.sl fK L)),(4,.i i)] [(1,.box 26 (c.d d))]) (fun i=>L.length-i) 0 ⟨Nat.zero_le _,rfl⟩ aN ?_;rintro i ⟨hi,hs⟩;by_cases hlt:i<L.length
  ·obtain ⟨p,hp⟩:∃p,L[i]? = some p:=⟨_,List.getElem?_eq_getElem hlt⟩;have ep:L[i]=p:=(List.getElem?_eq_some_iff.1 hp).2;rw [List.drop_eq_getElem_cons hlt,ep,List.all_cons] at hs;obtain ⟨ix,hix⟩:∃ix,db p 0 c.procs=ix:=⟨_,rfl⟩;have kI:=vt c.procs d p hix;have hgp:=hG' p;rw [hix] at hgp;by_cases h0:0≤ix
   ·rw [decide_eq_true h0] at hgp;repeat' (first|refine af ?_ ?_|refine aa 9 rfl (cB [] (kI) ?_)|refine ae ?_|exact ah|refine ab fun hb=>?_)
    refine ⟨i+1,⟨by omega,?_⟩,by omega,?_⟩
    ·rw [hs,←hgp,Bool.true_and]
    ·exact aN
   ·rw [decide_eq_false h0] at hgp;obtain rfl:b=false:=by rw [←hB,hs,←hgp];rfl
    repeat' (first|refine af ?_ ?_|refine aa 9 rfl (cB [] (kI) ?_)|refine ae ?_|exact ah|refine ab fun hb=>?_|exact aX|fail)
  rw [List.drop_eq_nil_of_le (by omega),List.all_nil] at hs;rw [hs,Bool.true_and] at hB;clear hs hG hG' kP kV;repeat' (first|refine af ?_ ?_|refine ae ?_|exact ah|refine ab fun hb=>?_)
  refine ai (fun y:Nat×Option Pr=>y.1≤c.procs.length∧(y.1=0∧y.2=none∨0<y.1∧∃z,c.procs[((y.1:Int)-1).toNat]? = some z∧y.2=some z.proc)∧uZ c y.2 (c.procs.drop y.1)=b) (fun y=>bt [1] [(1,.c (.ptr 1 0)),(5,.i y.1)] [(1,.box 26 (c.d d))]) (fun y=>c.procs.length-y.1) (0,none) ⟨Nat.zero_le _,.inl ⟨rfl,rfl⟩,hB⟩ aN ?_;clear hB;rintro ⟨i,o⟩ ⟨hi,ho,hs⟩;dsimp only at *
  by_cases hlt:i<c.procs.length
  ·obtain ⟨x,hx⟩:∃x,c.procs[i]? = some x:=⟨_,List.getElem?_eq_getElem hlt⟩;have ex:c.procs[i]=x:=(List.getElem?_eq_some_iff.1 hx).2;rw [List.drop_eq_getElem_cons hlt,ex,uo] at hs;obtain ⟨pb,hpb⟩:∃pb,mx c x=pb:=⟨_,rfl⟩;have kP:=D4 d c x hn hv hpb;rw [hpb] at hs;have hx2:c.procs[((i+1:Nat):Int).toNat-1]? = some x:=by rw [←hx];congr 1
   cases pb with
   | false =>
    obtain rfl:b=false:=hs.symm;repeat' (first|refine af ?_ ?_|refine aa 9 rfl (cB [] (kP) ?_)|refine ae ?_|exact ah|refine ab fun hb=>?_|exact aX|fail)
   | true =>
    rw [Bool.true_and] at hs;rcases ho with ⟨h0,rfl⟩|⟨h0,z,hz,rfl⟩
    ·rw [show EZ none x.proc=true from rfl,Bool.true_and] at hs;repeat' (first|refine af ?_ ?_|refine aa 9 rfl (cB [] (kP) ?_)|refine ae ?_|exact ah|refine ab fun hb=>?_)
     refine ⟨(i+1,some x.proc),⟨by dsimp only;omega,.inr ⟨by dsimp only;omega,x,?_,rfl⟩,hs⟩,by dsimp only;omega,?_⟩
     ·dsimp only;rw [←hx];congr 1
      omega
     ·exact aN
    ·have kC:=i6 z.proc x.proc;obtain ⟨e,he⟩:∃e,bE z.proc x.proc=e:=⟨_,rfl⟩;rw [show EZ (some z.proc) x.proc=decide (bE z.proc x.proc<0) from rfl,he] at hs;rw [he] at kC;by_cases hneg:e<0
     ·rw [decide_eq_true hneg,Bool.true_and] at hs;repeat' (first|refine af ?_ ?_|(refine aa 9 rfl ?_;first|(refine cB [] (kP) ?_)|(refine cB [] (kC) ?_))|refine ae ?_|exact ah|refine ab fun hb=>?_)
      refine ⟨(i+1,some x.proc),⟨by dsimp only;omega,.inr ⟨by dsimp only;omega,x,?_,rfl⟩,hs⟩,by dsimp only;omega,?_⟩
      ·dsimp only;rw [←hx];congr 1
       omega
      ·exact aN
     ·rw [decide_eq_false hneg] at hs;obtain rfl:b=false:=hs.symm;repeat' (first|refine af ?_ ?_|(refine aa 9 rfl ?_;first|(refine cB [] (kP) ?_)|(refine cB [] (kC) ?_))|refine ae ?_|exact ah|refine ab fun hb=>?_|exact aX|fail)
  ·rw [List.drop_eq_nil_of_le (by omega)] at hs;obtain rfl:b=true:=hs.symm;repeat' (first|refine af ?_ ?_|refine ae ?_|exact ah|refine ab fun hb=>?_|exact aX|fail)
theorem Jc (d:Nat) (c:Cs) (h1:c.queues.length≤100000) (h2:c.procs.length≤100000):FSpec prog 35 [c.a d] [] [1,2] (.v (.ag [.sc (.int .i64 c.now),.own 1,.own 2])) [(1,some (.arr 81 dC c.queues)),(2,some (.arr 63 (eI d) c.procs))]:=by
 refine aP func35 ?_;repeat' (first|refine af ?_ ?_|refine ae ?_|exact ah|refine ab fun hb=>?_|(refine bP (qf [(1,6),(2,11)]) ?_;exact aj))
end Go.Proofs.YtjndcdcbjidocaaGreatDoor
