/- Part K42 of a proof of statements of chapter 15 (no condition). -/
import Derived.Test.YtkkbopkbjacfmaaGreatDoorK24
import Derived.Test.YtkkbopkbjacfmaaGreatDoorK28
import Derived.Test.YtkkbopkbjacfmaaGreatDoorK29
import Derived.Test.YtkkbopkbjacfmaaGreatDoorK31
set_option linter.unusedVariables false
set_option linter.unusedSimpArgs false
set_option maxRecDepth 100000
set_option maxHeartbeats 64000000
namespace Go.Proofs.YtkkbopkbjacfmaaGreatDoor
open Go.RowKit Go.Proofs.Tryz
theorem Mf:∀(x:Ex) (d:Nat),x.cnt<=1000->FSpec prog 75 [x.a d] [] [] (.v (x.a d)) []:=by
 refine Ex.ind (fun k a l ih=>?_);intro d hcnt;rw [Ex.cnt_mk] at hcnt;have hcl:=EY l;show FSpec prog 75 [.ag (CR d k a l)] [] [] (.v (.ag (CR d k a l))) [];refine aS func75 ?_;refine aP (fun c ρ a w hr=>ky (t:=0) (i:=4) hr rfl rfl) (fun hx=>?_);obtain ⟨hlen,hne⟩:=hx;rcases Nat.eq_zero_or_pos l.length with h0|h0
 ·obtain rfl:l=[]:=List.length_eq_zero_iff.1 h0;refine ao ?_;refine ab (fun i=>i=0) (fun i=>bC [1,2] [(1,.c (.ptr 1 0)),(2,.c (.ptr 2 0)),(3,.c (.sc (.slice none 0 0))),(7,.c (.sl (qF d) [])),(8,.i 0),(9,.i i)] [(1,.box 66 (CR d k a [])),(2,.box 66 [.sc (.int .i64 0),.sc (.string ⟨#[]⟩),.sc (.int .i64 0),.sc (.int .i64 0),.sc (.slice none 0 0)])]) (fun _=>0) 0 rfl aL ?_;rintro i rfl;exact QY
 ·obtain ⟨e,rfl⟩:=hne h0;clear hne;refine ao ?_;refine bK 3 1000 66 (qF (e+1)) rfl rfl rfl ?_;refine ab (fun i=>i<=l.length) (fun i=>bC [1,2,1000] [(1,.c (.ptr 1 0)),(2,.c (.ptr 2 0)),(3,.c (.own 1000)),(7,.c (.sl (qF (e+1)) l)),(8,.i l.length),(9,.i i)] [(1,.box 66 (CR (e+1) k a l)),(2,.box 66 [.sc (.int .i64 0),.sc (.string ⟨#[]⟩),.sc (.int .i64 0),.sc (.int .i64 0),.sc (.slice none 0 0)]),(1000,.arr 66 (qF (e+1)) (l.take i))]) (fun i=>l.length-i) 0 (Nat.zero_le _) aL ?_;intro i hi;have hti:(l.take i).length=i:=by simp;omega
  by_cases hlt:i<l.length
  ·have kS:=ih l[i] (List.getElem_mem hlt) e (by have:=hcl.2 _ (List.getElem_mem hlt);omega);have hl9:l.length<=1000:=by have:=hcl.1;omega
   have e2:l.take (i+1)=l.take i++[l[i]]:=List.take_succ_eq_append_getElem hlt;clear ih hcl;repeat' (first|refine az ?_ ?_|(refine aa 8 rfl ?_;refine aK (ae rfl rfl (av rfl rfl) (aB [l[i]] rfl rfl rfl rfl) rfl aE aE) rfl rfl rfl ?_)|refine aa 9 rfl (cC [] kS ?_)|refine ay ?_|exact aA|refine ax fun hb=>?_)
   refine ⟨i+1,by omega,by omega,?_⟩;rw [e2];exact a8 (qf [(1000,17)])
  ·have e2:l.take i=l:=List.take_of_length_le (by omega);rw [e2];exact QY
theorem PY (a:Tm) (q:Qu):FSpec prog 160 [a.a,.one (.ptr 9 0)] [(9,.box 78 q.d)] [] (.b (aV a.name q.res.name)) [(9,some (.box 78 q.d))]:=by
 refine aS func160 ?_;exact QY
theorem Ou (L:List Tm) (q:Qu) (hl:L.length<=100000) {z:Int} (hz:tj q.res.name 0 L=z):FSpec prog 159 [.one (.sl da L),.one (.clo 160 [9])] [(9,.box 78 q.d)] [] (.i z) [(9,some (.box 78 q.d))]:=by
 refine aS func159 ?_;refine ao ?_;refine ab (fun i=>i<=L.length/\tj q.res.name i (L.drop i)=z) (fun i=>bC [9] [(0,.c (.sl da L)),(1,.c (.clo 160 [9])),(7,.i L.length),(8,.i i)] [(9,.box 78 q.d)]) (fun i=>L.length-i) 0 ⟨Nat.zero_le _,hz⟩ aL ?_;rintro i ⟨hi,hs⟩;by_cases hlt:i<L.length
 ·obtain ⟨a,ha⟩:=qGe (L[i]);have hga:L[i]? = some a:=by rw [qGg hlt,ha]
  rw [qDc hlt,ha] at hs;have hs:(bif aV a.name q.res.name then (i:Int) else tj q.res.name (i+1) (L.drop (i+1)))=z:=hs;have kS:=PY a q;obtain ⟨b,hb1⟩:=qGe (aV a.name q.res.name);rw [hb1] at hs kS;cases b with
  | true =>
   obtain rfl:(i:Int)=z:=hs;repeat' (first|refine az ?_ ?_|(refine aa 9 rfl ?_;refine JU 1 [9] (qf [(9,9)]) kS ?_)|refine ay ?_|exact aA|refine ax fun hb=>?_|exact aT|fail)
  | false =>
   repeat' (first|refine az ?_ ?_|(refine aa 9 rfl ?_;refine JU 1 [9] (qf [(9,9)]) kS ?_)|refine ay ?_|exact aA|refine ax fun hb=>?_)
   refine ⟨i+1,⟨by omega,hs⟩,by omega,?_⟩;exact aL
 ·rw [qDn (by omega)] at hs;obtain rfl : -1=z:=hs;exact QY
inductive AplW (o:Opn) (q:Qu):Qu->Int->Prop
 | no {z:Int}:z<0->AplW o q q z
 | zero (i:Nat) (a:Tm):o.lower[i]? = some a->af q.holds o.proc=⟨0,0⟩->AplW o q q i
 | same (i:Nat) (a:Tm):o.lower[i]? = some a->af q.holds o.proc≠⟨0,0⟩->af q.holds o.proc=a.am->AplW o q q i
 | bare (i:Nat) (a:Tm):o.lower[i]? = some a->af q.holds o.proc≠⟨0,0⟩->af q.holds o.proc≠a.am->bc q.res (af q.holds o.proc) a.am=false->AplW o q q i
 | fail (i:Nat) (a:Tm) {x:Qu} {l:List Ho} {e:Int}:o.lower[i]? = some a->af q.holds o.proc≠⟨0,0⟩->af q.holds o.proc≠a.am->bc q.res (af q.holds o.proc) a.am=true->aY q o.proc a.am=(x,l,e)->e≠0->AplW o q q i
 | ok (i:Nat) (a:Tm) {x:Qu} {l:List Ho}:o.lower[i]? = some a->af q.holds o.proc≠⟨0,0⟩->af q.holds o.proc≠a.am->bc q.res (af q.holds o.proc) a.am=true->aY q o.proc a.am=(x,l,0)->AplW o q x i
theorem J7 {o:Opn} (ho:iT o=true) (q:Qu):AplW o q (wZ o.proc o.lower q) (tj q.res.name 0 o.lower):=by
 have hpw:o.lower.Pairwise fun a b=>a.name≠b.name:=by
  unfold iT at ho;simp only [qBa] at ho;exact (p6 ho.2).1
 by_cases hz:tj q.res.name 0 o.lower<0
 ·rw [zA o.proc hz];exact .no hz
 obtain ⟨i,hi⟩:∃i:Nat,tj q.res.name 0 o.lower=((0+i:Nat):Int):=⟨(tj q.res.name 0 o.lower).toNat,by omega⟩;obtain ⟨a,ha,hl⟩:=t6 o.proc hpw hi;rw [hl,hi,Nat.zero_add,<-GH];by_cases c1:af q.holds o.proc=⟨0,0⟩
 ·rw [qDt c1];exact .zero _ _ ha c1
 by_cases c2:af q.holds o.proc=a.am
 ·rw [qDt c2,qDf c1];exact .same _ _ ha c1 c2
 rw [qDf c1,qDf c2];cases c3:bc q.res (af q.holds o.proc) a.am with
 | false=>exact .bare _ _ ha c1 c2 c3
 | true =>
  obtain ⟨⟨x,l,e⟩,hR⟩:∃R,aY q o.proc a.am=R:=⟨_,rfl⟩;rw [hR];by_cases c4:e=0
  ·subst c4;exact .ok _ _ ha c1 c2 c3 hR
  ·dsimp only;rw [qDf c4];exact .fail _ _ ha c1 c2 c3 hR c4
theorem Mg (o:Opn) (q:Qu) (ho:iT o=true) (hq:ai q=true) {Z:Qu} (hZ:iZ o q=Z):FSpec prog 73 [q.a,o.a] [] [] (.v Z.a) []:=by
 refine aS func73 ?_;have hs:=aG hq;have h1:=hs.hv.len;have h2:=hs.clen;have h3:=hs.wlen;have h4:o.lower.length<=8:=by
  unfold iT at ho;simp only [qBa,decide_eq_true_eq] at ho;exact ho.1.2
 obtain ⟨Q1,hQ1⟩:=qGe (iY o.proc q);have hw:=J7 ho Q1;unfold iZ at hZ;rw [hQ1] at hZ;obtain ⟨z,hz⟩:=qGe (tj Q1.res.name 0 o.lower);obtain ⟨Q2,hQ2⟩:=qGe (wZ o.proc o.lower Q1);have kI:=Ou o.lower Q1 (by omega) hz;rw [hQ2] at hZ hw;rw [hz] at hw;subst hZ;have kH:=oI Q1 o.proc;have kV:=pP Q1.res (af Q1.holds o.proc);have kL:=fun (a:Tm) (R:Qu×List Ho×Int) (h:aY Q1 o.proc a.am=R)=>L0 Q1 o.proc a.am h;obtain ⟨H1,hH1⟩:=qGe (af Q1.holds o.proc);obtain ⟨⟨R1,R2,R3⟩,hR⟩:∃R,bd q o.proc=R:=⟨_,rfl⟩;have kC:=JV q o.proc hR;unfold iY at hQ1;rw [hR] at hQ1;dsimp only at hQ1;have kK1:=J6 q.holds (by omega);have kK2:=B6 q.convs (by omega);have kK3:=B6 q.waits (by omega);clear hz hQ2 hR hs ho hq;have e0:(R3=0/\R1=Q1)\/(R3≠0/\q=Q1):=by
  by_cases e0:R3=0
  ·rw [qDt e0] at hQ1;exact .inl ⟨e0,hQ1⟩
  ·rw [qDf e0] at hQ1;exact .inr ⟨e0,hQ1⟩
 clear hQ1;rcases hw with h1|⟨i,a,ha,h1⟩|⟨i,a,ha,h1,h2⟩|⟨i,a,ha,h1,h2,h3⟩|⟨i,a,ha,h1,h2,h3,hR,h4⟩|⟨i,a,ha,h1,h2,h3,hR⟩ <;>
 rcases e0 with ⟨rfl,rfl⟩|⟨e0,rfl⟩
 ·clear kH kV kL hH1;repeat' (first|refine az ?_ ?_|(refine aa 0 rfl ?_;refine sx (dm (ks:=[2]) rfl rfl) ?_)|(refine aa 9 rfl ?_;first|(refine cC [] kK1 ?_)|(refine cC [] kK2 ?_)|(refine cC [] kK3 ?_)|(refine cC [] kC ?_)|(refine cH (qf [(9,2)]) kI ?_))|refine ay ?_|exact aA|(refine ax fun hb=>?_;first|(first|(exact absurd rfl hb)|(exfalso;omega))|skip)|exact aT|fail)
 ·clear kH kV kL hH1;repeat' (first|refine az ?_ ?_|(refine aa 0 rfl ?_;refine sx (dm (ks:=[2]) rfl rfl) ?_)|(refine aa 9 rfl ?_;first|(refine cC [] kK1 ?_)|(refine cC [] kK2 ?_)|(refine cC [] kK3 ?_)|(refine cC [] kC ?_)|(refine cH (qf [(9,2)]) kI ?_))|refine ay ?_|exact aA|(refine ax fun hb=>?_;first|(first|(exact absurd hb e0)|(exfalso;omega))|skip)|exact aT|fail)
 ·rw [hH1] at kH h1;have hi9:=(List.getElem?_eq_some_iff.1 ha).1;clear kV kL hH1;repeat' (first|refine az ?_ ?_|(refine aa 0 rfl ?_;refine sx (dm (ks:=[2]) rfl rfl) ?_)|(refine aa 9 rfl ?_;first|(refine cC [] kK1 ?_)|(refine cC [] kK2 ?_)|(refine cC [] kK3 ?_)|(refine cC [] kC ?_)|(refine cH (qf [(9,2)]) kI ?_)|(refine cB [] kH ?_))|refine ay ?_|exact aA|(refine ax fun hb=>?_;first|(first|(exact absurd rfl hb)|(exact absurd h1 hb)|(exfalso;omega))|skip)|exact aT|fail)
 ·rw [hH1] at kH h1;have hi9:=(List.getElem?_eq_some_iff.1 ha).1;clear kV kL hH1;repeat' (first|refine az ?_ ?_|(refine aa 0 rfl ?_;refine sx (dm (ks:=[2]) rfl rfl) ?_)|(refine aa 9 rfl ?_;first|(refine cC [] kK1 ?_)|(refine cC [] kK2 ?_)|(refine cC [] kK3 ?_)|(refine cC [] kC ?_)|(refine cH (qf [(9,2)]) kI ?_)|(refine cB [] kH ?_))|refine ay ?_|exact aA|(refine ax fun hb=>?_;first|(first|(exact absurd hb e0)|(exact absurd h1 hb)|(exfalso;omega))|skip)|exact aT|fail)
 ·rw [hH1] at kH h1 h2;have hi9:=(List.getElem?_eq_some_iff.1 ha).1;clear kV kL hH1;repeat' (first|refine az ?_ ?_|(refine aa 0 rfl ?_;refine sx (dm (ks:=[2]) rfl rfl) ?_)|(refine aa 9 rfl ?_;first|(refine cC [] kK1 ?_)|(refine cC [] kK2 ?_)|(refine cC [] kK3 ?_)|(refine cC [] kC ?_)|(refine cH (qf [(9,2)]) kI ?_)|(refine cB [] kH ?_))|refine ay ?_|exact aA|(refine ax fun hb=>?_;first|(first|(exact absurd rfl hb)|(exact absurd hb h1)|(exact absurd h2 hb)|(exfalso;omega))|skip)|exact aT|fail)
 ·rw [hH1] at kH h1 h2;have hi9:=(List.getElem?_eq_some_iff.1 ha).1;clear kV kL hH1;repeat' (first|refine az ?_ ?_|(refine aa 0 rfl ?_;refine sx (dm (ks:=[2]) rfl rfl) ?_)|(refine aa 9 rfl ?_;first|(refine cC [] kK1 ?_)|(refine cC [] kK2 ?_)|(refine cC [] kK3 ?_)|(refine cC [] kC ?_)|(refine cH (qf [(9,2)]) kI ?_)|(refine cB [] kH ?_))|refine ay ?_|exact aA|(refine ax fun hb=>?_;first|(first|(exact absurd hb e0)|(exact absurd hb h1)|(exact absurd h2 hb)|(exfalso;omega))|skip)|exact aT|fail)
 ·have kV:=kV a.am;rw [h3] at kV;rw [hH1] at kH h1 h2 kV;have hi9:=(List.getElem?_eq_some_iff.1 ha).1;clear kL hH1;repeat' (first|refine az ?_ ?_|(refine aa 0 rfl ?_;refine sx (dm (ks:=[2]) rfl rfl) ?_)|(refine aa 9 rfl ?_;first|(refine cC [] kK1 ?_)|(refine cC [] kK2 ?_)|(refine cC [] kK3 ?_)|(refine cC [] kC ?_)|(refine cH (qf [(9,2)]) kI ?_)|(refine cB [] kH ?_)|(refine cB [] kV ?_))|refine ay ?_|exact aA|(refine ax fun hb=>?_;first|(first|(exact absurd rfl hb)|(exact absurd hb h1)|(exact absurd hb h2)|(exfalso;omega))|skip)|exact aT|fail)
 ·have kV:=kV a.am;rw [h3] at kV;rw [hH1] at kH h1 h2 kV;have hi9:=(List.getElem?_eq_some_iff.1 ha).1;clear kL hH1;repeat' (first|refine az ?_ ?_|(refine aa 0 rfl ?_;refine sx (dm (ks:=[2]) rfl rfl) ?_)|(refine aa 9 rfl ?_;first|(refine cC [] kK1 ?_)|(refine cC [] kK2 ?_)|(refine cC [] kK3 ?_)|(refine cC [] kC ?_)|(refine cH (qf [(9,2)]) kI ?_)|(refine cB [] kH ?_)|(refine cB [] kV ?_))|refine ay ?_|exact aA|(refine ax fun hb=>?_;first|(first|(exact absurd hb e0)|(exact absurd hb h1)|(exact absurd hb h2)|(exfalso;omega))|skip)|exact aT|fail)
 ·have kV:=kV a.am;have kL:=kL a _ hR;rw [h3] at kV;rw [hH1] at kH h1 h2 kV;have hi9:=(List.getElem?_eq_some_iff.1 ha).1;clear hH1 hR;repeat' (first|refine az ?_ ?_|(refine aa 0 rfl ?_;refine sx (dm (ks:=[2]) rfl rfl) ?_)|(refine aa 9 rfl ?_;first|(refine cC [] kK1 ?_)|(refine cC [] kK2 ?_)|(refine cC [] kK3 ?_)|(refine cC [] kC ?_)|(refine cH (qf [(9,2)]) kI ?_)|(refine cB [] kH ?_)|(refine cB [] kV ?_)|(refine cC [] kL ?_))|refine ay ?_|exact aA|(refine ax fun hb=>?_;first|(first|(exact absurd rfl hb)|(exact absurd hb h1)|(exact absurd hb h2)|(exact absurd hb h4)|(exfalso;omega))|skip)|exact aT|fail)
 ·have kV:=kV a.am;have kL:=kL a _ hR;rw [h3] at kV;rw [hH1] at kH h1 h2 kV;have hi9:=(List.getElem?_eq_some_iff.1 ha).1;clear hH1 hR;repeat' (first|refine az ?_ ?_|(refine aa 0 rfl ?_;refine sx (dm (ks:=[2]) rfl rfl) ?_)|(refine aa 9 rfl ?_;first|(refine cC [] kK1 ?_)|(refine cC [] kK2 ?_)|(refine cC [] kK3 ?_)|(refine cC [] kC ?_)|(refine cH (qf [(9,2)]) kI ?_)|(refine cB [] kH ?_)|(refine cB [] kV ?_)|(refine cC [] kL ?_))|refine ay ?_|exact aA|(refine ax fun hb=>?_;first|(first|(exact absurd hb e0)|(exact absurd hb h1)|(exact absurd hb h2)|(exact absurd hb h4)|(exfalso;omega))|skip)|exact aT|fail)
 ·have kV:=kV a.am;have kL:=kL a _ hR;rw [h3] at kV;rw [hH1] at kH h1 h2 kV;have hi9:=(List.getElem?_eq_some_iff.1 ha).1;clear hH1 hR;repeat' (first|refine az ?_ ?_|(refine aa 0 rfl ?_;refine sx (dm (ks:=[2]) rfl rfl) ?_)|(refine aa 9 rfl ?_;first|(refine cC [] kK1 ?_)|(refine cC [] kK2 ?_)|(refine cC [] kK3 ?_)|(refine cC [] kC ?_)|(refine cH (qf [(9,2)]) kI ?_)|(refine cB [] kH ?_)|(refine cB [] kV ?_)|(refine cC [] kL ?_))|refine ay ?_|exact aA|(refine ax fun hb=>?_;first|(first|(exact absurd rfl hb)|(exact absurd hb h1)|(exact absurd hb h2)|(exact absurd rfl hb)|(exfalso;omega))|skip)|exact aT|fail)
 ·have kV:=kV a.am;have kL:=kL a _ hR;rw [h3] at kV;rw [hH1] at kH h1 h2 kV;have hi9:=(List.getElem?_eq_some_iff.1 ha).1;clear hH1 hR;repeat' (first|refine az ?_ ?_|(refine aa 0 rfl ?_;refine sx (dm (ks:=[2]) rfl rfl) ?_)|(refine aa 9 rfl ?_;first|(refine cC [] kK1 ?_)|(refine cC [] kK2 ?_)|(refine cC [] kK3 ?_)|(refine cC [] kC ?_)|(refine cH (qf [(9,2)]) kI ?_)|(refine cB [] kH ?_)|(refine cB [] kV ?_)|(refine cC [] kL ?_))|refine ay ?_|exact aA|(refine ax fun hb=>?_;first|(first|(exact absurd hb e0)|(exact absurd hb h1)|(exact absurd hb h2)|(exact absurd rfl hb)|(exfalso;omega))|skip)|exact aT|fail)
theorem J8:∀{l:List Nd} {p:Option Pr},oo p l=true->∀x∈l,x.expr.cnt<=24
 | [],_,_,_,h=>by cases h
 | y :: l,p,h,x,hx=>by
  rw [fd] at h;simp only [qBa] at h;rcases List.mem_cons.1 hx with rfl|hx
  ·have h1:=h.1.1;unfold NB at h1;simp only [qBa] at h1;have h2:=h1.1.1.2;simp [nZ,Cp] at h2;exact h2.1.2
  ·exact J8 h.2 x hx
theorem zB (d:Nat) (s:Ws) (o:Opn) {R:Ws×Int} (hR:Dz s o=R):FSpec prog 24 [s.a d,o.a] [] [] (.tup [R.1.a d,.one (.sc (.int .i64 R.2))]) []:=by
 refine aS func24 ?_;unfold Dz at hR;have k1:=Me d s;obtain ⟨v,hv⟩:=qGe (bb s);rw [hv] at hR k1;cases v with
 | false =>
  obtain rfl:R=(Oq,2):=hR.symm;refine ao ?_
  (refine gG (qf []) ?_;exact ak)
 | true =>
 have k2:=pR o rfl;obtain ⟨v,ho⟩:=qGe (iT o);rw [ho] at hR k2;cases v with
 | false =>
  obtain rfl:R=(Oq,1):=hR.symm;refine ao ?_
  (refine gG (qf []) ?_;exact ak)
 | true =>
 obtain ⟨b1,b2,b3,b4⟩:=dU hv;have k3:=E1 d s (by omega) (by omega) b3;obtain ⟨W,hW⟩:=qGe (aR s);rw [hW] at k3 hR b4;have k4:=JW W o.proc;by_cases hin:o.proc∈W
 case neg =>
  rw [qDf hin] at hR k4;obtain rfl:R=(Oq,10):=hR.symm;clear hW b3;refine ao ?_
  (refine gG (qf []) ?_;exact ak)
 rw [qDt hin] at hR k4;have hsq:∀q∈s.queues,ai q=true:=fun q hq=>dc (mC hv) hq;have hcn:∀x∈s.needs,x.expr.cnt<=24:=by
  have h:=hv;unfold bb at h;simp only [qBa] at h;exact J8 h.1.2
 obtain ⟨F,hF⟩:∃F,(s.needs.filter fun n=>!decide (n.proc=o.proc))=F:=⟨_,rfl⟩;obtain rfl:R=(⟨s.queues.map (iZ o),F⟩,0):=by rw [<-hR,<-hF];rfl
 clear hR hW b3;refine ao ?_;refine eG 6 0 1000 78 ic rfl rfl rfl rfl ?_;refine eG 6 1 1001 68 (B9 d) rfl rfl rfl rfl ?_;refine ab (fun i=>i<=s.queues.length) (fun i=>bC [2,3,4,6,1000,1001] [(2,.c (.ptr 2 0)),(3,.c (.ptr 3 0)),(4,.c (.ptr 4 0)),(6,.c (.ptr 6 0)),(30,.c (.sl ic s.queues)),(31,.i s.queues.length),(32,.i i)] [(2,.box 28 (s.d d)),(3,.box 46 o.d),(4,.box 28 [.sc (.slice none 0 0),.sc (.slice none 0 0)]),(6,.box 28 [.own 1000,.own 1001]),(1000,.arr 78 ic ((s.queues.take i).map (iZ o))),(1001,.arr 68 (B9 d) [])]) (fun i=>s.queues.length-i) 0 (Nat.zero_le _) aL ?_;clear k1 k2 k3 k4 hin hv;intro i hi;have hti:((s.queues.take i).map (iZ o)).length=i:=by simp;omega
 by_cases hlt:i<s.queues.length
 ·obtain ⟨q,hq⟩:∃q,s.queues[i]? = some q:=⟨_,qGg hlt⟩;have eq:=qGs hq;have e2:(s.queues.take (i+1)).map (iZ o)=(s.queues.take i).map (iZ o)++[iZ o q]:=by rw [List.take_succ_eq_append_getElem hlt,eq,List.map_append];rfl
  have kQ:=Mg o q ho (hsq q (List.mem_of_getElem? hq)) rfl;obtain ⟨Z,hZ⟩:=qGe (iZ o q);obtain ⟨A,hA⟩:=qGe ((s.queues.take i).map (iZ o));rw [hZ] at kQ e2;rw [hA] at e2 hti ⊢;clear hA hZ eq hsq hcn hF;repeat' (first|refine az ?_ ?_|(refine aa 8 rfl ?_;refine aK (ae rfl rfl (av rfl rfl) (aB [Z] rfl rfl rfl rfl) rfl aE aE) rfl rfl rfl ?_)|refine aa 9 rfl (cC [] kQ ?_)|refine ay ?_|exact aA|refine ax fun hb=>?_)
  refine ⟨i+1,hlt,by omega,?_⟩;rw [e2];exact a8 (qf [(1000,42)])
 have e2:s.queues.take i=s.queues:=List.take_of_length_le (by omega);rw [e2];obtain ⟨A,hA⟩:=qGe (s.queues.map (iZ o));rw [hA];clear hti e2 hsq hA;refine ao ?_;refine ab (fun y:Nat×List Nd=>y.1<=s.needs.length/\y.2.length<=y.1/\y.2++((s.needs.drop y.1).filter fun n=>!decide (n.proc=o.proc))=F) (fun y=>bC [2,3,4,6,1000,1001] [(2,.c (.ptr 2 0)),(3,.c (.ptr 3 0)),(4,.c (.ptr 4 0)),(6,.c (.ptr 6 0)),(46,.c (.sl (B9 d) s.needs)),(47,.i s.needs.length),(48,.i y.1)] [(2,.box 28 (s.d d)),(3,.box 46 o.d),(4,.box 28 [.sc (.slice none 0 0),.sc (.slice none 0 0)]),(6,.box 28 [.own 1000,.own 1001]),(1000,.arr 78 ic A),(1001,.arr 68 (B9 d) y.2)]) (fun y=>s.needs.length-y.1) (0,[]) ⟨Nat.zero_le _,Nat.le_refl _,hF⟩ aL ?_;clear hF hi hlt;rintro ⟨i,T⟩ ⟨hi,hTl,hs⟩;dsimp only at *
 by_cases hlt:i<s.needs.length
 ·obtain ⟨x,hx⟩:∃x,s.needs[i]? = some x:=⟨_,qGg hlt⟩;have ex:=qGs hx;have hc:=hcn x (List.mem_of_getElem? hx);rw [qDc hlt,ex,List.filter_cons] at hs;have kE:=Mf x.expr d (by omega);have k5:=pQ x.proc o.proc;clear hcn;by_cases hp:x.proc=o.proc
  ·rw [if_neg (by simp [hp])] at hs;rw [(xe _ _).2 hp] at k5;refine ao ?_;refine ⟨(i+1,T),⟨hlt,by dsimp only;omega,hs⟩,by dsimp only;omega,?_⟩;exact aL
  ·rw [if_pos (by simp [hp])] at hs;have hz:bH x.proc o.proc≠0:=fun e=>hp ((xe _ _).1 e);generalize bH x.proc o.proc=z at k5 hz;repeat' (first|refine az ?_ ?_|(refine aa 8 rfl ?_;refine aK (ae rfl rfl (av rfl rfl) (aB [x] rfl rfl rfl rfl) rfl aE aE) rfl rfl rfl ?_)|(refine aa 9 rfl ?_;first|(refine cB [] k5 ?_)|(refine cC [] kE ?_))|refine ay ?_|exact aA|(refine ax fun hb=>?_;first|(exact absurd hb hz)|skip))
   refine ⟨(i+1,T++[x]),⟨hlt,by simp;omega,by dsimp only;rw [<-hs];simp⟩,by dsimp only;omega,?_⟩;exact a8 (qf [(1001,66)])
 rw [qDn (by omega)] at hs;obtain rfl:T=F:=by rw [<-hs];exact (List.append_nil _).symm
 clear hs hi hcn;refine ao ?_
 (refine gG (qf []) ?_;exact ak)
end Go.Proofs.YtkkbopkbjacfmaaGreatDoor
