/- Part 23 of 56 of the proof of both_hold (no condition). -/
import Derived.Test.YtcgpepnbohejfaaGreatDoorK20
import Derived.Test.YtcgpepnbohejfaaGreatDoorK22
set_option linter.unusedVariables false
set_option linter.unusedSimpArgs false
set_option maxRecDepth 100000
set_option maxHeartbeats 64000000
namespace Go.Proofs.YtcgpepnbohejfaaGreatDoor
open Go.RowKit Go.Proofs.Tryz
theorem yY (w:World) (S:Nat→Prop):eX.rep w S iI (Value.agg #[.string { data:=#[] },.int .i64 0,.int .i64 0,.int .i64 0,.slice none 0 0,.slice none 0 0,.slice none 0 0,.int .i64 0]).cells.toList :=
 ⟨rfl,rfl,rfl,rfl,⟨none,0,rfl,⟨Nat.le_refl _,Nat.zero_le _⟩,[],rfl,fun h=>absurd h (by decide)⟩,⟨none,0,rfl,⟨Nat.le_refl _,Nat.zero_le _⟩,[],rfl,fun h=>absurd h (by decide)⟩,⟨none,0,rfl,⟨Nat.le_refl _,Nat.zero_le _⟩,[],rfl,fun h=>absurd h (by decide)⟩,rfl,trivial⟩
theorem mI (t:List Qu) (j:Int) (q:Qu) {R:List Qu} (hl:t.length≤8) (h8:∀q∈t,fy q) (hj:(j<0∧t=R)∨∃i:Nat,i<t.length∧j=i∧t.set i q=R):FSpec prog 133 [.one (.sl eX t),iV j,q.a] [] [0] (.c (.own 0)) [(0,some (.arr 58 eX R))]:=by
 refine aT func133 ?_;repeat' (first|refine af ?_ ?_|(refine aa 20 rfl ?_;refine sx (uk (E:=eX) (n:=t.length) (z:=.agg #[.string { data:=#[] },.int .i64 0,.int .i64 0,.int .i64 0,.slice none 0 0,.slice none 0 0,.slice none 0 0,.int .i64 0]) iI rfl rfl rfl rfl (by omega) (by kernel_rfl) yY (by decide)) ?_)|refine ae ?_|exact ah|refine ab fun hb=>?_)
 refine ak (fun i=>i≤t.length) (fun i=>cq [5,1000] [(1,.i j),(5,.c (.ptr 5 0)),(7,.c (.own 1000)),(13,.c (.sl eX t)),(14,.i t.length),(15,.i i)] [(5,.box 58 q.d),(1000,.arr 58 eX (t.take i++List.replicate (t.length-i) iI))]) (fun i=>t.length-i) 0 (Nat.zero_le _) (by exact bw (qf [(1000,12)])) ?_;intro i hi;have hRl:(t.take i++List.replicate (t.length-i) iI).length=t.length:=by simp;omega
 by_cases hlt:i<t.length
 ·obtain ⟨x,hx⟩:∃x,t[i]=x:=⟨_,rfl⟩;have hgx:t[i]? = some x:=by rw [List.getElem?_eq_getElem hlt,hx]
  have hq:=h8 _ (List.getElem_mem hlt);rw [hx] at hq;obtain ⟨q1,q2,q3⟩:=hq;have hset:(t.take i++List.replicate (t.length-i) iI).set i x=t.take (i+1)++List.replicate (t.length-(i+1)) iI:=by
   rw [List.set_append_right _ _ (by simp;omega),List.take_succ_eq_append_getElem hlt,hx];simp only [List.length_take,Nat.min_eq_left (Nat.le_of_lt hlt),Nat.sub_self];rw [show t.length-i=(t.length-(i+1))+1 by omega,List.replicate_succ];simp
  have hgi:(t.take i++List.replicate (t.length-i) iI)[i]? = some iI:=by
   rw [List.getElem?_append_right (by rw [List.length_take];omega),List.length_take,Nat.min_eq_left (Nat.le_of_lt hlt),Nat.sub_self,List.getElem?_replicate,if_pos (by omega)]
  obtain ⟨L,hL⟩:∃L,t.take i++List.replicate (t.length-i) iI=L:=⟨_,rfl⟩;rw [hL] at hRl hset hgi ⊢;clear h8 hj hL;repeat' (first|refine af ?_ ?_|((fail_if_success (first|refine lP 8 ?_|refine lQ 8 ?_));refine ae ?_)|exact ah|refine ab fun hb=>?_)
  refine gB 22 rfl ?_;refine gB 26 rfl ?_;refine gB 30 rfl ?_;repeat' (first|refine af ?_ ?_|refine ae ?_|(refine aa 4 rfl ?_;refine bc (aA (z:=x) rfl rfl rfl rfl hgi rfl rfl rfl rfl (Nat.le_of_ble_eq_true rfl) rfl rfl) rfl rfl rfl ?_)|exact ah|refine ab fun hb=>?_)
  refine ⟨i+1,by omega,by omega,?_⟩;rw [←hset];exact a7
 ·have e:t.take i++List.replicate (t.length-i) iI=t:=by rw [List.take_of_length_le (by omega),show t.length-i=0 by omega];simp
  rw [e];clear h8;rcases hj with ⟨j1,rfl⟩|⟨k,k1,rfl,rfl⟩
  ·repeat' (first|refine af ?_ ?_|refine ae ?_|exact ah|refine ab fun hb=>?_|(refine ct (qf [(0,1000)]) ?_;exact aw))
  ·have hgk:t[k]? = some t[k]:=List.getElem?_eq_getElem k1;repeat' (first|refine af ?_ ?_|refine ae ?_|(refine aa 4 rfl ?_;refine bc (aA (z:=q) rfl rfl rfl rfl hgk rfl rfl rfl rfl (Nat.le_of_ble_eq_true rfl) rfl rfl) rfl rfl rfl ?_)|exact ah|refine ab fun hb=>?_|(refine ct (qf [(0,1000)]) ?_;exact aw))
def Ev.a (x:Ev):V0:=.ag [.sc (.int .i64 x.kind),.sc (.int .i64 x.proc.site),.sc (.int .i64 x.proc.inc),.sc (.int .i64 x.proc.num),.sc (.string x.name),.sc (.int .i64 x.am.mode),.sc (.int .i64 x.am.units)]
theorem Cw (p:Pr) (n:ByteArray) (a:Am):FSpec prog 139 [p.a,.one (.sc (.string n)),a.a] [] [] (.v (Ev.a ⟨3,p,n,a⟩)) []:=by
 refine aT func139 ?_;repeat' (first|refine af ?_ ?_|refine ae ?_|exact ah|refine ab fun hb=>?_|exact bB|fail)
theorem pM (n:ByteArray) (l:List Ho) (ev:List Ev) (x:Ev) (hl:l.length≤1000) (he:ev.length≤100000) :
  FSpec prog 134 [.one (.sc (.string n)),.one (.sl jR l),.one (.sc (.slice none 0 0))] [] [] (.c (.sl iQ (aM n l))) []∧
  FSpec prog 134 [.one (.sc (.string n)),.one (.sl jR l),.one (.slb 0 1)] [(0,.box 79 (Ev.cells x |>.map .sc))] [] (.c (.sl iQ ([x]++aM n l))) [(0,none)]∧
  FSpec prog 134 [.one (.sc (.string n)),.one (.sl jR l),.one (.own 0)] [(0,.arr 79 iQ ev)] [1] (.c (.own 1)) [(1,some (.arr 79 iQ (ev++aM n l))),(0,none)]:=by
 have hlen:∀i,i≤l.length→(aM n (l.take i)).length=i:=fun i hi=>by simp [aM,Nat.min_eq_left hi]
 have e1:∀i (h:i<l.length),aM n (l.take (i+1))=aM n (l.take i)++[⟨1,l[i].proc,n,l[i].am⟩]:=fun i h=>by
  unfold aM;rw [List.take_succ_eq_append_getElem h,List.map_append];rfl
 have e0:∀i,¬i<l.length→aM n (l.take i)=aM n l:=fun i h=>by rw [List.take_of_length_le (by omega)]
 refine ⟨?_,?_,?_⟩
 ·refine aT func134 ?_;repeat' (first|refine af ?_ ?_|refine ae ?_|exact ah|refine ab fun hb=>?_)
  refine cZ 2 1000 79 iQ rfl rfl rfl ?_;refine ak (fun i=>i≤l.length) (fun i=>cq [1000] [(0,.c (.sc (.string n))),(2,.c (.own 1000)),(9,.c (.sl jR l)),(10,.i l.length),(11,.i i)] [(1000,.arr 79 iQ (aM n (l.take i)))]) (fun i=>l.length-i) 0 (Nat.zero_le _) a7 ?_;intro i hi;have h1:=hlen i hi;have h2:=e1 i;have h3:=e0 i;clear hlen e1 e0;by_cases hlt:i<l.length
  ·have h2:=h2 hlt;repeat' (first|refine af ?_ ?_|(refine aa 8 rfl ?_;refine bh (ap rfl rfl (aH rfl rfl) (aL [⟨1,l[i].proc,n,l[i].am⟩] rfl rfl rfl rfl) rfl aK aK) rfl rfl rfl ?_)|refine ae ?_|exact ah|refine ab fun hb=>?_)
   refine ⟨i+1,by omega,by omega,?_⟩;rw [h2];exact bw (qf [(1000,23)])
  ·rw [←h3 hlt];repeat' (first|refine af ?_ ?_|refine ae ?_|exact ah|refine ab fun hb=>?_|exact bB|fail)
 ·refine aT func134 ?_;repeat' (first|refine af ?_ ?_|refine ae ?_|exact ah|refine ab fun hb=>?_)
  refine Gy (E:=iQ) 2 0 1000 [x] rfl rfl rfl rfl rfl rfl rfl ?_;refine ak (fun i=>i≤l.length) (fun i=>cq [0,1000] [(0,.c (.sc (.string n))),(2,.c (.own 1000)),(9,.c (.sl jR l)),(10,.i l.length),(11,.i i)] [(1000,.arr 79 iQ ([x]++aM n (l.take i)))]) (fun i=>l.length-i) 0 (Nat.zero_le _) a7 ?_;intro i hi;have h1:=hlen i hi;have h2:=e1 i;have h3:=e0 i;clear hlen e1 e0;by_cases hlt:i<l.length
  ·have h2:[x]++aM n (l.take (i+1))=[x]++aM n (l.take i)++[⟨1,l[i].proc,n,l[i].am⟩]:=by rw [h2 hlt,List.append_assoc]
   repeat' (first|refine af ?_ ?_|(refine aa 8 rfl ?_;refine bh (ap rfl rfl (aH rfl rfl) (aL [⟨1,l[i].proc,n,l[i].am⟩] rfl rfl rfl rfl) rfl aK aK) rfl rfl rfl ?_)|refine ae ?_|exact ah|refine ab fun hb=>?_)
   refine ⟨i+1,by omega,by omega,?_⟩;rw [h2];exact bw (qf [(1000,23)])
  ·rw [←h3 hlt];repeat' (first|refine af ?_ ?_|refine ae ?_|exact ah|refine ab fun hb=>?_|exact bB|fail)
 ·refine aT func134 ?_;repeat' (first|refine af ?_ ?_|refine ae ?_|exact ah|refine ab fun hb=>?_)
  refine ak (fun i=>i≤l.length) (fun i=>cq [0,1000] [(0,.c (.sc (.string n))),(2,.c (.own 1000)),(9,.c (.sl jR l)),(10,.i l.length),(11,.i i)] [(1000,.arr 79 iQ (ev++aM n (l.take i)))]) (fun i=>l.length-i) 0 (Nat.zero_le _) (by rw [List.take_zero,show aM n []=[] from rfl,List.append_nil];exact bw (qf [(1000,0)])) ?_;intro i hi;have h1:=hlen i hi;have h2:=e1 i;have h3:=e0 i;clear hlen e1 e0;by_cases hlt:i<l.length
  ·have h2:ev++aM n (l.take (i+1))=ev++aM n (l.take i)++[⟨1,l[i].proc,n,l[i].am⟩]:=by rw [h2 hlt,List.append_assoc]
   repeat' (first|refine af ?_ ?_|(refine aa 8 rfl ?_;refine bh (ap rfl rfl (aH rfl rfl) (aL [⟨1,l[i].proc,n,l[i].am⟩] rfl rfl rfl rfl) rfl aK aK) rfl rfl rfl ?_)|refine ae ?_|exact ah|refine ab fun hb=>?_)
   refine ⟨i+1,by omega,by omega,?_⟩;rw [h2];exact bw (qf [(1000,23)])
  ·rw [←h3 hlt];repeat' (first|refine af ?_ ?_|refine ae ?_|exact ah|refine ab fun hb=>?_|(refine ct (qf [(1,1000)]) ?_;exact aw))
theorem Cx (t:List Qu) (p:Pr) (n:ByteArray) {R:List Qu×List Ev×Int} (hR:bz t p n=R):FSpec prog 165 [.one (.sl eX t),p.a,.one (.sc (.string n))] [] [] (Gz R) []:=by
 have kA:=GB t n;refine aT func165 ?_;cases hV:dl t with
 | false =>
  obtain rfl:R=eo 2:=by rw [←hR];simp [bz,hV]
  rw [hV] at kA;repeat' (first|refine af ?_ ?_|refine aa 9 rfl (cB [] (kA) ?_)|refine ae ?_|exact ah|(refine ab fun hb=>?_;first|(exact absurd hb (by decide))|skip)|(refine fB (qf []) ?_;exact aw))
 | true =>
  have hm:=(bE hV).1;have h8:∀q∈t,fy q:=fun q hq=>cR (cj hV hq);by_cases hf:bR n 0 t<0
  case pos =>
   obtain rfl:R=eo 10:=by rw [←hR];simp [bz,hV,hf]
   rw [hV,decide_eq_false (show ¬0≤bR n 0 t by omega),decide_eq_true hf] at kA;repeat' (first|refine af ?_ ?_|refine aa 9 rfl (cB [] (kA) ?_)|refine ae ?_|exact ah|(refine ab fun hb=>?_;first|(exact absurd hb (by decide))|skip)|(refine fB (qf []) ?_;exact aw))
  obtain ⟨i,hi,hF,hq,hx⟩:=fQ hf;rw [hV,hF,decide_eq_true (show (0:Int)≤(i:Int) by omega),decide_eq_false (show ¬(i:Int)<0 by omega)] at kA;have hS:=cj hV (List.getElem_mem hi);obtain ⟨Q,hQ⟩:∃Q,be t[i] p=Q:=⟨_,rfl⟩;have hQl:=nF hS p;rw [hQ] at hQl;have kQ:=Cl t[i] p hQ;have kR:=mI t (i:Int) Q.1 (by omega) h8 (.inr ⟨i,hi,rfl,rfl⟩);have kN:=(pM n Q.2.1 [] ⟨0,p,n,⟨0,0⟩⟩ (by omega) (by simp)).1;clear h8;by_cases he:Q.2.2=0
  ·obtain rfl:R=(t.set i Q.1,aM n Q.2.1,0):=by rw [←hR];unfold bz;rw [hq,hQ,hx];simp [hV,hf,he]
   repeat' (first|refine af ?_ ?_|(refine aa 9 rfl ?_;first|(refine cB [] (kA) ?_)|(refine cC [] (kQ) ?_)|(refine cH (qf [(0,1000)]) (kR) ?_)|(refine cC [] (kN) ?_))|refine ae ?_|exact ah|(refine ab fun hb=>?_;first|(exact absurd hb (by decide))|skip)|(refine fB (qf []) ?_;exact aw))
  ·obtain rfl:R=eo Q.2.2:=by rw [←hR];unfold bz;rw [hq,hQ,hx];simp [hV,hf,he]
   repeat' (first|refine af ?_ ?_|(refine aa 9 rfl ?_;first|(refine cB [] (kA) ?_)|(refine cC [] (kQ) ?_))|refine ae ?_|exact ah|(refine ab fun hb=>?_;first|(exact absurd hb (by decide))|skip)|(refine fB (qf []) ?_;exact aw))
theorem wm {q:Qu} {p:Pr} {a:Am} (h:ao q.holds p=a) (he:(bk q p a).2.2=0):(bk q p a).2.1=[]:=by
 unfold bk at he ⊢;cases av q <;> cases aG (ao q.holds p) <;> cases (ai q p).isSome <;> cases a8 q.res (ao q.holds p) a <;> simp_all [bP,ic]
theorem EI (t:List Qu) (p:Pr) (a:Tm) {R:List Qu×List Ev×Int} (hR:cg t p a=R):FSpec prog 136 [.one (.sl eX t),p.a,a.a] [] [] (Gz R) []:=by
 have kA:=GB t a.name;refine aT func136 ?_;cases hV:dl t with
 | false =>
  obtain rfl:R=eo 2:=by rw [←hR];simp [cg,hV]
  rw [hV] at kA;repeat' (first|refine af ?_ ?_|refine aa 9 rfl (cB [] (kA) ?_)|refine ae ?_|exact ah|(refine ab fun hb=>?_;first|(exact absurd hb (by decide))|skip)|(refine fB (qf []) ?_;exact aw))
 | true =>
  have hm:=(bE hV).1;have h8:∀q∈t,fy q:=fun q hq=>cR (cj hV hq);by_cases hf:bR a.name 0 t<0
  case pos =>
   obtain rfl:R=eo 10:=by rw [←hR];simp [cg,hV,hf]
   rw [hV,decide_eq_false (show ¬0≤bR a.name 0 t by omega),decide_eq_true hf] at kA;repeat' (first|refine af ?_ ?_|refine aa 9 rfl (cB [] (kA) ?_)|refine ae ?_|exact ah|(refine ab fun hb=>?_;first|(exact absurd hb (by decide))|skip)|(refine fB (qf []) ?_;exact aw))
  obtain ⟨i,hi,hF,hq,hx⟩:=fQ hf;rw [hV,hF,decide_eq_true (show (0:Int)≤(i:Int) by omega),decide_eq_false (show ¬(i:Int)<0 by omega)] at kA;have hS:=cj hV (List.getElem_mem hi);obtain ⟨Q,hQ⟩:∃Q,bk t[i] p a.am=Q:=⟨_,rfl⟩;have hQl:=pG hS p a.am;have hQs:=wm (q:=t[i]) (p:=p) (a:=a.am);rw [hQ] at hQl hQs;have kQ:=EB t[i] p a.am hQ;have kR:=mI t (i:Int) Q.1 (by omega) h8 (.inr ⟨i,hi,rfl,rfl⟩);have kN:=(pM a.name Q.2.1 [] ⟨3,p,a.name,a.am⟩ (by omega) (by simp)).2.1;obtain ⟨h,hh⟩:∃h,ao t[i].holds p=h:=⟨_,rfl⟩;have kH:=dK t[i] p;rw [hh] at kH hQs;clear h8;by_cases he:Q.2.2=0
  ·by_cases hha:h=a.am
   ·have h0:=hQs hha he;obtain rfl:R=(t.set i Q.1,[],0):=by rw [←hR];unfold cg;rw [hq,hQ,hx];simp [hV,hf,he,hh,hha,h0,aM]
    repeat' (first|refine af ?_ ?_|(refine aa 9 rfl ?_;first|(refine cB [] (kA) ?_)|(refine cC [] (kQ) ?_)|(refine cB [] (kH) ?_)|(refine cH (qf [(0,1000)]) (kR) ?_))|refine ae ?_|exact ah|(refine ab fun hb=>?_;first|(exact absurd hb (by decide))|(exact absurd hha.symm hb)|skip)|(refine fB (qf []) ?_;exact aw))
   ·obtain rfl:R=(t.set i Q.1,[⟨3,p,a.name,a.am⟩]++aM a.name Q.2.1,0):=by rw [←hR];unfold cg;rw [hq,hQ,hx];simp [hV,hf,he,hh,hha]
    repeat' (first|refine af ?_ ?_|(refine aa 9 rfl ?_;first|(refine cB [] (kA) ?_)|(refine cC [] (kQ) ?_)|(refine cB [] (kH) ?_)|(refine cH (qf [(0,1000)]) (kR) ?_)|(refine cB [] (Cw p a.name a.am) ?_)|(refine cH (qf [(0,64)]) (kN) ?_))|refine ae ?_|exact ah|(refine ab fun hb=>?_;first|(exact absurd hb (by decide))|(exact absurd hb.symm hha)|skip)|(refine fB (qf []) ?_;exact aw))
  ·obtain rfl:R=eo Q.2.2:=by rw [←hR];unfold cg;rw [hq,hQ,hx];simp [hV,hf,he]
   repeat' (first|refine af ?_ ?_|(refine aa 9 rfl ?_;first|(refine cB [] (kA) ?_)|(refine cC [] (kQ) ?_))|refine ae ?_|exact ah|(refine ab fun hb=>?_;first|(exact absurd hb (by decide))|skip)|(refine fB (qf []) ?_;exact aw))
theorem EJ (t:List Qu) (p:Pr) (a:Tm) (prio:Int) {R:List Qu×List Ev×Int} (hR:bt t p a prio=R):FSpec prog 85 [.one (.sl eX t),p.a,a.a,.one (.sc (.int .i64 prio))] [] [] (Gz R) []:=by
 have kA:=GB t a.name;refine aT func85 ?_;cases hV:dl t with
 | false =>
  obtain rfl:R=eo 2:=by rw [←hR];simp [bt,hV]
  rw [hV] at kA;repeat' (first|refine af ?_ ?_|refine aa 9 rfl (cB [] (kA) ?_)|refine ae ?_|exact ah|(refine ab fun hb=>?_;first|(exact absurd hb (by decide))|skip)|(refine fB (qf []) ?_;exact aw))
 | true =>
  have hm:=(bE hV).1;have h8:∀q∈t,fy q:=fun q hq=>cR (cj hV hq);have hp8:(aB t).length≤8:=by have:=hV;unfold dl at this;simp only [Bool.and_eq_true,decide_eq_true_eq] at this;exact this.2
  have kP:=uq t (by omega) h8;by_cases hf:bR a.name 0 t<0
  case pos =>
   obtain rfl:R=eo 10:=by rw [←hR];simp [bt,hV,hf]
   rw [hV,decide_eq_false (show ¬0≤bR a.name 0 t by omega),decide_eq_true hf] at kA;repeat' (first|refine af ?_ ?_|refine aa 9 rfl (cB [] (kA) ?_)|refine ae ?_|exact ah|(refine ab fun hb=>?_;first|(exact absurd hb (by decide))|skip)|(refine fB (qf []) ?_;exact aw))
  obtain ⟨i,hi,hF,hq,hx⟩:=fQ hf;rw [hV,hF,decide_eq_true (show (0:Int)≤(i:Int) by omega),decide_eq_false (show ¬(i:Int)<0 by omega)] at kA;by_cases hN:(aB t).length=8∧p ∉ aB t
  case pos =>
   obtain ⟨hN1,hN2⟩:=hN;obtain rfl:R=eo 4:=by rw [←hR];simp [bt,hV,hf,hN1,hN2]
   clear h8;repeat' (first|refine af ?_ ?_|(refine aa 9 rfl ?_;first|(refine cB [] (kA) ?_)|(refine cC [] (kP) ?_)|(refine cB [] (lT (aB t) p) ?_))|refine ae ?_|exact ah|(refine ab fun hb=>?_;first|(exact absurd hb (by decide))|(exact absurd hb hN2)|skip)|(refine fB (qf []) ?_;exact aw))
  have hS:=cj hV (List.getElem_mem hi);obtain ⟨Q,hQ⟩:∃Q,bv t[i] p a.am prio=Q:=⟨_,rfl⟩;have hQl:=pF hS p a.am prio;rw [hQ] at hQl;have hN3:(decide ((aB t).length=8) && !decide (p∈aB t))=false:=by
   rw [Bool.and_eq_false_iff];by_cases h:(aB t).length=8
   ·right
    have:p∈aB t:=Classical.byContradiction fun h2=>hN ⟨h,h2⟩;simp [this]
   ·left;simp [h]
  have kQ:=EG t[i] p a.am prio hQ;have kR:=mI t (i:Int) Q.1 (by omega) h8 (.inr ⟨i,hi,rfl,rfl⟩);have kN:=(pM a.name Q.2.1 [] ⟨0,p,a.name,⟨0,0⟩⟩ (by omega) (by simp)).1;clear h8;by_cases he:Q.2.2=0
  ·obtain rfl:R=(t.set i Q.1,aM a.name Q.2.1,0):=by rw [←hR];unfold bt;rw [hq,hQ,hx,hN3];simp [hV,hf,he]
   clear hN3;repeat' (first|refine af ?_ ?_|(refine aa 9 rfl ?_;first|(refine cB [] (kA) ?_)|(refine cC [] (kP) ?_)|(refine cB [] (lT (aB t) p) ?_)|(refine cC [] (kQ) ?_)|(refine cH (qf [(0,1000)]) (kR) ?_)|(refine cC [] (kN) ?_))|refine ae ?_|exact ah|(refine ab fun hb=>?_;first|(exact absurd hb (by decide))|(exact (hN ⟨by omega,by assumption⟩).elim)|skip)|(refine fB (qf []) ?_;exact aw))
  ·obtain rfl:R=eo Q.2.2:=by rw [←hR];unfold bt;rw [hq,hQ,hx,hN3];simp [hV,hf,he]
   clear hN3;repeat' (first|refine af ?_ ?_|(refine aa 9 rfl ?_;first|(refine cB [] (kA) ?_)|(refine cC [] (kP) ?_)|(refine cB [] (lT (aB t) p) ?_)|(refine cC [] (kQ) ?_))|refine ae ?_|exact ah|(refine ab fun hb=>?_;first|(exact absurd hb (by decide))|(exact (hN ⟨by omega,by assumption⟩).elim)|skip)|(refine fB (qf []) ?_;exact aw))
theorem uB {q:Qu} {p:Pr} (hS:av q=true) (hh:eQ q p=true):(aV q p).2.2=0∧(aV q p).1.res.name=q.res.name:=by
 have hs:=aF hS;have e:aV q p=ic (dn { q with holds:=cm q.holds p ⟨0,0⟩,convs:=bV q.convs p,waits:=bV q.waits p }):=by simp [aV,hS,hh]
 have:=(dg (hs.gone p)).2.2;rw [e];exact ⟨rfl,congrArg Rs.name this⟩
def JF:List D:=[.sc (.string { data:=#[] }),.sc (.int .i64 0),.sc (.int .i64 0),.sc (.int .i64 0),.sc (.slice none 0 0),.sc (.slice none 0 0),.sc (.slice none 0 0),.sc (.int .i64 0)]
theorem ER (t:List Qu) (hl:t.length≤8) (h8:∀q∈t,fy q):FSpec prog 133 [.one (.sl eX t),iV (-1),.ag JF] [] [0] (.c (.own 0)) [(0,some (.arr 58 eX t))]:=by
 refine aT func133 ?_;repeat' (first|refine af ?_ ?_|(refine aa 20 rfl ?_;refine sx (uk (E:=eX) (n:=t.length) (z:=.agg #[.string { data:=#[] },.int .i64 0,.int .i64 0,.int .i64 0,.slice none 0 0,.slice none 0 0,.slice none 0 0,.int .i64 0]) iI rfl rfl rfl rfl (by omega) (by kernel_rfl) yY (by decide)) ?_)|refine ae ?_|exact ah|refine ab fun hb=>?_)
 refine ak (fun i=>i≤t.length) (fun i=>cq [5,1000] [(1,.i (-1)),(5,.c (.ptr 5 0)),(7,.c (.own 1000)),(13,.c (.sl eX t)),(14,.i t.length),(15,.i i)] [(5,.box 58 JF),(1000,.arr 58 eX (t.take i++List.replicate (t.length-i) iI))]) (fun i=>t.length-i) 0 (Nat.zero_le _) (by exact bw (qf [(1000,12)])) ?_;intro i hi;have hRl:(t.take i++List.replicate (t.length-i) iI).length=t.length:=by simp;omega
 by_cases hlt:i<t.length
 ·obtain ⟨x,hx⟩:∃x,t[i]=x:=⟨_,rfl⟩;have hgx:t[i]? = some x:=by rw [List.getElem?_eq_getElem hlt,hx]
  have hq:=h8 _ (List.getElem_mem hlt);rw [hx] at hq;obtain ⟨q1,q2,q3⟩:=hq;have hset:(t.take i++List.replicate (t.length-i) iI).set i x=t.take (i+1)++List.replicate (t.length-(i+1)) iI:=by
   rw [List.set_append_right _ _ (by simp;omega),List.take_succ_eq_append_getElem hlt,hx];simp only [List.length_take,Nat.min_eq_left (Nat.le_of_lt hlt),Nat.sub_self];rw [show t.length-i=(t.length-(i+1))+1 by omega,List.replicate_succ];simp
  have hgi:(t.take i++List.replicate (t.length-i) iI)[i]? = some iI:=by
   rw [List.getElem?_append_right (by rw [List.length_take];omega),List.length_take,Nat.min_eq_left (Nat.le_of_lt hlt),Nat.sub_self,List.getElem?_replicate,if_pos (by omega)]
  obtain ⟨L,hL⟩:∃L,t.take i++List.replicate (t.length-i) iI=L:=⟨_,rfl⟩;rw [hL] at hRl hset hgi ⊢;clear h8 hL;repeat' (first|refine af ?_ ?_|((fail_if_success (first|refine lP 8 ?_|refine lQ 8 ?_));refine ae ?_)|exact ah|refine ab fun hb=>?_)
  refine gB 22 rfl ?_;refine gB 26 rfl ?_;refine gB 30 rfl ?_;repeat' (first|refine af ?_ ?_|refine ae ?_|(refine aa 4 rfl ?_;refine bc (aA (z:=x) rfl rfl rfl rfl hgi rfl rfl rfl rfl (Nat.le_of_ble_eq_true rfl) rfl rfl) rfl rfl rfl ?_)|exact ah|refine ab fun hb=>?_)
  refine ⟨i+1,by omega,by omega,?_⟩;rw [←hset];exact a7
 ·have e:t.take i++List.replicate (t.length-i) iI=t:=by rw [List.take_of_length_le (by omega),show t.length-i=0 by omega];simp
  rw [e];clear h8;repeat' (first|refine af ?_ ?_|refine ae ?_|exact ah|refine ab fun hb=>?_|(refine ct (qf [(0,1000)]) ?_;exact aw))
theorem CK (t:List Qu) (p:Pr) {R:List Qu×List Ev} (hR:b9 t p=R):FSpec prog 90 [.one (.sl eX t),p.a] [] [] (.tup [.one (.sl eX R.1),.one (.sl iQ R.2)]) []:=by
 refine aT func90 ?_;cases hV:dl t with
 | false =>
  obtain rfl:R=([],[]):=by rw [←hR];simp [b9,hV]
  repeat' (first|refine af ?_ ?_|refine aa 9 rfl (cB [] (ol t) ?_)|refine ae ?_|exact ah|(refine ab fun hb=>?_;first|(simp [hV] at hb;done)|skip)|(refine gC (qf []) ?_;exact aw))
 | true =>
  have hm:=(bE hV).1;have h8:∀q∈t,fy q:=fun q hq=>cR (cj hV hq);have hR2:aN p t=R:=by rw [←hR];simp [b9,hV]
  have kR:=ER t (by omega) h8;clear h8;repeat' (first|refine af ?_ ?_|(refine aa 9 rfl ?_;first|(refine cB [] (ol t) ?_)|(refine cH (qf [(0,1001)]) (kR) ?_))|refine ae ?_|exact ah|(refine ab fun hb=>?_;first|(simp [hV] at hb;done)|skip))
  refine cZ 7 1000 79 iQ rfl rfl rfl ?_;refine ak (fun x:Nat×List Qu×List Ev=>x.1≤t.length∧x.2.1.length=x.1∧x.2.2.length≤18*x.1∧x.2.1++(aN p (t.drop x.1)).1=R.1∧x.2.2++(aN p (t.drop x.1)).2=R.2) (fun x=>cq [3,1000,1001] [(3,.c (.ptr 3 0)),(6,.c (.own 1001)),(7,.c (.own 1000)),(19,.c (.sl eX t)),(20,.i t.length),(21,.i x.1)] [iK 3 p,(1001,.arr 58 eX (x.2.1++t.drop x.1)),(1000,.arr 79 iQ x.2.2)]) (fun x=>t.length-x.1) (0,[],[]) ⟨Nat.zero_le _,rfl,Nat.le_refl _,by rw [←hR2];rfl,by rw [←hR2];rfl⟩ a7 ?_;rintro ⟨i,o,ev⟩ ⟨hi,hol,hel,hs1,hs2⟩;dsimp only at *
  have hlen:(o++t.drop i).length=t.length:=by simp;omega
  by_cases hlt:i<t.length
  ·obtain ⟨q,hq⟩:∃q,q=t[i]:=⟨_,rfl⟩;have hgt:t[i]? = some q:=by rw [List.getElem?_eq_getElem hlt,hq]
   have df:(o++t.drop i)[i]? = some q:=by
    rw [List.getElem?_append_right (by omega),hol,Nat.sub_self,List.getElem?_drop];simp [hq,hlt]
   have hS:av q=true:=cj hV (hq▸List.getElem_mem hlt);rw [List.drop_eq_getElem_cons hlt,←hq] at hs1 hs2;have e0:o++t.drop i=(o++[q])++t.drop (i+1):=by rw [List.drop_eq_getElem_cons hlt,←hq];simp
   obtain ⟨Q,hQ⟩:∃Q,aV q p=Q:=⟨_,rfl⟩;have kQ:=Co q p hQ;cases hh:eQ q p with
   | false =>
    rw [show aN p (q :: t.drop (i+1))=(q :: (aN p (t.drop (i+1))).1,(aN p (t.drop (i+1))).2) by simp [aN,hh]] at hs1 hs2;obtain rfl:bP 10=Q:=by rw [←hQ];simp [aV,hS,hh]
    repeat' (first|refine af ?_ ?_|refine aa 9 rfl (cC [] (kQ) ?_)|refine ae ?_|exact ah|(refine ab fun hb=>?_;first|(exact absurd hb (by decide))|skip))
    refine ⟨(i+1,o++[q],ev),⟨by dsimp only;omega,by simp;omega,by dsimp only;omega,by dsimp only;rw [←hs1];simp,hs2⟩,by dsimp only;omega,?_⟩;dsimp only;rw [←e0];exact a7
   | true =>
    obtain ⟨hQ0,hQn⟩:=uB hS hh;have hQl:=nG hS p;rw [hQ] at hQl hQ0 hQn;have hgl:(aM q.res.name Q.2.1).length≤17:=by unfold aM;rw [List.length_map];exact hQl
    have hset:(o++t.drop i).set i Q.1=(o++[Q.1])++t.drop (i+1):=by
     have e9:(t.drop i).set 0 Q.1=Q.1 :: t.drop (i+1):=by rw [List.drop_eq_getElem_cons hlt];rfl
     rw [List.set_append_right _ _ (by omega),hol,Nat.sub_self,e9];simp
    obtain ⟨h,hhh⟩:∃h,ao q.holds p=h:=⟨_,rfl⟩;have kH:=dK q p;rw [hhh] at kH;obtain ⟨L,hL⟩:∃L,o++t.drop i=L:=⟨_,rfl⟩;rw [hL] at hlen df hset ⊢;by_cases hz:h=⟨0,0⟩
    ·rw [show aN p (q :: t.drop (i+1))=(Q.1 :: (aN p (t.drop (i+1))).1,aM q.res.name Q.2.1++(aN p (t.drop (i+1))).2) by simp [aN,hh,hQ,hhh,hz,hQn,aG]] at hs1 hs2;have kN:=(pM q.res.name Q.2.1 ev ⟨3,p,q.res.name,⟨0,0⟩⟩ (by omega) (by omega)).2.2;repeat' (first|refine af ?_ ?_|(refine aa 9 rfl ?_;first|(refine cC [] (kQ) ?_)|(refine cB [] (kH) ?_)|(refine cH (qf [(0,1000),(1,1002)]) (kN) ?_))|refine ae ?_|(refine aa 4 rfl ?_;refine bc (aA (z:=Q.1) rfl rfl rfl rfl df rfl rfl rfl rfl (Nat.le_of_ble_eq_true rfl) rfl rfl) rfl rfl rfl ?_)|exact ah|(refine ab fun hb=>?_;first|(exact absurd hQ0 hb)|(exact absurd hz hb)|skip))
     refine ⟨(i+1,o++[Q.1],ev++aM q.res.name Q.2.1),⟨by dsimp only;omega,by simp;omega,by simp;omega,by dsimp only;rw [←hs1];simp,by dsimp only;rw [←hs2];simp⟩,by dsimp only;omega,?_⟩;dsimp only;rw [←hset];exact bw (qf [(1000,1002)])
    ·rw [show aN p (q :: t.drop (i+1))=(Q.1 :: (aN p (t.drop (i+1))).1,[⟨3,p,q.res.name,⟨0,0⟩⟩]++aM q.res.name Q.2.1++(aN p (t.drop (i+1))).2) by simp [aN,hh,hQ,hhh,hz,hQn,aG]] at hs1 hs2;have kN:=(pM q.res.name Q.2.1 (ev++[⟨3,p,q.res.name,⟨0,0⟩⟩]) ⟨3,p,q.res.name,⟨0,0⟩⟩ (by omega) (by simp;omega)).2.2;repeat' (first|refine af ?_ ?_|(refine aa 8 rfl ?_;refine bh (ap rfl rfl (aH rfl rfl) (aL [⟨3,p,q.res.name,⟨0,0⟩⟩] rfl rfl rfl rfl) rfl aK aK) rfl rfl rfl ?_)|(refine aa 9 rfl ?_;first|(refine cC [] (kQ) ?_)|(refine cB [] (kH) ?_)|(refine cB [] (Cw p q.res.name ⟨0,0⟩) ?_)|(refine cH (qf [(0,48),(1,1002)]) (kN) ?_))|refine ae ?_|(refine aa 4 rfl ?_;refine bc (aA (z:=Q.1) rfl rfl rfl rfl df rfl rfl rfl rfl (Nat.le_of_ble_eq_true rfl) rfl rfl) rfl rfl rfl ?_)|exact ah|(refine ab fun hb=>?_;first|(exact absurd hQ0 hb)|(exact absurd hb hz)|skip))
     refine ⟨(i+1,o++[Q.1],ev++[⟨3,p,q.res.name,⟨0,0⟩⟩]++aM q.res.name Q.2.1),⟨by dsimp only;omega,by simp;omega,by simp;omega,by dsimp only;rw [←hs1];simp,by dsimp only;rw [←hs2];simp⟩,by dsimp only;omega,?_⟩;dsimp only;rw [←hset];exact bw (qf [(1000,1002)])
  ·have e:(o++t.drop i,ev)=R:=by
    rw [List.drop_eq_nil_of_le (by omega)] at hs1 hs2 ⊢;simp [aN] at hs1 hs2;rw [hs2,List.append_nil,hs1]
   repeat' (first|refine af ?_ ?_|refine ae ?_|exact ah|refine ab fun hb=>?_)
   rw [←e];refine gC (qf []) ?_;exact aw
end Go.Proofs.YtcgpepnbohejfaaGreatDoor
