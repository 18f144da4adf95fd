/- Part 9 of 56 of the proof of both_hold (no condition). -/
import Derived.Test.YtcgpepnbohejfaaGreatDoorK07
import Derived.Test.YtcgpepnbohejfaaGreatDoorK08
import Derived.Deep.RegionLaw
set_option linter.unusedVariables false
set_option linter.unusedSimpArgs false
set_option maxRecDepth 100000
set_option maxHeartbeats 64000000
namespace Go.Proofs.YtcgpepnbohejfaaGreatDoor
open Go.RowKit Go.Proofs.Tryz
structure ExF (w:World) (B d:Nat) (A:Option Addr) (x:Ex):Prop where
 hm:x.kids.length≤maxLen
 hB:B≤w.heap.size
 hr:RowsAt (mn d) w (Lo B) A x.kids
theorem ExF.below {w w':World} {B d:Nat} {A:Option Addr} {x:Ex} (h:ExF w B d A x) (hb:Below w.heap.size w w'):ExF w' B d A x:=⟨h.hm,Nat.le_trans h.hB hb.size,h.hr.below hb h.hB (Nat.le_refl _)⟩
def gN:Tm:=⟨⟨#[]⟩,Am.zero⟩
def iH (a:Tm):Bool:=cE a.name.toList && br a.am
def iN (a:Tm):List Tm→Bool
 | []=>false
 | b :: l=>bif decide (b=a) then true else iN a l
theorem mo (a b:Tm) (l:List Tm):iN a (b :: l)=bif decide (b=a) then true else iN a l:=rfl
theorem lp (a:Tm) (l:List Tm):iN a l=true↔a∈l:=by
 induction l with
 | nil=>simp [iN]
 | cons b l ih =>
  rw [mo,List.mem_cons];by_cases h:b=a
  ·simp [h]
  ·simp [h,ih,Ne.symm h]
def f8 (l:List Tm) (a:Tm):List Tm:=bif iN a l then l else l++[a]
def vi (k:Int) (a:Tm) (l:List Ex):Bool:=bif l.isEmpty then decide (k=0) && iH a else decide (1≤k) && decide (k≤(l.length:Int)) && decide (a=gN)
mutual
def vj:Ex→Bool
 | .mk k a l=>vi k a l && Bu l
def Bu:List Ex→Bool
 | []=>true
 | x :: l=>vj x && Bu l
end
mutual
def eP:Ex→List Tm→List Tm
 | .mk _ a l,acc=>bif l.isEmpty then f8 acc a else fE l acc
def fE:List Ex→List Tm→List Tm
 | [],acc=>acc
 | x :: l,acc=>fE l (eP x acc)
end
theorem tM (k:Int) (a:Tm) (l:List Ex):vj (.mk k a l)=(vi k a l && Bu l):=rfl
theorem lq (x:Ex) (l:List Ex):Bu (x :: l)=(vj x && Bu l):=rfl
theorem jz (k:Int) (a:Tm) (l:List Ex) (acc:List Tm):eP (.mk k a l) acc=bif l.isEmpty then f8 acc a else fE l acc:=rfl
theorem eT (x:Ex) (l:List Ex) (acc:List Tm):fE (x :: l) acc=fE l (eP x acc):=rfl
def yu (k:Int) (a:Tm) (acc:List Tm):Option (List Tm):=bif decide (k=0) && iH a then some (f8 acc a) else none
def mq (k:Int) (a:Tm) (l:List Ex):Bool:=decide (1≤k) && decide (k≤(l.length:Int)) && decide (a=gN)
mutual
def tN:Ex→List Tm→Option (List Tm)
 | .mk k a l,acc=>bif l.isEmpty then yu k a acc else bif mq k a l then xj l acc else none
def xj:List Ex→List Tm→Option (List Tm)
 | [],acc=>some acc
 | x :: l,acc=>(tN x acc).bind fun r=>xj l r
end
theorem yv (k:Int) (a:Tm) (l:List Ex) (acc:List Tm):tN (.mk k a l) acc=bif l.isEmpty then yu k a acc else bif mq k a l then xj l acc else none:=rfl
theorem su (x:Ex) (l:List Ex) (acc:List Tm):xj (x :: l) acc=(tN x acc).bind fun r=>xj l r:=rfl
theorem yw:∀(x:Ex) (acc:List Tm),tN x acc=if vj x then some (eP x acc) else none:=by
 refine Ex.ind (fun k a l ih=>?_);have hl:∀(m:List Ex) (acc:List Tm),(∀x∈m,x∈l)→xj m acc=if Bu m then some (fE m acc) else none:=by
  intro m;induction m with
  | nil=>intro acc _;rfl
  | cons x m ihm =>
   intro acc hm;rw [su,lq,eT,ih x (hm x (by simp))];cases h:vj x with
   | false=>simp
   | true=>simpa using ihm (eP x acc) fun y hy=>hm y (by simp [hy])
 intro acc;rw [yv,tM,jz,hl l acc fun _ h=>h];unfold vi yu mq;cases hE:l.isEmpty with
 | true =>
  obtain rfl:=List.isEmpty_iff.1 hE;simp [Bu,Bool.cond_eq_ite]
 | false =>
  simp only [cond_false];cases decide (1≤k) && decide (k≤(l.length:Int)) && decide (a=gN) <;> simp
theorem Bv (l:List Tm) (a:Tm):(f8 l a).length≤l.length+1:=by
 unfold f8;cases iN a l <;> simp
theorem oI:∀(x:Ex) (acc:List Tm),(eP x acc).length≤acc.length+x.cnt:=by
 refine Ex.ind (fun k a l ih=>?_);have hl:∀(m:List Ex) (acc:List Tm),(∀x∈m,x∈l)→(fE m acc).length≤acc.length+gz m:=by
  intro m;induction m with
  | nil=>intro acc _;exact Nat.le_refl _
  | cons x m ihm =>
   intro acc hm;rw [eT,eS];have h1:=ihm (eP x acc) fun y hy=>hm y (by simp [hy]);have h2:=ih x (hm x (by simp)) acc;omega
 intro acc;rw [jz,Ex.cnt_mk];cases l.isEmpty with
 | true=>have:=Bv acc a;simp only [cond_true];omega
 | false=>have:=hl l acc (fun _ h=>h);simp only [cond_false];omega
theorem Bw (x:Ex) (acc r:List Tm) (h:tN x acc=some r):r.length≤acc.length+x.cnt:=by
 rw [yw] at h;split at h
 ·injection h with h;rw [←h];exact oI x acc
 ·cases h
def fe:List Tm→List Tm→Tm→Option (List Tm)
 | [],acc,a=>if acc.length=8 then none else some (acc++[a])
 | b :: l,acc,a=>bif decide (a=b) then some acc else bif decide (a.name=b.name) then none else fe l acc a
theorem ik (b:Tm) (l acc:List Tm) (a:Tm):fe (b :: l) acc a=bif decide (a=b) then some acc else bif decide (a.name=b.name) then none else fe l acc a:=rfl
def vl (k:Int) (a:Tm) (acc:List Tm):Option (List Tm):=bif decide (k=0) && iH a then fe acc acc a else none
mutual
def zQ:Ex→List Tm→Option (List Tm)
 | .mk k a l,acc=>bif l.isEmpty then vl k a acc else bif mq k a l then DK l acc else none
def DK:List Ex→List Tm→Option (List Tm)
 | [],acc=>some acc
 | x :: l,acc=>(zQ x acc).bind fun r=>DK l r
end
theorem xk (k:Int) (a:Tm) (l:List Ex) (acc:List Tm):zQ (.mk k a l) acc=bif l.isEmpty then vl k a acc else bif mq k a l then DK l acc else none:=rfl
theorem oJ (x:Ex) (l:List Ex) (acc:List Tm):DK (x :: l) acc=(zQ x acc).bind fun r=>DK l r:=rfl
def m9 (l:List Tm):Prop:=l.length≤8∧l.Pairwise fun a b=>a.name≠b.name
theorem Bx (acc:List Tm) (a:Tm) (hacc:m9 acc):(m9 (f8 acc a)→fe acc acc a=some (f8 acc a))∧(¬m9 (f8 acc a)→fe acc acc a=none):=by
 have h:∀(l p:List Tm),acc=p++l→(∀b∈p,a≠b∧a.name≠b.name)→(m9 (f8 acc a)→fe l acc a=some (f8 acc a))∧(¬m9 (f8 acc a)→fe l acc a=none):=by
  intro l;induction l with
  | nil =>
   intro p hp hn;have hno:iN a acc=false:=by
    rw [Bool.eq_false_iff];intro h;rw [lp,hp,List.append_nil] at h;exact (hn a h).1 rfl
   have he:f8 acc a=acc++[a]:=by unfold f8;rw [hno];rfl
   rw [he];unfold m9 fe;rw [List.length_append,List.pairwise_append];have hp2:∀b∈acc,∀c∈[a],b.name≠c.name:=by
    intro b hb c hc;rw [List.mem_singleton.1 hc];rw [hp,List.append_nil] at hb;exact fun e=>(hn b hb).2 e.symm
   constructor
   ·intro h;rw [if_neg];have:=h.1;simp at this;omega
   ·intro h;rw [if_pos];have h8:=hacc.1;refine Classical.byContradiction fun h9=>h ⟨by simp;omega,hacc.2,by simp,hp2⟩
  | cons b l ih =>
   intro p hp hn;rw [ik];by_cases h1:a=b
   ·have hi:iN a acc=true:=by rw [lp,hp,h1];simp
    have he:f8 acc a=acc:=by unfold f8;rw [hi];rfl
    rw [he];simp [h1,hacc]
   ·by_cases h2:a.name=b.name
    ·have hb:b∈acc:=by rw [hp];simp
     have hno:iN a acc=false:=by
      rw [Bool.eq_false_iff];intro h;rw [lp] at h;have hpw:=hacc.2;rcases List.mem_iff_getElem.1 h with ⟨i,hi,ei⟩;rcases List.mem_iff_getElem.1 hb with ⟨j,hj,ej⟩;rw [List.pairwise_iff_getElem] at hpw;rcases Nat.lt_trichotomy i j with hij|hij|hij
      ·exact hpw i j hi hj hij (by rw [ei,ej];exact h2)
      ·subst hij;exact h1 (ei.symm.trans ej)
      ·exact hpw j i hj hi hij (by rw [ei,ej];exact h2.symm)
     have he:f8 acc a=acc++[a]:=by unfold f8;rw [hno];rfl
     have hbad:¬m9 (f8 acc a):=by
      rw [he];intro h;have:=(List.pairwise_append.1 h.2).2.2 b hb a (by simp);exact this h2.symm
     simp [h1,h2,hbad]
    ·simp only [h1,h2,decide_false,cond_false];exact ih (p++[b]) (by rw [hp];simp) (by
      intro c hc;rcases List.mem_append.1 hc with hc|hc
      ·exact hn c hc
      ·rw [List.mem_singleton.1 hc];exact ⟨h1,h2⟩)
 exact h acc [] rfl (by simp)
theorem By:∀(x:Ex) (acc:List Tm),∃t,eP x acc=acc++t:=by
 refine Ex.ind (fun k a l ih=>?_);have hl:∀(m:List Ex) (acc:List Tm),(∀x∈m,x∈l)→∃t,fE m acc=acc++t:=by
  intro m;induction m with
  | nil=>intro acc _;exact ⟨[],by simp [fE]⟩
  | cons x m ihm =>
   intro acc hm;obtain ⟨t,ht⟩:=ih x (hm x (by simp)) acc;obtain ⟨t',ht'⟩:=ihm (eP x acc) fun y hy=>hm y (by simp [hy]);exact ⟨t++t',by rw [eT,ht',ht,List.append_assoc]⟩
 intro acc;rw [jz];cases l.isEmpty with
 | true =>
  unfold f8;cases iN a acc with
  | true=>exact ⟨[],by simp⟩
  | false=>exact ⟨[a],rfl⟩
 | false=>exact hl l acc fun _ h=>h
theorem mr:∀(m:List Ex) (acc:List Tm),∃t,fE m acc=acc++t
 | [],acc=>⟨[],by simp [fE]⟩
 | x :: m,acc=>by
  obtain ⟨t,ht⟩:=By x acc;obtain ⟨t',ht'⟩:=mr m (eP x acc);exact ⟨t++t',by rw [eT,ht',ht,List.append_assoc]⟩
theorem DL {l t:List Tm} (h:m9 (l++t)):m9 l:=⟨by have:=h.1;simp at this;omega,(List.pairwise_append.1 h.2).1⟩
theorem FQ:∀(x:Ex) (acc:List Tm),m9 acc→(vj x=true∧m9 (eP x acc)→zQ x acc=some (eP x acc))∧(¬(vj x=true∧m9 (eP x acc))→zQ x acc=none):=by
 refine Ex.ind (fun k a l ih=>?_);have hl:∀(m:List Ex) (acc:List Tm),(∀x∈m,x∈l)→m9 acc→(Bu m=true∧m9 (fE m acc)→DK m acc=some (fE m acc))∧(¬(Bu m=true∧m9 (fE m acc))→DK m acc=none):=by
  intro m;induction m with
  | nil=>intro acc _ h;exact ⟨fun _=>rfl,fun h2=>absurd ⟨rfl,h⟩ h2⟩
  | cons x m ihm =>
   intro acc hm h;rw [oJ,lq,eT];have hx:=ih x (hm x (by simp)) acc h;by_cases h1:vj x=true∧m9 (eP x acc)
   ·rw [hx.1 h1,Option.bind_some];have h2:=ihm (eP x acc) (fun y hy=>hm y (by simp [hy])) h1.2;rw [h1.1,Bool.true_and];exact h2
   ·rw [hx.2 h1,Option.bind_none];refine ⟨fun h2=>absurd ⟨?_,?_⟩ h1,fun _=>rfl⟩
    ·have:=h2.1;simp at this;exact this.1
    ·obtain ⟨t,ht⟩:=mr m (eP x acc);have:=h2.2;rw [ht] at this;exact DL this
 intro acc h;rw [xk,tM,jz];unfold vl vi;cases hE:l.isEmpty with
 | true =>
  obtain rfl:=List.isEmpty_iff.1 hE;simp only [cond_true,Bu,Bool.and_true];have hn:=Bx acc a h;cases hk:decide (k=0) && iH a with
  | true=>simpa using hn
  | false=>simp
 | false =>
  simp only [cond_false];have h2:=hl l acc (fun _ h=>h) h;unfold mq;cases decide (1≤k) && decide (k≤(l.length:Int)) && decide (a=gN) with
  | true=>simpa using h2
  | false=>simp
theorem sw:∀(l acc:List Tm) (a:Tm) (r:List Tm),acc.length≤8→fe l acc a=some r→r.length≤8
 | [],acc,a,r,h,e=>by
  unfold fe at e;split at e
  ·cases e
  ·injection e with e;rw [←e,List.length_append];simp;omega
 | b :: l,acc,a,r,h,e=>by
  rw [ik] at e;cases h1:decide (a=b) with
  | true=>rw [h1] at e;injection e with e;rw [←e];exact h
  | false =>
   cases h2:decide (a.name=b.name) with
   | true=>rw [h1,h2] at e;cases e
   | false=>rw [h1,h2] at e;exact sw l acc a r h e
theorem DM:∀(x:Ex) (acc r:List Tm),acc.length≤8→zQ x acc=some r→r.length≤8:=by
 refine Ex.ind (fun k a l ih=>?_);have hl:∀(m:List Ex) (acc r:List Tm),(∀x∈m,x∈l)→acc.length≤8→DK m acc=some r→r.length≤8:=by
  intro m;induction m with
  | nil=>intro acc r _ h e;injection e with e;rw [←e];exact h
  | cons x m ihm =>
   intro acc r hm h e;rw [oJ] at e;cases h1:zQ x acc with
   | none=>rw [h1] at e;cases e
   | some r1 =>
    rw [h1] at e;exact ihm r1 r (fun y hy=>hm y (by simp [hy])) (ih x (hm x (by simp)) acc r1 h h1) e
 intro acc r h e;rw [xk] at e;unfold vl at e;cases hE:l.isEmpty with
 | true =>
  rw [hE] at e;cases hk:decide (k=0) && iH a with
  | true=>rw [hk] at e;exact sw acc acc a r h e
  | false=>rw [hk] at e;cases e
 | false =>
  rw [hE] at e;cases hg:mq k a l with
  | true=>rw [hg] at e;exact hl l acc r (fun _ h=>h) h e
  | false=>rw [hg] at e;cases e
instance (l:List Tm):Decidable (m9 l):=by unfold m9;infer_instance
def kf (x:Ex):Bool:=wW x && (vj x && decide (m9 (eP x [])))
def cJ (x:Ex):List Tm:=bif kf x then eP x [] else []
theorem DN:m9 []:=⟨by simp,List.Pairwise.nil⟩
theorem FR (x:Ex):kf x=(wW x && (zQ x []).isSome):=by
 have h:=FQ x [] DN;unfold kf;congr 1
 by_cases h1:vj x=true∧m9 (eP x [])
 ·rw [h.1 h1,h1.1];simp [h1.2]
 ·rw [h.2 h1];cases hs:vj x with
  | false=>simp
  | true=>simp only [hs,true_and] at h1;simp [h1]
theorem yx (a b:Tm) (w:World):(Op.equalIn 10000 44 a.val b.val).run prog w = .ok (decide (a=b)) w:=by
 have hS:prog.underlying 44=some (.struct (prog.fieldsOf 44)):=by kernel_rfl
 have hp:prog.stoodInHeld 44=false:=by kernel_rfl
 unfold Tm.val;rw [show (10000:Nat)=9999+1 from rfl,run_equalIn_agg w 9999 44 _ _ hS hp];have u3:=underlying3;simp only [Program.fieldsOf,underlying44];go_simp
 obtain ⟨an,a1,a2⟩:=a;obtain ⟨bn,b1,b2⟩:=b;have hn:an.toList=bn.toList↔an=bn:=⟨toList_inj,fun e=>by rw [e]⟩;simp only [hn];by_cases h0:an=bn <;> by_cases h1:a1=b1 <;> by_cases h2:a2=b2 <;> simp [h0,h1,h2]
theorem Hk (n:ByteArray) (a b:Int) (n':ByteArray) (x y:Int):Cmps 44 #[.string n,.int .i64 a,.int .i64 b] #[.string n',.int .i64 x,.int .i64 y] (decide ((⟨n,⟨a,b⟩⟩:Tm)=⟨n',⟨x,y⟩⟩)) :=
 Cmps.mk' (yx ⟨n,⟨a,b⟩⟩ ⟨n',⟨x,y⟩⟩) (fun op a b xs ys w=>run_eqGuard_agg w op 44 a b xs ys (by kernel_rfl))
def Dist (l:List Tm) (i k:Nat):Prop:=∀(a b:Nat) (ha:a<l.length) (hb:b<a),a<i∨(a=i∧b<k)→l[a].name≠l[b].name
theorem Dist.start (l:List Tm):Dist l 0 0:=fun a b ha hb h=>by omega
theorem Dist.step {l:List Tm} {i k:Nat} (h:Dist l i k) (hi:i<l.length) (hk:k<i) (hne:l[i].name≠l[k].name):Dist l i (k+1):=fun a b ha hb hab=>by
 by_cases h2:a=i∧b=k
 ·obtain ⟨rfl,rfl⟩:=h2;exact hne
 ·exact h a b ha hb (by omega)
theorem Dist.row {l:List Tm} {i k:Nat} (h:Dist l i k) (hk:¬k<i):Dist l (i+1) 0:=fun a b ha hb hab=>h a b ha hb (by omega)
theorem Dist.all {l:List Tm} {i:Nat} (h:Dist l i 0) (hi:¬i<l.length):l.Pairwise fun a b=>a.name≠b.name:=by
 rw [List.pairwise_iff_getElem];intro a b ha hb hab e;exact h b a hb hab (by omega) e.symm
theorem Dist.not {l:List Tm} {i k:Nat} (hi:i<l.length) (hk:k<i) (he:l[i].name=l[k].name):¬m9 l:=fun h=>by
 have h2:=h.2;rw [List.pairwise_iff_getElem] at h2;exact h2 k i (by omega) hi hk he.symm
def ce:List Tm→List Bool→Tm→Bool
 | [],_,_=>false
 | b :: L,set,a=>bif decide (b=a) then set.headD false else ce L set.tail a
theorem oK (b:Tm) (L:List Tm) (set:List Bool) (a:Tm):ce (b :: L) set a=bif decide (b=a) then set.headD false else ce L set.tail a:=rfl
mutual
def sy (h:Tm→Bool):Ex→Bool
 | .mk k a l=>bif l.isEmpty then h a else decide (k≤(zR h l:Int))
def zR (h:Tm→Bool):List Ex→Nat
 | []=>0
 | x :: l=>(bif sy h x then 1 else 0)+zR h l
end
theorem Bz (h:Tm→Bool) (k:Int) (a:Tm) (l:List Ex):sy h (.mk k a l)=bif l.isEmpty then h a else decide (k≤(zR h l:Int)):=rfl
theorem vm (h:Tm→Bool) (x:Ex) (l:List Ex):zR h (x :: l)=(bif sy h x then 1 else 0)+zR h l:=rfl
theorem DO {w:World} {S:Nat→Prop} {A:Option Addr} {l:List Bool} {i:Nat} {x:Bool} (h:RowsAt c9 w S A l) (hi:i<l.length) (hx:l[i]=x) :
  ∃b off,A=some ⟨b,off,none⟩∧S b∧w.cell? ⟨b,off+i,none⟩=some (.bool x):=by
 obtain ⟨b,off,cs,hA,hS,hc,hd⟩:=h.getx hi hx;have hc':cs=[.bool x]:=hc;subst hc';have:=hd 0 (show 0<1 by decide);exact ⟨b,off,hA,hS,by simpa [show c9.n=1 from rfl] using this⟩
theorem DP:∀(x:Ex) (acc:List Tm),vj x=true→0<(eP x acc).length:=by
 refine Ex.ind (fun k a l ih=>?_);intro acc h;rw [jz];rw [tM] at h;cases l with
 | nil =>
  unfold f8;cases hh:iN a acc with
  | true =>
   have:=(lp a acc).1 hh;exact List.length_pos_of_mem this
  | false=>simp
 | cons y m =>
  rw [lq] at h;simp at h;have h1:=ih y (by simp) acc h.2.1;obtain ⟨t,ht⟩:=mr m (eP y acc);show 0<(fE m (eP y acc)).length;rw [ht,List.length_append];omega
theorem mt {x:Ex} (h:kf x=true):vj x=true∧cJ x=eP x []∧(cJ x).length≤8∧0<(cJ x).length∧m9 (cJ x):=by
 have h2:cJ x=eP x []:=by unfold cJ;rw [h];rfl
 unfold kf at h;simp at h;rw [h2];exact ⟨h.2.1,rfl,h.2.2.1,DP x [] h.2.1,h.2.2⟩
theorem oL {x:Ex} (h:kf x=false):cJ x=[]:=by unfold cJ;rw [h];rfl
def dE (x:Ex) (set:List Bool):Bool:=kf x && sy (ce (cJ x) set) x
theorem my {sh:List Nat} {a:List Value} (h:a.map shp=sh):a.length=sh.length:=by rw [←h,List.length_map]
theorem Eg {α:Type _} {a:List α} (h:a.length=3):∃x y z,a=[x,y,z]:=by
 match a,h with
 | [x,y,z],_=>exact ⟨x,y,z,rfl⟩
theorem Hr {α:Type _} {a:List α} (h:a.length=2):∃x y,a=[x,y]:=by
 match a,h with
 | [x,y],_=>exact ⟨x,y,rfl⟩
theorem lB {v:Value} (h:shp v=0):∃n,v = .int .i64 n:=by
 unfold shp at h;split at h <;> first|exact ⟨_,rfl⟩|cases h
theorem Hs {v:Value} (h:shp v=1):∃n,v = .string n:=by
 unfold shp at h;split at h <;> first|exact ⟨_,rfl⟩|cases h
instance:EQ prog 40 [0,0,0]:=⟨by kernel_rfl,fun w a b ha hb=>by
 have hS:prog.underlying 40=some (.struct (prog.fieldsOf 40)):=by kernel_rfl
 have hp:prog.stoodInHeld 40=false:=by kernel_rfl
 ·obtain ⟨a1,a2,a3,rfl⟩:=Eg (my ha);obtain ⟨b1,b2,b3,rfl⟩:=Eg (my hb);simp only [List.map_cons,List.map_nil,List.cons.injEq,and_true] at ha hb;obtain ⟨x1,rfl⟩:=lB ha.1;obtain ⟨x2,rfl⟩:=lB ha.2.1;obtain ⟨x3,rfl⟩:=lB ha.2.2;obtain ⟨y1,rfl⟩:=lB hb.1;obtain ⟨y2,rfl⟩:=lB hb.2.1;obtain ⟨y3,rfl⟩:=lB hb.2.2;show (Op.equalIn 10000 40 _ _).run _ _=_;rw [show (10000:Nat)=9999+1 from rfl,run_equalIn_agg w 9999 40 _ _ hS hp];have u3:=underlying3;simp only [Program.fieldsOf,underlying40];go_simp
  by_cases h1:x1=y1 <;> by_cases h2:x2=y2 <;> by_cases h3:x3=y3 <;> simp [h1,h2,h3,yB,He]⟩
instance:EQ prog 42 [0,0]:=⟨by kernel_rfl,fun w a b ha hb=>by
 have hS:prog.underlying 42=some (.struct (prog.fieldsOf 42)):=by kernel_rfl
 have hp:prog.stoodInHeld 42=false:=by kernel_rfl
 ·obtain ⟨a1,a2,rfl⟩:=Hr (my ha);obtain ⟨b1,b2,rfl⟩:=Hr (my hb);simp only [List.map_cons,List.map_nil,List.cons.injEq,and_true] at ha hb;obtain ⟨x1,rfl⟩:=lB ha.1;obtain ⟨x2,rfl⟩:=lB ha.2;obtain ⟨y1,rfl⟩:=lB hb.1;obtain ⟨y2,rfl⟩:=lB hb.2;show (Op.equalIn 10000 42 _ _).run _ _=_;rw [show (10000:Nat)=9999+1 from rfl,run_equalIn_agg w 9999 42 _ _ hS hp];have u3:=underlying3;simp only [Program.fieldsOf,underlying42];go_simp
  by_cases h1:x1=y1 <;> by_cases h2:x2=y2 <;> simp [h1,h2,yB,He]⟩
theorem Fm (p q:Pr):yB [.int .i64 p.site,.int .i64 p.inc,.int .i64 p.num] [.int .i64 q.site,.int .i64 q.inc,.int .i64 q.num]=decide (p=q):=by
 obtain ⟨a,b,c⟩:=p;obtain ⟨x,y,z⟩:=q;rw [Bool.eq_iff_iff];simp [yB,He]
theorem sH (p q:Am):yB [.int .i64 p.mode,.int .i64 p.units] [.int .i64 q.mode,.int .i64 q.units]=decide (p=q):=by
 obtain ⟨a,b⟩:=p;obtain ⟨x,y⟩:=q;rw [Bool.eq_iff_iff];simp [yB,He]
end Go.Proofs.YtcgpepnbohejfaaGreatDoor
