/- Part K08 of a proof of statements of chapter 15 (no condition). -/
import Derived.Test.YtkkbopkbjacfmaaGreatDoorK07
import Derived.Test.YtkkbopkbjacfmaaGreatDoorK05
set_option linter.unusedVariables false
set_option linter.unusedSimpArgs false
set_option maxRecDepth 100000
set_option maxHeartbeats 64000000
namespace Go.Proofs.YtkkbopkbjacfmaaGreatDoor
open Go.RowKit Go.Proofs.Tryz
def lp:Tm:=⟨⟨#[]⟩,Am.zero⟩
def lq (a:Tm):Bool:=bU a.name.toList && bj a.am
def lz (a:Tm):List Tm->Bool
 | []=>false
 | b :: l=>bif decide (b=a) then true else lz a l
theorem qG (a b:Tm) (l:List Tm):lz a (b :: l)=bif decide (b=a) then true else lz a l:=rfl
theorem oT (a:Tm) (l:List Tm):lz a l=true↔a∈l:=by
 induction l with
 | nil=>simp [lz]
 | cons b l ih =>
  rw [qG,List.mem_cons];by_cases h:b=a
  ·simp [h]
  ·simp [h,ih,Ne.symm h]
def iE (l:List Tm) (a:Tm):List Tm:=bif lz a l then l else l++[a]
def zV (k:Int) (a:Tm) (l:List Ex):Bool:=bif l.isEmpty then decide (k=0) && lq a else decide (1<=k) && decide (k<=(l.length:Int)) && decide (a=lp)
mutual
def zW:Ex->Bool
 | .mk k a l=>zV k a l && Hd l
def Hd:List Ex->Bool
 | []=>true
 | x :: l=>zW x && Hd l
end
mutual
def ge:Ex->List Tm->List Tm
 | .mk _ a l,acc=>bif l.isEmpty then iE acc a else ia l acc
def ia:List Ex->List Tm->List Tm
 | [],acc=>acc
 | x :: l,acc=>ia l (ge x acc)
end
theorem yx (k:Int) (a:Tm) (l:List Ex):zW (.mk k a l)=(zV k a l && Hd l):=rfl
theorem oU (x:Ex) (l:List Ex):Hd (x :: l)=(zW x && Hd l):=rfl
theorem mK (k:Int) (a:Tm) (l:List Ex) (acc:List Tm):ge (.mk k a l) acc=bif l.isEmpty then iE acc a else ia l acc:=rfl
theorem gt (x:Ex) (l:List Ex) (acc:List Tm):ia (x :: l) acc=ia l (ge x acc):=rfl
def DK (k:Int) (a:Tm) (acc:List Tm):Option (List Tm):=bif decide (k=0) && lq a then some (iE acc a) else none
def qH (k:Int) (a:Tm) (l:List Ex):Bool:=decide (1<=k) && decide (k<=(l.length:Int)) && decide (a=lp)
mutual
def yy:Ex->List Tm->Option (List Tm)
 | .mk k a l,acc=>bif l.isEmpty then DK k a acc else bif qH k a l then Cr l acc else none
def Cr:List Ex->List Tm->Option (List Tm)
 | [],acc=>some acc
 | x :: l,acc=>(yy x acc).bind fun r=>Cr l r
end
theorem DL (k:Int) (a:Tm) (l:List Ex) (acc:List Tm):yy (.mk k a l) acc=bif l.isEmpty then DK k a acc else bif qH k a l then Cr l acc else none:=rfl
theorem xq (x:Ex) (l:List Ex) (acc:List Tm):Cr (x :: l) acc=(yy x acc).bind fun r=>Cr l r:=rfl
theorem DM:∀(x:Ex) (acc:List Tm),yy x acc=if zW x then some (ge x acc) else none:=by
 refine Ex.ind (fun k a l ih=>?_);have hl:∀(m:List Ex) (acc:List Tm),(∀x∈m,x∈l)->Cr m acc=if Hd m then some (ia m acc) else none:=by
  intro m;induction m with
  | nil=>intro acc _;rfl
  | cons x m ihm =>
   intro acc hm;rw [xq,oU,gt,ih x (hm x (by simp))];cases h:zW x with
   | false=>simp
   | true=>simpa using ihm (ge x acc) fun y hy=>hm y (by simp [hy])
 intro acc;rw [DL,yx,mK,hl l acc fun _ h=>h];unfold zV DK qH;cases hE:l.isEmpty with
 | true =>
  obtain rfl:=List.isEmpty_iff.1 hE;simp [Hd,Bool.cond_eq_ite]
 | false =>
  simp only [qCf];cases decide (1<=k) && decide (k<=(l.length:Int)) && decide (a=lp) <;> simp
theorem He (l:List Tm) (a:Tm):(iE l a).length<=l.length+1:=by
 unfold iE;cases lz a l <;> simp
theorem uu:∀(x:Ex) (acc:List Tm),(ge x acc).length<=acc.length+x.cnt:=by
 refine Ex.ind (fun k a l ih=>?_);have hl:∀(m:List Ex) (acc:List Tm),(∀x∈m,x∈l)->(ia m acc).length<=acc.length+jg m:=by
  intro m;induction m with
  | nil=>intro acc _;exact Nat.le_refl _
  | cons x m ihm =>
   intro acc hm;rw [gt,gp];have h1:=ihm (ge x acc) fun y hy=>hm y (by simp [hy]);have h2:=ih x (hm x (by simp)) acc;omega
 intro acc;rw [mK,Ex.cnt_mk];cases l.isEmpty with
 | true=>have:=He acc a;simp only [qCt];omega
 | false=>have:=hl l acc (fun _ h=>h);simp only [qCf];omega
theorem Hf (x:Ex) (acc r:List Tm) (h:yy x acc=some r):r.length<=acc.length+x.cnt:=by
 rw [DM] at h;split at h
 ·injection h with h;rw [<-h];exact uu x acc
 ·cases h
def gM:List Tm->List Tm->Tm->Option (List Tm)
 | [],acc,a=>if acc.length=8 then none else some (acc++[a])
 | b :: l,acc,a=>bif decide (a=b) then some acc else bif decide (a.name=b.name) then none else gM l acc a
theorem j7 (b:Tm) (l acc:List Tm) (a:Tm):gM (b :: l) acc a=bif decide (a=b) then some acc else bif decide (a.name=b.name) then none else gM l acc a:=rfl
def zX (k:Int) (a:Tm) (acc:List Tm):Option (List Tm):=bif decide (k=0) && lq a then gM acc acc a else none
mutual
def Fo:Ex->List Tm->Option (List Tm)
 | .mk k a l,acc=>bif l.isEmpty then zX k a acc else bif qH k a l then Km l acc else none
def Km:List Ex->List Tm->Option (List Tm)
 | [],acc=>some acc
 | x :: l,acc=>(Fo x acc).bind fun r=>Km l r
end
theorem Ct (k:Int) (a:Tm) (l:List Ex) (acc:List Tm):Fo (.mk k a l) acc=bif l.isEmpty then zX k a acc else bif qH k a l then Km l acc else none:=rfl
theorem uv (x:Ex) (l:List Ex) (acc:List Tm):Km (x :: l) acc=(Fo x acc).bind fun r=>Km l r:=rfl
def sC (l:List Tm):Prop:=l.length<=8/\l.Pairwise fun a b=>a.name≠b.name
theorem Hg (acc:List Tm) (a:Tm) (hacc:sC acc):(sC (iE acc a)->gM acc acc a=some (iE acc a))/\(¬sC (iE acc a)->gM acc acc a=none):=by
 have h:∀(l p:List Tm),acc=p++l->(∀b∈p,a≠b/\a.name≠b.name)->(sC (iE acc a)->gM l acc a=some (iE acc a))/\(¬sC (iE acc a)->gM l acc a=none):=by
  intro l;induction l with
  | nil =>
   intro p hp hn;have hno:lz a acc=false:=by
    rw [Bool.eq_false_iff];intro h;rw [oT,hp,List.append_nil] at h;exact (hn a h).1 rfl
   have he:iE acc a=acc++[a]:=by unfold iE;rw [hno];rfl
   rw [he];unfold sC gM;rw [List.length_append,List.pairwise_append];have hp2:∀b∈acc,∀c∈[a],b.name≠c.name:=by
    intro b hb c hc;rw [List.mem_singleton.1 hc];rw [hp,List.append_nil] at hb;exact fun e=>(hn b hb).2 e.symm
   constructor
   ·intro h;rw [if_neg];have:=h.1;simp at this;omega
   ·intro h;rw [if_pos];have h8:=hacc.1;refine Classical.byContradiction fun h9=>h ⟨by simp;omega,hacc.2,by simp,hp2⟩
  | cons b l ih =>
   intro p hp hn;rw [j7];by_cases h1:a=b
   ·have hi:lz a acc=true:=by rw [oT,hp,h1];simp
    have he:iE acc a=acc:=by unfold iE;rw [hi];rfl
    rw [he];simp [h1,hacc]
   ·by_cases h2:a.name=b.name
    ·have hb:b∈acc:=by rw [hp];simp
     have hno:lz a acc=false:=by
      rw [Bool.eq_false_iff];intro h;rw [oT] at h;have hpw:=hacc.2;rcases List.mem_iff_getElem.1 h with ⟨i,hi,ei⟩;rcases List.mem_iff_getElem.1 hb with ⟨j,hj,ej⟩;rw [List.pairwise_iff_getElem] at hpw;rcases Nat.lt_trichotomy i j with hij|hij|hij
      ·exact hpw i j hi hj hij (by rw [ei,ej];exact h2)
      ·subst hij;exact h1 (ei.symm.trans ej)
      ·exact hpw j i hj hi hij (by rw [ei,ej];exact h2.symm)
     have he:iE acc a=acc++[a]:=by unfold iE;rw [hno];rfl
     have hbad:¬sC (iE acc a):=by
      rw [he];intro h;have:=(List.pairwise_append.1 h.2).2.2 b hb a (by simp);exact this h2.symm
     simp [h1,h2,hbad]
    ·simp only [h1,h2,decide_false,qCf];exact ih (p++[b]) (by rw [hp];simp) (by
      intro c hc;rcases List.mem_append.1 hc with hc|hc
      ·exact hn c hc
      ·rw [List.mem_singleton.1 hc];exact ⟨h1,h2⟩)
 exact h acc [] rfl (by simp)
theorem Hh:∀(x:Ex) (acc:List Tm),∃t,ge x acc=acc++t:=by
 refine Ex.ind (fun k a l ih=>?_);have hl:∀(m:List Ex) (acc:List Tm),(∀x∈m,x∈l)->∃t,ia m acc=acc++t:=by
  intro m;induction m with
  | nil=>intro acc _;exact ⟨[],by simp [ia]⟩
  | cons x m ihm =>
   intro acc hm;obtain ⟨t,ht⟩:=ih x (hm x (by simp)) acc;obtain ⟨t',ht'⟩:=ihm (ge x acc) fun y hy=>hm y (by simp [hy]);exact ⟨t++t',by rw [gt,ht',ht,List.append_assoc]⟩
 intro acc;rw [mK];cases l.isEmpty with
 | true =>
  unfold iE;cases lz a acc with
  | true=>exact ⟨[],by simp⟩
  | false=>exact ⟨[a],rfl⟩
 | false=>exact hl l acc fun _ h=>h
theorem qI:∀(m:List Ex) (acc:List Tm),∃t,ia m acc=acc++t
 | [],acc=>⟨[],by simp [ia]⟩
 | x :: m,acc=>by
  obtain ⟨t,ht⟩:=Hh x acc;obtain ⟨t',ht'⟩:=qI m (ge x acc);exact ⟨t++t',by rw [gt,ht',ht,List.append_assoc]⟩
theorem Kn {l t:List Tm} (h:sC (l++t)):sC l:=⟨by have:=h.1;simp at this;omega,(List.pairwise_append.1 h.2).1⟩
theorem M0:∀(x:Ex) (acc:List Tm),sC acc->(zW x=true/\sC (ge x acc)->Fo x acc=some (ge x acc))/\(¬(zW x=true/\sC (ge x acc))->Fo x acc=none):=by
 refine Ex.ind (fun k a l ih=>?_);have hl:∀(m:List Ex) (acc:List Tm),(∀x∈m,x∈l)->sC acc->(Hd m=true/\sC (ia m acc)->Km m acc=some (ia m acc))/\(¬(Hd m=true/\sC (ia m acc))->Km m acc=none):=by
  intro m;induction m with
  | nil=>intro acc _ h;exact ⟨fun _=>rfl,fun h2=>absurd ⟨rfl,h⟩ h2⟩
  | cons x m ihm =>
   intro acc hm h;rw [uv,oU,gt];have hx:=ih x (hm x (by simp)) acc h;by_cases h1:zW x=true/\sC (ge x acc)
   ·rw [hx.1 h1,Option.bind_some];have h2:=ihm (ge x acc) (fun y hy=>hm y (by simp [hy])) h1.2;rw [h1.1,Bool.true_and];exact h2
   ·rw [hx.2 h1,Option.bind_none];refine ⟨fun h2=>absurd ⟨?_,?_⟩ h1,fun _=>rfl⟩
    ·have:=h2.1;simp at this;exact this.1
    ·obtain ⟨t,ht⟩:=qI m (ge x acc);have:=h2.2;rw [ht] at this;exact Kn this
 intro acc h;rw [Ct,yx,mK];unfold zX zV;cases hE:l.isEmpty with
 | true =>
  obtain rfl:=List.isEmpty_iff.1 hE;simp only [qCt,Hd,Bool.and_true];have hn:=Hg acc a h;cases hk:decide (k=0) && lq a with
  | true=>simpa using hn
  | false=>simp
 | false =>
  simp only [qCf];have h2:=hl l acc (fun _ h=>h) h;unfold qH;cases decide (1<=k) && decide (k<=(l.length:Int)) && decide (a=lp) with
  | true=>simpa using h2
  | false=>simp
theorem xr:∀(l acc:List Tm) (a:Tm) (r:List Tm),acc.length<=8->gM l acc a=some r->r.length<=8
 | [],acc,a,r,h,e=>by
  unfold gM at e;split at e
  ·cases e
  ·injection e with e;rw [<-e,List.length_append];simp;omega
 | b :: l,acc,a,r,h,e=>by
  rw [j7] at e;cases h1:decide (a=b) with
  | true=>rw [h1] at e;injection e with e;rw [<-e];exact h
  | false =>
   cases h2:decide (a.name=b.name) with
   | true=>rw [h1,h2] at e;cases e
   | false=>rw [h1,h2] at e;exact xr l acc a r h e
theorem Ko:∀(x:Ex) (acc r:List Tm),acc.length<=8->Fo x acc=some r->r.length<=8:=by
 refine Ex.ind (fun k a l ih=>?_);have hl:∀(m:List Ex) (acc r:List Tm),(∀x∈m,x∈l)->acc.length<=8->Km m acc=some r->r.length<=8:=by
  intro m;induction m with
  | nil=>intro acc r _ h e;injection e with e;rw [<-e];exact h
  | cons x m ihm =>
   intro acc r hm h e;rw [uv] at e;cases h1:Fo x acc with
   | none=>rw [h1] at e;cases e
   | some r1 =>
    rw [h1] at e;exact ihm r1 r (fun y hy=>hm y (by simp [hy])) (ih x (hm x (by simp)) acc r1 h h1) e
 intro acc r h e;rw [Ct] at e;unfold zX at e;cases hE:l.isEmpty with
 | true =>
  rw [hE] at e;cases hk:decide (k=0) && lq a with
  | true=>rw [hk] at e;exact xr acc acc a r h e
  | false=>rw [hk] at e;cases e
 | false =>
  rw [hE] at e;cases hg:qH k a l with
  | true=>rw [hg] at e;exact hl l acc r (fun _ h=>h) h e
  | false=>rw [hg] at e;cases e
instance (l:List Tm):Decidable (sC l):=by unfold sC;infer_instance
def nZ (x:Ex):Bool:=Cp x && (zW x && decide (sC (ge x [])))
def cR (x:Ex):List Tm:=bif nZ x then ge x [] else []
theorem Kq:sC []:=⟨by simp,List.Pairwise.nil⟩
theorem M1 (x:Ex):nZ x=(Cp x && (Fo x []).isSome):=by
 have h:=M0 x [] Kq;unfold nZ;congr 1
 by_cases h1:zW x=true/\sC (ge x [])
 ·rw [h.1 h1,h1.1];simp [h1.2]
 ·rw [h.2 h1];cases hs:zW x with
  | false=>simp
  | true=>simp only [hs,true_and] at h1;simp [h1]
theorem Kr (a b:Tm) (w:World):(Op.equalIn 10000 63 a.val b.val).run prog w = .ok (decide (a=b)) w:=by
 have hS:prog.underlying 63=some (.struct (prog.fieldsOf 63)):=by kernel_rfl
 have hp:prog.stoodInHeld 63=false:=by kernel_rfl
 unfold Tm.val;rw [show (10000:Nat)=9999+1 from rfl,run_equalIn_agg w 9999 63 _ _ hS hp];have u3:=underlying3;simp only [Program.fieldsOf,underlying63];go_simp
 obtain ⟨an,a1,a2⟩:=a;obtain ⟨bn,b1,b2⟩:=b;have hn:an.toList=bn.toList↔an=bn:=⟨toList_inj,fun e=>by rw [e]⟩;simp only [hn];by_cases h0:an=bn <;> by_cases h1:a1=b1 <;> by_cases h2:a2=b2 <;> simp [h0,h1,h2]
def Dist (l:List Tm) (i k:Nat):Prop:=∀(a b:Nat) (ha:a<l.length) (hb:b<a),a<i\/(a=i/\b<k)->l[a].name≠l[b].name
theorem Dist.start (l:List Tm):Dist l 0 0:=fun a b ha hb h=>by omega
theorem Dist.step {l:List Tm} {i k:Nat} (h:Dist l i k) (hi:i<l.length) (hk:k<i) (hne:l[i].name≠l[k].name):Dist l i (k+1):=fun a b ha hb hab=>by
 by_cases h2:a=i/\b=k
 ·obtain ⟨rfl,rfl⟩:=h2;exact hne
 ·exact h a b ha hb (by omega)
theorem Dist.row {l:List Tm} {i k:Nat} (h:Dist l i k) (hk:¬k<i):Dist l (i+1) 0:=fun a b ha hb hab=>h a b ha hb (by omega)
theorem Dist.all {l:List Tm} {i:Nat} (h:Dist l i 0) (hi:¬i<l.length):l.Pairwise fun a b=>a.name≠b.name:=by
 rw [List.pairwise_iff_getElem];intro a b ha hb hab e;exact h b a hb hab (by omega) e.symm
theorem Dist.not {l:List Tm} {i k:Nat} (hi:i<l.length) (hk:k<i) (he:l[i].name=l[k].name):¬sC l:=fun h=>by
 have h2:=h.2;rw [List.pairwise_iff_getElem] at h2;exact h2 k i (by omega) hi hk he.symm
def mb (K:Mst->Prop) (Q:Exit->Mst->Prop):Exit->Mst->Prop
 | .normal,s=>K s
 | e,s=>Q e s
def fX (id:Nat) (Q:Exit->Mst->Prop):Exit->Mst->Prop
 | .exit i,s=>bif i.beq id then Q .normal s else Q (.exit i) s
 | e,s=>Q e s
section
variable {P:Program} {nt:Nat} {Ks:List Nat} {Q:Exit->Mst->Prop} {s:Mst}
theorem uF {x y:Code} (h:AW P nt Ks x (mb (AW P nt Ks y Q) Q) s):AW P nt Ks (.seq x y) Q s:=by
 intro c ρ a w hc hK hr;refine wp_seq (wp_mono (h c ρ a w hc hK hr) ?_);rintro e a' w' ⟨s',ρ',hq,hr'⟩;cases e with
 | normal=>exact hq c ρ' a' w' hc hK hr'
 | _=>exact ⟨s',ρ',hq,hr'⟩
theorem DQ (h:Q .normal s):AW P nt Ks .skip Q s:=fun _ ρ _ _ _ _ hr=>wp_skip ⟨s,ρ,h,hr⟩
theorem Aa {l:Nat} (h:Q .normal s):AW P nt Ks (.label l) Q s:=fun _ ρ _ _ _ _ hr=>wp_label ⟨s,ρ,h,hr⟩
theorem DS {i:Nat} (h:Q (.exit i) s):AW P nt Ks (.exit i) Q s:=fun _ ρ _ _ _ _ hr=>wp_exit ⟨s,ρ,h,hr⟩
theorem Ht (h:Q .ret s):AW P nt Ks .ret Q s:=fun _ ρ _ _ _ _ hr=>wp_ret ⟨s,ρ,h,hr⟩
theorem Hu {x:Code} (h:AW P nt Ks x (fun e s'=>(∀l,e≠.goto l)/\Q e s') s):AW P nt Ks (.scope x) Q s:=by
 intro c ρ a w hc hK hr;refine wp_scope_straight (wp_mono (h c ρ a w hc hK hr) ?_);rintro e a' w' ⟨s',ρ',⟨h1,h2⟩,hr'⟩;cases e with
 | goto l=>exact absurd rfl (h1 l)
 | _=>exact ⟨s',ρ',h2,hr'⟩
theorem yJ {x:Operand} {t e:Code} {b:Bool} (hx:s.ev x = .b b) (h1:b=true->AW P nt Ks t Q s) (h2:b=false->AW P nt Ks e Q s):AW P nt Ks (.cond x t e) Q s:=by
 intro c ρ a w hc hK hr;have hv:a.eval x = .bool b:=by have:=hr.ev x;rwa [hx] at this
 exact wp_cond_split hv (fun h=>h1 h c ρ a w hc hK hr) fun h=>h2 h c ρ a w hc hK hr
theorem Ab {id:Nat} {x:Code} (h:AW P nt Ks x (fX id Q) s):AW P nt Ks (.block id x) Q s:=by
 intro c ρ a w hc hK hr;refine wp_block (wp_mono (h c ρ a w hc hK hr) ?_);rintro e a' w' ⟨s',ρ',hq,hr'⟩;cases e with
 | exit i =>
  simp only [fX] at hq;cases hb:i.beq id with
  | true =>
   rw [hb] at hq;simp only [Exit.inBlock,qNb hb,if_true];exact ⟨s',ρ',hq,hr'⟩
  | false =>
   rw [hb] at hq;have hi:¬i=id:=fun e=>by rw [e,Nat.beq_refl] at hb;cases hb
   simp only [Exit.inBlock,hi,if_false];exact ⟨s',ρ',hq,hr'⟩
 | _=>exact ⟨s',ρ',hq,hr'⟩
def Le (nt:Nat) (Ks:List Nat) (s s':Mst):Prop:=∀(c:Ctx) (ρ:Nat->Value) (a:Act) (w:World),c.nt=nt->c.K=Ks->Rp c s ρ a w->∃ρ',Rp c s' ρ' a w
theorem ab {ι:Type _} {x:Code} (p:ι->Prop) (I:ι->Mst) (μ:ι->Nat) (i0:ι) (h0:p i0) (h1:Le nt Ks s (I i0))
  (h:∀i,p i->AW P nt Ks x (mb (fun s'=>∃j,p j/\μ j<μ i/\Le nt Ks s' (I j)) Q) (I i)):AW P nt Ks (.loop x) Q s:=by
 intro c ρ a w hc hK hr;obtain ⟨ρ0,hr0⟩:=h1 c ρ a w hc hK hr;refine wp_loop_ghost (fun n a w=>∃i ρ,μ i=n/\p i/\Rp c (I i) ρ a w) (μ i0) ⟨i0,ρ0,rfl,h0,hr0⟩ ?_;rintro n a w ⟨i,ρ,rfl,hp,hr⟩;refine wp_mono (h i hp c ρ a w hc hK hr) ?_;rintro e a' w' ⟨s',ρ',hq,hr'⟩;cases e with
 | normal =>
  obtain ⟨j,hj,hlt,hle⟩:=hq;obtain ⟨ρ2,hr2⟩:=hle c ρ' a' w' hc hK hr';exact ⟨μ j,hlt,j,ρ2,rfl,hj,hr2⟩
 | _=>exact ⟨s',ρ',hq,hr'⟩
theorem aP {x:Code} {φ:Prop} (hf:∀(c:Ctx) (ρ:Nat->Value) (a:Act) (w:World),Rp c s ρ a w->φ) (h:φ->AW P nt Ks x Q s):AW P nt Ks x Q s:=fun c ρ a w hc hK hr=>h (hf c ρ a w hr) c ρ a w hc hK hr
end
def qL:List (Nat×TV)->Nat->TV
 | [],_=>.c .any
 | (k,d) :: r,n=>bif k.beq n then d else qL r n
def bC (U:List Nat) (ts:List (Nat×TV)) (hs:List (Nat×Box)):Mst:={ t:=qL ts,h:=gg hs,f:=fun k=>!aI U k }
def Kx (s:Mst) (q:Nat->Nat) (g:Nat->Prop):List (Nat×TV)->Prop
 | []=>True
 | (t,d) :: r=>TVLe s q g (s.t t) d/\Kx s q g r
def Ky (s:Mst) (q:Nat->Nat) (g:Nat->Prop):List (Nat×Box)->Prop
 | []=>True
 | (k,b) :: r=>(∃b0,s.h (q k)=some b0/\BoxLe s q g b0 b)/\Ky s q g r
def tm (s:Mst) (q:Nat->Nat) (g:Nat->Prop):List (Nat×Option Box)->Prop
 | []=>True
 | (_,none) :: r=>tm s q g r
 | (k,some b) :: r=>(∃b0,s.h (q k)=some b0/\BoxLe s q g b0 b)/\tm s q g r
theorem Ac {s:Mst} {q:Nat->Nat} {g:Nat->Prop}:∀{l:List (Nat×TV)},Kx s q g l->∀t d,(t,d)∈l->TVLe s q g (s.t t) d
 | (a,b) :: l,h,t,d,hx=>by
  rcases List.mem_cons.1 hx with e|hx
  ·injection e with e1 e2;subst e1;subst e2;exact h.1
  ·exact Ac h.2 t d hx
theorem Ad {s:Mst} {q:Nat->Nat} {g:Nat->Prop}:∀{l:List (Nat×Box)},Ky s q g l->∀k b,(k,b)∈l->∃b0,s.h (q k)=some b0/\BoxLe s q g b0 b
 | (a,b) :: l,h,t,d,hx=>by
  rcases List.mem_cons.1 hx with e|hx
  ·injection e with e1 e2;subst e1;subst e2;exact h.1
  ·exact Ad h.2 t d hx
theorem uG {s:Mst} {q:Nat->Nat} {g:Nat->Prop}:∀{l:List (Nat×Option Box)},tm s q g l->∀k b,(k,some b)∈l->∃b0,s.h (q k)=some b0/\BoxLe s q g b0 b
 | (a,none) :: l,h,t,d,hx=>by
  rcases List.mem_cons.1 hx with e|hx
  ·cases e
  ·exact uG (l:=l) h t d hx
 | (a,some b) :: l,h,t,d,hx=>by
  rcases List.mem_cons.1 hx with e|hx
  ·injection e with e1 e2;injection e2 with e2;subst e1;subst e2;exact h.1
  ·exact uG h.2 t d hx
def qf:List (Nat×Nat)->Nat->Nat
 | [],k=>k
 | (a,b) :: r,k=>bif a.beq k then b else qf r k
def M6 (U:List Nat) (ts:List (Nat×TV)) (hs:List (Nat×Box)) (q:Nat->Nat) (Ks:List Nat):Bool :=
 ts.all (fun x=>x.2.in_ U) && hs.all (fun x=>x.2.in_ U) && M4 U (aq hs) && eM ((aq hs).map q) && Ks.all (fun k=>aI U k && (q k).beq k)
theorem jD {q:Nat->Nat}:∀{l:List Nat},eM (l.map q)=true->∀k k',aI l k=true->aI l k'=true->q k=q k'->k=k'
 | [],_,_,_,h,_,_=>by simp [aI] at h
 | x :: l,hn,k,k',h,h',e=>by
  simp only [List.map_cons,eM,qBa,Bool.not_eq_true'] at hn;have hx:∀j,aI l j=true->q x=q j->False:=fun j hj e=>by
   have:aI (l.map q) (q x)=true:=by rw [bJ,e];exact List.mem_map.2 ⟨j,bJ.1 hj,rfl⟩
   rw [this] at hn;exact absurd hn.1 (by simp)
  simp only [aI,Bool.or_eq_true] at h h';rcases h with h|h <;> rcases h' with h'|h'
  ·rw [<-qNb h,<-qNb h']
  ·rw [<-qNb h] at e;exact (hx k' h' e).elim
  ·rw [<-qNb h'] at e;exact (hx k h e.symm).elim
  ·exact jD hn.2 k k' h h' e
section
variable {nt:Nat} {Ks:List Nat} {s:Mst}
theorem tP {hs:List (Nat×Box)} {q:Nat->Nat} {j:Nat} (h:aI ((aq hs).map q) j=false):∀k,gg hs k≠none->q k≠j:=fun k hk e=>by
 cases h9:gg hs k with
 | none=>exact hk h9
 | some b =>
  have:aI ((aq hs).map q) j=true:=by rw [bJ,<-e];exact List.mem_map.2 ⟨k,bJ.1 (bS h9).1,rfl⟩
  rw [this] at h;cases h
theorem Hw {U:List Nat} {ts:List (Nat×TV)} {hs:List (Nat×Box)} (q:Nat->Nat) (hok:M6 U ts hs q Ks=true)
  (ht:Kx s q (fun j=>∀k,gg hs k≠none->q k≠j) ts)
  (hh:Ky s q (fun j=>∀k,gg hs k≠none->q k≠j) hs):Le nt Ks s (bC U ts hs):=by
 intro c ρ a w hc hK hr;subst hK;simp only [M6,qBa] at hok;obtain ⟨⟨⟨⟨o1,o2⟩,o3⟩,o4⟩,o5⟩:=hok;have aF:∀k,gg hs k≠none->aI (aq hs) k=true:=fun k hk=>by
  cases h9:gg hs k with
  | none=>exact absurd h9 hk
  | some b=>exact (bS h9).1
 have hU:∀k,(!aI U k)=true->aI U k=false:=fun k h=>by simpa using h
 have htg:∀(l:List (Nat×TV)) (n:Nat),(qL l n = .c .any)\/∃d,(n,d)∈l/\qL l n=d:=by
  intro l n;induction l with
  | nil=>exact .inl rfl
  | cons x l ih =>
   obtain ⟨k,d⟩:=x;simp only [qL];cases hk:k.beq n with
   | true=>rw [qNb hk];exact .inr ⟨d,by simp,rfl⟩
   | false =>
    rcases ih with h|⟨d',h1,h2⟩
    ·exact .inl h
    ·exact .inr ⟨d',by simp [h1],h2⟩
 refine ⟨_,hr.weak (s':=bC U ts hs) (q:=q) ⟨fun k k' hk hk' e=>jD o4 k k' (aF k hk) (aF k' hk') e,fun k b hk=>?_⟩ (fun k hk=>?_) ⟨fun k hk=>?_,fun k t hk=>?_,fun k k' b hk hb=>?_⟩ fun t=>?_⟩
 ·exact Ad hh k b (bS hk).2
 ·have:=List.all_eq_true.1 o5 k hk;simp only [qBa] at this;exact ⟨qNb this.2,by show (!aI U k)=false;rw [this.1];rfl⟩
 ·have hk:=hU k hk;cases h9:gg hs k with
  | none=>exact h9
  | some b=>rw [jC o3 (bS h9).1] at hk;cases hk
 ·have hk:=hU k hk;show (qL ts t).has k=false;rcases htg ts t with h|⟨d,h1,h2⟩
  ·rw [h];rfl
  ·rw [h2];cases h9:d.has k with
   | false=>rfl
   | true=>rw [TV.in_has (List.all_eq_true.1 o1 (t,d) h1) h9] at hk;cases hk
 ·have hk:=hU k hk;cases h9:b.has k with
  | false=>rfl
  | true=>rw [Box.in_has (List.all_eq_true.1 o2 (k',b) (bS hb).2) h9] at hk;cases hk
 ·show TVLe _ _ _ _ (qL ts t);rcases htg ts t with h|⟨d,h1,h2⟩
  ·rw [h];exact .any _
  ·rw [h2];exact Ac ht t d h1
theorem uH {P:Program} {fn:Func} {hin:List (Nat×Box)} {res:TV} {hout:List (Nat×Option Box)} {e:Exit} (he:e = .normal\/e = .ret) (xs:List V0) (q:Nat->Nat) (hx:All2 (RV P s) fn.results.toList xs) (hq:(aq hin).all (fun k=>(q k).beq k)=true)
  (hn:eM ((aq (hout.filter fun x=>x.2.isSome)).map q)=true) (hh:tm s q (fun j=>∀k,hput hout (fun _=>none) k≠none->q k≠j) hout)
  (hr:TVLe s q (fun j=>∀k,hput hout (fun _=>none) k≠none->q k≠j) (M5 xs) res):sF P fn hin res hout e s:=by
 have aF:∀k,hput hout (fun _=>none) k≠none->aI (aq (hout.filter fun x=>x.2.isSome)) k=true:=fun k hk=>by
  cases h9:hput hout (fun _=>none) k with
  | none=>exact absurd h9 hk
  | some b=>rw [bJ];exact List.mem_map.2 ⟨(k,some b),List.mem_filter.2 ⟨oZ h9,rfl⟩,rfl⟩
 refine ⟨he,xs,q,hx,fun k hk=>?_,⟨fun k k' hk hk' e=>jD hn k k' (aF k hk) (aF k' hk') e,fun k b hk=>?_⟩,hr⟩
 ·exact qNb (List.all_eq_true.1 hq k (bJ.1 hk))
 ·exact uG hh k b (oZ hk)
end
section
variable {P:Program} {o:Oper} {s:Mst}
def xz (s:Mst) (q:Nat->Nat):List (Nat×Box)->Prop
 | []=>True
 | (k,b) :: r=>s.h (q k)=some (b.ren q)/\xz s q r
theorem qM {s:Mst} {q:Nat->Nat}:∀{l:List (Nat×Box)},xz s q l->∀k b,(k,b)∈l->s.h (q k)=some (b.ren q)
 | (a,b) :: l,h,t,d,hx=>by
  rcases List.mem_cons.1 hx with e|hx
  ·injection e with e1 e2;subst e1;subst e2;exact h.1
  ·exact qM h.2 t d hx
theorem Hx {f:FuncId} {xs:Array Operand} {ts:Array TypeId} {args:List V0} {hin:List (Nat×Box)} {us:List Nat} {res:TV} {hout:List (Nat×Option Box)} (hs:FSpec P f args hin us res hout) (q:Nat->Nat) (ho:o.op = .call { callee:=.value (.func f),args:=xs,argTypes:=ts })
  (ha:All2 (fun x d=>s.ev x = .v (V0.ren q d)) xs.toList args) (hn:eM ((aq hin++us).map q)=true) (hh:xz s q hin):LOp P o s ((aq hin).map q) ⟨res.ren q,fC q hout,us.map q⟩:=by
 intro c st ρ a w hr h1 h2 h3 h4;have hargs:All2 (fun d v=>(V0.ren q d).rep w (Fz c st.h ρ w) ρ v) args (xs.toList.map a.eval):=by
  have key:∀(l:List Operand) (m:List V0),(∀x∈l,st.ev x=s.ev x)->All2 (fun x d=>s.ev x = .v (V0.ren q d)) l m->All2 (fun d v=>(V0.ren q d).rep w (Fz c st.h ρ w) ρ v) m (l.map a.eval):=by
   intro l;induction l with
   | nil=>intro m _ h;cases m with
    | nil=>trivial
    | cons=>exact h.elim
   | cons x l ih =>
    intro m hl h;cases m with
    | nil=>exact h.elim
    | cons d m =>
     refine ⟨?_,ih m (fun y hy=>hl y (by simp [hy])) h.2⟩;have:=hr.ev x;rw [hl x (by simp),h.1] at this;exact this
  exact key _ _ (fun x hx=>h1 x (by simp [ho,Op.operands,Call.operands];exact .inr (by simpa using hx))) ha
 have hin':∀k b,gg hin k=some b->st.h (q k)=some (b.ren q):=fun k b hk=>by
  rw [h2 (q k) (by rw [bJ];exact List.mem_map.2 ⟨k,bJ.1 (bS hk).1,rfl⟩)];exact qM hh k b (bS hk).2
 have hc:=hs.ca q c st ρ a w (xs.toList.map a.eval) hr (fun k k' hk hk' e=>jD hn k k' hk hk' e) hargs hin' fun k hk=>h3 _ (by show aI (us.map q) (q k)=true;rw [bJ];exact List.mem_map.2 ⟨k,bJ.1 hk,rfl⟩);have he:(xs.toList.map a.eval).toArray=xs.map a.eval:=by apply Array.toList_inj.1;simp
 rw [he] at hc;unfold Oper.wp execOp;simp only [ho,resolve,Act.eval,Deferred.ofValue,invoke,Sem.run_bind,Sem.run_pure,Result.andThen_ok,Array.append_empty,Array.empty_append];rw [hs.en];refine hc.mono fun e w' ⟨v,hv,hk⟩=>?_;subst hv;exact hk o.dst h4
end
theorem nG {P:Program} (t e:TypeId) (i:TypeInfo) (z:Value) (ht:P.underlying t=some (.slice e)) (hi:P.info? e=some i) (hz:i.zero=some z)
  (kl kc:IntKind) (n c:Nat) (hnc:n<=c) (hbytes:i.bytes*c<=281474976710656) (h63:c<=9223372036854775807) (w:World) :
  (Instr.makeSlice t (.int kl (n:Int)) (.int kc (c:Int))).run P w = .ok (.slice (some ⟨w.heap.size,0,none⟩) n c) (w.alloc (.cells (madeCells z.cells (c*i.size)) e)):=by
 have hb:(i.bytes:Int)*(c:Int)<=281474976710656:=by
  have h:((i.bytes*c:Nat):Int)<=281474976710656:=by omega
  rwa [Int.natCast_mul] at h
 have hr:=run_make (P:=P) w t e i z ht hi hz kl kc n c (by omega) (by omega) hb (by omega);simp only [Int.toNat_natCast] at hr;exact hr
theorem Nf {P:Program} (t e:TypeId) (z:Value) (by_:Nat) (ht:P.underlying t=some (.slice e)) (hi:(P.info? e).map (fun i=>(i.zero,i.size,i.bytes))=some (some z,1,by_)) (hz:z.cells = #[z]) (hb:by_<=64) (n:Nat) (hn:n<=1000000) (w:World) :
  (Instr.makeSlice t (.int .i64 (n:Int)) (.int .i64 (n:Int))).run P w = .ok (.slice (some ⟨w.heap.size,0,none⟩) n n) (w.alloc (.cells (madeCells #[z] n) e)):=by
 obtain ⟨i0,hi,hz0,hz1,hz2⟩:=info_parts hi;have hle:i0.bytes*n<=64*1000000:=Nat.mul_le_mul (by omega) hn;rw [nG t e i0 z ht hi hz0 _ _ n n (Nat.le_refl _) (by omega) (by omega),hz1,Nat.mul_one,hz]
section
variable {P:Program} {o:Oper} {s:Mst}
theorem FE {x:Operand} {k off:Nat} (ho:o.op = .nilCheck x) (hx:s.ev x = .c (.ptr k off)):LOp P o s [] ⟨.c (.ptr k off),[],[]⟩ :=
 bq fun c st ρ a w hr h1 _=>by
  have he:=h1 x (by simp [ho,Op.operands]);rw [hx] at he;have hv:=hr.ev x;rw [he] at hv;obtain ⟨g,hg,hv⟩:=hv;exact ⟨_,by unfold execOp;rw [ho];simp only [hv];rfl,⟨g,hg,rfl⟩,fun k' hk=>hr.nf (x:=x) he hk⟩
theorem iu {w:World} {e:TypeId} {n g len cap:Nat} {xs:List Value} (h:w.ownsRow 0 e n (.slice (some ⟨g,0,none⟩) len cap) len xs) {j:Nat} (hj:j<xs.length):(w.cell? ⟨g,j,none⟩).isSome=true/\w.frozen? ⟨g,j,none⟩=false:=by
 rcases h.2 with ⟨hv,_⟩|⟨g',cap',cur,hv,_,hh,hnc,hcm,hcs,ht⟩
 ·cases hv
 ·injection hv with e1 _ e2;injection e1 with e1;injection e1 with e1;subst e1;subst e2;have hl:j<cur.size:=by
   have:=congrArg List.length ht;simp only [List.length_take,Array.length_toList] at this;omega
  rw [cell_of_row w g j cur e (0,0) hh];exact ⟨by simp [hl],by simp [World.frozen?,hh]⟩
theorem aM {t e:TypeId} {x y:Operand} {row:Bool} {n m i k off:Nat} {α:Type} {E:El α} {l l':List α} {u z:α} {ds:List D} [I:TI P t row n] [J:Dp E] (ho:o.op = .store t x y) (hx:s.ev x = .c (.optr k m i off)) (hk:s.h k=some (.arr e E l)) (hm:E.n=m) (hu:l[i]? = some u)
  (hd:(s.ev y).cells=some ds) (hok:ds.all (okD s.h)=true) (hno:gu ds=[]) (hn:ds.length=n) (hl:off+n<=m) (hz:(J.deep u).take off++ds++(J.deep u).drop (off+n)=J.deep z) (hl':l.set i z=l'):LOp P o s [k] ⟨.c .any,[(k,some (.arr e E l'))],[]⟩:=by
 intro c st ρ a w hr h1 h2 _ h4;subst hl';subst hm;have he:=h1 x (by simp [ho,Op.operands]);have he2:=h1 y (by simp [ho,Op.operands]);rw [hx] at he;rw [<-he2] at hd;have hv:=hr.ev x;rw [he] at hv;obtain ⟨g,len,cap,hg,hv⟩:=hv;have hk':=(h2 k (by simp [aI])).trans hk;have hil:i<l.length:=(List.getElem?_eq_some_iff.1 hu).1;have hui:l[i]=u:=by rw [qGg hil] at hu;exact Option.some.inj hu
 obtain ⟨xs,hown,hreps⟩:=hr.hp k _ hk';have hown0:=hown;rw [hg] at hown;obtain rfl:len=l.length:=by
  rcases hown.2 with ⟨hv,_⟩|⟨g',cap',cur,hv,_⟩
  ·cases hv
  ·injection hv
 obtain ⟨hc1,hc2⟩:=TV.cells_rep (hr.ev y) hd fun q hq u hu=>hr.okD (ir (List.all_eq_true.1 hok q hq) fun j hj=>by have:=fJ (hj▸hq);rw [hno] at this;simp [aI] at this) hu;generalize hvs:(a.eval y).cells.toList=vs at *
 have hsz:vs.length=n:=by rw [<-hc1.length,hn]
 have hxl:=hown.1;have hin:i*E.n+E.n<=l.length*E.n:=by have:=Nat.mul_le_mul_right E.n (show i+1<=l.length from hil);rwa [Nat.add_mul,Nat.one_mul] at this
 have hst:=run_storeCells_cells (P:=P) g (i*E.n+off) vs 0 w (fun j hj=>by have:=(iu hown (j:=i*E.n+off+j) (by omega)).1;simpa using this) (fun j hj=>by have:=(iu hown (j:=i*E.n+off+j) (by omega)).2;simpa using this) hc2;simp only [Nat.add_zero] at hst;obtain ⟨cs,hcs1,hcs2⟩:=hreps.get i hil;have hcl:=E.len hcs1;rw [hui] at hcs1;have hcs:cs=(xs.drop (i*E.n)).take E.n:=by
  apply List.ext_getElem?
  intro j;rw [List.getElem?_take];by_cases hj:j<E.n
  ·rw [if_pos hj,List.getElem?_drop,hcs2 j hj]
  ·rw [if_neg hj,List.getElem?_eq_none (by omega)]
 have hz':E.rep w (Fz c st.h ρ w) z (cs.take off++vs++cs.drop (off+n)):=J.put (ρ:=ρ) (by rw [<-hz];exact (((J.get hcs1).take off).append hc1).append ((J.get hcs1).drop (off+n)));have hrow:=iC vs (i*E.n+off) w xs hown (by omega);rw [uI (n:=E.n) (by omega) hcs (by omega),hsz] at hrow;have hkb:kb (ρ k)=some g:=by rw [hg];rfl
 have hsize:=dG (g:=g) vs (i*E.n+off) w;have hoth:∀b,b≠g->(w.setCells g (i*E.n+off) vs).heap[b]? = w.heap[b]?:=fun b hb=>dN vs _ w b hb;have hbel:=dO (B:=0) (w:=w) (Nat.zero_le g) vs (i*E.n+off) w (Below.refl _ _);have hkk:∀k':Nat,aF [(k,some (Box.arr e E (l.set i z)))] k'=true->k'=k:=fun k' h=>by
  exact Q0
 have hfz:∀b,Fz c st.h ρ w b->Fz c (hput [(k,some (Box.arr e E (l.set i z)))] st.h) ρ (w.setCells g (i*E.n+off) vs) b/\(w.setCells g (i*E.n+off) vs).heap[b]? = w.heap[b]?:=fun b ⟨f1,f2,f3⟩=>by
  have hbg:b≠g:=fun e=>f3 k _ hk' (by rw [hkb,e]);refine ⟨⟨f1,by rw [hsize];exact f2,fun k' bx hk2=>?_⟩,hoth b hbg⟩;simp only [hput] at hk2;cases h9:k.beq k' with
  | true=>rw [<-qNb h9,hkb];intro e;injection e with e;exact hbg e.symm
  | false=>rw [h9] at hk2;exact f3 k' bx hk2
 refine Oper.wp_skip (w':=w.setCells g (i*E.n+off) vs) ?_ ⟨ρ,hr.app (e:=⟨.c .any,[(k,some (.arr e E (l.set i z)))],[]⟩) h4 (fun k h=>by simp [aI] at h) (fun _ _=>rfl) (fun k' h=>.inr (by rw [hkk k' h];exact hr.nfh hk')) ⟨hbel.os,hbel.tape,hbel.output,hbel.size,fun b hlt hn=>hoth b fun e=>hn ⟨k,_,by simp [aF],hk',by rw [hkb,e]⟩⟩ ?_ ?_ (fun k h=>by simp [TV.has,V0.has,D.has] at h) ?_ ?_ trivial⟩
 ·unfold execOp;rw [ho];have hi:=I.s;cases hq:P.info? t with
  | none=>simp [hq] at hi
  | some ti =>
   have hs:(a.eval y).cells.size=ti.size:=by
    simp [hq] at hi;rw [<-Array.length_toList,hvs];omega
   simp only [hv,Instr.storeAt,Instr.sureAddr,Sem.run_bind,Sem.run_pure,Result.andThen_ok];have h3:(storeVar t ⟨g,i*E.n+off,none⟩ (a.eval y)).run P w = .ok () (w.setCells g (i*E.n+off) vs):=by
    simp [storeVar,sizeOf,typeInfo,hq,hs,hvs,hst]
   rw [h3];rfl
 ·intro k' bx g' h _ hg';exact Rg
 ·intro k1 k2 _ _ _ h h' _ _ _ _;exact RK
 ·intro k1 k2 bx h hp hx;exact QZ
 ·intro k2 bx h hp;rw [hkk k2 h] at hp ⊢;simp only [hput,Nat.beq_refl,qCt,Option.some.injEq] at hp;subst hp;refine ⟨_,by rw [List.length_set,hg];exact hrow,?_⟩;exact (Reps.set hreps hz' hil).same (fun b hb=>(hfz b hb).2) fun b hb=>(hfz b hb).1
end
section
variable {P:Program} {nt:Nat} {Ks:List Nat} {Q:Exit->Mst->Prop} {s:Mst} {K:Mst->Prop} {ops:Array Oper}
def DA (P:Program) (ops:Array Oper) (draw:Bool) (l:List Oper) (acc:List (List Nat×List Nat)) (s:Mst) (K:Mst->Prop):Prop :=
 ∃fps,DW P ops l fps s K/\(draw=true->oV ops (acc.reverse++fps) ops.size 0 (Array.replicate ops.size false)=true)
theorem HD {acc:List (List Nat×List Nat)} (h:K s):DA P ops false [] acc s K:=⟨[],h,fun h=>by cases h⟩
theorem KM {acc:List (List Nat×List Nat)} (hB:oV ops acc.reverse ops.size 0 (Array.replicate ops.size false)=true) (h:K s):DA P ops true [] acc s K:=⟨[],h,fun _=>by simpa using hB⟩
theorem HH {draw:Bool} {o:Oper} {l:List Oper} {acc:List (List Nat×List Nat)} {R:List Nat} {e:Mef} (he:LOp P o s R e) (hg:s.gd ops o=some true) (hf:e.us.all s.f=true) (h:DA P ops draw l ((R,aq e.hs) :: acc) (s.app o.dst e) K):DA P ops draw (o :: l) acc s K:=by
 obtain ⟨fps,h1,h2⟩:=h;refine ⟨(R,aq e.hs) :: fps,⟨R,aq e.hs,fps,rfl,true,hg,fun _=>⟨e,⟨he,fun k hk=>by rw [<-jB];exact hk,fun k hk=>j9 hf k hk⟩,h1⟩,fun h=>by cases h⟩,fun hd=>by simpa using h2 hd⟩
theorem aE {P:Prop} (h:P:=by (try simp only [List.length_cons,List.length_nil,List.length_append,List.length_take,List.length_drop,List.length_map,maxLen]);omega):P:=h
theorem aK {draw:Bool} {o:Oper} {l:List Oper} {acc:List (List Nat×List Nat)} {R us:List Nat} {t:Nat} {d:TV} {hs:List (Nat×Option Box)} (he:LOp P o s R ⟨d,hs,us⟩) (hd:o.dst=some t) (hg:s.gd ops o=some true) (hf:us.all s.f=true) (h:DA P ops draw l ((R,aq hs) :: acc) (s.app (some t) ⟨d,hs,us⟩) K):DA P ops draw (o :: l) acc s K :=
 HH he hg hf (by rw [hd];exact h)
theorem bW {draw:Bool} {o:Oper} {l:List Oper} {acc:List (List Nat×List Nat)} {R us:List Nat} {d:TV} {hs:List (Nat×Option Box)} (he:LOp P o s R ⟨d,hs,us⟩) (hd:o.dst=none) (hg:s.gd ops o=some true) (hf:us.all s.f=true) (h:DA P ops draw l ((R,aq hs) :: acc) (s.app none ⟨d,hs,us⟩) K):DA P ops draw (o :: l) acc s K :=
 HH he hg hf (by rw [hd];exact h)
theorem DU {draw:Bool} {o:Oper} {l:List Oper} {acc:List (List Nat×List Nat)} {t:Nat} (hd:o.dst=some t) (hg:s.gd ops o=some false) (h:DA P ops draw l (([],[]) :: acc) (s.app (some t) ⟨.c (.sc undef),[],[]⟩) K):DA P ops draw (o :: l) acc s K:=by
 obtain ⟨fps,h3,h4⟩:=h;exact ⟨([],[]) :: fps,⟨[],[],fps,rfl,false,hg,fun h=>(by cases h),fun _=>by rw [hd];exact h3⟩,fun hd=>by simpa using h4 hd⟩
theorem OG {id:Nat} {l:List Oper} (hnt:fW nt l=true) (h:DA P l.toArray false l [] s fun s'=>Q .normal s'):AW P nt Ks (.region id l.toArray false) Q s:=by
 obtain ⟨fps,h1,_⟩:=h;exact Fr hnt h1
theorem Mm {id:Nat} {l:List Oper} (hm:P.follows .mixedOrders=true) (hnt:fW nt l=true) (h:DA P l.toArray true l [] s fun s'=>Q .normal s'):AW P nt Ks (.region id l.toArray true) Q s:=by
 obtain ⟨fps,h1,h2⟩:=h;exact uC hm hnt h1 (by simpa using h2 rfl)
theorem OH {id:Nat} {l:List Oper} {y:Code} (hnt:fW nt l=true) (h:DA P l.toArray false l [] s fun s'=>AW P nt Ks y Q s'):AW P nt Ks (.seq (.region id l.toArray false) y) Q s:=uF (OG hnt h)
theorem Ng {id:Nat} {l:List Oper} {y:Code} (hm:P.follows .mixedOrders=true) (hnt:fW nt l=true) (h:DA P l.toArray true l [] s fun s'=>AW P nt Ks y Q s'):AW P nt Ks (.seq (.region id l.toArray true) y) Q s:=uF (Mm hm hnt h)
theorem P6 {i:Nat} (h:Q .normal s):fX i Q (.exit i) s:=by simpa [fX] using h
theorem P7 {i j:Nat} (hj:j.beq i=false) (h:Q (.exit j) s):fX i Q (.exit j) s:=by simpa [fX,hj] using h
theorem P8 {fn:Func} {t:Nat} {x:V0} {res:TV} {e:Exit} (he:e = .normal\/e = .ret) (hr:fn.results.toList=[.tmp t]) (hx:s.t t = .v x) (h:TVLe s (qf []) (fun j=>∀k:Nat,hput [] (fun _=>none) k≠none->qf [] k≠j) (.v x) res):sF P fn [] res [] e s :=
 uH he [x] (qf []) (by rw [hr];exact ⟨.tmp hx,trivial⟩) rfl rfl trivial h
theorem Nh {fn:Func} {hin:List (Nat×Box)} {r1:ResultVar} {x1:V0} {res:TV} {hout:List (Nat×Option Box)} {e:Exit} (q:Nat->Nat) (he:e = .normal\/e = .ret) (hr:fn.results.toList=[r1]) (h1:RV P s r1 x1) (hq:(aq hin).all (fun k=>(q k).beq k)=true) (hn:eM ((aq (hout.filter fun x=>x.2.isSome)).map q)=true) (hh:tm s q (fun j=>∀k,hput hout (fun _=>none) k≠none->q k≠j) hout)
  (h:TVLe s q (fun j=>∀k,hput hout (fun _=>none) k≠none->q k≠j) (.v x1) res):sF P fn hin res hout e s:=uH he [x1] q (by rw [hr];exact ⟨h1,trivial⟩) hq hn hh h
theorem Ni {fn:Func} {hin:List (Nat×Box)} {r1 r2:ResultVar} {x1 x2:V0} {res:TV} {hout:List (Nat×Option Box)} {e:Exit} (q:Nat->Nat) (he:e = .normal\/e = .ret) (hr:fn.results.toList=[r1,r2]) (h1:RV P s r1 x1) (h2:RV P s r2 x2) (hq:(aq hin).all (fun k=>(q k).beq k)=true) (hn:eM ((aq (hout.filter fun x=>x.2.isSome)).map q)=true) (hh:tm s q (fun j=>∀k,hput hout (fun _=>none) k≠none->q k≠j) hout)
  (h:TVLe s q (fun j=>∀k,hput hout (fun _=>none) k≠none->q k≠j) (.tup [x1,x2]) res):sF P fn hin res hout e s:=uH he [x1,x2] q (by rw [hr];exact ⟨h1,h2,trivial⟩) hq hn hh h
theorem Nj {fn:Func} {hin:List (Nat×Box)} {r1 r2 r3:ResultVar} {x1 x2 x3:V0} {res:TV} {hout:List (Nat×Option Box)} {e:Exit} (q:Nat->Nat) (he:e = .normal\/e = .ret) (hr:fn.results.toList=[r1,r2,r3]) (h1:RV P s r1 x1) (h2:RV P s r2 x2) (h3:RV P s r3 x3) (hq:(aq hin).all (fun k=>(q k).beq k)=true) (hn:eM ((aq (hout.filter fun x=>x.2.isSome)).map q)=true) (hh:tm s q (fun j=>∀k,hput hout (fun _=>none) k≠none->q k≠j) hout)
  (h:TVLe s q (fun j=>∀k,hput hout (fun _=>none) k≠none->q k≠j) (.tup [x1,x2,x3]) res):sF P fn hin res hout e s:=uH he [x1,x2,x3] q (by rw [hr];exact ⟨h1,h2,h3,trivial⟩) hq hn hh h
theorem Nk {fn:Func} {hin:List (Nat×Box)} {hout:List (Nat×Option Box)} {e:Exit} (q:Nat->Nat) (he:e = .normal\/e = .ret) (hr:fn.results.toList=[]) (hq:(aq hin).all (fun k=>(q k).beq k)=true) (hn:eM ((aq (hout.filter fun x=>x.2.isSome)).map q)=true) (hh:tm s q (fun j=>∀k,hput hout (fun _=>none) k≠none->q k≠j) hout):sF P fn hin (.tup []) hout e s:=uH he [] q (by rw [hr];trivial) hq hn hh (.tup trivial)
theorem CE {fn:Func} {t:Nat} {v v':Value} {e:Exit} (he:e = .normal\/e = .ret) (hr:fn.results.toList=[.tmp t]) (hx:s.t t = .c (.sc v)) (h:v=v'):sF P fn [] (.c (.sc v')) [] e s :=
 P8 he hr hx (by subst h;exact .v (.one (.ren (.sc v))))
theorem Nl {q:Nat->Nat} {g:Nat->Prop}:∀(l:List D),All2 (DLe s q g) (l.map (D.ren q)) l
 | []=>trivial
 | d :: l=>⟨.ren d,Nl l⟩
theorem Mn {q:Nat->Nat} {g:Nat->Prop} (d:V0):V0Le s q g (d.ren q) d:=by
 cases d with
 | one d=>exact .one (.ren d)
 | ag l=>exact .ag (Nl l)
theorem OI {q:Nat->Nat} {g:Nat->Prop} (d:TV):TVLe s q g (d.ren q) d:=by
 cases d with
 | v d=>exact .v (Mn d)
 | tup l =>
  refine .tup ?_;induction l with
  | nil=>trivial
  | cons d l ih=>exact ⟨Mn d,ih⟩
theorem Nm {q:Nat->Nat} {g:Nat->Prop} (b:Box):BoxLe s q g (b.ren q) b:=by
 cases b with
 | box t l=>exact .box t (Nl l)
 | arr e E l=>exact .arr e E l
 | mp l=>exact .mp l
 | it k n l=>exact .it k n l
theorem fD {q:Nat->Nat} {g:Nat->Prop} {d0 d:D} (h:d0=d.ren q):DLe s q g d0 d:=h▸.ren d
theorem fE {hout:List (Nat×Option Box)} {q:Nat->Nat} {j:Nat} (h:aI ((aq (hout.filter fun x=>x.2.isSome)).map q) j=false):∀k,hput hout (fun _=>none) k≠none->q k≠j:=fun k hk e=>by
 cases h9:hput hout (fun _=>none) k with
 | none=>exact hk h9
 | some b =>
  have:aI ((aq (hout.filter fun x=>x.2.isSome)).map q) j=true:=by rw [bJ,<-e];exact List.mem_map.2 ⟨k,bJ.1 (by rw [bJ];exact List.mem_map.2 ⟨(k,some b),List.mem_filter.2 ⟨oZ h9,rfl⟩,rfl⟩),rfl⟩
  rw [this] at h;cases h
theorem gO {q:Nat->Nat} {g:Nat->Prop} {b0 b:Box} (h:b0=b.ren q):BoxLe s q g b0 b:=h▸Nm b
theorem ke {q:Nat->Nat} {g:Nat->Prop} {d0 d:TV} (h:d0=d.ren q):TVLe s q g d0 d:=h▸OI d
theorem HW {w:World} {F:Nat->Prop} {ρ:Nat->Value} {d:D} {v:Value} (h:d.rep w F ρ v) {α:Type} {E:El α} {l:List α} (hd:d = .sl E l):l.length<=9223372036854775807:=by
 subst hd;obtain ⟨A,cap,_,h1,_⟩:=h;have:=h1.2;simp only [maxLen] at this;omega
theorem ck {c:Ctx} {ρ:Nat->Value} {a:Act} {w:World} (hr:Rp c s ρ a w) {t:Nat} {α:Type} {E:El α} {l:List α} (h:s.t t = .c (.sl E l)):l.length<=9223372036854775807:=by
 have h1:=hr.tmp t;rw [h] at h1;have h1:(D.sl E l).rep w (Fz c s.h ρ w) ρ (a.tmps.getD t undef):=h1;exact HW h1 rfl
theorem cG {c:Ctx} {ρ:Nat->Value} {a:Act} {w:World} (hr:Rp c s ρ a w) {t i:Nat} {cs:List D} {α:Type} {E:El α} {l:List α} (h:s.t t = .v (.ag cs)) (hi:cs[i]? = some (.sl E l)):l.length<=9223372036854775807:=by
 have:=hr.tmp t;rw [h] at this;obtain ⟨vs,_,h2⟩:=this;obtain ⟨v,_,h3⟩:=h2.get hi;exact HW h3 rfl
end
section
variable {P:Program} {s:Mst} {o:Oper} {α:Type} {E:El α} {l:List α} {e':TypeId}
theorem mQ {c:Ctx} {st:Mst} {ρ:Nat->Value} {a:Act} {w:World} {F:Nat->Prop} (hr:Rp c st ρ a w) {k:Nat} (hk:st.h k=some (.arr e' E l)) {v:Value} (hv:(D.ocut k).rep w F ρ v) :
  ∃A cap cp,v = .slice A l.length cp/\(l.length<=cp/\cp<=cap/\cap<=maxLen)/\ρ k = .slice A l.length cap/\(0<l.length->∃g,A=some ⟨g,0,none⟩):=by
 obtain ⟨A0,n0,cap0,c0,hρ0,hc0,rfl⟩:=hv;obtain ⟨A,cap,hA,hc,hp⟩:=dP (hr.hp k _ hk);have hA':=hA;rw [hρ0] at hA';injection hA' with e1 e2 e3;subst e1;subst e2;subst e3;exact ⟨A0,cap0,c0,rfl,⟨hc0.1,hc0.2,hc.2⟩,hρ0,fun h=>by obtain ⟨g,xs,rfl,_⟩:=hp h;exact ⟨g,rfl⟩⟩
theorem sS {t e:TypeId} {x y:Operand} {row:Bool} {n i k:Nat} {kd:IntKind} {z:Int} (ho:o.op = .indexAddr t x y) (hx:s.ev x = .c (.ocut k)) (hk:s.h k=some (.arr e' E l)) (hy:s.ev y = .c (.sc (.int kd z))) [SE P t e] [TI P e row n] (hn:E.n=n) (hz:z=(i:Int)) (hi:i<l.length) :
  LOp P o s [k] ⟨.c (.optr k n i 0),[],[]⟩ :=
 bq fun c st ρ a w hr h1 h2=>by
  have he:=h1 x (by simp [ho,Op.operands]);have he2:=h1 y (by simp [ho,Op.operands]);rw [hx] at he;rw [hy] at he2;have hv:=hr.ev x;rw [he] at hv;have hv2:=hr.ev y;rw [he2] at hv2;have hv2:a.eval y = .int kd z:=hv2;obtain ⟨A,cap,cp,hv,hc,hρ,hp⟩:=mQ hr ((h2 k (by simp [aI])).trans hk) (show (D.ocut k).rep w (Fz c st.h ρ w) ρ (a.eval x) from hv);obtain ⟨g,rfl⟩:=hp (by omega);subst hz;subst hn;refine ⟨.pointer (some ⟨g,0+i*E.n,none⟩),by unfold execOp;rw [ho];simp only [hv,hv2,Sem.run_bind,i9 w l.length cp i hi,Result.andThen_ok,Sem.run_pure],⟨g,_,_,hρ,by simp⟩,fun k' hk'=>hr.nf (x:=x) he (by simpa [TV.has,V0.has,D.has] using hk')⟩
theorem FT {t e:TypeId} {x:Operand} {k:Nat} [SE P t e] (ho:o.op = .call { callee:=.builtin .len,args:=#[x],argTypes:=#[t] }) (hx:s.ev x = .c (.ocut k)) (hk:s.h k=some (.arr e' E l)):LOp P o s [k] ⟨.i l.length,[],[]⟩ :=
 iF (ty:=0) ho fun c st ρ a w hr he h2=>by
  have hv:=hr.ev x;rw [he,hx] at hv;obtain ⟨A,cap,cp,hv,_⟩:=mQ hr ((h2 k (by simp [aI])).trans hk) (show (D.ocut k).rep w (Fz c st.h ρ w) ρ (a.eval x) from hv);exact ⟨A,cp,hv⟩
theorem Ib {t e:TypeId} {x y z:Operand} {row:Bool} {n i k:Nat} (ho:o.op = .slice t x none (some y) (some z)) (hx:s.ev x = .c (.ocut k)) (hk:s.h k=some (.arr e' E l)) (hy:s.ev y = .i i) (hz:s.ev z = .i i) [I:SE P t e] [J:TI P e row n] (hn:E.n=n) (hi:i<=l.length) (h0:0<l.length) :
  LOp P o s [k] ⟨.c (.osl k n 0 i true),[],[]⟩ :=
 bq fun c st ρ a w hr h1 h2=>by
  have he:=h1 x (by simp [ho,Op.operands]);rw [hx] at he;have hv:=hr.ev x;rw [he] at hv;have hv2:a.eval y = .int .i64 (i:Int):=by have:=hr.ev y;rwa [h1 y (by simp [ho,Op.operands]),hy] at this
  have hv3:a.eval z = .int .i64 (i:Int):=by have:=hr.ev z;rwa [h1 z (by simp [ho,Op.operands]),hz] at this
  obtain ⟨A,cap,cp,hv,hc,hρ,hp⟩:=mQ hr ((h2 k (by simp [aI])).trans hk) (show (D.ocut k).rep w (Fz c st.h ρ w) ρ (a.eval x) from hv);obtain ⟨g,rfl⟩:=hp h0;obtain ⟨j,hj,hjn⟩:∃j,P.info? e=some j/\j.size=n:=by
   have:=J.s;cases h:P.info? e with
   | none=>simp [h] at this
   | some j=>exact ⟨j,rfl,by simpa [h] using this⟩
  subst hjn;refine ⟨.slice (some ⟨g,0,none⟩) i i,?_,⟨g,_,_,i,⟨g,0,none⟩,hρ,⟨Nat.zero_le _,hi,by omega,by omega⟩,fun _=>by omega,by simp,fun _=>by simp⟩,fun k' hk'=>hr.nf (x:=x) he (by simpa [TV.has,V0.has,D.has] using hk')⟩;unfold execOp;rw [ho];have h3:i<=cp:=by omega
  by_cases hi0:i=0
  ·subst hi0;simp [hv,hv2,hv3,Instr.sliceAt,Instr.slice,Instr.sliceBounds,Instr.sliceBound,asIntOf,run_underlying I.u,sizeOf,typeInfo,hj]
  ·simp [hv,hv2,hv3,Instr.sliceAt,Instr.slice,Instr.sliceBounds,Instr.sliceBound,asIntOf,run_underlying I.u,sizeOf,typeInfo,hj,h3,hi0,dd]
theorem Ic {t e:TypeId} {x y:Operand} {row:Bool} {n j k:Nat} (ho:o.op = .slice t x (some y) none none) (hx:s.ev x = .c (.ocut k)) (hk:s.h k=some (.arr e' E l)) (hy:s.ev y = .i j) [I:SE P t e] [J:TI P e row n] (hn:E.n=n) (hj:j<=l.length) (h0:0<l.length) :
  LOp P o s [k] ⟨.c (.osl k n j l.length false),[],[]⟩ :=
 bq fun c st ρ a w hr h1 h2=>by
  have he:=h1 x (by simp [ho,Op.operands]);rw [hx] at he;have hv:=hr.ev x;rw [he] at hv;have hv2:a.eval y = .int .i64 (j:Int):=by have:=hr.ev y;rwa [h1 y (by simp [ho,Op.operands]),hy] at this
  obtain ⟨A,cap,cp,hv,hc,hρ,hp⟩:=mQ hr ((h2 k (by simp [aI])).trans hk) (show (D.ocut k).rep w (Fz c st.h ρ w) ρ (a.eval x) from hv);obtain ⟨g,rfl⟩:=hp h0;obtain ⟨q,hq,hqn⟩:∃q,P.info? e=some q/\q.size=n:=by
   have:=J.s;cases h:P.info? e with
   | none=>simp [h] at this
   | some q=>exact ⟨q,rfl,by simpa [h] using this⟩
  subst hqn;have h3:j<=cp:=by omega
  refine ⟨.slice (some (if cp=j then ⟨g,0,none⟩ else ⟨g,j*q.size,none⟩)) (l.length-j) (cp-j),?_,⟨g,_,_,cp-j,_,hρ,⟨hj,Nat.le_refl _,by omega,by omega⟩,(fun h=>by cases h),rfl,fun h=>?_⟩,fun k' hk'=>hr.nf (x:=x) he (by simpa [TV.has,V0.has,D.has] using hk')⟩
  ·unfold execOp;rw [ho];by_cases hi0:cp=j
   ·exact RI
   ·exact RJ
  ·rcases h with h|h
   ·subst h;simp
   ·rw [if_neg (by omega)]
theorem dl {t e:TypeId} {row:Bool} {n:Nat} {z:Int} {x y:Operand} {L L':List α} [I:SE P t e] [J:TI P e row n] (ho:o.op = .slice t x (some y) none none) (hx:s.ev x = .c (.sl E L)) (hn:E.n=n) (hy:s.ev y = .i z) (h0:0<=z) (h1:z.toNat<=L.length) (hL:L.drop z.toNat=L'):LOp P o s [] ⟨.c (.sl E L'),[],[]⟩ :=
 qO ho hx hn (.inl ⟨y,rfl,by rw [hy,Int.toNat_of_nonneg h0]⟩) (.inr ⟨rfl,rfl⟩) h1 (Nat.le_refl _) (by rw [List.take_length];exact hL)
theorem vf {t e:TypeId} {row:Bool} {n:Nat} {z:Int} {x y:Operand} {L L':List α} [I:SE P t e] [J:TI P e row n] (ho:o.op = .slice t x none (some y) none) (hx:s.ev x = .c (.sl E L)) (hn:E.n=n) (hy:s.ev y = .i z) (h0:0<=z) (h1:z.toNat<=L.length) (hL:L.take z.toNat=L'):LOp P o s [] ⟨.c (.sl E L'),[],[]⟩ :=
 qO ho hx hn (.inr ⟨rfl,rfl⟩) (.inl ⟨y,rfl,by rw [hy,Int.toNat_of_nonneg h0]⟩) (Nat.zero_le _) h1 (by rw [List.drop_zero];exact hL)
theorem AD {t e:TypeId} {x y:Operand} {row:Bool} {n:Nat} {kd:IntKind} {z:Int} (ho:o.op = .indexAddr t x y) (hx:s.ev x = .c (.sl E l)) (hy:s.ev y = .c (.sc (.int kd z))) [SE P t e] [TI P e row n] (hn:E.n=n) (h0:0<=z) (hi:z.toNat<l.length):LOp P o s [] ⟨.c (.eptr E l z.toNat 0),[],[]⟩ :=
 xv ho hx hy hn (Int.toNat_of_nonneg h0).symm hi
theorem yV {t e:TypeId} {x y:Operand} {row:Bool} {n k:Nat} {kd:IntKind} {z:Int} (ho:o.op = .indexAddr t x y) (hx:s.ev x = .c (.own k)) (hk:s.h k=some (.arr e' E l)) (hy:s.ev y = .c (.sc (.int kd z))) [SE P t e] [TI P e row n] (hn:E.n=n) (h0:0<=z) (hi:z.toNat<l.length):LOp P o s [k] ⟨.c (.optr k n z.toNat 0),[],[]⟩ :=
 sE ho hx hk hy hn (Int.toNat_of_nonneg h0).symm hi
theorem yW {t e:TypeId} {x y:Operand} {row:Bool} {n k:Nat} {kd:IntKind} {z:Int} (ho:o.op = .indexAddr t x y) (hx:s.ev x = .c (.ocut k)) (hk:s.h k=some (.arr e' E l)) (hy:s.ev y = .c (.sc (.int kd z))) [SE P t e] [TI P e row n] (hn:E.n=n) (h0:0<=z) (hi:z.toNat<l.length):LOp P o s [k] ⟨.c (.optr k n z.toNat 0),[],[]⟩ :=
 sS ho hx hk hy hn (Int.toNat_of_nonneg h0).symm hi
theorem CN {t e by_ n i j k k':Nat} {x y:Operand} {l':List α} [T:ST P E t e by_] (ho:o.op = .call { callee:=.builtin .append,args:=#[x,y],argTypes:=#[t,t] }) (hdk:o.dst=some k') (hx:s.ev x = .c (.osl k n 0 i true)) (hy:s.ev y = .c (.osl k n j l.length false)) (hk:s.h k=some (.arr e E l))
  (hn:E.n=n) (hi:i<=l.length) (hj:j<=l.length) (hl':l.take i++l.drop j=l') (hlen:i+(l.length-j)<=maxLen) (hby:(i+(l.length-j))*by_<=140737488355328):LOp P o s [k] ⟨.c (.ocut k'),[(k',some (.arr e E l')),(k,none)],[k']⟩:=by
 intro c st ρ a w hr h1 h2 h3 h4;subst hl';subst hn;have hfk:st.f k'=true:=h3 k' (by simp [aI]);have hk2:=(h2 k (by simp [aI])).trans hk;have hne:k'.beq k=false:=by
  cases h9:k'.beq k with
  | false=>rfl
  | true=>rw [<-qNb h9,hr.wf.h k' hfk] at hk2;cases hk2
 have hv1:=hr.ev x;rw [h1 x (by simp [ho,Op.operands,Call.operands]),hx] at hv1;obtain ⟨g,nn,cap,c1,A1,hρ1,⟨_,b2,b3,b4⟩,b5,hv1,b6⟩:=(show (D.osl k E.n 0 i true).rep w (Fz c st.h ρ w) ρ (a.eval x) from hv1);have hv2:=hr.ev y;rw [h1 y (by simp [ho,Op.operands,Call.operands]),hy] at hv2;obtain ⟨g2,nn2,cap2,c2,A2,hρ2,⟨d1,d2,d3,d4⟩,_,hv2,d6⟩:=(show (D.osl k E.n j l.length false).rep w (Fz c st.h ρ w) ρ (a.eval y) from hv2);rw [hρ1] at hρ2;injection hρ2 with e1 e2 e3;injection e1 with e1;injection e1 with e1;subst e1;subst e2;subst e3;obtain rfl:A1=⟨g,0,none⟩:=by have:=b6 (.inl rfl);simpa using this
 obtain rfl:c1=i:=by have:=b5 rfl;omega
 obtain ⟨xs,hown,hreps⟩:=hr.hp k _ hk2;have hxl:=hown.1;have hpos:=E.pos;obtain ⟨g3,cap3,cur,hq,_,hh,hnc,hcm,hcs,ht⟩:∃g' cap' cur,ρ k = .slice (some ⟨g',0,none⟩) l.length cap'/\0<=g'/\w.heap[g']? = some (.cells cur e (0,0))/\l.length<=cap'/\cap'<=maxLen/\cur.size=cap'*E.n/\cur.toList.take (l.length*E.n)=xs:=by
  rcases hown.2 with ⟨hv,_⟩|⟨g',cap',cur,hv,h0,hh,r⟩
  ·rw [hρ1] at hv;cases hv
  ·exact ⟨g',cap',cur,hv,h0,hh,r⟩
 rw [hρ1] at hq;injection hq with e1 e2 e3;injection e1 with e1;injection e1 with e1;subst e1;subst e2;subst e3;have hcell:∀q u,xs[q]? = some u->w.cell? ⟨g,q,none⟩=some u:=fun q u hu=>by
  rw [cell_of_row w g q cur e (0,0) hh,<-Array.getElem?_toList];rw [<-ht,List.getElem?_take] at hu;split at hu
  ·exact hu
  ·cases hu
 have hkb:kb (ρ k)=some g:=by rw [hρ1];rfl
 have key:∃v' vg w' zs,(execOp a.eval o).run P w = .ok (.value v') w'/\Below w.heap.size w w'/\w'.ownsRow 0 e E.n vg (l.take c1++l.drop j).length zs/\Reps E w (Fz c st.h ρ w) (l.take c1++l.drop j) zs/\(∃A n cap c,vg = .slice A n cap/\(n<=c/\c<=cap)/\v' = .slice A n c)/\∀g',kb vg=some g'->g'<w'.heap.size/\(w.heap.size<=g'\/g'=g):=by
  have hr1:Reps E w (Fz c st.h ρ w) (l.take c1) (xs.take (c1*E.n)):=hreps.take c1;have hr2:Reps E w (Fz c st.h ρ w) (l.drop j) (xs.drop (j*E.n)):=hreps.drop j;have hl1:(xs.take (c1*E.n)).length=c1*E.n:=by rw [List.length_take,hxl];exact Nat.min_eq_left (Nat.mul_le_mul_right _ hi)
  have hl2:(xs.drop (j*E.n)).length=(l.length-j)*E.n:=by rw [List.length_drop,hxl,Nat.sub_mul]
  have hlr:(l.take c1++l.drop j).length=c1+(l.length-j):=by simp [Nat.min_eq_left hi]
  obtain ⟨ti,z,hi1,hi2,hi3,hi4,hi5⟩:=T.T.info;have hexec:∀v' w',(Builtin.append_ #[t,t] o.type #[.slice (some ⟨g,0,none⟩) c1 c1,.slice (some A2) (l.length-j) c2]).run P w = .ok v' w'->(execOp a.eval o).run P w = .ok (.value v') w':=fun v' w' hrun=>by
   unfold execOp;simp only [ho,resolve,invoke,builtin,Sem.run_bind,Sem.run_pure,Result.andThen_ok,List.map_toArray,List.map_cons,List.map_nil,hv1,hv2,Nat.sub_zero,hrun]
  by_cases hm:l.length-j=0
  ·have hd:l.drop j=[]:=qDn (by omega);have hrun:=run_append_room_cells (P:=P) w t o.type e ti T.T.under hi1 g 0 c1 c1 A2 0 c2 [] (by simp) (by simp) (by simp) (by omega) (by simp) (by simp);rw [hm] at hexec;refine ⟨_,.slice (some ⟨g,0,none⟩) c1 cap,w,xs.take (c1*E.n),hexec _ _ hrun,Below.refl _ _,⟨by rw [hlr,hm,hl1];rfl,.inr ⟨g,cap,cur,by rw [hlr,hm];rfl,Nat.zero_le _,hh,by rw [hlr,hm];omega,hcm,hcs,?_⟩⟩,by rw [hd,List.append_nil];exact hr1,⟨some ⟨g,0,none⟩,c1,cap,c1,rfl,⟨Nat.le_refl _,by omega⟩,rfl⟩,fun g' hg'=>?_⟩
   ·rw [hlr,hm,<-ht,List.take_take,Nat.min_eq_left (Nat.mul_le_mul_right _ (by omega))];rfl
   ·injection hg' with hg';subst hg';exact ⟨(Array.getElem?_eq_some_iff.1 hh).1,.inr rfl⟩
  ·obtain rfl:A2=⟨g,j*E.n,none⟩:=d6 (.inr (by omega));obtain ⟨v',w',hrun,hown',hgr⟩:=run_append_arg_grows (P:=P) w t o.type e ti z E.n by_ T.T.under hi1 hi2 hi3 hi5 hi4 hpos ⟨g,0,none⟩ c1 c1 (xs.take (c1*E.n)) hl1 (fun q u hu=>by
    rw [dd,Nat.zero_add];rw [List.getElem?_take] at hu;split at hu
    ·exact hcell q u hu
    ·cases hu) ⟨g,j*E.n,none⟩ (l.length-j) c2 (xs.drop (j*E.n)) hl2 (fun q u hu=>by
    rw [dd];rw [List.getElem?_drop] at hu;exact hcell _ u hu) (by omega) hlen hby
   have hform:∃g' cap',v' = .slice (some ⟨g',0,none⟩) (c1+(l.length-j)) cap'/\w.heap.size<=g'/\g'<w'.heap.size/\c1+(l.length-j)<=cap':=by
    rcases hown'.2 with ⟨_,hz⟩|⟨g',cap',cur',hv,hb,hh',hnc',_⟩
    ·omega
    ·exact ⟨g',cap',hv,hb,(Array.getElem?_eq_some_iff.1 hh').1,hnc'⟩
   obtain ⟨g',cap',rfl,hb1,hb2,hb3⟩:=hform;refine ⟨_,_,w',_,hexec _ _ hrun,⟨hgr.os,hgr.tape,hgr.output,hgr.size,fun b hb=>hgr.block b hb (by simp)⟩,by rw [hlr];exact ⟨hown'.1,hown'.2.imp id fun ⟨a1,a2,a3,a4,_,a6⟩=>⟨a1,a2,a3,a4,Nat.zero_le _,a6⟩⟩,hr1.append hr2,⟨_,_,cap',cap',rfl,⟨hb3,Nat.le_refl _⟩,rfl⟩,fun q hq=>?_⟩;injection hq with hq;subst hq;exact ⟨hb2,.inl hb1⟩
 obtain ⟨v',vg,w',zs,hrun,hB,hown',hreps',⟨A',n',cap',c',hvg,hcc,hv'⟩,hg'⟩:=key;have hky:∀n,aF [(k',some (Box.arr e E (l.take c1++l.drop j))),(k,none)] n=true↔n=k'\/n=k:=fun n=>by
  simp only [aF,Bool.or_false,Bool.or_eq_true];constructor
  ·rintro (h|h)
   ·exact .inl (qNb h).symm
   ·exact .inr (qNb h).symm
  ·rintro (rfl|rfl)
   ·exact .inl (Nat.beq_refl _)
   ·exact .inr (Nat.beq_refl _)
 have hputk:hput [(k',some (Box.arr e E (l.take c1++l.drop j))),(k,none)] st.h k'=some (.arr e E (l.take c1++l.drop j)):=by simp [hput]
 have hputr:hput [(k',some (Box.arr e E (l.take c1++l.drop j))),(k,none)] st.h k=none:=by simp [hput,hne]
 have hsm:∀n bx,aF [(k',some (Box.arr e E (l.take c1++l.drop j))),(k,none)] n=true->hput [(k',some (Box.arr e E (l.take c1++l.drop j))),(k,none)] st.h n=some bx->n=k'/\bx = .arr e E (l.take c1++l.drop j):=fun n bx hn hb=>by
  rcases (hky n).1 hn with rfl|rfl
  ·exact RC
  ·rw [hputr] at hb;cases hb
 have hFz:∀b,Fz c st.h ρ w b->Fz c (hput [(k',some (Box.arr e E (l.take c1++l.drop j))),(k,none)] st.h) (upd ρ k' vg) w' b/\w'.heap[b]? = w.heap[b]?:=fun b hb=>by
  refine ⟨⟨hb.1,Nat.lt_of_lt_of_le hb.2.1 hB.size,fun n bx hn he=>?_⟩,hB.block b hb.2.1⟩;cases h9:aF [(k',some (Box.arr e E (l.take c1++l.drop j))),(k,none)] n with
  | true =>
   obtain ⟨rfl,_⟩:=hsm n bx h9 hn;rw [aN] at he;rcases (hg' b he).2 with h|h
   ·have:=hb.2.1;omega
   ·subst h;exact hb.2.2 k _ hk2 hkb
  | false =>
   rw [cc h9] at hn;have hkn:k'.beq n=false:=by
    cases h8:k'.beq n with
    | false=>rfl
    | true=>rw [<-qNb h8,hr.wf.h k' hfk] at hn;cases hn
   rw [dQ hkn] at he;exact hb.2.2 n bx hn he
 refine Oper.wp_value hrun ⟨upd ρ k' vg,hr.app (e:=⟨.c (.ocut k'),[(k',some (.arr e E (l.take c1++l.drop j))),(k,none)],[k']⟩) h4 (fun n hn=>?_) (fun n hn=>dQ (by simpa [aI] using hn)) (fun n hn=>?_) (Frx.below hB) (fun n bx g' hn hb hg=>?_) (fun n n' b b' g' hn hn' hb hb' _ _=>?_) (fun n hn=>.inl ?_) (fun n n' bx hn hb hx2=>?_) (fun n bx hn hb=>?_) ?_⟩
 ·have:n=k':=by simp [aI] at hn;exact hn.symm
  subst this;exact ⟨hfk,(hky n).2 (.inl rfl)⟩
 ·rcases (hky n).1 hn with rfl|rfl
  ·exact .inl (by simp [aI])
  ·exact .inr (hr.nfh hk2)
 ·obtain ⟨rfl,_⟩:=hsm n bx hn hb;rw [aN] at hg;exact ⟨(hg' g' hg).1,(hg' g' hg).2.imp id fun h=>by subst h;exact ⟨k,_,(hky k).2 (.inr rfl),hk2,hkb⟩⟩
 ·rw [(hsm n b hn hb).1,(hsm n' b' hn' hb').1]
 ·have:n=k':=by simp [TV.has,V0.has,D.has] at hn;exact hn.symm
  subst this;simp [aI]
 ·rw [(hsm n' bx hn hb).2] at hx2;simp [Box.has] at hx2
 ·obtain ⟨rfl,rfl⟩:=hsm n bx hn hb;rw [aN];exact ⟨zs,hown',hreps'.same (fun b hb=>(hFz b hb).2) fun b hb=>(hFz b hb).1⟩
 ·exact ⟨A',n',cap',c',(aN ρ k' vg).trans hvg,hcc,hv'⟩
theorem Ie {x y z:Operand} {b:Bool} {v:V0} (ho:o.op = .pick x y z) (hx:s.ev x = .b b) (hv:(bif b then s.ev y else s.ev z) = .v v):LOp P o s [] ⟨.v v,[],[]⟩ :=
 bq fun c st ρ a w hr h1 _=>by
  have he:=h1 x (by simp [ho,Op.operands]);rw [hx] at he;have hb:a.eval x = .bool b:=by have:=hr.ev x;rwa [he] at this
  cases b with
  | true =>
   have he2:=h1 y (by simp [ho,Op.operands]);rw [show s.ev y = .v v from hv] at he2;exact ⟨a.eval y,by unfold execOp;rw [ho];simp [hb,asBool],by have:=hr.ev y;rwa [he2] at this,fun k hk=>hr.nf he2 hk⟩
  | false =>
   have he2:=h1 z (by simp [ho,Op.operands]);rw [show s.ev z = .v v from hv] at he2;exact ⟨a.eval z,by unfold execOp;rw [ho];simp [hb,asBool],by have:=hr.ev z;rwa [he2] at this,fun k hk=>hr.nf he2 hk⟩
theorem jM {t e k n by_:Nat} {x y:Operand} {z:Value} {y0:α} (I:P.underlying t=some (.slice e)) (hI:(P.info? e).map (fun i=>(i.zero,i.size,i.bytes))=some (some z,1,by_)) (hz:z.cells = #[z]) (hb:by_<=64) (hE:E.n=1) (hy0:∀w S,E.rep w S y0 [z])
  (ho:o.op = .makeSlice t x y) (hdk:o.dst=some k) (hx:s.ev x = .i n) (hy:s.ev y = .i n) (hn:n<=1000000):LOp P o s [] ⟨.c (.own k),[(k,some (.arr e E (List.replicate n y0)))],[k]⟩:=by
 intro c st ρ a w hr h1 h2 h3 h4;have hv1:a.eval x = .int .i64 (n:Int):=by have:=hr.ev x;rwa [h1 x (by simp [ho,Op.operands]),hx] at this
 have hv2:a.eval y = .int .i64 (n:Int):=by have:=hr.ev y;rwa [h1 y (by simp [ho,Op.operands]),hy] at this
 have hfk:st.f k=true:=h3 k (by simp [aI]);have hrun:=Nf (P:=P) t e z by_ I hI hz hb n hn w;have ho1:=World.ownsRow_lit (e:=e) (size:=E.n) (base:=0) w (madeCells #[z] n) n (Nat.zero_le _) (by simp only [maxLen];omega) (by rw [size_madeCells,hE,Nat.mul_one]);rw [toList_madeCells_one] at ho1;have hgen:∀(S:Nat->Prop) (q:Nat),Reps E (w.alloc (.cells (madeCells #[z] n) e)) S (List.replicate q y0) (List.replicate q z):=by
  intro S q;induction q with
  | zero=>rfl
  | succ q ih=>exact ⟨[z],List.replicate q z,rfl,hy0 _ _,ih⟩
 have hkk:∀k':Nat,aF [(k,some (Box.arr e E (List.replicate n y0)))] k'=true->k'=k:=fun k' h=>by
  exact Q0
 refine Oper.wp_value (v:=.slice (some ⟨w.heap.size,0,none⟩) n n) (w':=w.alloc (.cells (madeCells #[z] n) e)) ?_ ⟨upd ρ k (.slice (some ⟨w.heap.size,0,none⟩) n n),hr.app (e:=⟨.c (.own k),[(k,some (.arr e E (List.replicate n y0)))],[k]⟩) h4 (fun k' h=>?_) (fun k' h=>?_) (fun k' h=>.inl ?_) (Frx.alloc _ _ _) (fun k' bx g' h _ hg'=>?_) (fun k1 k2 _ _ _ h h' _ _ _ _=>?_) (fun k' h=>.inl ?_) (fun k1 k2 bx h hp hx=>?_) (fun k2 bx h hp=>?_) ?_⟩
 ·unfold execOp;rw [ho];simp only [hv1,hv2,Sem.run_bind,hrun,Result.andThen_ok,Sem.run_pure]
 ·have:k'=k:=by simp [aI] at h;exact h.symm
  subst this;exact ⟨hfk,by simp [aF]⟩
 ·exact dQ (by simpa [aI] using h)
 ·rw [hkk k' h];simp [aI]
 ·exact Q9
 ·exact RK
 ·have:k'=k:=by simp [TV.has,V0.has,D.has] at h;exact h.symm
  subst this;simp [aI]
 ·exact QZ
 ·rw [hkk k2 h] at hp ⊢;simp only [hput,Nat.beq_refl,qCt,Option.some.injEq] at hp;subst hp;rw [aN];exact ⟨List.replicate n z,by rw [List.length_replicate];exact ho1,hgen _ n⟩
 ·exact (aN _ _ _).symm
end
def QI:Op->Nat
 | .move _=>1
 | .assign _=>2
 | .load ..=>3
 | .store ..=>4
 | .fieldAddr ..=>5
 | .indexAddr ..=>6
 | .call c=>match c.callee with
  | .builtin .len=>7
  | .builtin .append=>8
  | _=>9
 | .binOp ..=>10
 | .unOp ..=>11
 | .build ..=>12
 | .buildSlice ..=>13
 | .slice ..=>14
 | .extract ..=>15
 | .field ..=>16
 | .alloc _=>17
 | .box ..=>18
 | .pick ..=>19
 | .makeSlice ..=>20
 | .nilCheck _=>21
 | .makeMap ..=>22
 | .lookup ..=>23
 | .mapUpdate ..=>24
 | .range ..=>25
 | .next ..=>26
 | .entry ..=>27
 | _=>0
section
variable {P:Program} {nt:Nat} {Ks:List Nat} {Q:Exit->Mst->Prop} {s:Mst} {K:Mst->Prop} {ops:Array Oper} {draw:Bool} {o:Oper} {l:List Oper} {acc:List (List Nat×List Nat)} {x:Code}
theorem Mr {l:List Oper} (h:DA P ops draw l acc s K):DA P ops draw l acc s K:=h
theorem D5 (h:AW P nt Ks x Q s):AW P nt Ks x Q s:=h
theorem AE {t:Nat} {b:Bool} (h:s.t t = .b b):s.app (some t) ⟨.b b,[],[]⟩=s:=by
 cases s with
 | mk st sh sf =>
  simp only [Mst.app,hput,aI,Bool.not_false,Bool.and_true,Mst.mk.injEq,and_true];funext n
  simp only [lX];cases hn:t.beq n with
  | false=>rfl
  | true=>rw [<-qNb hn];exact h.symm
theorem vh {j t:Nat} {want b:Bool} (hg:o.guard=some (j,want)) (hj:(ops[j]?).bind (·.dst)=some t) (ht:s.t t = .b b) (h1:b=true->DA P ops draw (o :: l) acc (s.app (some t) ⟨.b true,[],[]⟩) K) (h2:b=false->DA P ops draw (o :: l) acc (s.app (some t) ⟨.b false,[],[]⟩) K):DA P ops draw (o :: l) acc s K:=by
 cases b with
 | true=>have:=h1 rfl;rwa [AE ht] at this
 | false=>have:=h2 rfl;rwa [AE ht] at this
theorem aa (n:Nat) (_:QI o.op=n) (h:DA P ops draw (o :: l) acc s K):DA P ops draw (o :: l) acc s K:=h
end
inductive NR:D->D->Prop
 | same (d:D):NR d d
 | nil {α:Type} {E:El α}:NR (.sc (.slice none 0 0)) (.sl E [])
theorem NR.rep {w:World} {F:Nat->Prop} {ρ:Nat->Value} {d0 d:D} {v:Value} (h:NR d0 d) (hv:d0.rep w F ρ v):d.rep w F ρ v:=by
 cases h with
 | same=>exact hv
 | nil=>exact ⟨none,0,hv,by simp [maxLen],RowsAt.nil _ _ _ _⟩
theorem NR.reps {w:World} {F:Nat->Prop} {ρ:Nat->Value}:∀{l0 l:List D} {vs:List Value},All2 NR l0 l->All2 (D.rep w F ρ) l0 vs->All2 (D.rep w F ρ) l vs
 | [],[],[],_,_=>trivial
 | _ :: _,_ :: _,_ :: _,h,k=>⟨h.1.rep k.1,NR.reps h.2 k.2⟩
 | [],_ :: _,_,h,_=>h.elim
 | _ :: _,[],_,h,_=>h.elim
 | [],[],_ :: _,_,k=>k.elim
 | _ :: _,_ :: _,[],_,k=>k.elim
section
variable {P:Program} {o:Oper} {s:Mst}
theorem yX {t e:TypeId} {x y:Operand} {row:Bool} {n m i k off:Nat} {α:Type} {E:El α} {l l':List α} {u z:α} {ds:List D} [I:TI P t row n] [J:Dp E] (ho:o.op = .store t x y) (hx:s.ev x = .c (.optr k m i off)) (hk:s.h k=some (.arr e E l)) (hm:E.n=m) (hu:l[i]? = some u)
  (hd:(s.ev y).cells=some ds) (hok:ds.all (okD s.h)=true) (hno:gu ds=[]) (hn:ds.length=n) (hl:off+n<=m) (hz:All2 NR ((J.deep u).take off++ds++(J.deep u).drop (off+n)) (J.deep z)) (hl':l.set i z=l'):LOp P o s [k] ⟨.c .any,[(k,some (.arr e E l'))],[]⟩:=by
 intro c st ρ a w hr h1 h2 _ h4;subst hl';subst hm;have he:=h1 x (by simp [ho,Op.operands]);have he2:=h1 y (by simp [ho,Op.operands]);rw [hx] at he;rw [<-he2] at hd;have hv:=hr.ev x;rw [he] at hv;obtain ⟨g,len,cap,hg,hv⟩:=hv;have hk':=(h2 k (by simp [aI])).trans hk;have hil:i<l.length:=(List.getElem?_eq_some_iff.1 hu).1;have hui:l[i]=u:=by rw [qGg hil] at hu;exact Option.some.inj hu
 obtain ⟨xs,hown,hreps⟩:=hr.hp k _ hk';have hown0:=hown;rw [hg] at hown;obtain rfl:len=l.length:=by
  rcases hown.2 with ⟨hv,_⟩|⟨g',cap',cur,hv,_⟩
  ·cases hv
  ·injection hv
 obtain ⟨hc1,hc2⟩:=TV.cells_rep (hr.ev y) hd fun q hq u hu=>hr.okD (ir (List.all_eq_true.1 hok q hq) fun j hj=>by have:=fJ (hj▸hq);rw [hno] at this;simp [aI] at this) hu;generalize hvs:(a.eval y).cells.toList=vs at *
 have hsz:vs.length=n:=by rw [<-hc1.length,hn]
 have hxl:=hown.1;have hin:i*E.n+E.n<=l.length*E.n:=by have:=Nat.mul_le_mul_right E.n (show i+1<=l.length from hil);rwa [Nat.add_mul,Nat.one_mul] at this
 have hst:=run_storeCells_cells (P:=P) g (i*E.n+off) vs 0 w (fun j hj=>by have:=(iu hown (j:=i*E.n+off+j) (by omega)).1;simpa using this) (fun j hj=>by have:=(iu hown (j:=i*E.n+off+j) (by omega)).2;simpa using this) hc2;simp only [Nat.add_zero] at hst;obtain ⟨cs,hcs1,hcs2⟩:=hreps.get i hil;have hcl:=E.len hcs1;rw [hui] at hcs1;have hcs:cs=(xs.drop (i*E.n)).take E.n:=by
  apply List.ext_getElem?
  intro j;rw [List.getElem?_take];by_cases hj:j<E.n
  ·rw [if_pos hj,List.getElem?_drop,hcs2 j hj]
  ·rw [if_neg hj,List.getElem?_eq_none (by omega)]
 have hz':E.rep w (Fz c st.h ρ w) z (cs.take off++vs++cs.drop (off+n)):=J.put (ρ:=ρ) (NR.reps hz ((((J.get hcs1).take off).append hc1).append ((J.get hcs1).drop (off+n))));have hrow:=iC vs (i*E.n+off) w xs hown (by omega);rw [uI (n:=E.n) (by omega) hcs (by omega),hsz] at hrow;have hkb:kb (ρ k)=some g:=by rw [hg];rfl
 have hsize:=dG (g:=g) vs (i*E.n+off) w;have hoth:∀b,b≠g->(w.setCells g (i*E.n+off) vs).heap[b]? = w.heap[b]?:=fun b hb=>dN vs _ w b hb;have hbel:=dO (B:=0) (w:=w) (Nat.zero_le g) vs (i*E.n+off) w (Below.refl _ _);have hkk:∀k':Nat,aF [(k,some (Box.arr e E (l.set i z)))] k'=true->k'=k:=fun k' h=>by
  exact Q0
 have hfz:∀b,Fz c st.h ρ w b->Fz c (hput [(k,some (Box.arr e E (l.set i z)))] st.h) ρ (w.setCells g (i*E.n+off) vs) b/\(w.setCells g (i*E.n+off) vs).heap[b]? = w.heap[b]?:=fun b ⟨f1,f2,f3⟩=>by
  have hbg:b≠g:=fun e=>f3 k _ hk' (by rw [hkb,e]);refine ⟨⟨f1,by rw [hsize];exact f2,fun k' bx hk2=>?_⟩,hoth b hbg⟩;simp only [hput] at hk2;cases h9:k.beq k' with
  | true=>rw [<-qNb h9,hkb];intro e;injection e with e;exact hbg e.symm
  | false=>rw [h9] at hk2;exact f3 k' bx hk2
 refine Oper.wp_skip (w':=w.setCells g (i*E.n+off) vs) ?_ ⟨ρ,hr.app (e:=⟨.c .any,[(k,some (.arr e E (l.set i z)))],[]⟩) h4 (fun k h=>by simp [aI] at h) (fun _ _=>rfl) (fun k' h=>.inr (by rw [hkk k' h];exact hr.nfh hk')) ⟨hbel.os,hbel.tape,hbel.output,hbel.size,fun b hlt hn=>hoth b fun e=>hn ⟨k,_,by simp [aF],hk',by rw [hkb,e]⟩⟩ ?_ ?_ (fun k h=>by simp [TV.has,V0.has,D.has] at h) ?_ ?_ trivial⟩
 ·unfold execOp;rw [ho];have hi:=I.s;cases hq:P.info? t with
  | none=>simp [hq] at hi
  | some ti =>
   have hs:(a.eval y).cells.size=ti.size:=by
    simp [hq] at hi;rw [<-Array.length_toList,hvs];omega
   simp only [hv,Instr.storeAt,Instr.sureAddr,Sem.run_bind,Sem.run_pure,Result.andThen_ok];have h3:(storeVar t ⟨g,i*E.n+off,none⟩ (a.eval y)).run P w = .ok () (w.setCells g (i*E.n+off) vs):=by
    simp [storeVar,sizeOf,typeInfo,hq,hs,hvs,hst]
   rw [h3];rfl
 ·intro k' bx g' h _ hg';exact Rg
 ·intro k1 k2 _ _ _ h h' _ _ _ _;exact RK
 ·intro k1 k2 bx h hp hx;exact QZ
 ·intro k2 bx h hp;rw [hkk k2 h] at hp ⊢;simp only [hput,Nat.beq_refl,qCt,Option.some.injEq] at hp;subst hp;refine ⟨_,by rw [List.length_set,hg];exact hrow,?_⟩;exact (Reps.set hreps hz' hil).same (fun b hb=>(hfz b hb).2) fun b hb=>(hfz b hb).1
end
theorem All2.setAt {α:Type _} {β:Type _} {R:α->β->Prop}:∀{l:List α} {m:List β} {i:Nat} {x y:α},All2 R l m->l[i]? = some y->(∀u,R y u->R x u)->All2 R (l.set i x) m
 | [],_,_,_,_,_,h,_=>by simp at h
 | _ :: _,[],_,_,_,h,_,_=>h.elim
 | a :: l,b :: m,0,x,y,h,hi,hr=>by
  simp at hi;subst hi;exact ⟨hr b h.1,h.2⟩
 | a :: l,b :: m,i+1,x,y,h,hi,hr=>⟨h.1,All2.setAt (i:=i) h.2 (by simpa using hi) hr⟩
section
variable {P:Program} {nt:Nat} {Ks:List Nat} {Q:Exit->Mst->Prop} {s:Mst}
theorem eG {x:Code} {α:Type} {ty:TypeId} {cs new:List D} (k0 off k:Nat) (e:TypeId) (E:El α) (h0:s.h k0=some (.box ty cs)) (hc0:cs[off]? = some (.sc (.slice none 0 0))) (hf:s.f k=true) (hn:cs.set off (.own k)=new)
  (h:AW P nt Ks x Q ((s.app none ⟨.c .any,[(k,some (.arr e E []))],[k]⟩).app none ⟨.c .any,[(k0,some (.box ty new))],[]⟩)):AW P nt Ks x Q s:=by
 intro c ρ a w hc hK hr;subst hn;have hkk:∀k':Nat,aF [(k,some (Box.arr e E ([]:List α)))] k'=true->k'=k:=fun k' h=>by
  exact Q0
 have h2:=hr.app (ρ':=upd ρ k (.slice none 0 0)) (w':=w) (dst:=none) (v:=undef) (e:=⟨.c .any,[(k,some (.arr e E []))],[k]⟩) (fun d hd=>by cases hd)
  (fun k' hk=>by have h9:k'=k:=(by simp [aI] at hk;exact hk.symm);subst h9;exact ⟨hf,by simp [aF]⟩)
  (fun k' hk=>dQ (by simpa [aI] using hk)) (fun k' hk=>.inl (by rw [hkk k' hk];simp [aI])) (Frx.refl _ _)
  (fun k' bx g hk _ hg=>by rw [hkk k' hk,aN] at hg;cases hg) (fun k1 k2 b b' g h1 h2 _ _ _ _=>by rw [hkk k1 h1,hkk k2 h2]) (fun k' hk=>by simp [TV.has,V0.has,D.has] at hk) (fun k1 k2 bx hk hb hx=>by
   rw [hkk k2 hk] at hb;simp only [Go.Proofs.YtkkbopkbjacfmaaGreatDoor.hput,Nat.beq_refl,qCt,Option.some.injEq] at hb;subst hb;simp [Box.has] at hx)
  (fun k' bx hk hb=>by
   rw [hkk k' hk] at hb ⊢;simp only [Go.Proofs.YtkkbopkbjacfmaaGreatDoor.hput,Nat.beq_refl,qCt,Option.some.injEq] at hb;subst hb;rw [aN];exact ⟨[],World.ownsRow_nil _ _ _ _,rfl⟩)
  trivial
 have hne:k.beq k0=false:=by
  cases h9:k.beq k0 with
  | false=>rfl
  | true=>rw [<-qNb h9,hr.wf.h k hf] at h0;cases h0
 have h0':(s.app none ⟨.c .any,[(k,some (.arr e E []))],[k]⟩).h k0=some (.box ty cs):=by
  show hput _ _ _=_;simp only [Go.Proofs.YtkkbopkbjacfmaaGreatDoor.hput,hne,qCf];exact h0
 obtain ⟨g,vs,hg,hB,hA,h1⟩:=h2.hp k0 _ h0';refine h c _ a w hc hK (h2.setBox (dst:=none) (v:=undef) (fun d hd=>by cases hd) h0' hg ⟨rfl,rfl,rfl,Nat.le_refl _,fun _ _ _=>rfl⟩ hB (hA.setAt hc0 fun u hu=>?_) h1 fun k' hh=>?_)
 ·show u=upd ρ k (.slice none 0 0) k;rw [aN];exact hu
 ·obtain ⟨d,hd,hd2⟩:=List.any_eq_true.1 hh;rcases List.mem_or_eq_of_mem_set hd with hd|rfl
  ·exact h2.nfb h0' (by simp only [Box.has];exact List.any_eq_true.2 ⟨d,hd,hd2⟩)
  ·simp only [D.has] at hd2;have:k=k':=qNb hd2;subst this;simp [Mst.app,aI]
end
section
variable {P:Program} {nt:Nat} {Ks:List Nat} {Q:Exit->Mst->Prop} {s:Mst}
theorem po (id:Nat) {l:List Oper} {dr:Bool} {y:Code} (h:AW P nt Ks (.seq (.region id l.toArray dr) y) Q s):AW P nt Ks (.seq (.region id l.toArray dr) y) Q s:=h
theorem pp (id:Nat) {l:List Oper} {dr:Bool} (h:AW P nt Ks (.region id l.toArray dr) Q s):AW P nt Ks (.region id l.toArray dr) Q s:=h
theorem Ik {x:Code} {α:Type} {ty e:TypeId} {E:El α} {l:List α} {cs new:List D} (k0 off k:Nat) (h0:s.h k0=some (.box ty cs)) (hc0:cs[off]? = some (.own k)) (hk:s.h k=some (.arr e E l)) (hn:cs.set off (.ocut k)=new)
  (h:AW P nt Ks x Q (s.app none ⟨.c .any,[(k0,some (.box ty new))],[]⟩)):AW P nt Ks x Q s:=by
 intro c ρ a w hc hK hr;subst hn;obtain ⟨g,vs,hg,hB,hA,h1⟩:=hr.hp k0 _ h0;refine h c ρ a w hc hK (hr.setBox (dst:=none) (v:=undef) (fun d hd=>by cases hd) h0 hg ⟨rfl,rfl,rfl,Nat.le_refl _,fun _ _ _=>rfl⟩ hB (hA.setAt hc0 fun u hu=>?_) h1 fun k' hh=>?_)
 ·have hu:u=ρ k:=hu;rw [hu];exact oY hr hk rfl
 ·obtain ⟨d,hd,hd2⟩:=List.any_eq_true.1 hh;rcases List.mem_or_eq_of_mem_set hd with hd|rfl
  ·exact hr.nfb h0 (by simp only [Box.has];exact List.any_eq_true.2 ⟨d,hd,hd2⟩)
  ·simp only [D.has] at hd2;have:k=k':=qNb hd2;subst this;exact hr.nfh hk
end
theorem AF {s:Mst} {α:Type} {E:El α} [J:Dp E] {x:Operand} {k n:Nat} {e:TypeId} {cs:List D} (m:List α) (hx:s.ev x = .c (.slb k n)) (hk:s.h k=some (.box e cs)) (hm:All2 NR cs (m.flatMap J.deep)) (hn:m.length=n):Ml s E x m [k]:=fun c st ρ a w hr he h2=>by
 have hv:=hr.ev x;rw [he,hx] at hv;obtain ⟨g,hg,hv⟩:=hv;subst hn;obtain ⟨vs,hB,hA,_⟩:=hr.box ((h2 k (by simp [aI])).trans hk) hg;exact ⟨_,_,vs,hv,gF (NR.reps hm hA),fun _=>⟨g,0,rfl,fun j u hu=>by rw [Nat.zero_add];exact hB.cellx j (by simpa using hu)⟩⟩
theorem AG {s:Mst} {α:Type} {E:El α} [J:Dp E] {x:Operand} {k n:Nat} {e:TypeId} {cs:List D} (m:List α) (hx:s.ev x = .c (.slb k n)) (hk:s.h k=some (.box e cs)) (hn:m.length=n) (hm:All2 NR cs (m.flatMap J.deep):=by (repeat' (first|exact trivial|exact .same _|exact .nil|refine ⟨?_,?_⟩));first|done|fail):Ml s E x m [k]:=AF m hx hk hm hn
section
variable {P:Program} {s:Mst} {o:Oper} {α:Type} {E:El α} {l:List α} {e':TypeId}
theorem LH {t e:TypeId} {k by_:Nat} {cp:Int} {y:Operand} [T:ST P E t e by_] (ho:o.op = .makeSlice t (.const (.int .i64 0)) y) (hdk:o.dst=some k) (hy:s.ev y = .i cp) (h0:0<=cp) (hc:cp<=1000000) (hb:by_<=1024:=by decide):LOp P o s [] ⟨.c (.own k),[(k,some (.arr e E []))],[k]⟩:=by
 intro c st ρ a w hr h1 h2 h3 h4;obtain ⟨n,rfl⟩:=Int.eq_ofNat_of_zero_le h0;have hv2:a.eval y = .int .i64 (n:Int):=by have:=hr.ev y;rwa [h1 y (by simp [ho,Op.operands]),hy] at this
 have hfk:st.f k=true:=h3 k (by simp [aI]);obtain ⟨i0,z,hi,hz0,hz1,hz2,hz3⟩:=T.T.info;have hby:i0.bytes*n<=281474976710656:=Nat.le_trans (Nat.mul_le_mul (show i0.bytes<=1024 by omega) (show n<=1000000 by omega)) (by decide);have hrun:=nG (P:=P) t e i0 z T.T.under hi hz0 .i64 .i64 0 n (Nat.zero_le _) hby (by omega) w;have hsz:(madeCells z.cells (n*i0.size)).size=n*E.n:=by rw [size_madeCells,hz1]
 have ho1:=World.ownsRow_made (e:=e) (size:=E.n) (base:=0) w (madeCells z.cells (n*i0.size)) n (Nat.zero_le _) (by simp only [maxLen];omega) hsz;have hkk:∀k':Nat,aF [(k,some (Box.arr e E ([]:List α)))] k'=true->k'=k:=fun k' h=>by
  exact Q0
 refine Oper.wp_value (v:=.slice (some ⟨w.heap.size,0,none⟩) 0 n) (w':=w.alloc (.cells (madeCells z.cells (n*i0.size)) e)) ?_ ⟨upd ρ k (.slice (some ⟨w.heap.size,0,none⟩) 0 n),hr.app (e:=⟨.c (.own k),[(k,some (.arr e E []))],[k]⟩) h4 (fun k' h=>?_) (fun k' h=>?_) (fun k' h=>.inl ?_) (Frx.alloc _ _ _) (fun k' bx g' h _ hg'=>?_) (fun k1 k2 _ _ _ h h' _ _ _ _=>?_) (fun k' h=>.inl ?_) (fun k1 k2 bx h hp hx=>?_) (fun k2 bx h hp=>?_) ?_⟩
 ·unfold execOp;rw [ho];have hv1:a.eval (.const (.int .i64 0)) = .int .i64 0:=rfl;simp only [hv1,hv2,Sem.run_bind,show (Instr.makeSlice t (.int .i64 0) (.int .i64 (n:Int))).run P w=_ from hrun,Result.andThen_ok,Sem.run_pure]
 ·have:k'=k:=by simp [aI] at h;exact h.symm
  subst this;exact ⟨hfk,by simp [aF]⟩
 ·exact dQ (by simpa [aI] using h)
 ·rw [hkk k' h];simp [aI]
 ·exact Q9
 ·exact RK
 ·have:k'=k:=by simp [TV.has,V0.has,D.has] at h;exact h.symm
  subst this;simp [aI]
 ·exact QZ
 ·rw [hkk k2 h] at hp ⊢;simp only [hput,Nat.beq_refl,qCt,Option.some.injEq] at hp;subst hp;rw [aN];exact ⟨[],ho1,rfl⟩
 ·exact (aN _ _ _).symm
theorem Db {t e:TypeId} {x y:Operand} {row:Bool} {n k:Nat} {z:Int} (ho:o.op = .slice t x (some y) none none) (hx:s.ev x = .c (.own k)) (hk:s.h k=some (.arr e' E l)) (hy:s.ev y = .i z) (hz:0<=z) [I:SE P t e] [J:TI P e row n] (hn:E.n=n) (hj:z.toNat<=l.length) (h0:0<l.length) :
  LOp P o s [k] ⟨.c (.osl k n z.toNat l.length false),[],[]⟩ :=
 bq fun c st ρ a w hr h1 h2=>by
  obtain ⟨j,rfl⟩:=Int.eq_ofNat_of_zero_le hz;simp only [Int.toNat_natCast] at hj ⊢;have he:=h1 x (by simp [ho,Op.operands]);rw [hx] at he;have hv:=hr.ev x;rw [he] at hv;have hv2:a.eval y = .int .i64 (j:Int):=by have:=hr.ev y;rwa [h1 y (by simp [ho,Op.operands]),hy] at this
  obtain ⟨A,cap,hA,hc,hp⟩:=dP (hr.hp k _ ((h2 k (by simp [aI])).trans hk));obtain ⟨g,xs,rfl,_⟩:=hp h0;have hv:a.eval x = .slice (some ⟨g,0,none⟩) l.length cap:=Eq.trans hv hA;obtain ⟨q,hq,hqn⟩:∃q,P.info? e=some q/\q.size=n:=by
   have:=J.s;cases h:P.info? e with
   | none=>simp [h] at this
   | some q=>exact ⟨q,rfl,by simpa [h] using this⟩
  subst hqn;have h3:j<=cap:=by omega
  refine ⟨.slice (some (if cap=j then ⟨g,0,none⟩ else ⟨g,j*q.size,none⟩)) (l.length-j) (cap-j),?_,⟨g,_,_,cap-j,_,hA,⟨hj,Nat.le_refl _,by omega,by omega⟩,(fun h=>by cases h),rfl,fun h=>?_⟩,fun k' hk'=>hr.nf (x:=x) he (by simpa [TV.has,V0.has,D.has] using hk')⟩
  ·unfold execOp;rw [ho];by_cases hi0:cap=j
   ·exact RI
   ·exact RJ
  ·rcases h with h|h
   ·subst h;simp
   ·rw [if_neg (by omega)]
theorem Gj {t e:TypeId} {by_ n i j k:Nat} {x y:Operand} {l':List α} [T:ST P E t e by_] (ho:o.op = .call { callee:=.builtin .copy,args:=#[x,y],argTypes:=#[t,t] }) (hx:s.ev x = .c (.osl k n i l.length false)) (hy:s.ev y = .c (.osl k n j l.length false)) (hk:s.h k=some (.arr e E l))
  (hn:E.n=n) (hij:j<=i) (hi:i<=l.length) (hl':l.take i++(l.drop j).take (l.length-i)=l'):LOp P o s [k] ⟨.c .any,[(k,some (.arr e E l'))],[]⟩:=by
 intro c st ρ a w hr h1 h2 _ h4;subst hl';subst hn;have hk':=(h2 k (by simp [aI])).trans hk;have hv1:=hr.ev x;rw [h1 x (by simp [ho,Op.operands,Call.operands]),hx] at hv1;obtain ⟨g,nn,cap,c1,A1,hρ1,⟨_,b2,b3,b4⟩,b5,hv1,b6⟩:=(show (D.osl k E.n i l.length false).rep w (Fz c st.h ρ w) ρ (a.eval x) from hv1);have hv2:=hr.ev y;rw [h1 y (by simp [ho,Op.operands,Call.operands]),hy] at hv2;obtain ⟨g2,nn2,cap2,c2,A2,hρ2,⟨d1,d2,d3,d4⟩,_,hv2,d6⟩:=(show (D.osl k E.n j l.length false).rep w (Fz c st.h ρ w) ρ (a.eval y) from hv2);rw [hρ1] at hρ2;injection hρ2 with e1 e2 e3;injection e1 with e1;injection e1 with e1;subst e1;subst e2;subst e3;obtain ⟨xs,hown0,hreps⟩:=hr.hp k _ hk';have hown:=hown0;rw [hρ1] at hown;obtain rfl:nn=l.length:=by
  rcases hown.2 with ⟨hv,_⟩|⟨g',cap',cur,hv,_⟩
  ·cases hv
  ·injection hv
 have hxl:=hown.1;have hpos:=E.pos;obtain ⟨ti,z,hi1,hi2,hi3,hi4,hi5⟩:=T.T.info;obtain ⟨cs,hcs⟩:=qGe ((xs.drop (j*E.n)).take ((l.length-i)*E.n));have hm:l.length-i<=l.length-j:=by omega
 have e5:(l.length-j)*E.n=l.length*E.n-j*E.n:=Nat.sub_mul _ _ _;have e6:(l.length-i)*E.n=l.length*E.n-i*E.n:=Nat.sub_mul _ _ _;have e7:=Nat.mul_le_mul_right E.n hm;have e8:=Nat.mul_le_mul_right E.n hi;have hcl:cs.length=(l.length-i)*E.n:=by
  rw [<-hcs,List.length_take,List.length_drop,hxl,<-e5];exact Nat.min_eq_left e7
 have hrc:Reps E w (Fz c st.h ρ w) ((l.drop j).take (l.length-i)) cs:=hcs▸(hreps.drop j).take (l.length-i);have hmin:Nat.min (l.length-j) (l.length-i)=l.length-i:=Nat.min_eq_right hm;have hrun:(Builtin.copy_ #[t,t] o.type #[a.eval x,a.eval y]).run P w = .ok (goInt (l.length-i:Nat)) (w.setCells g (i*E.n) cs):=by
  rw [hv1,hv2];by_cases h0:l.length-i=0
  ·have h9:cs=[]:=List.eq_nil_of_length_eq_zero (by rw [hcl,h0,Nat.zero_mul]);subst h9;have:=uh (P:=P) w t o.type e E.n (some A1) (some A2) (l.length-i) c1 (l.length-j) c2 T.T.under (by rw [hi1];simp [hi3]) (by rw [hmin];exact h0);rw [this,h0];rfl
  ·obtain rfl:A1=⟨g,i*E.n,none⟩:=b6 (.inr (by omega));obtain rfl:A2=⟨g,j*E.n,none⟩:=d6 (.inr (by omega));have:=Fe (P:=P) w t o.type e E.n g (i*E.n) (l.length-i) c1 ⟨g,j*E.n,none⟩ (l.length-j) c2 cs T.T.under (by rw [hi1];simp [hi3]) (by rw [hmin];exact hcl) (fun q u hq=>by
    rw [dd];rw [<-hcs,List.getElem?_take] at hq;split at hq
    ·rw [List.getElem?_drop] at hq;have hlt:=(List.getElem?_eq_some_iff.1 hq).1;rw [World.ownsRow.cellAt hown _ (by omega)];exact hq
    ·cases hq) (fun q hq=>(iu hown (by omega)).1) (fun q hq=>(iu hown (by omega)).2) (fun v hv=>hrc.one v hv)
   rw [this,hmin]
 have hrow:=iC cs (i*E.n) w xs hown (by omega);have hkb:kb (ρ k)=some g:=by rw [hρ1];rfl
 have hsize:=dG (g:=g) cs (i*E.n) w;have hoth:∀b,b≠g->(w.setCells g (i*E.n) cs).heap[b]? = w.heap[b]?:=fun b hb=>dN cs _ w b hb;have hbel:=dO (B:=0) (w:=w) (Nat.zero_le g) cs (i*E.n) w (Below.refl _ _);obtain ⟨L,hL⟩:=qGe (l.take i++(l.drop j).take (l.length-i));have hLl:L.length=l.length:=by rw [<-hL];simp;omega
 have hnew:Reps E w (Fz c st.h ρ w) L (xs.take (i*E.n)++cs++xs.drop (i*E.n+cs.length)):=by
  rw [show xs.drop (i*E.n+cs.length)=[] from qDn (by omega),List.append_nil,<-hL];exact (hreps.take i).append hrc
 rw [hL];have hkk:∀k':Nat,aF [(k,some (Box.arr e E L))] k'=true->k'=k:=fun k' h=>by
  exact Q0
 have hfz:∀b,Fz c st.h ρ w b->Fz c (hput [(k,some (Box.arr e E L))] st.h) ρ (w.setCells g (i*E.n) cs) b/\(w.setCells g (i*E.n) cs).heap[b]? = w.heap[b]?:=fun b ⟨f1,f2,f3⟩=>by
  have hbg:b≠g:=fun e=>f3 k _ hk' (by rw [hkb,e]);refine ⟨⟨f1,by rw [hsize];exact f2,fun k' bx hk2=>?_⟩,hoth b hbg⟩;simp only [hput] at hk2;cases h9:k.beq k' with
  | true=>rw [<-qNb h9,hkb];intro e;injection e with e;exact hbg e.symm
  | false=>rw [h9] at hk2;exact f3 k' bx hk2
 refine Oper.wp_value (v:=goInt (l.length-i:Nat)) (w':=w.setCells g (i*E.n) cs) ?_ ⟨ρ,hr.app (e:=⟨.c .any,[(k,some (.arr e E L))],[]⟩) h4 (fun k h=>by simp [aI] at h) (fun _ _=>rfl) (fun k' h=>.inr (by rw [hkk k' h];exact hr.nfh hk')) ⟨hbel.os,hbel.tape,hbel.output,hbel.size,fun b hlt hn=>hoth b fun e=>hn ⟨k,_,by simp [aF],hk',by rw [hkb,e]⟩⟩ ?_ ?_ (fun k h=>by simp [TV.has,V0.has,D.has] at h) ?_ ?_ trivial⟩
 ·unfold execOp;simp only [ho,resolve,invoke,builtin,Sem.run_bind,Sem.run_pure,Result.andThen_ok,List.map_toArray,List.map_cons,List.map_nil,hrun]
 ·intro k' bx g' h _ hg';exact Rg
 ·intro k1 k2 _ _ _ h h' _ _ _ _;exact RK
 ·intro k1 k2 bx h hp hx;exact QZ
 ·intro k2 bx h hp;rw [hkk k2 h] at hp ⊢;simp only [hput,Nat.beq_refl,qCt,Option.some.injEq] at hp;subst hp;refine ⟨_,by rw [hLl,hρ1];exact hrow,?_⟩;exact hnew.same (fun b hb=>(hfz b hb).2) fun b hb=>(hfz b hb).1
end
end Go.Proofs.YtkkbopkbjacfmaaGreatDoor
