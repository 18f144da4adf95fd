/- Part 23 of 35 of the proof of centralNew_holds (no condition). -/
import Derived.Test.YtjndcdcbjidocaaGreatDoorK22
set_option linter.unusedVariables false
set_option linter.unusedSimpArgs false
set_option maxRecDepth 100000
set_option maxHeartbeats 64000000
namespace Go.Proofs.YtjndcdcbjidocaaGreatDoor
open Go.RowKit Go.Proofs.Tryz
theorem DQ {l:Ct} {n:Bs} {k:Nat} (hk:k≤l.length) (h1:∀t (h:t<l.length),t<k→l[t].key<n) (h2:∀t (h:t<l.length),k≤t→¬l[t].key<n):FM l n=k:=by
 have e:=List.countP_append (p:=fun r:Rs=>decide (r.key<n)) (l₁:=l.take k) (l₂:=l.drop k)
 rw [List.take_append_drop] at e
 unfold FM
 rw [e]
 have e1:(l.take k).countP (fun r:Rs=>decide (r.key<n))=(l.take k).length:=List.countP_eq_length.2 fun a ha=>by
  obtain ⟨i,hi,rfl⟩:=List.mem_iff_getElem.1 ha
  rw [List.length_take] at hi
  rw [List.getElem_take]
  exact decide_eq_true (h1 i (by omega) (by omega))
 have e2:(l.drop k).countP (fun r:Rs=>decide (r.key<n))=0:=List.countP_eq_zero.2 fun a ha=>by
  obtain ⟨i,hi,rfl⟩:=List.mem_iff_getElem.1 ha
  rw [List.length_drop] at hi
  rw [List.getElem_drop]
  simpa using h2 (k+i) (by omega) (by omega)
 rw [e1,e2,List.length_take]
 omega
theorem zz (l:List Rs) (n:ByteArray) (hs:Sorted l) (hm:l.length≤8) {k:Nat} {b:Bool} (hk:FM l n.toList=k) (hb:b=true↔∃h:k<l.length,l[k].key=n.toList):FSpec prog 257 [.one (.sl de l),.one (.sc (.string n))] [] [] (.tup [iV k,.one (.sc (.bool b))]) [] :=
 bY (fun b W=>by kernel_rfl) rfl fun w S ρ vs hS h=>by
  match vs,h with
  | [_,_],⟨⟨A,c,rfl,hc,hr⟩,rfl,_⟩ =>
   refine (uA A w.heap.size c l n w hs (by omega) (Nat.le_refl _) (hr.lo hS)).mono fun e w' h=>?_
   obtain ⟨k',b',rfl,q1,q2,q3,q4,q5⟩:=h
   obtain rfl:k=k':=by rw [←hk];exact DQ q1 q2 q3
   obtain rfl:b=b':=by
    cases b with
    | true=>exact (q4.2 (hb.1 rfl)).symm
    | false =>
     cases b' with
     | false=>rfl
     | true=>exact absurd (hb.2 (q4.1 rfl)) (by simp)
   exact ⟨_,rfl,q5,_,rfl,rfl,rfl,trivial⟩
theorem yp {t:List Qu} (hV:df t=true):∀a b (ha:a<(bU t).length) (hb:b<(bU t).length),a<b→(bU t)[a].key<(bU t)[b].key:=fun a b ha hb hab=>by
 have hp:=(jM (bD hV).2.1).1
 have h2:=(List.pairwise_iff_getElem.1 hp) a b (by simpa [es,bU] using ha) (by simpa [es,bU] using hb) hab
 unfold iM at h2
 rw [bytesLess_eq,decide_eq_true_eq] at h2
 simpa [es,bU,Rs.key] using h2
theorem yq {t:List Qu} (hV:df t=true):Sorted (bU t):=fun i h=>yp hV i (i+1) (by omega) h (by omega)
def Be (t:List Qu) (a:Tm):Int:=bif !aO t a.name then 10 else bif !aD (aX t a.name).res a.am then 12 else 0
theorem yr (t:List Qu) (a:Tm) (l:List Tm):eG t (a :: l)=bif decide (Be t a=0) then eG t l else Be t a:=by
 unfold Be
 show (bif !aO t a.name then 10 else bif !aD (aX t a.name).res a.am then 12 else eG t l)=_
 cases aO t a.name <;> cases aD (aX t a.name).res a.am <;> rfl
theorem Jj (t:List Qu) (a:Tm) (hV:df t=true) {R:Int} (hR:Be t a=R):FSpec prog 192 [.one (.sl de (bU t)),a.a] [] [] (.i R) []:=by
 refine aS func192 ?_
 have h8:=(bD hV).1
 have hcl:(bU t).length=t.length:=by simp [bU]
 have kV:=Gl (bU t)
 rw [uz.2 (CY hV)] at kV
 have hS:=yq hV
 unfold Be at hR
 cases hh:aO t a.name with
 | false =>
  rw [hh] at hR
  obtain rfl:10=R:=hR
  have hno:¬∃h:FM (bU t) a.name.toList<(bU t).length,(bU t)[FM (bU t) a.name.toList].key=a.name.toList:=by
   rintro ⟨h1,h2⟩
   have h3:(t[FM (bU t) a.name.toList]'(by omega)).res.name=a.name:=by
    apply toList_inj
    simpa [bU,Rs.key] using h2
   have h4:=(kt hV (List.getElem_mem (show FM (bU t) a.name.toList<t.length by omega))).1
   rw [h3,hh] at h4
   cases h4
  have kP:=zz (bU t) a.name hS (by omega) (k:=FM (bU t) a.name.toList) (b:=false) rfl ⟨fun h=>(by cases h),fun h=>absurd h hno⟩
  repeat' (first
   | refine ah ?_ ?_
   | (refine aa 9 rfl ?_;first
    | (refine cB [] (kV) ?_)
    | (refine cC [] (kP) ?_))
   | refine af ?_
   | exact ai|refine ae fun hb=>?_
   | (refine aE (qf []) ?_;exact ab))
 | true =>
  obtain ⟨j,hj,hF,hq⟩:=ue hh
  obtain ⟨i,hi,h1,h2⟩:=i3 (t:=t) (n:=a.name) (k:=0) (by omega)
  have hij:i=j:=by omega
  subst hij
  have aA:(bU t)[i]'(by omega)=t[i].res:=by simp [bU]
  have hplc:FM (bU t) a.name.toList=i:=by
   have hk0:((bU t)[i]'(by omega)).key=a.name.toList:=by rw [aA];exact congrArg ByteArray.toList h2
   refine DQ (by omega) (fun u hu hlt=>?_) (fun u hu hge=>?_)
   ·rw [←hk0];exact yp hV u i hu (by omega) hlt
   ·rw [←hk0]
    rcases Nat.eq_or_lt_of_le hge with e|e
    ·subst e;exact List.lt_irrefl _
    ·exact fun h=>List.lt_irrefl _ (List.lt_trans h (yp hV i u (by omega) hu e))
  have kP:=zz (bU t) a.name hS (by omega) (b:=true) hplc ⟨fun _=>⟨by omega,by rw [aA];exact congrArg ByteArray.toList h2⟩,fun _=>rfl⟩
  have hgi:(bU t)[i]? = some t[i].res:=by rw [List.getElem?_eq_getElem (by omega),aA]
  have kF:=dK t[i].res a.am
  obtain ⟨f,hf⟩:∃f,aD t[i].res a.am=f:=⟨_,rfl⟩
  rw [hh,hq,hf] at hR
  rw [hf] at kF
  cases f with
  | false =>
   obtain rfl:12=R:=hR
   repeat' (first
    | refine ah ?_ ?_
    | (refine aa 9 rfl ?_;first
     | (refine cB [] (kV) ?_)
     | (refine cC [] (kP) ?_)
     | (refine cB [] (kF) ?_))
    | refine af ?_
    | exact ai|refine ae fun hb=>?_
    | (refine aE (qf []) ?_;exact ab))
  | true =>
   obtain rfl:0=R:=hR
   repeat' (first
    | refine ah ?_ ?_
    | (refine aa 9 rfl ?_;first
     | (refine cB [] (kV) ?_)
     | (refine cC [] (kP) ?_)
     | (refine cB [] (kF) ?_))
    | refine af ?_
    | exact ai|refine ae fun hb=>?_
    | (refine aE (qf []) ?_;exact ab))
theorem Gn (t:List Qu) (hl:t.length≤100000):FSpec prog 118 [.one (.sl dt t)] [] [] (.c (.sl de (bU t))) []:=by
 refine aS func118 ?_
 repeat' (first
  | refine ah ?_ ?_
  | refine af ?_
  | exact ai|refine ae fun hb=>?_)
 refine b8 3 1000 55 de rfl rfl rfl ?_
 refine aj (fun i=>i≤t.length) (fun i=>bH [1000] [(3,.c (.own 1000)),(6,.c (.sl dt t)),(7,.i t.length),(8,.i i)] [(1000,.arr 55 de (bU (t.take i)))]) (fun i=>t.length-i) 0 (Nat.zero_le _) (by exact ao (qf [])) ?_
 intro i hi
 have hlen:(bU (t.take i)).length=i:=by simp [bU,Nat.min_eq_left hi]
 by_cases hlt:i<t.length
 ·repeat' (first
   | refine ah ?_ ?_
   | (refine aa 8 rfl ?_;refine bg (aw rfl rfl (aL rfl rfl) (aP [(t[i]'(by omega)).res] rfl rfl rfl rfl) rfl aR aR) rfl rfl rfl ?_)
   | refine af ?_
   | exact ai|refine ae fun hb=>?_)
  refine ⟨i+1,by omega,by omega,?_⟩
  have e:bU (t.take (i+1))=bU (t.take i)++[(t[i]'(by omega)).res]:=by
   unfold bU
   rw [List.take_succ_eq_append_getElem (by omega),List.map_append]
   rfl
  rw [e]
  exact ao (qf [(1000,16)])
 ·have e:bU (t.take i)=bU t:=by rw [List.take_of_length_le (by omega)]
  rw [e]
  repeat' (first
   | refine ah ?_ ?_
   | refine af ?_
   | exact ai|refine ae fun hb=>?_
   | (refine aE (qf []) ?_;exact ab))
theorem wY (d:Nat) (t:List Qu) (x:Ex) (hV:df t=true) {R:Int} (hR:go t x=R):FSpec prog 117 [.one (.sl de (bU t)),x.a d] [] [] (.i R) []:=by
 refine aS func117 ?_
 unfold go at hR
 obtain ⟨L,hL⟩:∃L,cj x=L:=⟨_,rfl⟩
 have kA:=jW d x hL
 cases hv:ib x with
 | false =>
  rw [hv] at hR
  obtain rfl:1=R:=hR
  obtain rfl:L=[]:=by rw [←hL];exact pw hv
  repeat' (first
   | refine ah ?_ ?_
   | refine aa 9 rfl (cC [] (kA) ?_)
   | refine af ?_
   | exact ai|(refine ae fun hb=>?_;first|(exact absurd rfl hb)|skip)
   | (refine aE (qf []) ?_;exact ab))
 | true =>
  obtain ⟨_,_,h8,h0,_⟩:=ni hv
  rw [hL] at h8 h0
  rw [hv,hL] at hR
  have hR:eG t L=R:=hR
  repeat' (first
   | refine ah ?_ ?_
   | refine aa 9 rfl (cC [] (kA) ?_)
   | refine af ?_
   | exact ai|(refine ae fun hb=>?_;first|(exfalso;omega)|skip))
  refine aj (fun i=>i≤L.length∧eG t (L.drop i)=R) (fun i=>bH [3] [(0,.c (.sl de (bU t))),(3,.c (.ptr 3 0)),(14,.c (.sl bV L)),(15,.i L.length),(16,.i i)] [(3,.box 42 (x.d d))]) (fun i=>L.length-i) 0 ⟨Nat.zero_le _,hR⟩ (by exact ao (qf [])) ?_
  rintro i ⟨hi,hs⟩
  by_cases hlt:i<L.length
  ·obtain ⟨a,ha⟩:∃a,L[i]=a:=⟨_,rfl⟩
   have hga:L[i]? = some a:=by rw [List.getElem?_eq_getElem hlt,ha]
   rw [List.drop_eq_getElem_cons hlt,ha,yr] at hs
   obtain ⟨r,hr⟩:∃r,Be t a=r:=⟨_,rfl⟩
   have kR:=Jj t a hV hr
   rw [hr] at hs
   by_cases h00:r=0
   ·subst h00
    repeat' (first
     | refine ah ?_ ?_
     | refine aa 9 rfl (cB [] (kR) ?_)
     | refine af ?_
     | exact ai|(refine ae fun hb=>?_;first|(exact absurd rfl hb)|skip))
    refine ⟨i+1,⟨by omega,hs⟩,by omega,?_⟩
    exact ao (qf [])
   ·rw [decide_eq_false h00] at hs
    obtain rfl:r=R:=hs
    repeat' (first
     | refine ah ?_ ?_
     | refine aa 9 rfl (cB [] (kR) ?_)
     | refine af ?_
     | exact ai|(refine ae fun hb=>?_;first|(exact absurd hb h00)|skip)
     | (refine aE (qf []) ?_;exact ab))
  ·rw [List.drop_eq_nil_of_le (by omega)] at hs
   obtain rfl:0=R:=hs
   repeat' (first
    | refine ah ?_ ?_
    | refine af ?_
    | exact ai|refine ae fun hb=>?_
    | (refine aE (qf []) ?_;exact ab))
instance stExC (d:Nat):ST prog (mY (d+1)) 40 42 64:=⟨ElTB.mk' underlying40 (.agg #[.int .i64 0,.string ⟨#[]⟩,.int .i64 0,.int .i64 0,.slice none 0 0]) 5 64 (by kernel_rfl) rfl rfl⟩
theorem Jk (d:Nat) (x:Pc) (p:Pr):FSpec prog 58 [x.a d,.one (.ptr 9 0)] [i8 9 p] [] (.b (decide (bt x.proc p=0))) [(9,some (i8 9 p).2)]:=by
 refine aS func58 ?_
 have kC:=iF x.proc p
 repeat' (first
  | refine ah ?_ ?_
  | refine aa 9 rfl (cB [] (kC) ?_)
  | refine af ?_
  | exact ai|refine ae fun hb=>?_
  | (refine aE (qf []) ?_;exact ab))
theorem Gp (d:Nat) (x:Pc) (p:Pr) {b:Bool} (hb:decide (x.proc=p)=b):FSpec prog 58 [x.a d,.one (.ptr 9 0)] [i8 9 p] [] (.b b) [(9,some (i8 9 p).2)]:=by
 have h:=Jk d x p
 have e:decide (bt x.proc p=0)=b:=by
  rw [←hb]
  by_cases h1:x.proc=p
  ·rw [decide_eq_true h1,decide_eq_true ((j5 _ _).2 h1)]
  ·rw [decide_eq_false h1,decide_eq_false (fun h2=>h1 ((j5 _ _).1 h2))]
 rw [e] at h
 exact h
theorem Jl (d:Nat) (l:List Pc) (p:Pr) (hl:l.length≤100000) {z:Int} (hz:cK p 0 l=z):FSpec prog 57 [.one (.own 1),.one (.clo 58 [9])] [(1,.arr 63 (fh d) l),i8 9 p] [] (.i z) [(1,some (.arr 63 (fh d) l)),(9,some (i8 9 p).2)]:=by
 refine aS func57 ?_
 repeat' (first
  | refine ah ?_ ?_
  | refine af ?_
  | exact ai|refine ae fun hb=>?_)
 refine aj (fun i=>i≤l.length∧cK p i (l.drop i)=z) (fun i=>bH [1,9] [(0,.c (.own 1)),(1,.c (.clo 58 [9])),(7,.i l.length),(8,.i i)] [(1,.arr 63 (fh d) l),i8 9 p]) (fun i=>l.length-i) 0 ⟨Nat.zero_le _,hz⟩ (by exact ao (qf [])) ?_
 rintro i ⟨hi,hs⟩
 by_cases hlt:i<l.length
 ·obtain ⟨x,hx⟩:∃x,l[i]=x:=⟨_,rfl⟩
  have hgx:l[i]? = some x:=by rw [List.getElem?_eq_getElem hlt,hx]
  rw [List.drop_eq_getElem_cons hlt,hx] at hs
  have hs:(bif decide (x.proc=p) then (i:Int) else cK p (i+1) (l.drop (i+1)))=z:=hs
  obtain ⟨b,hb1⟩:∃b,decide (x.proc=p)=b:=⟨_,rfl⟩
  have kS:=Gp d x p hb1
  rw [hb1] at hs
  cases b with
  | true =>
   obtain rfl:(i:Int)=z:=hs
   repeat' (first
    | refine ah ?_ ?_
    | (refine aa 9 rfl ?_;refine ll 1 [9] (qf [(1,1),(9,9)]) (kS) ?_)
    | refine af ?_
    | exact ai|refine ae fun hb=>?_
    | (refine aE (qf []) ?_;exact ab))
  | false =>
   repeat' (first
    | refine ah ?_ ?_
    | (refine aa 9 rfl ?_;refine ll 1 [9] (qf [(1,1),(9,9)]) (kS) ?_)
    | refine af ?_
    | exact ai|refine ae fun hb=>?_)
   refine ⟨i+1,⟨by omega,hs⟩,by omega,?_⟩
   exact ao (qf [])
 ·rw [List.drop_eq_nil_of_le (by omega)] at hs
  obtain rfl : -1=z:=hs
  repeat' (first
   | refine ah ?_ ?_
   | refine af ?_
   | exact ai|refine ae fun hb=>?_
   | (refine aE (qf []) ?_;exact ab))
theorem uB (d:Nat) (l:List Pc) (p:Pr) (hl:l.length≤100000) {z:Int} (hz:cK p 0 l=z):FSpec prog 27 [.one (.own 1),p.a] [(1,.arr 63 (fh d) l)] [] (.i z) [(1,some (.arr 63 (fh d) l))]:=by
 refine aS func27 ?_
 have kF:=Jl d l p hl hz
 repeat' (first
  | refine ah ?_ ?_
  | (refine aa 0 rfl ?_;refine sx (cD (ks:=[3]) rfl rfl) ?_)
  | refine aa 9 rfl (cH (qf [(1,1),(9,3)]) (kF) ?_)
  | refine af ?_
  | exact ai|refine ae fun hb=>?_
  | (refine aE (qf []) ?_;exact ab))
theorem FN (x:Ex):1≤x.cnt:=by
 obtain ⟨k,a,l⟩:=x
 rw [Ex.cnt_mk]
 omega
theorem zA:∀(l:List Ex),l.length≤gQ l∧∀x∈l,x.cnt≤gQ l
 | []=>⟨Nat.zero_le _,fun _ h=>absurd h (by simp)⟩
 | y :: l=>by
  have ih:=zA l
  have h1:=FN y
  rw [eT]
  refine ⟨by rw [List.length_cons];omega,fun x hx=>?_⟩
  rcases List.mem_cons.1 hx with rfl|hx
  ·omega
  ·have:=ih.2 x hx;omega
theorem zB:∀(x:Ex) (d:Nat),x.cnt≤1000→FSpec prog 99 [x.a d] [] [] (.v (x.a d)) []:=by
 refine Ex.ind (fun k a l ih=>?_)
 intro d hcnt
 rw [Ex.cnt_mk] at hcnt
 have hcl:=zA l
 show FSpec prog 99 [.ag (rp d k a l)] [] [] (.v (.ag (rp d k a l))) []
 refine aS func99 ?_
 refine aH (fun c ρ a w hr=>gX (t:=0) (i:=4) hr rfl rfl) (fun hx=>?_)
 obtain ⟨hlen,hne⟩:=hx
 rcases Nat.eq_zero_or_pos l.length with h0|h0
 ·obtain rfl:l=[]:=List.length_eq_zero_iff.1 h0
  repeat' (first
   | refine ah ?_ ?_
   | refine af ?_
   | exact ai|refine ae fun hb=>?_)
  refine aj (fun i=>i=0) (fun i=>bH [1,2] [(1,.c (.ptr 1 0)),(2,.c (.ptr 2 0)),(3,.c (.sc (.slice none 0 0))),(7,.c (.sl (mY d) [])),(8,.i 0),(9,.i i)] [(1,.box 42 (rp d k a [])),(2,.box 42 [.sc (.int .i64 0),.sc (.string ⟨#[]⟩),.sc (.int .i64 0),.sc (.int .i64 0),.sc (.slice none 0 0)])]) (fun _=>0) 0 rfl (by exact ao (qf [])) ?_
  rintro i rfl
  repeat' (first
   | refine ah ?_ ?_
   | refine af ?_
   | exact ai|(refine ae fun hb=>?_;first|(exfalso;omega)|skip)
   | (refine aE (qf []) ?_;exact ab))
 ·obtain ⟨e,rfl⟩:=hne h0
  clear hne
  repeat' (first
   | refine ah ?_ ?_
   | refine af ?_
   | exact ai|refine ae fun hb=>?_)
  refine b8 3 1000 42 (mY (e+1)) rfl rfl rfl ?_
  refine aj (fun i=>i≤l.length) (fun i=>bH [1,2,1000] [(1,.c (.ptr 1 0)),(2,.c (.ptr 2 0)),(3,.c (.own 1000)),(7,.c (.sl (mY (e+1)) l)),(8,.i l.length),(9,.i i)] [(1,.box 42 (rp (e+1) k a l)),(2,.box 42 [.sc (.int .i64 0),.sc (.string ⟨#[]⟩),.sc (.int .i64 0),.sc (.int .i64 0),.sc (.slice none 0 0)]),(1000,.arr 42 (mY (e+1)) (l.take i))]) (fun i=>l.length-i) 0 (Nat.zero_le _) (by exact ao (qf [])) ?_
  intro i hi
  have hti:(l.take i).length=i:=by simp;omega
  by_cases hlt:i<l.length
  ·have kS:=ih l[i] (List.getElem_mem hlt) e (by have:=hcl.2 _ (List.getElem_mem hlt);omega)
   have hl9:l.length≤1000:=by have:=hcl.1;omega
   have e2:l.take (i+1)=l.take i++[l[i]]:=List.take_succ_eq_append_getElem hlt
   clear ih hcl
   repeat' (first
    | refine ah ?_ ?_
    | (refine aa 8 rfl ?_;refine bg (aw rfl rfl (aL rfl rfl) (aP [l[i]] rfl rfl rfl rfl) rfl aR aR) rfl rfl rfl ?_)
    | refine aa 9 rfl (cC [] (kS) ?_)
    | refine af ?_
    | exact ai|refine ae fun hb=>?_)
   refine ⟨i+1,by omega,by omega,?_⟩
   rw [e2]
   exact ao (qf [(1000,17)])
  ·have e2:l.take i=l:=List.take_of_length_le (by omega)
   rw [e2]
   repeat' (first
    | refine ah ?_ ?_
    | refine af ?_
    | exact ai|refine ae fun hb=>?_
    | (refine aE (qf []) ?_;exact ab))
theorem zC {p:Pr}:∀{l:List Pc} {k:Nat},cK p k l<0→∀x∈l,x.proc≠p
 | y :: l,k,h,x,hx=>by
  have h:(bif decide (y.proc=p) then (k:Int) else cK p (k+1) l)<0:=h
  by_cases e:y.proc=p
  ·rw [decide_eq_true e,cond_true] at h;omega
  ·rw [decide_eq_false e,cond_false] at h
   rcases List.mem_cons.1 hx with rfl|hx
   ·exact e
   ·exact zC h x hx
def KA (p:Pr) (cost:Int):List D:=[.sc (.int .i64 p.site),.sc (.int .i64 p.inc),.sc (.int .i64 p.num),.sc (.int .i64 cost),.sc (.slice none 0 0),.sc (.slice none 0 0),.sc (.bool false),.sc (.int .i64 0),.sc (.string ⟨#[]⟩),.sc (.int .i64 0),.sc (.int .i64 0),.sc (.slice none 0 0),.sc (.int .i64 0),.sc (.int .i64 0),.sc (.int .i64 0),.sc (.int .i64 0)]
theorem FP (d:Nat) {p:Pr} {cost:Int} {w:World} {F:Nat→Prop} {ρ:Nat→Value} {vs:List Value} (h:All2 (D.rep w F ρ) (KA p cost) vs):(fh d).rep w F { EV with proc:=p,cost:=cost } vs:=by
 match vs,h with
 | [_,_,_,_,_,_,_,_,_,_,_,_,_,_,_,_],⟨rfl,rfl,rfl,rfl,rfl,rfl,rfl,rfl,rfl,rfl,rfl,rfl,rfl,rfl,rfl,rfl,_⟩ =>
  exact ⟨none,0,none,0,none,0,rfl,RowsAt.nil _ _ _ _,⟨Nat.zero_le _,Nat.zero_le _⟩,RowsAt.nil _ _ _ _,⟨Nat.zero_le _,Nat.zero_le _⟩,RowsAt.nil _ _ _ _,⟨Nat.zero_le _,Nat.zero_le _⟩⟩
theorem H7 (d:Nat) (w:Wk) (p:Pr) (cost:Int) (h8:w.c.procs.length≤8) (hup:I1 p w.c.procs) {Z:Wk×Int} (hZ:ls w p cost=Z):FSpec prog 79 [ov,p.a,Bk cost] (HP d w) [3,4] (.i Z.2) (HR d Z.1):=by
 refine aS func79 ?_
 unfold ls at hZ
 have kV:=fJ p
 obtain ⟨bA,hA⟩:∃b,(js p && decide (1≤cost) && decide (cost≤1000))=b:=⟨_,rfl⟩
 rw [hA] at hZ
 cases bA with
 | false =>
  obtain rfl:(w,1)=Z:=hZ
  obtain ⟨v,hv⟩:∃v,js p=v:=⟨_,rfl⟩
  rw [hv] at kV hA
  cases v with
  | false =>
   repeat' (first
    | refine ah ?_ ?_
    | refine aa 9 rfl (cB [] (kV) ?_)
    | refine af ?_
    | exact ai|refine ae fun hb=>?_
    | (refine aE (qf [(3,1),(4,2)]) ?_;exact ab))
  | true =>
   simp only [Bool.true_and,Bool.and_eq_false_iff,decide_eq_false_iff_not] at hA
   by_cases h1:1≤cost
   ·repeat' (first
     | refine ah ?_ ?_
     | refine aa 9 rfl (cB [] (kV) ?_)
     | refine af ?_
     | exact ai|refine ae fun hb=>?_
     | (refine aE (qf [(3,1),(4,2)]) ?_;exact ab))
   ·repeat' (first
     | refine ah ?_ ?_
     | refine aa 9 rfl (cB [] (kV) ?_)
     | refine af ?_
     | exact ai|refine ae fun hb=>?_
     | (refine aE (qf [(3,1),(4,2)]) ?_;exact ab))
 | true =>
  simp only [Bool.and_eq_true,decide_eq_true_eq] at hA
  obtain ⟨⟨hv,h1⟩,h2⟩:=hA
  rw [hv] at kV
  rw [Bool.not_true,cond_false] at hZ
  obtain ⟨ix,hix⟩:∃ix,cK p 0 w.c.procs=ix:=⟨_,rfl⟩
  have kI:=uB d w.c.procs p (by omega) hix
  rw [hix] at hZ
  by_cases h0:0≤ix
  ·obtain rfl:(w,11)=Z:=by rw [←hZ,decide_eq_true h0];rfl
   repeat' (first
    | refine ah ?_ ?_
    | (refine aa 9 rfl ?_;first
     | (refine cB [] (kV) ?_)
     | (refine cH (qf [(1,1)]) (kI) ?_))
    | (refine aa 21 rfl ?_;first|refine sx (ay rfl rfl) ?_|refine sx (aJ rfl rfl) ?_)
    | refine af ?_
    | exact ai|refine ae fun hb=>?_
    | (refine aE (qf [(3,1),(4,2)]) ?_;exact ab))
  ·rw [decide_eq_false h0,cond_false] at hZ
   by_cases hl:w.c.procs.length=8
   ·obtain rfl:(w,4)=Z:=by rw [←hZ,decide_eq_true hl];rfl
    repeat' (first
     | refine ah ?_ ?_
     | (refine aa 9 rfl ?_;first
      | (refine cB [] (kV) ?_)
      | (refine cH (qf [(1,1)]) (kI) ?_))
     | (refine aa 21 rfl ?_;first|refine sx (ay rfl rfl) ?_|refine sx (aJ rfl rfl) ?_)
     | refine af ?_
     | exact ai|refine ae fun hb=>?_
     | (refine aE (qf [(3,1),(4,2)]) ?_;exact ab))
   ·rw [decide_eq_false hl,cond_false] at hZ
    have hno:=zC (by rw [hix];omega)
    obtain ⟨P,hP⟩:∃P,w.c.procs=P:=⟨_,rfl⟩
    obtain ⟨x,hx⟩:∃x,({ EV with proc:=p,cost:=cost }:Pc)=x:=⟨_,rfl⟩
    have hxp:x.proc=p:=by rw [←hx]
    have hZ:((⟨{ w.c with procs:=lj x w.c.procs },w.ev⟩,0):Wk×Int)=Z:=by rw [←hx];exact hZ
    have h00:∀(w:World) (F:Nat→Prop) (ρ:Nat→Value) (vs:List Value),All2 (D.rep w F ρ) (KA p cost) vs→(fh d).rep w F x vs:=fun w F ρ vs h=>by
     rw [←hx]
     exact FP d h
    have hPl:w.c.procs.length=P.length:=by rw [hP]
    rw [hP] at h8 hl hup hno
    repeat' (first
     | refine ah ?_ ?_
     | (refine aa 9 rfl ?_;first
      | (refine cB [] (kV) ?_)
      | (refine cH (qf [(1,1)]) (kI) ?_))
     | (refine aa 21 rfl ?_;first|refine sx (ay rfl rfl) ?_|refine sx (aJ rfl rfl) ?_)
     | refine af ?_
     | exact ai|(refine ae fun hb=>?_;first|(exfalso;omega)|skip))
    clear hx hix kI kV
    refine aj (fun i=>i≤P.length∧∀j (hj:j<P.length),j<i→bt P[j].proc p<0) (fun i=>bH [0,1,2,4] [(0,.v ov),(2,.i cost),(4,.c (.ptr 4 0)),(7,.i i)] [(0,.box 85 (zn w 2)),(1,.arr 63 (fh d) P),(2,.arr 67 i7 w.ev),(4,.box 35 [.sc (.int .i64 p.site),.sc (.int .i64 p.inc),.sc (.int .i64 p.num)])]) (fun i=>P.length-i) 0 ⟨Nat.zero_le _,fun j _ h=>absurd h (by omega)⟩ (by rw [←hP];exact ao (qf [])) ?_
    rintro i ⟨hi,hs⟩
    have fin:(∀j (hj:j<P.length),i≤j→0<bt P[j].proc p)→P.take i++x :: P.drop i=lj x w.c.procs:=fun h=>by
     rw [hP]
     exact (C5 x P i hi (fun j hj hji=>by rw [hxp];have:=hs j hj hji;omega) (fun j hj hij=>by rw [hxp];exact h j hj hij)).symm
    by_cases hlt:i<P.length
    ·obtain ⟨z,hz⟩:∃z,P[i]=z:=⟨_,rfl⟩
     have hgz:P[i]? = some z:=by rw [List.getElem?_eq_getElem hlt,hz]
     obtain ⟨e,he⟩:∃e,bt z.proc p=e:=⟨_,rfl⟩
     have kC:=iF z.proc p
     rw [he] at kC
     by_cases h0:e<0
     ·repeat' (first
       | refine ah ?_ ?_
       | refine aa 9 rfl (cB [1] (kC) ?_)
       | (refine aa 21 rfl ?_;first|refine sx (ay rfl rfl) ?_|refine sx (aJ rfl rfl) ?_)
       | refine af ?_
       | exact ai|(refine ae fun hb=>?_;first|(exfalso;omega)|skip))
      refine ⟨i+1,⟨by omega,fun j hj hji=>?_⟩,by omega,?_⟩
      ·by_cases e2:j=i
       ·subst e2
        rw [hz,he]
        exact h0
       ·exact hs j hj (by omega)
      ·exact ao (qf [])
     ·have hpos:0<bt P[i].proc p:=by
       have:e≠0:=fun h=>hno z (hz▸List.getElem_mem hlt) ((j5 _ _).1 (by rw [he];exact h))
       rw [hz,he]
       omega
      have hf:=fin fun j hj hij=>hup i j hlt hj hij hpos
      have kN:=zg d P i x h00 (by omega) hi hf
      obtain rfl:Z=(⟨{ w.c with procs:=lj x w.c.procs },w.ev⟩,0):=hZ.symm
      clear fin hs hup hno hf
      repeat' (first
       | refine ah ?_ ?_
       | (refine aa 9 rfl ?_;first
        | (refine cB [1] (kC) ?_)
        | (refine cH (qf [(1,1),(2,1001),(3,71)]) (kN) ?_))
       | (refine aa 21 rfl ?_;first|refine sx (ay rfl rfl) ?_|refine sx (aJ rfl rfl) ?_)
       | refine af ?_
       | exact ai|(refine ae fun hb=>?_;first|(exfalso;omega)|skip)
       | (refine aE (qf [(3,1001),(4,2)]) ?_;exact ab))
    ·have hf:=fin fun j hj hij=>absurd hj (by omega)
     have kN:=zg d P i x h00 (by omega) hi hf
     obtain rfl:Z=(⟨{ w.c with procs:=lj x w.c.procs },w.ev⟩,0):=hZ.symm
     clear fin hs hup hno hf
     repeat' (first
      | refine ah ?_ ?_
      | refine aa 9 rfl (cH (qf [(1,1),(2,1001),(3,71)]) (kN) ?_)
      | (refine aa 21 rfl ?_;first|refine sx (ay rfl rfl) ?_|refine sx (aJ rfl rfl) ?_)
      | refine af ?_
      | exact ai|(refine ae fun hb=>?_;first|(exfalso;omega)|skip)
      | (refine aE (qf [(3,1001),(4,2)]) ?_;exact ab))
def HU (d:Nat) (w:Wk):List (Nat×Option Box):=[(0,some (.box 85 (zn w 2))),(1,some (.arr 63 (fh d) w.c.procs)),(2,some (.arr 67 i7 w.ev))]
theorem Gq (d:Nat) (w:Wk) (h8:w.c.procs.length≤100000) (hx:IV w.c.procs) {e:Int} (he:du w=e):FSpec prog 150 [ov] (HP d w) [] (.i e) (HU d w):=by
 refine aS func150 ?_
 obtain ⟨E,hE⟩:∃E,ir w.c.now 0 w.c.procs (-1,0)=E:=⟨_,rfl⟩
 obtain rfl:E.1=e:=by rw [←he,←hE];rfl
 clear he
 repeat' (first
  | refine ah ?_ ?_
  | (refine aa 21 rfl ?_;refine sx (aJ rfl rfl) ?_)
  | refine af ?_
  | exact ai|refine ae fun hb=>?_)
 refine aj (fun y:Nat×Int×Int=>y.1≤w.c.procs.length∧ir w.c.now y.1 (w.c.procs.drop y.1) y.2=E∧(y.2.1<0∨∃(m:Nat) (z:Pc),y.2.1=(m:Int)∧w.c.procs[m]? = some z∧y.2.2=z.since+z.req.limit)) (fun y=>bH [0,1,2] [(0,.v ov),(3,.i y.2.1),(10,.c (.own 1)),(11,.i w.c.procs.length),(12,.i y.1)] [(0,.box 85 (zn w 2)),(1,.arr 63 (fh d) w.c.procs),(2,.arr 67 i7 w.ev)]) (fun y=>w.c.procs.length-y.1) (0,-1,0) ⟨Nat.zero_le _,hE,.inl (by decide)⟩ (by exact ao (qf [])) ?_
 rintro ⟨i,b⟩ ⟨hi,hs,hB⟩
 dsimp only at *
 by_cases hlt:i<w.c.procs.length
 case neg =>
  obtain rfl:b=E:=by rw [←hs,List.drop_eq_nil_of_le (by omega)];rfl
  repeat' (first
   | refine ah ?_ ?_
   | refine af ?_
   | exact ai|refine ae fun hb=>?_
   | (refine aE (qf []) ?_;exact ab))
 obtain ⟨x,hxe⟩:∃x,w.c.procs[i]=x:=⟨_,rfl⟩
 have hgx:w.c.procs[i]? = some x:=by rw [List.getElem?_eq_getElem hlt,hxe]
 obtain ⟨⟨k1,k2⟩,k3,k4⟩:=hx x (hxe▸List.getElem_mem hlt)
 rw [List.drop_eq_getElem_cons hlt,hxe,xR] at hs
 obtain ⟨b1,b2⟩:=b
 dsimp only at *
 by_cases hc0:x.waiting=true∧¬x.req.limit=0∧x.since+x.req.limit≤w.c.now
 case neg =>
  rw [show (x.waiting && !decide (x.req.limit=0) && decide (x.since+x.req.limit≤w.c.now))=false by
   cases hh:(x.waiting && !decide (x.req.limit=0) && decide (x.since+x.req.limit≤w.c.now)) with
   | false=>rfl
   | true =>
    simp only [Bool.and_eq_true,Bool.not_eq_true',decide_eq_true_eq,decide_eq_false_iff_not] at hh
    exact absurd ⟨hh.1.1,hh.1.2,hh.2⟩ hc0,Bool.false_and,cond_false] at hs
  have hc1:x.waiting=true→¬x.req.limit=0→x.since+x.req.limit≤w.c.now→False:=fun a b c=>hc0 ⟨a,b,c⟩
  clear hc0
  repeat' (first
   | refine ah ?_ ?_
   | (refine aa 21 rfl ?_;refine sx (aJ rfl rfl) ?_)
   | refine af ?_
   | exact ai|(refine ae fun hb=>?_;first|(exact (hc1 (by assumption) (by assumption) (by omega)).elim)|skip))
  all_goals first
   | (exfalso;exact hc1 (by assumption) (by assumption) (by omega))
   | (refine ⟨(i+1,b1,b2),⟨by dsimp only;omega,hs,hB⟩,by dsimp only;omega,?_⟩;exact ao (qf []))
 obtain ⟨c1,c2,c3⟩:=hc0
 rw [c1,decide_eq_false c2,decide_eq_true c3,show (true && !false && true)=true from rfl,Bool.true_and] at hs
 by_cases hb1:b1<0
 ·rw [decide_eq_true hb1,Bool.true_or,cond_true] at hs
  repeat' (first
   | refine ah ?_ ?_
   | (refine aa 21 rfl ?_;refine sx (aJ rfl rfl) ?_)
   | refine af ?_
   | exact ai|(refine ae fun hb=>?_;first|(exfalso;first|omega|(simp_all;done))|skip))
  refine ⟨(i+1,(i:Int),x.since+x.req.limit),⟨by dsimp only;omega,hs,.inr ⟨i,x,rfl,hgx,rfl⟩⟩,by dsimp only;omega,?_⟩
  exact ao (qf [])
 ·obtain ⟨m,z,rfl,hgz,rfl⟩:=hB.resolve_left hb1
  clear hB
  have hm:=(List.getElem?_eq_some_iff.1 hgz).1
  obtain ⟨⟨j1,j2⟩,j3,j4⟩:=hx z (List.mem_of_getElem? hgz)
  rw [decide_eq_false hb1,Bool.false_or] at hs
  by_cases hd:x.since+x.req.limit<z.since+z.req.limit
  ·rw [decide_eq_true hd,cond_true] at hs
   repeat' (first
    | refine ah ?_ ?_
    | (refine aa 21 rfl ?_;refine sx (aJ rfl rfl) ?_)
    | refine af ?_
    | exact ai|(refine ae fun hb=>?_;first|(exfalso;first|omega|(simp_all;done))|skip))
   refine ⟨(i+1,(i:Int),x.since+x.req.limit),⟨by dsimp only;omega,hs,.inr ⟨i,x,rfl,hgx,rfl⟩⟩,by dsimp only;omega,?_⟩
   exact ao (qf [])
  ·rw [decide_eq_false hd,cond_false] at hs
   repeat' (first
    | refine ah ?_ ?_
    | (refine aa 21 rfl ?_;refine sx (aJ rfl rfl) ?_)
    | refine af ?_
    | exact ai|(refine ae fun hb=>?_;first|(exfalso;first|omega|(simp_all;done))|skip))
   refine ⟨(i+1,(m:Int),z.since+z.req.limit),⟨by dsimp only;omega,hs,.inr ⟨m,z,rfl,hgz,rfl⟩⟩,by dsimp only;omega,?_⟩
   exact ao (qf [])
theorem H8 (d:Nat) (w:Wk) (n:Int) (h:CI w.c) (hs:∀x∈w.c.procs,eu w.c.queues x=false) (he:w.ev.length≤1000) {Z:Wk×Int} (hZ:iu w n=Z):FSpec prog 80 [ov,Bk n] (HP d w) [4] (.i Z.2) (HQ d Z.1):=by
 refine aS func80 ?_
 rw [Ff] at hZ
 have hnow:=h.now
 by_cases h1:0≤n∧n≤1000
 case neg =>
  obtain rfl:(w,1)=Z:=by
   rw [←hZ,show (decide (0≤n) && decide (n≤1000))=false by rw [Bool.and_eq_false_iff];simp;omega]
   rfl
  repeat' (first
   | refine ah ?_ ?_
   | (refine aa 21 rfl ?_;refine sx (aJ rfl rfl) ?_)
   | refine af ?_
   | exact ai|refine ae fun hb=>?_
   | (refine aE (qf [(4,2)]) ?_;exact ab))
  all_goals (exfalso;omega)
 obtain ⟨h1,h2⟩:=h1
 rw [decide_eq_true h1,decide_eq_true h2] at hZ
 by_cases h3:1073741824-n<w.c.now
 ·obtain rfl:(w,16)=Z:=by rw [←hZ,decide_eq_true h3];rfl
  repeat' (first
   | refine ah ?_ ?_
   | (refine aa 21 rfl ?_;refine sx (aJ rfl rfl) ?_)
   | refine af ?_
   | exact ai|(refine ae fun hb=>?_;first|(exfalso;omega)|skip)
   | (refine aE (qf [(4,2)]) ?_;exact ab))
 obtain ⟨W,hW⟩:∃W,fV w.c.procs.length (IY w n)=W:=⟨_,rfl⟩
 obtain rfl:(W,0)=Z:=by rw [←hZ,decide_eq_false h3,hW];rfl
 have hA:CI (IY w n).c:=h.later h1 (by omega)
 have kL:=Gq d (IY w n) (by have:=hA.len;omega) (Kw hA) rfl
 repeat' (first
  | refine ah ?_ ?_
  | refine aa 9 rfl (cH (qf [(0,0),(1,1),(2,2)]) (kL) ?_)
  | (refine aa 21 rfl ?_;refine sx (aJ rfl rfl) ?_)
  | refine af ?_
  | exact ai|(refine ae fun hb=>?_;first|(exfalso;omega)|skip))
 refine aj (fun y:Nat×Wk=>CI y.2.c∧(∀x∈y.2.c.procs,eu y.2.c.queues x=false)∧ce y.2.c.procs≤y.1∧y.2.ev.length+3000*y.1≤300000∧fV y.1 y.2=W) (fun y=>bH [0,1,2,1011] [(0,.v ov),(5,.i (du y.2))] [(0,.box 85 (zn y.2 1011)),(1,.arr 63 (fh d) y.2.c.procs),(1011,.arr 67 i7 y.2.ev)]) (fun y=>y.1) (w.c.procs.length,IY w n) ⟨hA,hs,mJ _,(by show w.ev.length+_≤_;have:=h.len;omega),hW⟩ (by exact ao (qf [(1011,2)])) ?_
 clear hZ hW hA kL hs h he hnow h3
 rintro ⟨m,v⟩ ⟨hc,hsv,hwc,hev,hs⟩
 dsimp only at *
 obtain ⟨e,he⟩:∃e,du v=e:=⟨_,rfl⟩
 rw [he]
 by_cases hneg:e<0
 ·obtain rfl:v=W:=by
   rw [←hs]
   cases m with
   | zero=>rfl
   | succ m=>rw [qA,he,decide_eq_true hneg];rfl
  repeat' (first
   | refine ah ?_ ?_
   | refine af ?_
   | exact ai|refine ae fun hb=>?_
   | (refine aE (qf [(4,1011)]) ?_;exact ab))
 obtain ⟨hi,hl1,_⟩:=(kz v).2 (by omega)
 have hwt:(v.pc (du v).toNat).waiting=true:=by rw [bv hi];exact hl1
 cases m with
 | zero=>exact absurd (kv hi hl1) (by omega)
 | succ m =>
  have hts:Hf v=bf (aC (v.note 4 (v.pc (du v).toNat).proc) (du v).toNat) (du v).toNat:=rfl
  rw [qA,he,decide_eq_false hneg,cond_false,hts,he] at hs
  clear hl1
  rw [he] at hi hwt
  clear hts
  obtain ⟨i,hei⟩:∃i:Nat,e=(i:Int):=⟨e.toNat,by omega⟩
  subst hei
  simp only [Int.toNat_natCast] at hi hwt hs
  obtain ⟨x,hx⟩:∃x,v.c.procs[i]? = some x:=⟨_,List.getElem?_eq_getElem hi⟩
  have hpc:=gf hx
  have hc0:CI (v.note 4 x.proc).c:=hc
  have hp0:(v.note 4 x.proc).pc i=x:=hpc
  have hw0:((v.note 4 x.proc).pc i).waiting=true:=by rw [hp0,←hpc];exact hwt
  obtain ⟨k1,k2,k3,k4,_⟩:=c7 hc0 hi hw0
  have hdr:=Kf hc0 hi hw0 (by rw [mO];omega)
  have hevw:=jb (v.note 4 x.proc) i
  rw [mO] at hevw
  rw [hp0] at hdr
  rw [hpc] at hs
  have kN:=Ht d v 4 x.proc (by omega)
  obtain ⟨V,hV⟩:∃V,aC (v.note 4 x.proc) i=V:=⟨_,rfl⟩
  have kW:=nP d (v.note 4 x.proc) i hx hdr hV
  rw [hV] at k1 k2 k3 k4 hevw hs
  have hi2:i<V.c.procs.length:=by rw [k3.len];exact hi
  obtain ⟨y,hy⟩:∃y,V.c.procs[i]? = some y:=⟨_,List.getElem?_eq_getElem hi2⟩
  have hrun:(V.pc i).waiting=false:=by rw [bv hi2];simp [k4]
  obtain ⟨n1,n2,n3⟩:=gY k1 hi2 hrun
  have hN:bf V i=V.setP i { y with gen:=aQ y.gen }:=by unfold bf;rw [gf hy]
  obtain ⟨q1,q2,q3,q4,q5,q6,_⟩:=iy n1
  have k2':ce V.c.procs+1=ce v.c.procs:=k2
  have he3:=AM n1
  have he2:(bf V i).ev.length≤v.ev.length+281:=by
   show V.ev.length≤_
   omega
  have kS:=lc d (bf V i) _ (A9 n1 (by omega))
  obtain ⟨F,hF⟩:∃F,a8 (bf V i).c.procs.length (bf V i)=F:=⟨_,rfl⟩
  rw [show br (bf V i)=F from hF] at q1 q2 q5
  rw [hF] at kS hs he3
  rw [hN] at kS he3
  have kX:=Gq d F (by have:=q1.len;omega) (Kw q1) rfl
  have he4:(V.setP i { y with gen:=aQ y.gen }).ev.length=V.ev.length:=rfl
  have f1:ce F.c.procs≤m:=by omega
  have f2:F.ev.length+3000*m≤300000:=by omega
  clear hF hN hV k4 hdr n1 n2 he2 k3 k1 hp0 hc0 hw0 he4 hrun hwt hevw k2 k2' he3 hwc hsv hev q5 n3 q3 q4 q6
  repeat' (first
   | refine ah ?_ ?_
   | (refine aa 9 rfl ?_;first
    | (refine cH (qf [(0,0),(1,1),(2,1011),(4,1020)]) (kN) ?_)
    | (refine cH (qf [(0,0),(1,1),(2,1020),(4,1030)]) (kW) ?_)
    | (refine cB [] (iI y.gen) ?_)
    | (refine cH (qf [(0,0),(50,1),(2,1030),(4,1040)]) (kS) ?_)
    | (refine cH (qf [(0,0),(1,1),(2,1040)]) (kX) ?_))
   | (refine aa 21 rfl ?_;first|refine sx (ay rfl rfl) ?_|refine sx (aJ rfl rfl) ?_)
   | refine af ?_
   | (refine aa 4 rfl ?_;refine bc (aB (z:={ y with gen:=aQ y.gen }) rfl rfl rfl rfl hy rfl rfl rfl rfl (Nat.le_of_ble_eq_true rfl) rfl rfl) rfl rfl rfl ?_)
   | exact ai|(refine ae fun hb=>?_;first|(exfalso;omega)|skip))
  refine ⟨(m,F),⟨q1,q2,f1,f2,hs⟩,by dsimp only;omega,?_⟩
  dsimp only
  exact ao (qf [(1011,1040)])
theorem qV (d:Nat) (r:Rq) {b:Bool} (hB:oM r=b):FSpec prog 116 [r.a d] [] [] (.b b) []:=by
 refine aS func116 ?_
 have kE:=yg d r.expr
 repeat' (first
  | refine ah ?_ ?_
  | refine aa 9 rfl (cB [] (kE) ?_)
  | refine af ?_
  | exact ai|refine ae fun hb=>?_)
 all_goals (refine dD ?_;rw [←hB];simp [oM, *];try omega)
theorem Bf (d:Nat) (w:Wk) (i:Nat) (r:Rq) {x:Pc} (hx:w.c.procs[i]? = some x) (h:CI w.c) (hev:w.ev.length≤400000) {Z:Wk×Int} (hZ:cP w i r=Z):FSpec prog 81 [ov,pp i,r.a d] (HP d w) [4] (.i Z.2) (HQ d Z.1):=by
 refine aS func81 ?_
 have hi:=(List.getElem?_eq_some_iff.1 hx).1
 have hpc:=gf hx
 rw [xX] at hZ
 cases hw:x.waiting with
 | true =>
  rw [hpc,hw] at hZ
  obtain rfl:(w,14)=Z:=hZ
  repeat' (first
   | refine ah ?_ ?_
   | (refine aa 21 rfl ?_;first|refine sx (ay rfl rfl) ?_|refine sx (aJ rfl rfl) ?_)
   | refine af ?_
   | exact ai|refine ae fun hb=>?_
   | (refine aE (qf [(4,2)]) ?_;exact ab))
 | false =>
 have hw':(w.pc i).waiting=false:=by rw [hpc];exact hw
 rw [hpc,hw,cond_false] at hZ
 cases hq:oM r with
 | false =>
  rw [hq] at hZ
  obtain rfl:(w,1)=Z:=hZ
  have kV:=qV d r hq
  repeat' (first
   | refine ah ?_ ?_
   | refine aa 9 rfl (cB [] (kV) ?_)
   | (refine aa 21 rfl ?_;first|refine sx (ay rfl rfl) ?_|refine sx (aJ rfl rfl) ?_)
   | refine af ?_
   | exact ai|refine ae fun hb=>?_
   | (refine aE (qf [(4,2)]) ?_;exact ab))
 | true =>
 have kV:=qV d r hq
 rw [hq,Bool.not_true,cond_false] at hZ
 have hV:=h.tv
 have kM:=Gn w.c.queues (by have:=(bD hV).1;omega)
 obtain ⟨c,hc⟩:∃c,go w.c.queues r.expr=c:=⟨_,rfl⟩
 have kR:=wY d w.c.queues r.expr hV hc
 by_cases h0:c=0
 case neg =>
  rw [hc,decide_eq_false h0] at hZ
  obtain rfl:(w,c)=Z:=hZ
  repeat' (first
   | refine ah ?_ ?_
   | (refine aa 9 rfl ?_;first
    | (refine cB [] (kV) ?_)
    | (refine cC [] (kM) ?_)
    | (refine cB [] (kR) ?_))
   | (refine aa 21 rfl ?_;first|refine sx (ay rfl rfl) ?_|refine sx (aJ rfl rfl) ?_)
   | refine af ?_
   | exact ai|(refine ae fun hb=>?_;first|(exact absurd hb h0)|skip)
   | (refine aE (qf [(4,2)]) ?_;exact ab))
 subst h0
 obtain ⟨c2,_,_,hnm⟩:=ox h hi hw' hq hc
 rw [hc,decide_eq_true rfl] at hZ
 have hv:ib r.expr=true:=by unfold oM at hq;simp only [Bool.and_eq_true] at hq;exact hq.1.1.1.1
 have h24:r.expr.cnt≤24:=by have h:=hv;simp [ib,qX] at h;exact h.1.2
 obtain ⟨_,hrsl⟩:=nC hc
 have h8:=dN r.expr
 obtain ⟨L,hL⟩:∃L,cj r.expr=L:=⟨_,rfl⟩
 have kA:=jW d r.expr hL
 have kE:=zB r.expr d (by omega)
 have s1:=gJ hi { x with waiting:=true }
 have l1:i<(w.c.procs.set i { x with waiting:=true }).length:=by rw [List.length_set];exact hi
 have s2:=gJ l1 { x with waiting:=true,req:=r }
 have l2:i<((w.c.procs.set i { x with waiting:=true }).set i { x with waiting:=true,req:=r }).length:=by rw [List.length_set];exact l1
 have s3:=gJ l2 { x with waiting:=true,req:=r,since:=w.c.now }
 obtain ⟨B,hB⟩:∃B,B=(((w.setP i { x with waiting:=true }).setP i { x with waiting:=true,req:=r }).setP i { x with waiting:=true,req:=r,since:=w.c.now }).setP i { x with waiting:=true,req:=r,since:=w.c.now,gen:=aQ x.gen }:=⟨_,rfl⟩
 have hBe:Jt w i r=B:=by
  unfold Jt
  rw [hpc]
  unfold bf
  rw [fk hi,fG,hB,fG,fG,fG]
 have hS:CW w i r=cE x.proc r.prio L B:=by
  unfold CW
  rw [hBe,hpc,hL]
 have hev2:=qG x.proc r.prio L B
 have hBev:B.ev.length=w.ev.length:=by rw [hB];rfl
 have hBq:B.c.queues=w.c.queues:=by rw [hB];rfl
 have hBp:∃v,B.c.procs[i]? = some v∧v.proc=x.proc:=⟨{ x with waiting:=true,req:=r,since:=w.c.now,gen:=aQ x.gen },by rw [hB];exact gJ (by rw [show ((((w.setP i { x with waiting:=true }).setP i { x with waiting:=true,req:=r }).setP i { x with waiting:=true,req:=r,since:=w.c.now }).c.procs)=((w.c.procs.set i { x with waiting:=true }).set i { x with waiting:=true,req:=r }).set i { x with waiting:=true,req:=r,since:=w.c.now } from rfl,List.length_set];exact l2) _,rfl⟩
 rw [hS] at hZ c2 hnm
 rw [hL] at hrsl h8
 obtain ⟨W,hW⟩:∃W,cE x.proc r.prio L B=W:=⟨_,rfl⟩
 rw [hW] at hZ c2 hnm hev2
 have hWne:L=[]∨W.c.queues≠[]:=by
  cases L with
  | nil=>exact .inl rfl
  | cons a l=>exact .inr (zy hnm (qS (hrsl a (by simp)).1))
 obtain ⟨F,hF⟩:∃F,a8 W.c.procs.length W=F:=⟨_,rfl⟩
 have kS:=lc d W _ (A9 c2 (by omega))
 rw [hF] at kS hZ
 obtain rfl:(F,(0:Int))=Z:=hZ
 have hBl:B.ev.length+18*L.length≤500000:=by omega
 clear hS hBe hc c2 hnm hrsl hF hv hq hV hL hw' hpc hev2 hBev hBq h24
 subst hB
 repeat' (first
  | refine ah ?_ ?_
  | (refine aa 9 rfl ?_;first
   | (refine cB [] (kV) ?_)
   | (refine cC [] (kM) ?_)
   | (refine cB [] (kR) ?_)
   | (refine cC [] (kE) ?_)
   | (refine cB [] (iI x.gen) ?_)
   | (refine cC [] (kA) ?_))
  | (refine aa 21 rfl ?_;first|refine sx (ay rfl rfl) ?_|refine sx (aJ rfl rfl) ?_)
  | refine af ?_
  | (refine aa 4 rfl ?_;first
   | (refine bc (aB (z:={ x with waiting:=true }) rfl rfl rfl rfl hx rfl rfl rfl rfl (Nat.le_of_ble_eq_true rfl) rfl rfl) rfl rfl rfl ?_)
   | (refine bc (aB (z:={ x with waiting:=true,req:=r }) rfl rfl rfl rfl s1 rfl rfl rfl rfl (Nat.le_of_ble_eq_true rfl) rfl rfl) rfl rfl rfl ?_)
   | (refine bc (mB (z:={ x with waiting:=true,req:=r }) rfl rfl rfl rfl s1 rfl rfl rfl rfl (Nat.le_of_ble_eq_true rfl) (by (repeat' (first|exact trivial|exact .same _|exact .nil|refine ⟨?_,?_⟩));first|done|fail) rfl) rfl rfl rfl ?_)
   | (refine bc (aB (z:={ x with waiting:=true,req:=r,since:=w.c.now }) rfl rfl rfl rfl s2 rfl rfl rfl rfl (Nat.le_of_ble_eq_true rfl) rfl rfl) rfl rfl rfl ?_)
   | (refine bc (aB (z:={ x with waiting:=true,req:=r,since:=w.c.now,gen:=aQ x.gen }) rfl rfl rfl rfl s3 rfl rfl rfl rfl (Nat.le_of_ble_eq_true rfl) rfl rfl) rfl rfl rfl ?_))
  | exact ai|(refine ae fun hb=>?_;first|(exact absurd rfl hb)|skip))
 refine aj (fun y:Nat×Wk=>y.1≤L.length∧cE x.proc r.prio (L.drop y.1) y.2=W∧y.2.ev.length+18*(L.length-y.1)≤500000∧∃v,y.2.c.procs[i]? = some v∧v.proc=x.proc) (fun y=>bH [0,1,2,5,1011] [(0,.v ov),(1,.v (pp i)),(5,.c (.ptr 5 0)),(58,.c (.sl bV L)),(59,.i L.length),(60,.i y.1)] [(0,.box 85 (zn y.2 1011)),(1,.arr 63 (fh d) y.2.c.procs),(5,.box 44 (r.d d)),(1011,.arr 67 i7 y.2.ev)]) (fun y=>L.length-y.1) (0,(((w.setP i { x with waiting:=true }).setP i { x with waiting:=true,req:=r }).setP i { x with waiting:=true,req:=r,since:=w.c.now }).setP i { x with waiting:=true,req:=r,since:=w.c.now,gen:=aQ x.gen }) ⟨Nat.zero_le _,hW,hBl,hBp⟩ (by exact ao (qf [(1011,2)])) ?_
 clear hx s1 s2 s3 l1 l2 hW hBl hBp kA kE kR kM kV
 rintro ⟨k,u⟩ ⟨hk,hu,hue,v,hv1,hv2⟩
 dsimp only at *
 by_cases hlt:k<L.length
 ·rw [List.drop_eq_getElem_cons hlt] at hu
  obtain ⟨a,ha⟩:∃a,L[k]=a:=⟨_,rfl⟩
  have hga:L[k]? = some a:=by rw [List.getElem?_eq_getElem hlt,ha]
  rw [ha] at hu
  obtain ⟨R,hR⟩:∃R,bJ u.c.queues x.proc a r.prio=R:=⟨_,rfl⟩
  have hRl:=qC u.c.queues x.proc a r.prio
  have hu:cE x.proc r.prio (L.drop (k+1)) (u.take R.1 R.2.1)=W:=by rw [←hR];exact hu
  have h00:R.2.2=0:=Classical.byContradiction fun hne=>by
   have e1:R.1=[]:=by rw [←hR];exact yf (by rw [hR];exact hne)
   have e2:=qN (p:=x.proc) (prio:=r.prio) (l:=L.drop (k+1)) (w:=u.take R.1 R.2.1) e1
   rw [hu] at e2
   rcases hWne with e3|e3
   ·rw [e3] at hlt;exact absurd hlt (by simp)
   ·exact e3 e2
  have kC:=FC u.c.queues x.proc a r.prio hR
  rw [hR] at hRl
  obtain ⟨R1,R2,R3⟩:=R
  obtain rfl:R3=0:=h00
  have kT:=zo d u R1 R2 (by dsimp only at hRl;omega)
  obtain ⟨z,hz⟩:∃z,u.take R1 R2=z:=⟨_,rfl⟩
  have hzp:z.c.procs=u.c.procs:=by rw [←hz];rfl
  have hze:z.ev.length=u.ev.length+R2.length:=by rw [←hz,mM]
  have hu:cE x.proc r.prio (L.drop (k+1)) z=W:=by rw [←hz];exact hu
  rw [hz] at kT
  rw [←hv2] at kC
  dsimp only at hRl
  have hz2:z.ev.length+18*(L.length-(k+1))≤500000:=by omega
  clear hz hze hue hRl hR
  repeat' (first
   | refine ah ?_ ?_
   | (refine aa 9 rfl ?_;first
    | (refine cC [] (kC) ?_)
    | (refine cH (qf [(0,0),(1,1),(2,1011),(4,1020)]) (kT) ?_))
   | (refine aa 21 rfl ?_;first|refine sx (ay rfl rfl) ?_|refine sx (aJ rfl rfl) ?_)
   | refine af ?_
   | exact ai|refine ae fun hb=>?_)
  refine ⟨(k+1,z),⟨by dsimp only;omega,hu,hz2,v,by dsimp only;rw [hzp];exact hv1,hv2⟩,by dsimp only;omega,?_⟩
  dsimp only
  exact ao (qf [(1011,1020)])
 ·rw [List.drop_eq_nil_of_le (by omega)] at hu
  obtain rfl:u=W:=hu
  repeat' (first
   | refine ah ?_ ?_
   | refine aa 9 rfl (cH (qf [(0,0),(50,1),(2,1011),(4,1020)]) (kS) ?_)
   | refine af ?_
   | exact ai|refine ae fun hb=>?_
   | (refine aE (qf [(4,1020)]) ?_;exact ab))
theorem H9 (d:Nat) (w:Wk) (k:Cm) (h:CI w.c) (hs:∀x∈w.c.procs,eu w.c.queues x=false) (he:w.ev.length≤1000) {Z:Wk×Int} (hZ:tW w k=Z):FSpec prog 34 [ov,k.a d] (HP d w) [3,4] (.i Z.2) (HR d Z.1):=by
 refine aS func34 ?_
 obtain ⟨kd,p,r,nm,n⟩:=k
 unfold tW at hZ
 dsimp only at hZ
 have h8:=h.len
 by_cases hA:1≤kd∧kd≤9
 case neg =>
  rw [show (decide (1≤kd) && decide (kd≤9))=false by rw [Bool.and_eq_false_iff];simp;omega] at hZ
  obtain rfl:(w,1)=Z:=hZ
  repeat' (first
   | refine ah ?_ ?_
   | refine af ?_
   | exact ai|(refine ae fun hb=>?_;first|(exfalso;omega)|skip)
   | (refine aE (qf [(3,1),(4,2)]) ?_;exact ab))
 obtain ⟨hA1,hA2⟩:=hA
 rw [decide_eq_true hA1,decide_eq_true hA2,Bool.and_self,Bool.not_true,cond_false] at hZ
 by_cases h1:kd=1
 ·subst h1
  have hZ:ls w p n=Z:=hZ
  have kO:=H7 d w p n h8 (J1 h p) hZ
  repeat' (first
   | refine ah ?_ ?_
   | refine aa 9 rfl (cH (qf [(0,0),(1,1),(2,2),(3,1003),(4,1004)]) (kO) ?_)
   | refine af ?_
   | exact ai|refine ae fun hb=>?_
   | (refine aE (qf [(3,1003),(4,1004)]) ?_;exact ab))
 rw [decide_eq_false h1,cond_false] at hZ
 by_cases h9:kd=9
 ·subst h9
  have hZ:iu w n=Z:=hZ
  have kT:=H8 d w n h hs he hZ
  repeat' (first
   | refine ah ?_ ?_
   | refine aa 9 rfl (cH (qf [(0,0),(1,1),(2,2),(4,1004)]) (kT) ?_)
   | refine af ?_
   | exact ai|refine ae fun hb=>?_
   | (refine aE (qf [(3,1),(4,1004)]) ?_;exact ab))
 rw [decide_eq_false h9,cond_false] at hZ
 by_cases hI:cK p 0 w.c.procs<0
 ·rw [decide_eq_true hI,cond_true] at hZ
  obtain rfl:(w,10)=Z:=hZ
  have kI:=uB d w.c.procs p (by omega) rfl
  repeat' (first
   | refine ah ?_ ?_
   | refine aa 9 rfl (cH (qf [(1,1)]) (kI) ?_)
   | (refine aa 21 rfl ?_;first|refine sx (ay rfl rfl) ?_|refine sx (aJ rfl rfl) ?_)
   | refine af ?_
   | exact ai|(refine ae fun hb=>?_;first|(exfalso;omega)|skip)
   | (refine aE (qf [(3,1),(4,2)]) ?_;exact ab))
 rw [decide_eq_false hI,cond_false] at hZ
 obtain ⟨i,hi,ei,_⟩:=iC (p:=p) (l:=w.c.procs) (k:=0) (by omega)
 rw [Nat.zero_add] at ei
 have kI:=uB d w.c.procs p (by omega) ei
 rw [ei,Int.toNat_natCast] at hZ
 clear hI ei
 obtain ⟨x,hx⟩:∃x,w.c.procs[i]? = some x:=⟨_,List.getElem?_eq_getElem hi⟩
 have hpc:=gf hx
 by_cases h2:kd=2
 ·subst h2
  have hZ:cP w i r=Z:=hZ
  have kT:=Bf d w i r hx h (by omega) hZ
  repeat' (first
   | refine ah ?_ ?_
   | (refine aa 9 rfl ?_;first
    | (refine cH (qf [(1,1)]) (kI) ?_)
    | (refine cH (qf [(0,0),(1,1),(2,2),(4,1004)]) (kT) ?_))
   | (refine aa 21 rfl ?_;first|refine sx (ay rfl rfl) ?_|refine sx (aJ rfl rfl) ?_)
   | refine af ?_
   | exact ai|(refine ae fun hb=>?_;first|(exfalso;omega)|skip)
   | (refine aE (qf [(3,1),(4,1004)]) ?_;exact ab))
 rw [decide_eq_false h2,cond_false] at hZ
 by_cases h3:kd=3
 ·subst h3
  rw [hpc] at hZ
  have hZ:(bif !x.waiting then (w,(14:Int)) else (br (bf (aC w i) i),0))=Z:=hZ
  have kT:=DP d w i hx h (by omega) hZ
  repeat' (first
   | refine ah ?_ ?_
   | (refine aa 9 rfl ?_;first
    | (refine cH (qf [(1,1)]) (kI) ?_)
    | (refine cH (qf [(0,0),(1,1),(2,2),(4,1004)]) (kT) ?_))
   | (refine aa 21 rfl ?_;first|refine sx (ay rfl rfl) ?_|refine sx (aJ rfl rfl) ?_)
   | refine af ?_
   | exact ai|(refine ae fun hb=>?_;first|(exfalso;omega)|skip)
   | (refine aE (qf [(3,1),(4,1004)]) ?_;exact ab))
 rw [decide_eq_false h3,cond_false] at hZ
 by_cases h4:kd=4
 ·subst h4
  have hZ:dY w i nm=Z:=hZ
  have kT:=Bb d w i nm hx h (by omega) hZ
  repeat' (first
   | refine ah ?_ ?_
   | (refine aa 9 rfl ?_;first
    | (refine cH (qf [(1,1)]) (kI) ?_)
    | (refine cH (qf [(0,0),(1,1),(2,2),(4,1004)]) (kT) ?_))
   | (refine aa 21 rfl ?_;first|refine sx (ay rfl rfl) ?_|refine sx (aJ rfl rfl) ?_)
   | refine af ?_
   | exact ai|(refine ae fun hb=>?_;first|(exfalso;omega)|skip)
   | (refine aE (qf [(3,1),(4,1004)]) ?_;exact ab))
 rw [decide_eq_false h4,cond_false] at hZ
 by_cases h5:kd=5
 ·subst h5
  rw [hpc] at hZ
  have hZ:(bif x.waiting then (w,(14:Int)) else bif !decide ((el x.led n).2=0) then (w,(el x.led n).2) else (bf (w.setP i { x with led:=(el x.led n).1 }) i,0))=Z:=hZ
  have kT:=H5 d w i n hx hZ
  repeat' (first
   | refine ah ?_ ?_
   | (refine aa 9 rfl ?_;first
    | (refine cH (qf [(1,1)]) (kI) ?_)
    | (refine cH (qf [(0,0),(1,1),(2,2),(4,1004)]) (kT) ?_))
   | (refine aa 21 rfl ?_;first|refine sx (ay rfl rfl) ?_|refine sx (aJ rfl rfl) ?_)
   | refine af ?_
   | exact ai|(refine ae fun hb=>?_;first|(exfalso;omega)|skip)
   | (refine aE (qf [(3,1),(4,1004)]) ?_;exact ab))
 rw [decide_eq_false h5,cond_false] at hZ
 by_cases h6:kd=6
 ·subst h6
  have hZ:cX w i n=Z:=hZ
  have kT:=ym d w i n hx h (by omega) hZ
  repeat' (first
   | refine ah ?_ ?_
   | (refine aa 9 rfl ?_;first
    | (refine cH (qf [(1,1)]) (kI) ?_)
    | (refine cH (qf [(0,0),(1,1),(2,2),(4,1004)]) (kT) ?_))
   | (refine aa 21 rfl ?_;first|refine sx (ay rfl rfl) ?_|refine sx (aJ rfl rfl) ?_)
   | refine af ?_
   | exact ai|(refine ae fun hb=>?_;first|(exfalso;omega)|skip)
   | (refine aE (qf [(3,1),(4,1004)]) ?_;exact ab))
 rw [decide_eq_false h6,cond_false] at hZ
 obtain ⟨F,hF⟩:∃F,iq w i=F:=⟨_,rfl⟩
 have kG:=H6 d w i hx h (by omega) hF
 rw [hF,hpc] at hZ
 by_cases h8b:kd=8
 ·subst h8b
  cases hw:x.waiting with
  | true =>
   rw [hw] at hZ
   obtain rfl:(w,14)=Z:=hZ
   repeat' (first
    | refine ah ?_ ?_
    | refine aa 9 rfl (cH (qf [(1,1)]) (kI) ?_)
    | (refine aa 21 rfl ?_;first|refine sx (ay rfl rfl) ?_|refine sx (aJ rfl rfl) ?_)
    | refine af ?_
    | exact ai|(refine ae fun hb=>?_;first|(cases hw.symm.trans hb;done)|(exfalso;omega)|skip)
    | (refine aE (qf [(3,1),(4,2)]) ?_;exact ab))
  | false =>
   rw [hw] at hZ
   obtain rfl:(F,0)=Z:=hZ
   repeat' (first
    | refine ah ?_ ?_
    | (refine aa 9 rfl ?_;first
     | (refine cH (qf [(1,1)]) (kI) ?_)
     | (refine cH (qf [(0,0),(1,1),(2,2),(3,1003),(4,1004)]) (kG) ?_))
    | (refine aa 21 rfl ?_;first|refine sx (ay rfl rfl) ?_|refine sx (aJ rfl rfl) ?_)
    | refine af ?_
    | exact ai|(refine ae fun hb=>?_;first|(cases hw.symm.trans hb;done)|(exfalso;omega)|skip)
    | (refine aE (qf [(3,1003),(4,1004)]) ?_;exact ab))
 ·rw [decide_eq_false h8b] at hZ
  obtain rfl:kd=7:=by omega
  obtain rfl:(F,0)=Z:=hZ
  repeat' (first
   | refine ah ?_ ?_
   | (refine aa 9 rfl ?_;first
    | (refine cH (qf [(1,1)]) (kI) ?_)
    | (refine cH (qf [(0,0),(1,1),(2,2),(3,1003),(4,1004)]) (kG) ?_))
   | (refine aa 21 rfl ?_;first|refine sx (ay rfl rfl) ?_|refine sx (aJ rfl rfl) ?_)
   | refine af ?_
   | exact ai|(refine ae fun hb=>?_;first|(exfalso;omega)|skip)
   | (refine aE (qf [(3,1003),(4,1004)]) ?_;exact ab))
theorem FQ (q:Qu) (h1:q.holds.length≤100000) (h2:q.convs.length≤100000) (h3:q.waits.length≤100000):FSpec prog 78 [q.a] [] [] (.v q.a) []:=by
 refine aS func78 ?_
 repeat' (first
  | refine ah ?_ ?_
  | refine af ?_
  | exact ai|refine ae fun hb=>?_
  | (refine aE (qf []) ?_;exact ab))
theorem zD (d:Nat) (x:Pc) (h1:x.led.entries.length≤100000) (h2:x.led.saves.length≤100000) (h3:x.req.expr.cnt≤1000):FSpec prog 41 [x.a d] [] [] (.v (x.a d)) []:=by
 refine aS func41 ?_
 have kE:=zB x.req.expr d h3
 repeat' (first
  | refine ah ?_ ?_
  | refine aa 9 rfl (cC [] (kE) ?_)
  | refine af ?_
  | exact ai|refine ae fun hb=>?_
  | (refine aE (qf []) ?_;exact ab))
def KB (c:Cs):Prop:=c.queues.length≤100000∧c.procs.length≤100000∧(∀q∈c.queues,q.holds.length≤100000∧q.convs.length≤100000∧q.waits.length≤100000)∧∀x∈c.procs,x.led.entries.length≤100000∧x.led.saves.length≤100000∧x.req.expr.cnt≤1000
theorem FR (d:Nat) (c:Cs) (h:KB c):FSpec prog 33 [.ag [.sc (.int .i64 c.now),.sl dt c.queues,.sl (fh d) c.procs]] [] [1] (.v (.ag [.sc (.int .i64 c.now),.sl dt c.queues,.own 1])) [(1,some (.arr 63 (fh d) c.procs))]:=by
 refine aS func33 ?_
 obtain ⟨now,Q,P⟩:=c
 obtain ⟨h1,h2,h3,h4⟩:=h
 dsimp only at *
 repeat' (first
  | refine ah ?_ ?_
  | refine af ?_
  | exact ai|refine ae fun hb=>?_)
 refine oU 3 1 1000 81 dt rfl rfl rfl rfl ?_
 refine oU 3 2 1001 63 (fh d) rfl rfl rfl rfl ?_
 refine aj (fun i=>i≤Q.length) (fun i=>bH [1,2,3,1000,1001] [(1,.c (.ptr 1 0)),(2,.c (.ptr 2 0)),(3,.c (.ptr 3 0)),(12,.c (.sl dt Q)),(13,.i Q.length),(14,.i i)] [(1,.box 26 [.sc (.int .i64 now),.sl dt Q,.sl (fh d) P]),(2,.box 26 [.sc (.int .i64 0),.sc (.slice none 0 0),.sc (.slice none 0 0)]),(3,.box 26 [.sc (.int .i64 now),.own 1000,.own 1001]),(1000,.arr 81 dt (Q.take i)),(1001,.arr 63 (fh d) [])]) (fun i=>Q.length-i) 0 (Nat.zero_le _) (by exact ao (qf [])) ?_
 intro i hi
 have hti:(Q.take i).length=i:=by simp;omega
 by_cases hlt:i<Q.length
 ·obtain ⟨q,hq⟩:∃q,Q[i]=q:=⟨_,rfl⟩
  have hgq:Q[i]? = some q:=by rw [List.getElem?_eq_getElem hlt,hq]
  obtain ⟨j1,j2,j3⟩:=h3 q (hq▸List.getElem_mem hlt)
  have kQ:=FQ q j1 j2 j3
  have e2:Q.take (i+1)=Q.take i++[q]:=by rw [List.take_succ_eq_append_getElem hlt,hq]
  clear h3 h4
  repeat' (first
   | refine ah ?_ ?_
   | (refine aa 8 rfl ?_;refine bg (aw rfl rfl (aL rfl rfl) (aP [q] rfl rfl rfl rfl) rfl aR aR) rfl rfl rfl ?_)
   | refine aa 9 rfl (cC [] (kQ) ?_)
   | refine af ?_
   | exact ai|refine ae fun hb=>?_)
  refine ⟨i+1,by omega,by omega,?_⟩
  rw [e2]
  exact ao (qf [(1000,23)])
 have e2:Q.take i=Q:=List.take_of_length_le (by omega)
 rw [e2]
 clear h3 hti e2
 repeat' (first
  | refine ah ?_ ?_
  | refine af ?_
  | exact ai|refine ae fun hb=>?_)
 refine aj (fun i=>i≤P.length) (fun i=>bH [1,2,3,1000,1001] [(1,.c (.ptr 1 0)),(2,.c (.ptr 2 0)),(3,.c (.ptr 3 0)),(27,.c (.sl (fh d) P)),(28,.i P.length),(29,.i i)] [(1,.box 26 [.sc (.int .i64 now),.sl dt Q,.sl (fh d) P]),(2,.box 26 [.sc (.int .i64 0),.sc (.slice none 0 0),.sc (.slice none 0 0)]),(3,.box 26 [.sc (.int .i64 now),.own 1000,.own 1001]),(1000,.arr 81 dt Q),(1001,.arr 63 (fh d) (P.take i))]) (fun i=>P.length-i) 0 (Nat.zero_le _) (by exact ao (qf [])) ?_
 clear hi hlt
 intro i hi
 have hti:(P.take i).length=i:=by simp;omega
 by_cases hlt:i<P.length
 ·obtain ⟨x,hx⟩:∃x,P[i]=x:=⟨_,rfl⟩
  have hgx:P[i]? = some x:=by rw [List.getElem?_eq_getElem hlt,hx]
  obtain ⟨j1,j2,j3⟩:=h4 x (hx▸List.getElem_mem hlt)
  have kP:=zD d x j1 j2 j3
  have e2:P.take (i+1)=P.take i++[x]:=by rw [List.take_succ_eq_append_getElem hlt,hx]
  clear h4
  repeat' (first
   | refine ah ?_ ?_
   | (refine aa 8 rfl ?_;refine bg (aw rfl rfl (aL rfl rfl) (aP [x] rfl rfl rfl rfl) rfl aR aR) rfl rfl rfl ?_)
   | refine aa 9 rfl (cC [] (kP) ?_)
   | refine af ?_
   | exact ai|refine ae fun hb=>?_)
  refine ⟨i+1,by omega,by omega,?_⟩
  rw [e2]
  exact ao (qf [(1001,38)])
 have e2:P.take i=P:=List.take_of_length_le (by omega)
 rw [e2]
 repeat' (first
  | refine ah ?_ ?_
  | refine af ?_
  | exact ai|refine ae fun hb=>?_
  | (refine aE (qf [(1,1001)]) ?_;exact ab))
theorem Gs (d:Nat) (l:List Rs) {v:Bool} (hv:Bc l=v) {Q:List Qu} (hQ:(bif v then l.map ln else [])=Q):FSpec prog 5 [.one (.sl de l)] [] [] (.tup [.ag [.sc (.int .i64 0),.sl dt Q,.sl (fh d) []],iV (bif v then 0 else 1)]) []:=by
 have kN:=Jh l hv
 rw [hQ] at kN
 refine aS func5 ?_
 cases v with
 | true =>
  repeat' (first
   | refine ah ?_ ?_
   | refine aa 9 rfl (cC [] (kN) ?_)
   | refine af ?_
   | exact ai|(refine ae fun hb=>?_;first|(exact absurd rfl hb)|skip)
   | (refine fL (qf []) ?_;exact ab))
 | false =>
  obtain rfl:[]=Q:=hQ
  repeat' (first
   | refine ah ?_ ?_
   | refine aa 9 rfl (cC [] (kN) ?_)
   | refine af ?_
   | exact ai|(refine ae fun hb=>?_;first|(exact absurd hb (by decide))|skip)
   | (refine fL (qf []) ?_;exact ab))
theorem FS (l:List Ex):(((l.length:Nat):Int) == 0)=l.isEmpty:=by
 cases l with
 | nil=>rfl
 | cons x l =>
  show _=false
  rw [beq_eq_false_iff_ne]
  simp only [List.length_cons]
  omega
theorem Ia (d:Nat) (r:Rq) {b:Bool} (hb0:D5 r=b):FSpec prog 121 [r.a d] [] [] (.b b) []:=by
 refine aS func121 ?_
 have he:D5 r=(decide (r.prio=0) && decide (r.limit=0) && decide (r.expr.k=0) && decide (r.expr.atom=fO) && r.expr.kids.isEmpty):=by
  unfold D5 D4
  cases decide (r.expr.k=0) <;> cases decide (r.expr.atom=fO) <;> cases r.expr.kids.isEmpty <;> cases decide (r.prio=0) <;> cases decide (r.limit=0) <;> rfl
 rw [he] at hb0
 clear he
 repeat' (first
  | refine ah ?_ ?_
  | refine af ?_
  | exact ai|refine ae fun hb=>?_)
 all_goals (refine dD ?_;rw [←hb0];simp [*];try exact FS _)
def Gt (n:ByteArray):Nat→List Tm→Int
 | _,[]=>-1
 | k,a :: l=>bif aY a.name n then (k:Int) else Gt n (k+1) l
theorem Kg (a:Tm) (q:Qu):FSpec prog 197 [a.a,.one (.ptr 9 0)] [(9,.box 81 q.d)] [] (.b (aY a.name q.res.name)) [(9,some (.box 81 q.d))]:=by
 refine aS func197 ?_
 repeat' (first
  | refine ah ?_ ?_
  | refine af ?_
  | exact ai|refine ae fun hb=>?_
  | (refine aE (qf []) ?_;exact ab))
theorem Gu (L:List Tm) (q:Qu) (hl:L.length≤100000) {z:Int} (hz:Gt q.res.name 0 L=z):FSpec prog 196 [.one (.sl bV L),.one (.clo 197 [9])] [(9,.box 81 q.d)] [] (.i z) [(9,some (.box 81 q.d))]:=by
 refine aS func196 ?_
 repeat' (first
  | refine ah ?_ ?_
  | refine af ?_
  | exact ai|refine ae fun hb=>?_)
 refine aj (fun i=>i≤L.length∧Gt q.res.name i (L.drop i)=z) (fun i=>bH [9] [(0,.c (.sl bV L)),(1,.c (.clo 197 [9])),(7,.i L.length),(8,.i i)] [(9,.box 81 q.d)]) (fun i=>L.length-i) 0 ⟨Nat.zero_le _,hz⟩ (by exact ao (qf [])) ?_
 rintro i ⟨hi,hs⟩
 by_cases hlt:i<L.length
 ·obtain ⟨a,ha⟩:∃a,L[i]=a:=⟨_,rfl⟩
  have hga:L[i]? = some a:=by rw [List.getElem?_eq_getElem hlt,ha]
  rw [List.drop_eq_getElem_cons hlt,ha] at hs
  have hs:(bif aY a.name q.res.name then (i:Int) else Gt q.res.name (i+1) (L.drop (i+1)))=z:=hs
  have kS:=Kg a q
  obtain ⟨b,hb1⟩:∃b,aY a.name q.res.name=b:=⟨_,rfl⟩
  rw [hb1] at hs kS
  cases b with
  | true =>
   obtain rfl:(i:Int)=z:=hs
   repeat' (first
    | refine ah ?_ ?_
    | (refine aa 9 rfl ?_;refine ll 1 [9] (qf [(9,9)]) (kS) ?_)
    | refine af ?_
    | exact ai|refine ae fun hb=>?_
    | (refine aE (qf []) ?_;exact ab))
  | false =>
   repeat' (first
    | refine ah ?_ ?_
    | (refine aa 9 rfl ?_;refine ll 1 [9] (qf [(9,9)]) (kS) ?_)
    | refine af ?_
    | exact ai|refine ae fun hb=>?_)
   refine ⟨i+1,⟨by omega,hs⟩,by omega,?_⟩
   exact ao (qf [])
 ·rw [List.drop_eq_nil_of_le (by omega)] at hs
  obtain rfl : -1=z:=hs
  repeat' (first
   | refine ah ?_ ?_
   | refine af ?_
   | exact ai|refine ae fun hb=>?_
   | (refine aE (qf []) ?_;exact ab))
def Ib (q:Qu) (x:Pc) (a:Tm):Bool :=
 bif !(ap q x.proc).isSome then decide (aq q.holds x.proc=bB q.res (az x.led.entries q.res.name) a.am) else
 bif q.waits.any (fun y=>decide (y.proc=x.proc) && !decide (y.prio=x.req.prio)) then false else
 decide (aq q.holds x.proc=az x.led.entries q.res.name) && decide (ap q x.proc=some (bB q.res (az x.led.entries q.res.name) a.am))
theorem wZ (q:Qu) (x:Pc) (a:Tm) (l:List Tm):bS q x (a :: l)=bif !aY a.name q.res.name || bb q.res (az x.led.entries q.res.name) a.am then bS q x l else Ib q x a:=rfl
theorem zE {q:Qu} {x:Pc}:∀{l:List Tm},(∀a∈l,a.name≠q.res.name)→bS q x l=bS q x []
 | [],_=>rfl
 | a :: l,h=>by
  rw [wZ,bR.2 (h a (by simp))]
  exact zE fun b hb=>h b (by simp [hb])
theorem zF {q:Qu} {x:Pc}:∀(L:List Tm) (k:Nat),Bl L→(Gt q.res.name k L = -1∧bS q x L=bS q x [])∨
  ∃(i:Nat) (a:Tm),Gt q.res.name k L=((k+i:Nat):Int)∧L[i]? = some a∧bS q x L=bif bb q.res (az x.led.entries q.res.name) a.am then bS q x [] else Ib q x a
 | [],k,_=>.inl ⟨rfl,rfl⟩
 | a :: l,k,h=>by
  obtain ⟨h1,h2⟩:=List.pairwise_cons.1 h
  have e:Gt q.res.name k (a :: l)=bif aY a.name q.res.name then (k:Int) else Gt q.res.name (k+1) l:=rfl
  rw [e,wZ]
  cases hn:aY a.name q.res.name with
  | true =>
   have hn:=aZ.1 hn
   refine .inr ⟨0,a,rfl,rfl,?_⟩
   rw [zE (l:=l) fun b hb=>by rw [←hn];exact fun e=>h1 b hb e.symm]
   cases bb q.res (az x.led.entries q.res.name) a.am <;> rfl
  | false =>
   rcases zF l (k+1) h2 with h3|⟨i,b,q1,q2,q3⟩
   ·exact .inl h3
   ·exact .inr ⟨i+1,b,by rw [cond_false,q1];omega,q2,q3⟩
theorem FT (d:Nat) (q:Qu) (x:Pc) (L:List Tm) (hnd:Bl L) (hl:L.length≤100000) (h2:q.convs.length≤8) (h3:q.waits.length≤8) {b:Bool} (hB:bS q x L=b):FSpec prog 120 [q.a,x.a d,.one (.sl bV L)] [] [] (.b b) []:=by
 refine aS func120 ?_
 have hpt:=zF (q:=q) (x:=x) L 0 hnd
 rw [hB] at hpt
 have e0:bS q x []=(decide (aq q.holds x.proc=az x.led.entries q.res.name) && !(ap q x.proc).isSome):=rfl
 rw [e0] at hpt
 unfold Ib at hpt
 obtain ⟨l,hL⟩:∃l,az x.led.entries q.res.name=l:=⟨_,rfl⟩
 have kL:=DJ x.led q.res.name hL
 obtain ⟨h,hh⟩:∃h,aq q.holds x.proc=h:=⟨_,rfl⟩
 have kH:=dZ q x.proc
 rw [hh] at kH
 obtain ⟨o,hw⟩:∃o,ap q x.proc=o:=⟨_,rfl⟩
 have kW:=d5 q x.proc h2 h3 hw
 rw [hL,hh,hw] at hpt
 clear hB e0 hw hh hL
 rcases hpt with ⟨hz,hb1⟩|⟨i,a,hz,hga,hb1⟩
 ·have kT:=Gu L q hl hz
  cases o with
  | none =>
   rw [Option.isSome_none] at kW hb1
   repeat' (first
    | refine ah ?_ ?_
    | (refine aa 0 rfl ?_;refine sx (cD (ks:=[3]) rfl rfl) ?_)
    | (refine aa 9 rfl ?_;first
     | (refine cB [] (kL) ?_)
     | (refine cB [] (kH) ?_)
     | (refine cB [] (kW) ?_)
     | (refine cH (qf [(9,3)]) (kT) ?_))
    | refine af ?_
    | exact ai|refine ae fun hb=>?_)
   all_goals (refine dD ?_;rw [hb1];simp [*])
  | some m =>
   rw [Option.isSome_some] at kW hb1
   repeat' (first
    | refine ah ?_ ?_
    | (refine aa 0 rfl ?_;refine sx (cD (ks:=[3]) rfl rfl) ?_)
    | (refine aa 9 rfl ?_;first
     | (refine cB [] (kL) ?_)
     | (refine cB [] (kH) ?_)
     | (refine cB [] (kW) ?_)
     | (refine cH (qf [(9,3)]) (kT) ?_))
    | refine af ?_
    | exact ai|refine ae fun hb=>?_)
   all_goals (refine dD ?_;rw [hb1];simp [*])
 ·rw [Nat.zero_add] at hz
  have kT:=Gu L q hl hz
  have kC:=fp q.res l a.am
  obtain ⟨c,hc⟩:∃c,bb q.res l a.am=c:=⟨_,rfl⟩
  obtain ⟨j,hj⟩:∃j,bB q.res l a.am=j:=⟨_,rfl⟩
  have kJ:=Gf q.res l a.am
  rw [hc,hj] at hb1
  rw [hc] at kC
  rw [hj] at kJ
  have hi:=(List.getElem?_eq_some_iff.1 hga).1
  cases c with
  | true =>
   rw [cond_true] at hb1
   cases o with
   | none =>
    rw [Option.isSome_none] at kW hb1
    repeat' (first
     | refine ah ?_ ?_
     | (refine aa 0 rfl ?_;refine sx (cD (ks:=[3]) rfl rfl) ?_)
     | (refine aa 9 rfl ?_;first
      | (refine cB [] (kL) ?_)
      | (refine cB [] (kH) ?_)
      | (refine cB [] (kW) ?_)
      | (refine cH (qf [(9,3)]) (kT) ?_)
      | (refine cB [] (kC) ?_))
     | refine af ?_
     | exact ai|(refine ae fun hb=>?_;first|(exfalso;omega)|skip))
    all_goals (refine dD ?_;rw [hb1];simp [*])
   | some m =>
    rw [Option.isSome_some] at kW hb1
    repeat' (first
     | refine ah ?_ ?_
     | (refine aa 0 rfl ?_;refine sx (cD (ks:=[3]) rfl rfl) ?_)
     | (refine aa 9 rfl ?_;first
      | (refine cB [] (kL) ?_)
      | (refine cB [] (kH) ?_)
      | (refine cB [] (kW) ?_)
      | (refine cH (qf [(9,3)]) (kT) ?_)
      | (refine cB [] (kC) ?_))
     | refine af ?_
     | exact ai|(refine ae fun hb=>?_;first|(exfalso;omega)|skip))
    all_goals (refine dD ?_;rw [hb1];simp [*])
  | false =>
   rw [cond_false] at hb1
   cases o with
   | none =>
    rw [Option.isSome_none] at kW hb1
    repeat' (first
     | refine ah ?_ ?_
     | (refine aa 0 rfl ?_;refine sx (cD (ks:=[3]) rfl rfl) ?_)
     | (refine aa 9 rfl ?_;first
      | (refine cB [] (kL) ?_)
      | (refine cB [] (kH) ?_)
      | (refine cB [] (kW) ?_)
      | (refine cH (qf [(9,3)]) (kT) ?_)
      | (refine cB [] (kC) ?_)
      | (refine cB [] (kJ) ?_))
     | refine af ?_
     | exact ai|(refine ae fun hb=>?_;first|(exfalso;omega)|skip))
    all_goals (refine dD ?_;rw [hb1];simp [*])
   | some m =>
    rw [Option.isSome_some] at kW hb1
    rw [Bool.not_true,cond_false] at hb1
    by_cases hboth:h=l∧m=j
    case neg =>
     obtain rfl:b=false:=by
      rw [hb1]
      cases q.waits.any (fun y=>decide (y.proc=x.proc) && !decide (y.prio=x.req.prio)) with
      | true=>rfl
      | false =>
       rw [cond_false,Bool.and_eq_false_iff]
       by_cases h1:h=l
       ·exact .inr (decide_eq_false fun h2=>hboth ⟨h1,Option.some.inj h2⟩)
       ·exact .inl (decide_eq_false h1)
     have hb2:h=l→m=j→False:=fun a b=>hboth ⟨a,b⟩
     clear hb1 hboth
     repeat' (first
      | refine ah ?_ ?_
      | (refine aa 0 rfl ?_;refine sx (cD (ks:=[3]) rfl rfl) ?_)
      | (refine aa 9 rfl ?_;first
       | (refine cB [] (kL) ?_)
       | (refine cB [] (kH) ?_)
       | (refine cB [] (kW) ?_)
       | (refine cH (qf [(9,3)]) (kT) ?_)
       | (refine cB [] (kC) ?_)
       | (refine cB [] (kJ) ?_))
      | refine af ?_
      | exact ai|(refine ae fun hb=>?_;first|(first|(exfalso;omega)|exact (hb2 (by assumption) (by assumption)).elim)|skip)
      | (refine aE (qf []) ?_;exact ab))
    obtain ⟨rfl,rfl⟩:=hboth
    have hb1:(!q.waits.any fun y=>decide (y.proc=x.proc) && !decide (y.prio=x.req.prio))=b:=by
     rw [hb1,decide_eq_true rfl,decide_eq_true rfl]
     cases q.waits.any (fun y=>decide (y.proc=x.proc) && !decide (y.prio=x.req.prio)) <;> rfl
    repeat' (first
     | refine ah ?_ ?_
     | (refine aa 0 rfl ?_;refine sx (cD (ks:=[3]) rfl rfl) ?_)
     | (refine aa 9 rfl ?_;first
      | (refine cB [] (kL) ?_)
      | (refine cB [] (kH) ?_)
      | (refine cB [] (kW) ?_)
      | (refine cH (qf [(9,3)]) (kT) ?_)
      | (refine cB [] (kC) ?_)
      | (refine cB [] (kJ) ?_))
     | refine af ?_
     | exact ai|(refine ae fun hb=>?_;first|(first|(exfalso;omega)|exact absurd rfl hb)|skip))
    refine aj (fun i=>i≤q.waits.length∧(!(q.waits.drop i).any fun y=>decide (y.proc=x.proc) && !decide (y.prio=x.req.prio))=b) (fun i=>bH [4] [(4,.c (.ptr 4 0)),(78,.c (.sl eZ q.waits)),(79,.i q.waits.length),(80,.i i)] [(4,.box 63 (x.d d))]) (fun i=>q.waits.length-i) 0 ⟨Nat.zero_le _,hb1⟩ (by exact ao (qf [])) ?_
    clear hb1 kT kL kH kW kC kJ
    rintro i ⟨hi2,hs⟩
    by_cases hlt:i<q.waits.length
    ·obtain ⟨y,hy⟩:∃y,q.waits[i]=y:=⟨_,rfl⟩
     have hgy:q.waits[i]? = some y:=by rw [List.getElem?_eq_getElem hlt,hy]
     rw [List.drop_eq_getElem_cons hlt,hy,List.any_cons] at hs
     have kP:=iF y.proc x.proc
     obtain ⟨e,he⟩:∃e,bt y.proc x.proc=e:=⟨_,rfl⟩
     rw [he] at kP
     have hpe:y.proc=x.proc↔e=0:=by rw [←he];exact (j5 _ _).symm
     by_cases hbad:e=0∧y.prio≠x.req.prio
     ·obtain rfl:b=false:=by rw [←hs,decide_eq_true (hpe.2 hbad.1),decide_eq_false hbad.2];rfl
      obtain ⟨hb3,hb4⟩:=hbad
      repeat' (first
       | refine ah ?_ ?_
       | refine aa 9 rfl (cB [] (kP) ?_)
       | refine af ?_
       | exact ai|(refine ae fun hb=>?_;first|(first|exact absurd hb3 hb|exact absurd hb hb4)|skip)
       | (refine aE (qf []) ?_;exact ab))
     ·have hs:(!(q.waits.drop (i+1)).any fun y=>decide (y.proc=x.proc) && !decide (y.prio=x.req.prio))=b:=by
       rw [←hs]
       by_cases h1:e=0
       ·rw [decide_eq_true (hpe.2 h1),decide_eq_true (Classical.byContradiction fun h2=>hbad ⟨h1,h2⟩)];rfl
       ·rw [decide_eq_false (fun h2=>h1 (hpe.1 h2))];rfl
      have hb2:e=0→y.prio≠x.req.prio→False:=fun a b=>hbad ⟨a,b⟩
      clear hbad
      repeat' (first
       | refine ah ?_ ?_
       | refine aa 9 rfl (cB [] (kP) ?_)
       | refine af ?_
       | exact ai|(refine ae fun hb=>?_;first|(exact (hb2 (by assumption) (by assumption)).elim)|skip))
      all_goals (refine ⟨i+1,⟨by omega,hs⟩,by omega,?_⟩;exact ao (qf []))
    ·rw [List.drop_eq_nil_of_le (by omega)] at hs
     obtain rfl:true=b:=hs
     repeat' (first
      | refine ah ?_ ?_
      | refine af ?_
      | exact ai|refine ae fun hb=>?_
      | (refine aE (qf []) ?_;exact ab))
end Go.Proofs.YtjndcdcbjidocaaGreatDoor
