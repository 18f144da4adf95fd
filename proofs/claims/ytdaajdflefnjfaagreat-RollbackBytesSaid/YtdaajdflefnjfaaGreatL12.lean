/- Part 12 of 24 of the proof of rollbackBytes_holds (no condition). -/
import Derived.Test.YtdaajdflefnjfaaGreatL11
set_option linter.unusedVariables false
set_option linter.unusedSimpArgs false
set_option maxRecDepth 100000
set_option maxHeartbeats 64000000
namespace Go.Proofs.YtdaajdflefnjfaaGreat
open Go.RowKit Go.Proofs.Tryz
theorem Iq (n:Int):FSpec prog 189 [.one (.sc (.int .i64 n))] [] [] (.i (bh n)) []:=by
 obtain ⟨v,hv⟩:∃v,bh n=v:=⟨_,rfl⟩
 rw [hv]
 unfold bh at hv
 refine aX func189 ?_
 by_cases h:n<0∨1073741824≤n
 ·rw [if_pos h] at hv
  obtain rfl:=hv
  repeat' (first
   | refine ah ?_ ?_
   | refine af ?_
   | exact ai|refine ae fun hb=>?_
   | (refine aE (qf []) ?_;exact ab))
  all_goals (exfalso;omega)
 ·rw [if_neg h] at hv
  obtain rfl:=hv
  repeat' (first
   | refine ah ?_ ?_
   | refine af ?_
   | exact ai|refine ae fun hb=>?_
   | (refine aE (qf []) ?_;exact ab))
theorem Eo {n:Nat} {q:Qu} {acc:List Ho} (hs:Sd q) (h:ar q=true):eM n q acc=(q,acc):=by
 cases n with
 | zero=>rfl
 | succ n =>
  have h2:=(db.1 h).2
  unfold eM
  cases hh:dP q with
  | none=>rfl
  | some x=>dsimp only;rw [h2 x hh];rfl
theorem Co {n:Nat} {q:Qu} {acc:List Ho} (hs:Sd q) (h:ar q=false) (hn:gE q≤n):∃x,dP q=some x∧Sd (g8 q x)∧gE (g8 q x)+1=gE q∧0<n∧eM n q acc=eM (n-1) (g8 q x) (acc++[⟨x.proc,x.am⟩]):=by
 cases hh:dP q with
 | none=>rw [db.2 ⟨hs,fun x hx=>by rw [hh] at hx;cases hx⟩] at h;cases h
 | some x =>
  have hr:gZ q.res q.holds x.proc x.am=true:=by
   cases hc:gZ q.res q.holds x.proc x.am with
   | true=>rfl
   | false=>rw [db.2 ⟨hs,fun y hy=>by rw [hh] at hy;injection hy with hy;rw [←hy];exact hc⟩] at h;cases h
  have hp:=zp hh
  obtain ⟨m,rfl⟩:∃m,n=m+1:=⟨n-1,by omega⟩
  refine ⟨x,rfl,hs.pop hh hr,hp,Nat.succ_pos _,?_⟩
  rw [eM,hh]
  dsimp only
  rw [hr]
  rfl
def L8:List D:=[.sc (.string ⟨#[]⟩),.sc (.int .i64 0),.sc (.int .i64 0),.sc (.int .i64 0),.sc (.slice none 0 0),.sc (.slice none 0 0),.sc (.slice none 0 0),.sc (.int .i64 0)]
theorem Ep (q:Qu) (hs:Sd q):FSpec prog 220 [q.a] [] [] (.tup [(vG q).1.a,.one (.sl oS (vG q).2)]) []:=by
 have hh:=hs.hv.len
 have h1:=hs.clen
 have h2:=hs.wlen
 have hsd:=rO.2 hs
 have hm:gE q≤16:=by unfold gE;omega
 refine aX func220 ?_
 repeat' (first
  | refine ah ?_ ?_
  | (refine aa 9 rfl ?_;first
   | (refine cB [] (vS q) ?_)
   | (refine cC [] (mN q (by omega) (by omega) (by omega)) ?_))
  | refine af ?_
  | exact ai|(refine ae fun hb=>?_;first|(simp [hsd] at hb;done)|skip))
 refine cc 4 1000 287 oS rfl rfl rfl ?_
 refine ak (fun x:Nat×Qu×List Ho=>Sd x.2.1∧gE x.2.1≤x.1∧eM x.1 x.2.1 x.2.2=vG q∧x.2.2.length+x.1≤16) (fun x=>bH [1,2,1000] [(1,.c (.ptr 1 0)),(2,.c (.ptr 2 0)),(4,.c (.own 1000))] [(1,.box 165 x.2.1.d),(2,.box 165 L8),(1000,.arr 287 oS x.2.2)]) (fun x=>x.1) (gE q,q,[]) ⟨hs,Nat.le_refl _,rfl,by simpa using hm⟩ (by exact ao (qf [])) ?_
 rintro ⟨n,q1,acc⟩ ⟨hs1,hn,hadv,hlen⟩
 dsimp only at *
 cases hset:ar q1 with
 | true =>
  repeat' (first
   | refine ah ?_ ?_
   | refine aa 9 rfl (cB [] (n5 q1) ?_)
   | refine af ?_
   | exact ai|(refine ae fun hb=>?_;first|(simp [hset] at hb;done)|skip))
  rw [Eo hs1 hset] at hadv
  rw [←hadv]
  refine iG (qf []) ?_;exact ab
 | false =>
  obtain ⟨x,hx,hs2,hn2,hpos,hgo⟩:=Co (acc:=acc) hs1 hset hn
  rw [hgo] at hadv
  have hh1:=hs1.hv.len
  have hq1:=hs1
  obtain ⟨r,hs',cs,ws,gn⟩:=q1
  cases cs with
  | cons y cs =>
   obtain rfl:y=x:=by simpa [dP] using hx
   repeat' (first
    | refine ah ?_ ?_
    | (refine aa 8 rfl ?_;refine aM (aj rfl rfl (ax rfl rfl) (aB [⟨y.proc,y.am⟩] rfl rfl rfl rfl) rfl aC aC) rfl rfl rfl ?_)
    | (refine aa 9 rfl ?_;first
     | (refine cB [] (n5 ⟨r,hs',y :: cs,ws,gn⟩) ?_)
     | (refine cB [] (Ee ⟨r,hs',y :: cs,ws,gn⟩) ?_)
     | (refine cC [] (Eb hs' y.proc y.am (by dsimp only at hh1;omega)) ?_))
    | refine af ?_
    | exact ai|(refine ae fun hb=>?_;first|(simp [hset] at hb;done)|skip))
   ·refine ⟨(n-1,g8 ⟨r,hs',y :: cs,ws,gn⟩ y,acc++[⟨y.proc,y.am⟩]),⟨hs2,by dsimp only;omega,hadv,by simp;omega⟩,by dsimp only;omega,?_⟩
    exact ao (qf [(1000,48)])
  | nil =>
   obtain ⟨ws2,rfl⟩:∃m,ws=x :: m:=by
    cases ws with
    | nil=>simp [dP] at hx
    | cons z m=>exact ⟨m,by rw [show z=x by simpa [dP] using hx]⟩
   repeat' (first
    | refine ah ?_ ?_
    | (refine aa 8 rfl ?_;refine aM (aj rfl rfl (ax rfl rfl) (aB [⟨x.proc,x.am⟩] rfl rfl rfl rfl) rfl aC aC) rfl rfl rfl ?_)
    | (refine aa 9 rfl ?_;first
     | (refine cB [] (n5 ⟨r,hs',[],x :: ws2,gn⟩) ?_)
     | (refine cB [] (Ee ⟨r,hs',[],x :: ws2,gn⟩) ?_)
     | (refine cC [] (Eb hs' x.proc x.am (by dsimp only at hh1;omega)) ?_))
    | refine af ?_
    | exact ai|(refine ae fun hb=>?_;first|(simp [hset] at hb;done)|skip))
   ·refine ⟨(n-1,g8 ⟨r,hs',[],x :: ws2,gn⟩ x,acc++[⟨x.proc,x.am⟩]),⟨hs2,by dsimp only;omega,hadv,by simp;omega⟩,by dsimp only;omega,?_⟩
    exact ao (qf [(1000,48)])
def Er (R:Qu×List Ho×Int):TV:=.tup [R.1.a,.one (.sl oS R.2.1),.one (.sc (.int .i64 R.2.2))]
theorem eP (q:Qu) (p:Pr):FSpec prog 163 [q.a,p.a] [] [] (.v (aq q.holds p).a) []:=by
 refine aX func163 ?_
 repeat' (first
  | refine ah ?_ ?_
  | refine aa 9 rfl (cB [] (Jl q.holds p) ?_)
  | refine af ?_
  | exact ai|refine ae fun hb=>?_
  | (refine aE (qf []) ?_;exact ab))
theorem bY (q:Qu) (p:Pr) {o:Option Am} (h:ap q p=o):FSpec prog 162 [q.a,p.a] [] [] (.tup [(Eg o).a,.one (.sc (.bool o.isSome))]) []:=h▸AP q p
theorem Cp (q:Qu) (p:Pr):FSpec prog 117 [q.a,p.a] [] [] (.b (dT q p)) []:=by
 refine aX func117 ?_
 cases hw:ap q p with
 | some a =>
  rw [show dT q p=true by unfold dT;rw [hw];rfl]
  repeat' (first
   | refine ah ?_ ?_
   | refine aa 9 rfl (cB [] (bY q p hw) ?_)
   | refine af ?_
   | exact ai|refine ae fun hb=>?_
   | (refine aE (qf []) ?_;exact ab))
 | none =>
  rw [show dT q p = !aO (aq q.holds p) by unfold dT;rw [hw];rfl]
  repeat' (first
   | refine ah ?_ ?_
   | (refine aa 9 rfl ?_;first
    | (refine cB [] (bY q p hw) ?_)
    | (refine cB [] (eP q p) ?_)
    | (refine cB [] (fg (aq q.holds p)) ?_))
   | refine af ?_
   | exact ai|refine ae fun hb=>?_
   | (refine aE (qf []) ?_;exact ab))
theorem kK (q:Qu) (hs:Sd q):FSpec prog 167 [q.a] [] [] (Er (lJ (fL q))) []:=by
 refine aX func167 ?_
 repeat' (first
  | refine ah ?_ ?_
  | (refine aa 9 rfl ?_;first
   | (refine cC [] (Ep q hs) ?_)
   | (refine cB [] (Iq q.gen) ?_))
  | refine af ?_
  | exact ai|refine ae fun hb=>?_
  | (refine eR (qf []) ?_;exact ab))
theorem bF {α:Type} {b:Bool} {x y:α} (h:b=false):(bif b then x else y)=y:=by rw [h];rfl
theorem bT {α:Type} {b:Bool} {x y:α} (h:b=true):(bif b then x else y)=x:=by rw [h];rfl
theorem xO (q:Qu) (p:Pr) {R:Qu×List Ho×Int} (hR:bj q p=R):FSpec prog 247 [q.a,p.a] [] [] (Er R) []:=by
 refine aX func247 ?_
 cases hS:ar q with
 | false =>
  obtain rfl:R=bW 2:=by rw [←hR];simp [bj,hS]
  repeat' (first
   | refine ah ?_ ?_
   | refine aa 9 rfl (cB [] (ck q) ?_)
   | refine af ?_
   | exact ai|(refine ae fun hb=>?_;first|(simp [hS] at hb;done)|skip)
   | (refine eR (qf []) ?_;exact ab))
 | true =>
  have hs:=aG hS
  have h1:=hs.hv.len
  have h2:=hs.clen
  have h3:=hs.wlen
  cases hw:ap q p with
  | none =>
   obtain rfl:R=bW 10:=by rw [←hR];simp [bj,hS,hw]
   repeat' (first
    | refine ah ?_ ?_
    | (refine aa 9 rfl ?_;first
     | (refine cB [] (ck q) ?_)
     | (refine cB [] (bY q p hw) ?_))
    | refine af ?_
    | exact ai|(refine ae fun hb=>?_;first|(simp [hS] at hb;done)|skip)
    | (refine eR (qf []) ?_;exact ab))
  | some a =>
   obtain rfl:R=lJ (fL { q with convs:=cG q.convs p,waits:=cG q.waits p }):=by rw [←hR];simp [bj,hS,hw]
   have hd:=hs.drop p
   repeat' (first
    | refine ah ?_ ?_
    | (refine aa 9 rfl ?_;first
     | (refine cB [] (ck q) ?_)
     | (refine cB [] (bY q p hw) ?_)
     | (refine cC [] (mN q (by omega) (by omega) (by omega)) ?_)
     | (refine cC [] (n4 q.convs p (by omega)) ?_)
     | (refine cC [] (n4 q.waits p (by omega)) ?_)
     | (refine cC [] (kK { q with convs:=cG q.convs p,waits:=cG q.waits p } hd) ?_))
    | refine af ?_
    | exact ai|(refine ae fun hb=>?_;first|(simp [hS] at hb;done)|skip)
    | (refine eR (qf []) ?_;exact ab))
instance:ST prog ji 47 165 120:=⟨ElTB.mk' underlying47 (.agg #[.string { data:=#[] },.int .i64 0,.int .i64 0,.int .i64 0,.slice none 0 0,.slice none 0 0,.slice none 0 0,.int .i64 0]) 8 120 (by kernel_rfl) rfl rfl⟩
theorem Es {t:List Qu} (h:dO t=true):t.length≤8∧∀q∈t,ar q=true:=by
 unfold dO at h
 rw [Bool.and_eq_true,decide_eq_true_eq] at h
 exact ⟨h.1,rU h.2⟩
theorem mQ {q:Qu} (h:ar q=true):fO q:=by
 have hs:=aG h
 exact ⟨hs.hv.len,hs.clen,by have:=hs.wlen;omega⟩
theorem dg (t:List Qu):FSpec prog 121 [.one (.sl ji t)] [] [] (.b (ez t)) []:=by
 refine aX func121 ?_
 cases hP:dO t with
 | false =>
  repeat' (first
   | refine ah ?_ ?_
   | refine aa 9 rfl (cB [] (r9 t) ?_)
   | refine af ?_
   | exact ai|refine ae fun hb=>?_)
  refine gz ?_
  simp [ez,hP]
 | true =>
  obtain ⟨hm,h8⟩:=Es hP
  repeat' (first
   | refine ah ?_ ?_
   | (refine aa 9 rfl ?_;first
    | (refine cB [] (r9 t) ?_)
    | (refine cC [] (n7 t (by omega) (fun q hq=>mQ (h8 q hq))) ?_))
   | refine af ?_
   | exact ai|refine ae fun hb=>?_)
  refine gz ?_
  simp [ez,hP]
  try omega
theorem lU (n:ByteArray) (l:List Ho) (hl:l.length≤100000):FSpec prog 230 [.one (.sc (.string n)),.one (.sl oS l)] [] [] (.c (.sl ql (aY n l))) []:=by
 refine aX func230 ?_
 repeat' (first
  | refine ah ?_ ?_
  | refine af ?_
  | exact ai|refine ae fun hb=>?_)
 refine cc 5 1000 296 ql rfl rfl rfl ?_
 refine ak (fun i=>i≤l.length) (fun i=>bH [1000] [(0,.c (.sc (.string n))),(1,.c (.sl oS l)),(5,.c (.own 1000)),(6,.i i)] [(1000,.arr 296 ql (aY n (l.take i)))]) (fun i=>l.length-i) 0 (Nat.zero_le _) (by exact ao (qf [])) ?_
 intro i hi
 have hlen:(aY n (l.take i)).length=i:=by simp [aY,Nat.min_eq_left hi]
 repeat' (first
  | refine ah ?_ ?_
  | (refine aa 8 rfl ?_;refine aM (aj rfl rfl (ax rfl rfl) (aB [⟨1,(l[i]'(by omega)).proc,n,(l[i]'(by omega)).am⟩] rfl rfl rfl rfl) rfl aC aC) rfl rfl rfl ?_)
  | refine af ?_
  | exact ai|refine ae fun hb=>?_)
 ·refine ⟨i+1,by omega,by omega,?_⟩
  have e:aY n (l.take (i+1))=aY n (l.take i)++[⟨1,(l[i]'(by omega)).proc,n,(l[i]'(by omega)).am⟩]:=by
   unfold aY
   rw [List.take_succ_eq_append_getElem (by omega),List.map_append]
   rfl
  rw [e]
  exact ao (qf [(1000,27)])
 ·have e:aY n (l.take i)=aY n l:=by rw [List.take_of_length_le (by omega)]
  rw [←e]
  refine aE (qf []) ?_;exact ab
theorem oc (t:List Qu) (i:Nat) (q:Qu) (hi:i<t.length) (hl:t.length≤100000):FSpec prog 229 [.one (.sl ji t),.one (.sc (.int .i64 i)),q.a] [] [] (.c (.sl ji (t.set i q))) []:=by
 refine aX func229 ?_
 repeat' (first
  | refine ah ?_ ?_
  | refine af ?_
  | (refine aa 4 rfl ?_;refine bP (aI (z:=q) rfl rfl rfl rfl (by first|assumption|exact List.getElem?_eq_getElem (by omega)) rfl rfl rfl rfl (Nat.le_of_ble_eq_true rfl) rfl rfl) rfl rfl rfl ?_)
  | exact ai|refine ae fun hb=>?_
  | (refine aE (qf []) ?_;exact ab))
def L9 (d:Nat):V0:=.ag [.sc (.int .i64 0),.sc (.string ⟨#[]⟩),.sc (.int .i64 0),.sc (.int .i64 0),.sl (qP d) []]
theorem zH (d:Nat) (x:Ex):FSpec prog 223 [x.a d,L9 d] [] [] (.b (GV x)) []:=by
 refine aX func223 ?_
 obtain ⟨b,hB⟩:∃b,GV x=b:=⟨_,rfl⟩
 rw [hB]
 by_cases hk:x.k=0
 case neg =>
  obtain rfl:b=false:=by rw [←hB];simp [GV,hk]
  repeat' (first
   | refine ah ?_ ?_
   | refine af ?_
   | exact ai|refine ae fun hb=>?_
   | (refine aE (qf []) ?_;exact ab))
 by_cases ha:x.atom=jO
 case neg =>
  obtain rfl:b=false:=by rw [←hB];simp [GV,ha]
  repeat' (first
   | refine ah ?_ ?_
   | refine af ?_
   | exact ai|refine ae fun hb=>?_
   | (refine aE (qf []) ?_;exact ab))
 by_cases hn:x.kids.length=0
 case neg =>
  obtain rfl:b=false:=by
   rw [←hB]
   cases h:x.kids with
   | nil=>rw [h] at hn;simp at hn
   | cons=>simp [GV,h]
  repeat' (first
   | refine ah ?_ ?_
   | refine af ?_
   | exact ai|(refine ae fun hb=>?_;first|(exact absurd (by simpa using hb) hn)|skip)
   | (refine aE (qf []) ?_;exact ab))
 have hn2:x.kids=[]:=List.eq_nil_of_length_eq_zero hn
 obtain rfl:b=true:=by rw [←hB];simp [GV,hk,ha,hn2]
 repeat' (first
  | refine ah ?_ ?_
  | refine af ?_
  | exact ai|(refine ae fun hb=>?_;first|(exact absurd hn (by simpa using hb))|skip))
 refine ak (fun _:Unit=>True) (fun _=>bH [2] [(2,.c (.ptr 2 0)),(5,.i 0)] [(2,.box 34 (x.d d))]) (fun _=>0) () trivial (by exact ao (qf [])) ?_
 rintro _ -
 repeat' (first
  | refine ah ?_ ?_
  | refine af ?_
  | exact ai|refine ae fun hb=>?_
  | (refine aE (qf []) ?_;exact ab))
def Ma (d:Nat):V0:=.ag [.sc (.int .i64 0),.sc (.string ⟨#[]⟩),.sc (.int .i64 0),.sc (.int .i64 0),.sl (qP d) [],.sc (.int .i64 0),.sc (.int .i64 0)]
theorem Cq (d:Nat) (r:Rq):FSpec prog 173 [r.a d,Ma d] [] [] (.b (Jd r)) []:=by
 refine aX func173 ?_
 obtain ⟨b,hB⟩:∃b,Jd r=b:=⟨_,rfl⟩
 rw [hB]
 repeat' (first
  | refine ah ?_ ?_
  | refine aa 9 rfl (cB [] (zH d r.expr) ?_)
  | refine af ?_
  | exact ai|refine ae fun hb=>?_)
 all_goals (refine gz ?_;rw [←hB];simp [Jd, *];try rfl)
theorem se (d:Nat) (r:Rq):FSpec prog 31 [r.a d] [] [] (.b (qL r)) []:=by
 refine aX func31 ?_
 obtain ⟨b,hB⟩:∃b,qL r=b:=⟨_,rfl⟩
 rw [hB]
 repeat' (first
  | refine ah ?_ ?_
  | refine aa 9 rfl (cB [] (zC d r.expr) ?_)
  | refine af ?_
  | exact ai|refine ae fun hb=>?_)
 all_goals (refine gz ?_;rw [←hB];simp [qL, *];try omega)
theorem kY (d:Nat) (x:Ex) {b:Bool} {L:List Tm} (h:nE x=b) (h2:cP x=L):FSpec prog 113 [x.a d] [] [] (.tup [.one (.sl cr L),.one (.sc (.bool b))]) []:=h▸h2▸n8 d x
def Cr (set:List Bool) (n i:Nat):List Bool:=(List.range n).map fun k=>decide (k<i) && set.getD k false
theorem KA (set:List Bool) (n:Nat):Cr set n 0=List.replicate n false:=by
 unfold Cr
 apply List.ext_getElem
 ·simp
 ·intro i h1 h2;simp
theorem G5 (set:List Bool) {n i:Nat} (hi:i<n):(Cr set n i).set i (set.getD i false)=Cr set n (i+1):=by
 unfold Cr
 apply List.ext_getElem
 ·simp
 ·intro k h1 h2
  rw [List.getElem_set]
  split
  ·next e=>subst e;simp
  ·next e =>
   simp only [List.getElem_map,List.getElem_range]
   congr 1
   rw [Bool.eq_iff_iff]
   simp
   omega
theorem G6 (set:List Bool) (n:Nat):Cr set n n=(List.range n).map fun i=>set.getD i false:=by
 unfold Cr
 apply List.map_congr_left
 intro i hi
 rw [List.mem_range] at hi
 simp [hi]
theorem G7 (set:List Bool) (n i:Nat):(Cr set n i).length=n:=by simp [Cr]
theorem Jp (d:Nat) (x:Ex) (set:List Bool) (hset:set.length≤1000):FSpec prog 191 [x.a d,.one (.sl eh set)] [] [] (.c (.sl eh (cJ x set))) []:=by
 refine aX func191 ?_
 have hmk:prog.underlying 231=some (.slice 4):=underlying231
 have hib:(prog.info? 4).map (fun i=>(i.zero,i.size,i.bytes))=some (some (.bool false),1,1):=by kernel_rfl
 cases hv:nE x with
 | false =>
  have hL:=vj hv
  have hp:cJ x set=[]:=by simp [cJ,ew,hv,hL]
  rw [hp]
  repeat' (first
   | refine ah ?_ ?_
   | refine aa 9 rfl (cC [] (kY d x hv hL) ?_)
   | (refine aa 20 rfl ?_;refine aM (i9 (E:=eh) (y0:=false) hmk hib rfl (by decide) rfl (fun _ _=>rfl) rfl rfl rfl rfl (by first|omega|simp)) rfl rfl rfl ?_)
   | refine af ?_
   | exact ai|refine ae fun hb=>?_
   | (refine aE (qf []) ?_;exact ab))
 | true =>
  obtain ⟨hsh,_,h8,_,_⟩:=rr hv
  obtain ⟨L,hL⟩:∃L,cP x=L:=⟨_,rfl⟩
  rw [hL] at h8
  cases hh:y9 (fd L set) x with
  | false =>
   have hp:cJ x set=List.replicate L.length false:=by simp [cJ,ew,hv,hL,hh]
   rw [hp]
   repeat' (first
    | refine ah ?_ ?_
    | (refine aa 9 rfl ?_;first
     | (refine cC [] (kY d x hv hL) ?_)
     | (refine cB [] (vT d x L set hsh (by omega) hset) ?_))
    | (refine aa 20 rfl ?_;refine aM (i9 (E:=eh) (y0:=false) hmk hib rfl (by decide) rfl (fun _ _=>rfl) rfl rfl rfl rfl (by first|omega|simp)) rfl rfl rfl ?_)
    | refine af ?_
    | exact ai|refine ae fun hb=>?_
    | (refine aE (qf []) ?_;exact ab))
  | true =>
   have hp:cJ x set=ie x L L.length (Cr set L.length L.length):=by rw [G6];simp [cJ,ew,hv,hL,hh]
   rw [hp]
   repeat' (first
    | refine ah ?_ ?_
    | (refine aa 9 rfl ?_;first
     | (refine cC [] (kY d x hv hL) ?_)
     | (refine cB [] (vT d x L set hsh (by omega) hset) ?_))
    | (refine aa 20 rfl ?_;refine aM (i9 (E:=eh) (y0:=false) hmk hib rfl (by decide) rfl (fun _ _=>rfl) rfl rfl rfl rfl (by first|omega|simp)) rfl rfl rfl ?_)
    | refine af ?_
    | exact ai|refine ae fun hb=>?_)
   refine ak (fun i=>i≤L.length) (fun i=>bH [2,1000] [(1,.c (.sl eh set)),(2,.c (.ptr 2 0)),(5,.c (.sl cr L)),(7,.c (.own 1000)),(8,.i i)] [(2,.box 34 (x.d d)),(1000,.arr 4 eh (Cr set L.length i))]) (fun i=>L.length-i) 0 (Nat.zero_le _) (by rw [KA];exact ao (qf [(1000,17)])) ?_
   intro i hi
   have hpl:=G7 set L.length i
   by_cases hlt:i<L.length
   ·have hst:=G5 set hlt
    by_cases hsi:i<set.length
    ·rw [show set.getD i false=set[i] by simp [List.getD_eq_getElem?_getD,hsi]] at hst
     repeat' (first
      | refine ah ?_ ?_
      | refine af ?_
      | (refine aa 4 rfl ?_;refine bP (aI (z:=set[i]) rfl rfl rfl rfl (by first|assumption|exact List.getElem?_eq_getElem (by omega)) rfl rfl rfl rfl (Nat.le_of_ble_eq_true rfl) rfl rfl) rfl rfl rfl ?_)
      | exact ai|refine ae fun hb=>?_)
     refine ⟨i+1,by omega,by omega,?_⟩
     rw [←hst]
     exact ao (qf [])
    ·rw [show set.getD i false=false by simp [List.getD_eq_getElem?_getD,hsi]] at hst
     repeat' (first
      | refine ah ?_ ?_
      | refine af ?_
      | (refine aa 4 rfl ?_;refine bP (aI (z:=false) rfl rfl rfl rfl (by first|assumption|exact List.getElem?_eq_getElem (by omega)) rfl rfl rfl rfl (Nat.le_of_ble_eq_true rfl) rfl rfl) rfl rfl rfl ?_)
      | exact ai|refine ae fun hb=>?_)
     refine ⟨i+1,by omega,by omega,?_⟩
     rw [←hst]
     exact ao (qf [])
   ·obtain rfl:i=L.length:=by omega
    repeat' (first
     | refine ah ?_ ?_
     | refine af ?_
     | exact ai|refine ae fun hb=>?_)
    refine ak (fun y:Nat×List Bool=>y.1≤L.length∧y.2.length=L.length∧ie x L y.1 y.2=ie x L L.length (Cr set L.length L.length)) (fun y=>bH [2,1000] [(2,.c (.ptr 2 0)),(5,.c (.sl cr L)),(7,.c (.own 1000)),(9,.i ((y.1:Int)-1))] [(2,.box 34 (x.d d)),(1000,.arr 4 eh y.2)]) (fun y=>y.1) (L.length,Cr set L.length L.length) ⟨Nat.le_refl _,hpl,rfl⟩ (by exact ao (qf [])) ?_
    rintro ⟨k,out⟩ ⟨hk,hol,hs⟩
    dsimp only at *
    rcases Nat.eq_zero_or_pos k with h0|h0
    ·subst h0
     rw [←hs,show ie x L 0 out=out from rfl]
     repeat' (first
      | refine ah ?_ ?_
      | refine af ?_
      | exact ai|refine ae fun hb=>?_
      | (refine aE (qf []) ?_;exact ab))
    ·obtain ⟨j,rfl⟩:∃j,k=j+1:=⟨k-1,by omega⟩
     obtain ⟨z,hz⟩:∃z,(((j+1:Nat):Int)-1).toNat=z:=⟨_,rfl⟩
     have hzj:z=j:=by omega
     obtain ⟨v,hgv⟩:∃v,out[(((j+1:Nat):Int)-1).toNat]? = some v:=⟨_,List.getElem?_eq_getElem (by omega)⟩
     have hgj:out.getD j false=v:=by rw [hz,hzj] at hgv;simp [List.getD_eq_getElem?_getD,hgv]
     have hstep:ie x L (j+1) out=ie x L j (bif out.getD j false then out.set j (!y9 (fd L (out.set j false)) x) else out):=rfl
     rw [hstep,hgj] at hs
     cases v with
     | false =>
      repeat' (first
       | refine ah ?_ ?_
       | refine af ?_
       | exact ai|refine ae fun hb=>?_)
      refine ⟨(j,out),⟨by dsimp only;omega,hol,hs⟩,by dsimp only;omega,?_⟩
      exact ao (qf [])
     | true =>
      have hl1:(out.set (((j+1:Nat):Int)-1).toNat false).length=L.length:=by rw [List.length_set,hol]
      rw [show out.set j false=out.set (((j+1:Nat):Int)-1).toNat false by rw [hz,hzj]] at hs
      repeat' (first
       | refine ah ?_ ?_
       | refine aa 9 rfl (cB [1000] (vT d x L (out.set (((j+1:Nat):Int)-1).toNat false) hsh (by omega) (by omega)) ?_)
       | refine af ?_
       | (refine aa 4 rfl ?_;first
        | (refine bP (aI (z:=false) rfl rfl rfl rfl (by first|assumption|exact List.getElem?_eq_getElem (by omega)) rfl rfl rfl rfl (Nat.le_of_ble_eq_true rfl) rfl rfl) rfl rfl rfl ?_)
        | (refine bP (aI (z:=!y9 (fd L (out.set (((j+1:Nat):Int)-1).toNat false)) x) rfl rfl rfl rfl (by first|assumption|exact List.getElem?_eq_getElem (by omega)) rfl rfl rfl rfl (Nat.le_of_ble_eq_true rfl) rfl rfl) rfl rfl rfl ?_))
       | exact ai|refine ae fun hb=>?_)
      refine ⟨(j,out.set j (!y9 (fd L (out.set (((j+1:Nat):Int)-1).toNat false)) x)),⟨by dsimp only;omega,by simp [hol],hs⟩,by dsimp only;omega,?_⟩
      dsimp only
      rw [show out.set j (!y9 (fd L (out.set (((j+1:Nat):Int)-1).toNat false)) x)=(out.set (((j+1:Nat):Int)-1).toNat false).set (((j+1:Nat):Int)-1).toNat (!y9 (fd L (out.set (((j+1:Nat):Int)-1).toNat false)) x) by rw [List.set_set,hz,hzj]]
      exact ao (qf [])
theorem vX (q:Qu) (p:Pr) (a:Am) {R:Qu×List Ho×Int} (hR:bL q p a=R):FSpec prog 232 [q.a,p.a,a.a] [] [] (Er R) []:=by
 refine aX func232 ?_
 cases hS:ar q with
 | false =>
  obtain rfl:R=bW 2:=by rw [←hR];simp [bL,hS]
  repeat' (first
   | refine ah ?_ ?_
   | refine aa 9 rfl (cB [] (ck q) ?_)
   | refine af ?_
   | exact ai|(refine ae fun hb=>?_;first|(simp [hS] at hb;done)|skip)
   | (refine eR (qf []) ?_;exact ab))
 | true =>
  have hs:=aG hS
  have h1:=hs.hv.len
  have h2:=hs.clen
  have h3:=hs.wlen
  cases hz:aO (aq q.holds p) with
  | true =>
   obtain rfl:R=bW 10:=by rw [←hR];simp [bL,hS,hz]
   repeat' (first
    | refine ah ?_ ?_
    | (refine aa 9 rfl ?_;first
     | (refine cB [] (ck q) ?_)
     | (refine cB [] (eP q p) ?_)
     | (refine cB [] (fg (aq q.holds p)) ?_))
    | refine af ?_
    | exact ai|(refine ae fun hb=>?_;first|(simp [hS] at hb;done)|(simp [hz] at hb;done)|skip)
    | (refine eR (qf []) ?_;exact ab))
  | false =>
   cases hw:ap q p with
   | some b =>
    obtain rfl:R=bW 14:=by rw [←hR];simp [bL,hS,hz,hw]
    repeat' (first
     | refine ah ?_ ?_
     | (refine aa 9 rfl ?_;first
      | (refine cB [] (ck q) ?_)
      | (refine cB [] (eP q p) ?_)
      | (refine cB [] (fg (aq q.holds p)) ?_)
      | (refine cB [] (bY q p hw) ?_))
     | refine af ?_
     | exact ai|(refine ae fun hb=>?_;first|(simp [hS] at hb;done)|(simp [hz] at hb;done)|skip)
     | (refine eR (qf []) ?_;exact ab))
   | none =>
    cases hc:bq q.res (aq q.holds p) a with
    | false =>
     obtain rfl:R=bW 12:=by rw [←hR];simp [bL,hS,hz,hw,hc]
     repeat' (first
      | refine ah ?_ ?_
      | (refine aa 9 rfl ?_;first
       | (refine cB [] (ck q) ?_)
       | (refine cB [] (eP q p) ?_)
       | (refine cB [] (fg (aq q.holds p)) ?_)
       | (refine cB [] (bY q p hw) ?_)
       | (refine cB [] (dq q.res (aq q.holds p) a) ?_))
      | refine af ?_
      | exact ai|(refine ae fun hb=>?_;first|(simp [hS] at hb;done)|(simp [hz] at hb;done)|(simp [hc] at hb;done)|skip)
      | (refine eR (qf []) ?_;exact ab))
    | true =>
     have hd:=hs.lower hw (bz.1 hz) hc
     obtain ⟨R1,hR1⟩:∃R1,R1=(bif decide (aq q.holds p=a) then lJ (q,[]) else lJ (fL { q with holds:=cV q.holds p a })):=⟨_,rfl⟩
     obtain rfl:R=R1:=by rw [←hR,hR1];simp [bL,hS,hz,hw,hc]
     clear hR
     repeat' (first
      | refine ah ?_ ?_
      | (refine aa 9 rfl ?_;first
       | (refine cB [] (ck q) ?_)
       | (refine cB [] (eP q p) ?_)
       | (refine cB [] (fg (aq q.holds p)) ?_)
       | (refine cB [] (bY q p hw) ?_)
       | (refine cB [] (dq q.res (aq q.holds p) a) ?_)
       | (refine cC [] (mN q (by omega) (by omega) (by omega)) ?_)
       | (refine cC [] (Eb q.holds p a (by omega)) ?_)
       | (refine cC [] (kK { q with holds:=cV q.holds p a } hd) ?_))
      | refine af ?_
      | exact ai|(refine ae fun hb=>?_;first|(simp [hS] at hb;done)|(simp [hz] at hb;done)|(simp [hc] at hb;done)|skip))
     ·obtain rfl:R=lJ (q,[]):=by rw [hR1];simp [hb]
      refine eR (qf []) ?_;exact ab
     ·obtain rfl:R=lJ (fL { q with holds:=cV q.holds p a }):=by rw [hR1];simp [hb]
      refine eR (qf []) ?_;exact ab
theorem sg (q:Qu) (p:Pr) {R:Qu×List Ho×Int} (hR:bd q p=R):FSpec prog 118 [q.a,p.a] [] [] (Er R) []:=by
 refine aX func118 ?_
 cases hS:ar q with
 | false =>
  obtain rfl:R=bW 2:=by rw [←hR];simp [bd,hS]
  repeat' (first
   | refine ah ?_ ?_
   | refine aa 9 rfl (cB [] (ck q) ?_)
   | refine af ?_
   | exact ai|(refine ae fun hb=>?_;first|(simp [hS] at hb;done)|skip)
   | (refine eR (qf []) ?_;exact ab))
 | true =>
  have hs:=aG hS
  have h1:=hs.hv.len
  have h2:=hs.clen
  have h3:=hs.wlen
  cases hh:dT q p with
  | false =>
   obtain rfl:R=bW 10:=by rw [←hR];simp [bd,hS,hh]
   repeat' (first
    | refine ah ?_ ?_
    | (refine aa 9 rfl ?_;first
     | (refine cB [] (ck q) ?_)
     | (refine cB [] (Cp q p) ?_))
    | refine af ?_
    | exact ai|(refine ae fun hb=>?_;first|(simp [hS] at hb;done)|(simp [hh] at hb;done)|skip)
    | (refine eR (qf []) ?_;exact ab))
  | true =>
   obtain rfl:R=lJ (fL { q with holds:=cV q.holds p ⟨0,0⟩,convs:=cG q.convs p,waits:=cG q.waits p }):=by rw [←hR];simp [bd,hS,hh]
   have hd:=hs.gone p
   repeat' (first
    | refine ah ?_ ?_
    | (refine aa 9 rfl ?_;first
     | (refine cB [] (ck q) ?_)
     | (refine cB [] (Cp q p) ?_)
     | (refine cC [] (mN q (by omega) (by omega) (by omega)) ?_)
     | (refine cC [] (Eb q.holds p ⟨0,0⟩ (by omega)) ?_)
     | (refine cC [] (n4 q.convs p (by omega)) ?_)
     | (refine cC [] (n4 q.waits p (by omega)) ?_)
     | (refine cC [] (kK { q with holds:=cV q.holds p ⟨0,0⟩,convs:=cG q.convs p,waits:=cG q.waits p } hd) ?_))
    | refine af ?_
    | exact ai|(refine ae fun hb=>?_;first|(simp [hS] at hb;done)|(simp [hh] at hb;done)|skip)
    | (refine eR (qf []) ?_;exact ab))
theorem G8 (q:Qu) (h1:q.holds.length≤100000) (h2:q.convs.length≤100000) (h3:q.waits.length≤100000):FSpec prog 164 [q.a] [] [0] (.v (.ag [.sc (.string q.res.name),.sc (.int .i64 q.res.kind),.sc (.int .i64 q.res.units),.sc (.int .i64 q.res.home),.sl oS q.holds,.own 0,.sl oV q.waits,.sc (.int .i64 q.gen)])) [(0,some (.arr 284 oV q.convs))]:=by
 refine aX func164 ?_
 repeat' (first
  | refine ah ?_ ?_
  | refine af ?_
  | exact ai|refine ae fun hb=>?_)
 refine aE (qf [(0,11)]) ?_;exact ab
theorem pq (q:Qu) (p:Pr) (a:Am) (prio:Int) {R:Qu×List Ho×Int} (hR:bG q p a prio=R) (hS:ar q=true) (hv:fI p=true) (h1:0≤prio) (h2:prio≤7) (hf:aH q.res a=true) (hw:ap q p=none) (hc:bq q.res (aq q.holds p) a=false) :
  R=(bif !aO (aq q.holds p) then lJ (fL { q with convs:=q.convs++[⟨p,bV q.res (aq q.holds p) a,0,0⟩] }) else
 bif decide (8≤q.holds.length+q.waits.length) then bW 4 else
 bif !decide ((mn q.waits ⟨p,a,prio,0⟩).1=0) then bW (mn q.waits ⟨p,a,prio,0⟩).1 else
 lJ (fL { q with waits:=(mn q.waits ⟨p,a,prio,0⟩).2 })):=by
 rw [←hR];simp [bG,hS,hv,h1,h2,hf,hw,hc]
theorem AV (q:Qu) (p:Pr) (a:Am) (prio:Int) {R:Qu×List Ho×Int} (hR:bG q p a prio=R):FSpec prog 228 [q.a,p.a,a.a,.one (.sc (.int .i64 prio))] [] [] (Er R) []:=by
 refine aX func228 ?_
 cases hS:ar q with
 | false =>
  obtain rfl:R=bW 2:=by rw [←hR];simp [bG,hS]
  repeat' (first
   | refine ah ?_ ?_
   | refine aa 9 rfl (cB [] (ck q) ?_)
   | refine af ?_
   | exact ai|(refine ae fun hb=>?_;first|(simp [hS] at hb;done)|skip)
   | (refine eR (qf []) ?_;exact ab))
 | true =>
  have hs:=aG hS
  have h1:=hs.hv.len
  have h2:=hs.clen
  have h3:=hs.wlen
  by_cases hA:fI p=true∧0≤prio∧prio≤7
  case neg =>
   obtain rfl:R=bW 1:=by
    rw [←hR]
    unfold bG
    rw [hS,bF (b:=!true) rfl,bT]
    cases hv:fI p <;> simp [hv] at hA ⊢
    omega
   have hN:∀b,fI p=b→(b=true→0≤prio→prio≤7→False):=fun b hb x y z=>hA ⟨hb.trans x,y,z⟩
   clear hA
   repeat' (first
    | refine ah ?_ ?_
    | (refine aa 9 rfl ?_;first
     | (refine cB [] (ck q) ?_)
     | (refine cB [] (d7 p) ?_))
    | refine af ?_
    | exact ai|(refine ae fun hb=>?_;first|(exact (hN true (by assumption) rfl (by omega) (by omega)).elim)|skip)
    | (refine eR (qf []) ?_;exact ab))
  obtain ⟨hv,hp1,hp2⟩:=hA
  cases hf:aH q.res a with
  | false =>
   obtain rfl:R=bW 12:=by rw [←hR];simp [bG,hS,hv,hp1,hp2,hf]
   repeat' (first
    | refine ah ?_ ?_
    | (refine aa 9 rfl ?_;first
     | (refine cB [] (ck q) ?_)
     | (refine cB [] (d7 p) ?_)
     | (refine cB [] (ii q.res a) ?_))
    | refine af ?_
    | exact ai|refine ae fun hb=>?_
    | (refine eR (qf []) ?_;exact ab))
  | true =>
   cases hw:ap q p with
   | some b =>
    obtain rfl:R=bW 14:=by rw [←hR];simp [bG,hS,hv,hp1,hp2,hf,hw]
    repeat' (first
     | refine ah ?_ ?_
     | (refine aa 9 rfl ?_;first
      | (refine cB [] (ck q) ?_)
      | (refine cB [] (d7 p) ?_)
      | (refine cB [] (ii q.res a) ?_)
      | (refine cB [] (bY q p hw) ?_))
     | refine af ?_
     | exact ai|refine ae fun hb=>?_
     | (refine eR (qf []) ?_;exact ab))
   | none =>
    cases hc:bq q.res (aq q.holds p) a with
    | true =>
     obtain rfl:R=lJ (q,[]):=by rw [←hR];simp [bG,hS,hv,hp1,hp2,hf,hw,hc]
     repeat' (first
      | refine ah ?_ ?_
      | (refine aa 9 rfl ?_;first
       | (refine cB [] (ck q) ?_)
       | (refine cB [] (d7 p) ?_)
       | (refine cB [] (ii q.res a) ?_)
       | (refine cB [] (bY q p hw) ?_)
       | (refine cC [] (mN q (by omega) (by omega) (by omega)) ?_)
       | (refine cB [] (eP q p) ?_)
       | (refine cB [] (dq q.res (aq q.holds p) a) ?_))
      | refine af ?_
      | exact ai|refine ae fun hb=>?_
      | (refine eR (qf []) ?_;exact ab))
    | false =>
     cases hz:aO (aq q.holds p) with
     | false =>
      obtain rfl:R=lJ (fL { q with convs:=q.convs++[⟨p,bV q.res (aq q.holds p) a,0,0⟩] }):=by rw [pq q p a prio hR hS hv hp1 hp2 hf hw hc,hz];rfl
      have hd:=(hs.cons (bz.1 hz) hw hf hc)
      repeat' (first
       | refine ah ?_ ?_
       | (refine aa 8 rfl ?_;refine aM (aj rfl rfl (ax rfl rfl) (aB [⟨p,bV q.res (aq q.holds p) a,0,0⟩] rfl rfl rfl rfl) rfl aC aC) rfl rfl rfl ?_)
       | (refine aa 9 rfl ?_;first
        | (refine cB [] (ck q) ?_)
        | (refine cB [] (d7 p) ?_)
        | (refine cB [] (ii q.res a) ?_)
        | (refine cB [] (bY q p hw) ?_)
        | (refine cH (qf [(0,1000)]) (G8 q (by omega) (by omega) (by omega)) ?_)
        | (refine cB [1000] (eP q p) ?_)
        | (refine cB [] (dq q.res (aq q.holds p) a) ?_)
        | (refine cB [] (fg (aq q.holds p)) ?_)
        | (refine cB [] (D9 q.res (aq q.holds p) a) ?_)
        | (refine cC [71] (kK { q with convs:=q.convs++[⟨p,bV q.res (aq q.holds p) a,0,0⟩] } hd) ?_))
       | refine af ?_
       | exact ai|refine ae fun hb=>?_
       | (refine eR (qf []) ?_;exact ab))
     | true =>
      have hz0:aq q.holds p=⟨0,0⟩:=by simpa [aO] using hz
      by_cases hn:8≤q.holds.length+q.waits.length
      case pos =>
       obtain rfl:R=bW 4:=by rw [pq q p a prio hR hS hv hp1 hp2 hf hw hc,hz];simp [hn]
       repeat' (first
        | refine ah ?_ ?_
        | (refine aa 9 rfl ?_;first
         | (refine cB [] (ck q) ?_)
         | (refine cB [] (d7 p) ?_)
         | (refine cB [] (ii q.res a) ?_)
         | (refine cB [] (bY q p hw) ?_)
         | (refine cC [] (mN q (by omega) (by omega) (by omega)) ?_)
         | (refine cB [] (eP q p) ?_)
         | (refine cB [] (dq q.res (aq q.holds p) a) ?_)
         | (refine cB [] (fg (aq q.holds p)) ?_))
        | refine af ?_
        | exact ai|refine ae fun hb=>?_
        | (refine eR (qf []) ?_;exact ab))
      obtain ⟨e,he1,he2⟩:∃e,mn q.waits ⟨p,a,prio,0⟩=(0,e)∧Sd { q with waits:=e }:=by
       have hi:=qU hs hw hf hv ⟨hp1,hp2⟩ (Nat.lt_of_not_le hn)
       exact ⟨_,hi.1,hs.ins (w:=⟨p,a,prio,0⟩) hz0 hw hf hi.2 (Nat.lt_of_not_le hn)⟩
      have hI:=Ec q.waits ⟨p,a,prio,0⟩
      rw [he1] at hI
      obtain rfl:R=lJ (fL { q with waits:=e }):=by rw [pq q p a prio hR hS hv hp1 hp2 hf hw hc,hz,he1];simp [hn]
      repeat' (first
       | refine ah ?_ ?_
       | (refine aa 9 rfl ?_;first
        | (refine cB [] (ck q) ?_)
        | (refine cB [] (d7 p) ?_)
        | (refine cB [] (ii q.res a) ?_)
        | (refine cB [] (bY q p hw) ?_)
        | (refine cC [] (mN q (by omega) (by omega) (by omega)) ?_)
        | (refine cB [] (eP q p) ?_)
        | (refine cB [] (dq q.res (aq q.holds p) a) ?_)
        | (refine cB [] (fg (aq q.holds p)) ?_)
        | (refine cC [] (hI) ?_)
        | (refine cC [] (kK { q with waits:=e } he2) ?_))
       | refine af ?_
       | exact ai|refine ae fun hb=>?_
       | (refine eR (qf []) ?_;exact ab))
theorem ur:∀(n:Nat) (q:Qu) (acc:List Ho),(eM n q acc).2.length≤acc.length+n
 | 0,q,acc=>Nat.le_refl _
 | n+1,q,acc=>by
  unfold eM
  cases dP q with
  | none=>dsimp only;omega
  | some x =>
   dsimp only
   cases gZ q.res q.holds x.proc x.am with
   | true =>
    have:=ur n (g8 q x) (acc++[⟨x.proc,x.am⟩])
    simp at this ⊢
    omega
   | false=>simp
theorem od (q:Qu):(fL q).2.length≤q.convs.length+q.waits.length:=by
 have:=ur (gE q) q []
 simpa [fL,vG,gE] using this
theorem Et (l:List Wt) (w:Wt):(mn l w).2.length≤l.length+1:=by
 unfold mn
 cases gX l <;> cases (tt w && decide (w.passed=0)) <;> cases decide (0≤eH l w.proc) <;> cases decide (l.length=8) <;> simp [xn]
theorem si {q:Qu} (h:ar q=true) (p:Pr) (a:Am) (prio:Int):(bG q p a prio).2.1.length≤17:=by
 have hs:=aG h
 have h2:=hs.clen
 have h3:=hs.wlen
 unfold bG
 have e1:=od { q with convs:=q.convs++[⟨p,bV q.res (aq q.holds p) a,0,0⟩] }
 have e2:=od { q with waits:=(mn q.waits ⟨p,a,prio,0⟩).2 }
 have e3:=Et q.waits ⟨p,a,prio,0⟩
 simp only [List.length_append,List.length_cons,List.length_nil] at e1 e2
 repeat' (first|(simp [bW,lJ];done)|(simp only [lJ];omega)|(rw [cond_eq_ite];split))
theorem qo {q:Qu} (h:ar q=true) (p:Pr):(bj q p).2.1.length≤17:=by
 have hs:=aG h
 have h2:=hs.clen
 have h3:=hs.wlen
 have e1:=od { q with convs:=cG q.convs p,waits:=cG q.waits p }
 have e2:=i7 q.convs p
 have e3:=i7 q.waits p
 dsimp only at e1
 unfold bj
 repeat' (first|(simp [bW,lJ];done)|(simp only [lJ];omega)|(rw [cond_eq_ite];split))
theorem sj {q:Qu} (h:ar q=true) (p:Pr) (a:Am):(bL q p a).2.1.length≤17:=by
 have hs:=aG h
 have h2:=hs.clen
 have h3:=hs.wlen
 have e1:=od { q with holds:=cV q.holds p a }
 dsimp only at e1
 unfold bL
 repeat' (first|(simp [bW,lJ];done)|(simp only [lJ];omega)|(rw [cond_eq_ite];split))
theorem qp {q:Qu} (h:ar q=true) (p:Pr):(bd q p).2.1.length≤17:=by
 have hs:=aG h
 have h2:=hs.clen
 have h3:=hs.wlen
 have e1:=od { q with holds:=cV q.holds p ⟨0,0⟩,convs:=cG q.convs p,waits:=cG q.waits p }
 have e2:=i7 q.convs p
 have e3:=i7 q.waits p
 dsimp only at e1
 unfold bd
 repeat' (first|(simp [bW,lJ];done)|(simp only [lJ];omega)|(rw [cond_eq_ite];split))
def Jq (R:List Qu×List Ev×Int):TV:=.tup [.one (.sl ji R.1),.one (.sl ql R.2.1),.one (.sc (.int .i64 R.2.2))]
theorem cO (l:List Qu) (n:ByteArray) {k:Int} (h:bK n 0 l=k):FSpec prog 171 [.one (.sl ji l),.one (.sc (.string n))] [] [] (.i k) []:=h▸mO l n
theorem f7 {t:List Qu} {n:ByteArray} (h:¬bK n 0 t<0):∃i,∃hi:i<t.length,bK n 0 t=(i:Int)∧t.getD (iQ t n) vJ=t[i]∧iQ t n=i:=by
 obtain ⟨i,hi,h1,_⟩:=mK (Int.not_lt.1 h)
 have h2:bK n 0 t=(i:Int):=by rw [h1];simp
 refine ⟨i,hi,h2,?_,?_⟩
 ·unfold iQ;rw [h2];simp [List.getD_eq_getElem?_getD,hi]
 ·unfold iQ;rw [h2];rfl
theorem xP (t:List Qu) (p:Pr) (n:ByteArray) {R:List Qu×List Ev×Int} (hR:cM t p n=R):FSpec prog 231 [.one (.sl ji t),p.a,.one (.sc (.string n))] [] [] (Jq R) []:=by
 refine aX func231 ?_
 cases hV:ez t with
 | false =>
  obtain rfl:R=fA 2:=by rw [←hR];simp [cM,hV]
  repeat' (first
   | refine ah ?_ ?_
   | refine aa 9 rfl (cB [] (dg t) ?_)
   | refine af ?_
   | exact ai|refine ae fun hb=>?_
   | (refine eR (qf []) ?_;exact ab))
 | true =>
  have hm:=(cm hV).1
  by_cases hf:bK n 0 t<0
  case pos =>
   obtain rfl:R=fA 10:=by rw [←hR];simp [cM,hV,hf]
   repeat' (first
    | refine ah ?_ ?_
    | (refine aa 9 rfl ?_;first
     | (refine cB [] (dg t) ?_)
     | (refine cB [] (mO t n) ?_))
    | refine af ?_
    | exact ai|refine ae fun hb=>?_
    | (refine eR (qf []) ?_;exact ab))
  obtain ⟨i,hi,hF,hq,hx⟩:=f7 hf
  have hS:=dJ hV (List.getElem_mem hi)
  obtain ⟨Q,hQ⟩:∃Q,bj t[i] p=Q:=⟨_,rfl⟩
  have hQl:=qo hS p
  rw [hQ] at hQl
  have hlen:Q.2.1.length≤100000:=by omega
  by_cases he:Q.2.2=0
  ·obtain rfl:R=(t.set i Q.1,aY n Q.2.1,0):=by rw [←hR];unfold cM;rw [hq,hQ,hx];simp [hV,hf,he]
   repeat' (first
    | refine ah ?_ ?_
    | (refine aa 9 rfl ?_;first
     | (refine cB [] (dg t) ?_)
     | (refine cB [] (cO t n hF) ?_)
     | (refine cC [] (xO t[i] p hQ) ?_)
     | (refine cC [] (oc t i Q.1 hi (by omega)) ?_)
     | (refine cC [] (lU n Q.2.1 hlen) ?_))
    | refine af ?_
    | exact ai|refine ae fun hb=>?_
    | (refine eR (qf []) ?_;exact ab))
  ·obtain rfl:R=fA Q.2.2:=by rw [←hR];unfold cM;rw [hq,hQ,hx];simp [hV,hf,he]
   repeat' (first
    | refine ah ?_ ?_
    | (refine aa 9 rfl ?_;first
     | (refine cB [] (dg t) ?_)
     | (refine cB [] (cO t n hF) ?_)
     | (refine cC [] (xO t[i] p hQ) ?_))
    | refine af ?_
    | exact ai|refine ae fun hb=>?_
    | (refine eR (qf []) ?_;exact ab))
theorem qV (t:List Qu) (p:Pr) (a:Tm) {R:List Qu×List Ev×Int} (hR:cn t p a=R):FSpec prog 193 [.one (.sl ji t),p.a,a.a] [] [] (Jq R) []:=by
 refine aX func193 ?_
 cases hV:ez t with
 | false =>
  obtain rfl:R=fA 2:=by rw [←hR];simp [cn,hV]
  repeat' (first
   | refine ah ?_ ?_
   | refine aa 9 rfl (cB [] (dg t) ?_)
   | refine af ?_
   | exact ai|refine ae fun hb=>?_
   | (refine eR (qf []) ?_;exact ab))
 | true =>
  have hm:=(cm hV).1
  by_cases hf:bK a.name 0 t<0
  case pos =>
   obtain rfl:R=fA 10:=by rw [←hR];simp [cn,hV,hf]
   repeat' (first
    | refine ah ?_ ?_
    | (refine aa 9 rfl ?_;first
     | (refine cB [] (dg t) ?_)
     | (refine cB [] (mO t a.name) ?_))
    | refine af ?_
    | exact ai|refine ae fun hb=>?_
    | (refine eR (qf []) ?_;exact ab))
  obtain ⟨i,hi,hF,hq,hx⟩:=f7 hf
  have hS:=dJ hV (List.getElem_mem hi)
  obtain ⟨Q,hQ⟩:∃Q,bL t[i] p a.am=Q:=⟨_,rfl⟩
  have hQl:=sj hS p a.am
  rw [hQ] at hQl
  have hlen:Q.2.1.length≤100000:=by omega
  have hgl:(aY a.name Q.2.1).length≤17:=by unfold aY;rw [List.length_map];exact hQl
  by_cases he:Q.2.2=0
  ·by_cases hh:aq t[i].holds p=a.am
   ·obtain rfl:R=(t.set i Q.1,aY a.name Q.2.1,0):=by rw [←hR];unfold cn;rw [hq,hQ,hx];simp [hV,hf,he,hh]
    repeat' (first
     | refine ah ?_ ?_
     | (refine aa 9 rfl ?_;first
      | (refine cB [] (dg t) ?_)
      | (refine cB [] (cO t a.name hF) ?_)
      | (refine cB [] (eP t[i] p) ?_)
      | (refine cC [] (vX t[i] p a.am hQ) ?_)
      | (refine cC [] (oc t i Q.1 hi (by omega)) ?_)
      | (refine cC [] (lU a.name Q.2.1 hlen) ?_))
     | refine af ?_
     | exact ai|refine ae fun hb=>?_
     | (refine eR (qf []) ?_;exact ab))
   ·obtain rfl:R=(t.set i Q.1,[⟨3,p,a.name,a.am⟩]++aY a.name Q.2.1,0):=by rw [←hR];unfold cn;rw [hq,hQ,hx];simp [hV,hf,he,hh]
    repeat' (first
     | refine ah ?_ ?_
     | (refine aa 8 rfl ?_;refine aM (aj (E:=ql) rfl rfl (qS rfl) (aB [⟨3,p,a.name,a.am⟩] rfl rfl rfl rfl) (List.nil_append _) aC aC) rfl rfl rfl ?_)
     | (refine aa 9 rfl ?_;first
      | (refine cB [] (dg t) ?_)
      | (refine cB [] (cO t a.name hF) ?_)
      | (refine cB [] (eP t[i] p) ?_)
      | (refine cC [] (vX t[i] p a.am hQ) ?_)
      | (refine cC [] (oc t i Q.1 hi (by omega)) ?_)
      | (refine cC [] (lU a.name Q.2.1 hlen) ?_))
     | refine af ?_
     | exact ai|refine ae fun hb=>?_
     | (refine eR (qf []) ?_;exact ab))
  ·obtain rfl:R=fA Q.2.2:=by rw [←hR];unfold cn;rw [hq,hQ,hx];simp [hV,hf,he]
   repeat' (first
    | refine ah ?_ ?_
    | (refine aa 9 rfl ?_;first
     | (refine cB [] (dg t) ?_)
     | (refine cB [] (cO t a.name hF) ?_)
     | (refine cB [] (eP t[i] p) ?_)
     | (refine cC [] (vX t[i] p a.am hQ) ?_))
    | refine af ?_
    | exact ai|refine ae fun hb=>?_
    | (refine eR (qf []) ?_;exact ab))
theorem lc (n:ByteArray):∀{t t':List Qu} (k:Nat),gj t=gj t'→bK n k t=bK n k t'
 | [],[],_,_=>rfl
 | [],_ :: _,_,h=>by simp [gj] at h
 | _ :: _,[],_,h=>by simp [gj] at h
 | q :: t,q' :: t',k,h=>by
  have h':q.res.name :: gj t=q'.res.name :: gj t':=h
  injection h' with h1 h2
  rw [eU,eU,h1,lc n (k+1) h2]
theorem gQ {t t':List Qu} (h:gj t=gj t') (n:ByteArray):aV t n=aV t' n∧iQ t n=iQ t' n:=by
 unfold aV iQ
 rw [lc n 0 h]
 exact ⟨rfl,rfl⟩
theorem pt {t:List Qu} {n:ByteArray} (h:aV t n=true):∃i,∃hi:i<t.length,iQ t n=i∧t[i].res.name=n∧bf t n=t[i]:=by
 unfold aV at h
 obtain ⟨i,hi,e1,e2⟩:=mK (of_decide_eq_true h)
 have e3:iQ t n=i:=by unfold iQ;rw [e1];omega
 refine ⟨i,hi,e3,e2,?_⟩
 unfold bf
 rw [e3]
 simp [hi]
theorem dF {t:List Qu} {n:ByteArray} (h:aV t n=true):bf t n∈t∧(bf t n).res.name=n:=by
 obtain ⟨i,hi,_,e2,e3⟩:=pt h
 rw [e3]
 exact ⟨List.getElem_mem hi,e2⟩
theorem oe {t:List Qu} (hv:ez t=true) {q:Qu} (hq:q∈t):aV t q.res.name=true∧bf t q.res.name=q:=by
 obtain ⟨i,hi,rfl⟩:=List.mem_iff_getElem.1 hq
 have h:=xv (k:=0) hi (xu hv)
 unfold aV bf iQ
 rw [h]
 refine ⟨decide_eq_true (by omega),?_⟩
 have:((0+i:Nat):Int).toNat=i:=by omega
 rw [this]
 simp [hi]
structure TStep (t t':List Qu) (p:Pr) (n:ByteArray):Prop where
 v:ez t'=true
 nm:gj t'=gj t
 has:aV t n=true
 oth:∀m,m≠n→aV t m=true→bf t' m=bf t m
 out:Out (bf t n) (bf t' n) p
 sub:∀r∈az t',r=p∨r∈az t
theorem TOut.step {t t':List Qu} {i:Nat} {p:Pr} {n:ByteArray} (h:TOut t t' i p) (hv:ez t=true) (hn:(t[i]'h.lt).res.name=n) (hp:(az t).length≤7∨p∈az t∨p ∉ az t'):TStep t t' p n:=by
 have hm:=h.names
 have hmem:=oe hv (List.getElem_mem h.lt)
 rw [hn] at hmem
 have hix:iQ t n=i:=by
  obtain ⟨j,hj,e1,e2,e3⟩:=pt hmem.1
  rw [e1]
  have hnd:=xu hv
  unfold gj at hnd
  rcases Nat.lt_trichotomy j i with hlt|he|hgt
  ·have:=List.pairwise_iff_getElem.1 hnd j i (by simpa using hj) (by simpa using h.lt) hlt
   simp only [List.getElem_map] at this
   exact absurd (e2.trans hn.symm) this
  ·exact he
  ·have:=List.pairwise_iff_getElem.1 hnd i j (by simpa using h.lt) (by simpa using hj) hgt
   simp only [List.getElem_map] at this
   exact absurd (hn.trans e2.symm) this
 refine ⟨h.valid hv hp,hm,hmem.1,fun m hne hh=>?_,?_,ug hv h⟩
 ·unfold bf
  rw [(gQ hm m).2]
  obtain ⟨j,hj,e1,e2,_⟩:=pt hh
  rw [e1]
  have hji:j≠i:=fun e=>by subst e;exact hne (e2.symm.trans hn)
  have:=h.other hji
  simp only [List.getD_eq_getElem?_getD,this]
 ·obtain ⟨q,e,ho⟩:=h.at
  have e2:bf t' n=q:=by
   unfold bf
   rw [(gQ hm n).2,hix]
   simp only [List.getD_eq_getElem?_getD,e]
   rfl
  rw [e2,hmem.2]
  exact ho
theorem TStep.hasE {t t':List Qu} {p:Pr} {n:ByteArray} (h:TStep t t' p n) (m:ByteArray):aV t' m=aV t m:=(gQ h.nm m).1
theorem TStep.res {t t':List Qu} {p:Pr} {n:ByteArray} (h:TStep t t' p n) {m:ByteArray} (hm:aV t m=true):(bf t' m).res=(bf t m).res:=by
 by_cases e:m=n
 ·rw [e];exact h.out.res
 ·rw [h.oth m e hm]
structure TP (t t':List Qu) (p:Pr):Prop where
 v:ez t'=true
 nm:gj t'=gj t
 out:∀n,aV t n=true→Out (bf t n) (bf t' n) p
 sub:∀r∈az t',r=p∨r∈az t
theorem TStep.tp {t t':List Qu} {p:Pr} {n:ByteArray} (hv:ez t=true) (h:TStep t t' p n):TP t t' p:=by
 refine ⟨h.v,h.nm,fun m hm=>?_,h.sub⟩
 by_cases e:m=n
 ·subst e;exact h.out
 ·rw [h.oth m e hm]
  exact Out.same p (dJ hv (dF hm).1)
theorem TP.hasE {t t':List Qu} {p:Pr} (h:TP t t' p) (m:ByteArray):aV t' m=aV t m:=(gQ h.nm m).1
abbrev iH (x:Pc) (n:ByteArray):Am:=aw x.led.entries n
structure FitR (t:List Qu) (n:ByteArray) (x:Pc):Prop where
 h:aq (bf t n).holds x.proc=iH x n
 w:ap (bf t n) x.proc=none
abbrev jn (t:List Qu) (n:ByteArray) (x:Pc) (a:Am):Am:=bV (bf t n).res (iH x n) a
def FitA (t:List Qu) (n:ByteArray) (x:Pc) (a:Am):Prop :=
  (bq (bf t n).res (iH x n) a=true∧FitR t n x)∨(bq (bf t n).res (iH x n) a=false∧
    ((aq (bf t n).holds x.proc=jn t n x a∧ap (bf t n) x.proc=none)∨
     (aq (bf t n).holds x.proc=iH x n∧ap (bf t n) x.proc=some (jn t n x a)∧∀y∈(bf t n).waits,y.proc=x.proc→y.prio=x.req.prio)))
def dK (l:List Tm) (n:ByteArray):Option Tm:=l.find? fun a=>aT a.name n
def FitW (t:List Qu) (n:ByteArray) (x:Pc) (l:List Tm):Prop:=match dK l n with
 | none=>FitR t n x
 | some a=>FitA t n x a.am
theorem FitR.tp {t t':List Qu} {p:Pr} {m:ByteArray} {x:Pc} (hs:TP t t' p) (hp:x.proc≠p) (hm:aV t m=true) (h:FitR t m x):FitR t' m x:=by
 rcases (hs.out m hm).eff x.proc hp with ⟨h1,h2⟩|⟨a,h1,_⟩
 ·exact ⟨h1.trans h.h,h2.trans h.w⟩
 ·rw [h.w] at h1;cases h1
theorem FitA.tp {t t':List Qu} {p:Pr} {m:ByteArray} {x:Pc} {a:Am} (hs:TP t t' p) (hp:x.proc≠p) (hm:aV t m=true) (h:FitA t m x a):FitA t' m x a:=by
 have hr:=(hs.out m hm).res
 unfold FitA jn at *
 rw [hr]
 rcases h with ⟨h1,h2⟩|⟨h1,h2⟩
 ·exact .inl ⟨h1,h2.tp hs hp hm⟩
 ·refine .inr ⟨h1,?_⟩
  rcases h2 with ⟨h3,h4⟩|⟨h3,h4,h5⟩
  ·rcases (hs.out m hm).eff x.proc hp with ⟨k1,k2⟩|⟨b,k1,_⟩
   ·exact .inl ⟨k1.trans h3,k2.trans h4⟩
   ·rw [h4] at k1;cases k1
  ·rcases (hs.out m hm).eff x.proc hp with ⟨k1,k2⟩|⟨b,k1,k2,k3⟩
   ·refine .inr ⟨k1.trans h3,k2.trans h4,fun y hy hyp=>?_⟩
    obtain ⟨z,hz,e1,e2⟩:=(hs.out m hm).prio y hy (by rw [hyp];exact hp)
    rw [←e2]
    exact h5 z hz (e1.trans hyp)
   ·rw [h4] at k1
    injection k1 with k1
    exact .inl ⟨k2.trans k1.symm,k3⟩
theorem FitW.tp {t t':List Qu} {p:Pr} {m:ByteArray} {x:Pc} {l:List Tm} (hs:TP t t' p) (hp:x.proc≠p) (hm:aV t m=true) (h:FitW t m x l):FitW t' m x l:=by
 unfold FitW at *
 cases hf:dK l m with
 | none=>rw [hf] at h;exact h.tp hs hp hm
 | some a=>rw [hf] at h;exact h.tp hs hp hm
structure PStat (t:List Qu) (x:Pc):Prop where
 vp:fI x.proc=true
 cost:1≤x.cost∧x.cost≤1000
 led:Ld x.led
 gen:0≤x.gen∧x.gen≤1073741824
 hf:∀n,iH x n≠⟨0,0⟩→aV t n=true∧aH (bf t n).res (iH x n)=true
theorem xQ {t t':List Qu} {p:Pr} (hs:TP t t' p):∀l:List Tm,gF t' l=gF t l
 | []=>rfl
 | a :: l=>by
  unfold gF
  rw [hs.hasE,xQ hs l]
  cases hh:aV t a.name with
  | false=>rfl
  | true=>rw [(hs.out _ hh).res]
theorem AX {t t':List Qu} {p:Pr} (hs:TP t t' p) (x:Ex):iy t' x=iy t x:=by
 unfold iy
 rw [xQ hs]
structure PWait (t:List Qu) (now:Int) (x:Pc):Prop where
 rq:qL x.req=true
 rs:iy t x.req.expr=0
 sn:0≤x.since∧x.since≤now
structure PInv (t:List Qu) (now:Int) (x:Pc):Prop where
 stat:PStat t x
 run:x.waiting=false→x.req=Rq.zero∧x.since=0∧∀n,aV t n=true→FitR t n x
 wat:x.waiting=true→PWait t now x∧∀n,aV t n=true→FitW t n x (cP x.req.expr)
theorem PStat.tp {t t':List Qu} {p:Pr} {x:Pc} (hs:TP t t' p) (h:PStat t x):PStat t' x :=
 ⟨h.vp,h.cost,h.led,h.gen,fun m hm=>by
  obtain ⟨h1,h2⟩:=h.hf m hm
  exact ⟨by rw [hs.hasE];exact h1,by rw [(hs.out m h1).res];exact h2⟩⟩
theorem PWait.tp {t t':List Qu} {p:Pr} {now:Int} {x:Pc} (hs:TP t t' p) (h:PWait t now x):PWait t' now x:=⟨h.rq,by rw [AX hs];exact h.rs,h.sn⟩
theorem PInv.tp {t t':List Qu} {p:Pr} {now:Int} {x:Pc} (hs:TP t t' p) (hp:x.proc≠p) (h:PInv t now x):PInv t' now x:=by
 refine ⟨h.stat.tp hs,fun hw=>?_,fun hw=>?_⟩
 ·obtain ⟨h1,h2,h3⟩:=h.run hw
  exact ⟨h1,h2,fun m hm=>by rw [hs.hasE] at hm;exact (h3 m hm).tp hs hp hm⟩
 ·obtain ⟨h1,h2⟩:=h.wat hw
  exact ⟨h1.tp hs,fun m hm=>by rw [hs.hasE] at hm;exact (h2 m hm).tp hs hp hm⟩
theorem vY {t:List Qu} {n:ByteArray} {p:Pr} {q':Qu} (h:aV t n=true) (ho:Out (bf t n) q' p):∃i,∃hi:i<t.length,iQ t n=i∧t[i].res.name=n∧TOut t (t.set (iQ t n) q') i p:=by
 obtain ⟨i,hi,e1,e2,e3⟩:=pt h
 refine ⟨i,hi,e1,e2,hi,q',by rw [e1],?_⟩
 rw [e3] at ho
 exact ho
theorem vZ {t:List Qu} {n:ByteArray} {q':Qu} (h:aV t n=true) (hn:gj (t.set (iQ t n) q')=gj t):bf (t.set (iQ t n) q') n=q':=by
 obtain ⟨i,hi,e1,e2,e3⟩:=pt h
 unfold bf
 rw [(gQ hn n).2,e1]
 simp [hi]
theorem sk {t:List Qu} {p:Pr} {n:ByteArray} (hv:ez t=true) (h:aV t n=true) (hw:(ap (bf t n) p).isSome=true) :
  cM t p n=(t.set (iQ t n) (bj (bf t n) p).1,aY n (bj (bf t n) p).2.1,0)∧TStep t (cM t p n).1 p n∧aq (bf (cM t p n).1 n).holds p=aq (bf t n).holds p∧ap (bf (cM t p n).1 n) p=none:=by
 have hq:=dF h
 have hs:=vL (dJ hv hq.1) hw
 obtain ⟨ho,h1,h2⟩:=xy hs
 have e:cM t p n=(t.set (iQ t n) (bj (bf t n) p).1,aY n (bj (bf t n) p).2.1,0):=by
  unfold aV at h
  have hf:=of_decide_eq_true h
  unfold cM
  rw [hv,decide_eq_false (show ¬bK n 0 t<0 by omega)]
  simp only [Bool.not_true,cond_false]
  rw [show t.getD (iQ t n) vJ=bf t n from rfl,decide_eq_true hs]
  rfl
 obtain ⟨i,hi,e1,e2,hto⟩:=vY h ho
 have hp:p∈az t:=by
  unfold az
  rw [bw,gi]
  exact ⟨_,hq.1,(dX (aG (dJ hv hq.1)) p).2 (by unfold dT;rw [hw];rfl)⟩
 have hst:TStep t (cM t p n).1 p n:=by rw [e];exact hto.step hv e2 (.inr (.inl hp))
 have hq2:bf (cM t p n).1 n=(bj (bf t n) p).1:=by
  have:=hst.nm
  rw [e] at this ⊢
  exact vZ h this
 exact ⟨e,hst,by rw [hq2];exact h1,by rw [hq2];exact h2⟩
theorem pu {t:List Qu} {p:Pr} {a:Tm} (hv:ez t=true) (h:aV t a.name=true) (h0:aq (bf t a.name).holds p≠⟨0,0⟩) (hw:ap (bf t a.name) p=none) (hc:bq (bf t a.name).res (aq (bf t a.name).holds p) a.am=true) :
  cn t p a=(t.set (iQ t a.name) (bL (bf t a.name) p a.am).1,(bif decide (aq (bf t a.name).holds p=a.am) then [] else [⟨3,p,a.name,a.am⟩])++aY a.name (bL (bf t a.name) p a.am).2.1,0)∧TStep t (cn t p a).1 p a.name∧aq (bf (cn t p a).1 a.name).holds p=a.am∧ap (bf (cn t p a).1 a.name) p=none:=by
 have hq:=dF h
 have hs:=xz (dJ hv hq.1) h0 hw hc
 obtain ⟨ho,h1,h2⟩:=zw hs
 have e:cn t p a=(t.set (iQ t a.name) (bL (bf t a.name) p a.am).1,(bif decide (aq (bf t a.name).holds p=a.am) then [] else [⟨3,p,a.name,a.am⟩])++aY a.name (bL (bf t a.name) p a.am).2.1,0):=by
  unfold aV at h
  have hf:=of_decide_eq_true h
  unfold cn
  rw [hv,decide_eq_false (show ¬bK a.name 0 t<0 by omega)]
  simp only [Bool.not_true,cond_false]
  rw [show t.getD (iQ t a.name) vJ=bf t a.name from rfl,decide_eq_true hs]
  rfl
 obtain ⟨i,hi,e1,e2,hto⟩:=vY h ho
 have hp:p∈az t:=by
  unfold az
  rw [bw,gi]
  exact ⟨_,hq.1,(dX (aG (dJ hv hq.1)) p).2 (by unfold dT;rw [bz.2 h0];simp)⟩
 have hst:TStep t (cn t p a).1 p a.name:=by rw [e];exact hto.step hv e2 (.inr (.inl hp))
 have hq2:bf (cn t p a).1 a.name=(bL (bf t a.name) p a.am).1:=by
  have:=hst.nm
  rw [e] at this ⊢
  exact vZ h this
 exact ⟨e,hst,by rw [hq2];exact h1,by rw [hq2];exact h2⟩
theorem Cu {t:List Qu} {p:Pr} {a:Tm} {prio:Int} (hv:ez t=true) (h:aV t a.name=true) (hvp:fI p=true) (hr:0≤prio∧prio≤7) (hf:aH (bf t a.name).res a.am=true) (hw:ap (bf t a.name) p=none)
  (hl:aq (bf t a.name).holds p≠⟨0,0⟩∨(bf t a.name).holds.length+(bf t a.name).waits.length<8) (hp:(az t).length≤7∨p∈az t) :
  bQ t p a prio=(t.set (iQ t a.name) (bG (bf t a.name) p a.am prio).1,aY a.name (bG (bf t a.name) p a.am prio).2.1,0)∧TStep t (bQ t p a prio).1 p a.name∧ClOut (bf t a.name) (bf (bQ t p a prio).1 a.name) p a.am prio:=by
 have hq:=dF h
 have hs:=xw (dJ hv hq.1) hvp hr hf hw hl
 have ho:=zv hs
 have e:bQ t p a prio=(t.set (iQ t a.name) (bG (bf t a.name) p a.am prio).1,aY a.name (bG (bf t a.name) p a.am prio).2.1,0):=by
  unfold aV at h
  have hf:=of_decide_eq_true h
  have hc:(decide ((az t).length=8) && !decide (p∈az t))=false:=by
   rcases hp with hp|hp
   ·rw [decide_eq_false (by omega)];rfl
   ·rw [decide_eq_true hp];simp
  unfold bQ
  rw [hv,decide_eq_false (show ¬bK a.name 0 t<0 by omega),hc]
  simp only [Bool.not_true,cond_false]
  rw [show t.getD (iQ t a.name) vJ=bf t a.name from rfl,decide_eq_true hs]
  rfl
 obtain ⟨i,hi,e1,e2,hto⟩:=vY h ho.out
 have hst:TStep t (bQ t p a prio).1 p a.name:=by
  rw [e]
  refine hto.step hv e2 ?_
  rcases hp with hp|hp
  ·exact .inl hp
  ·exact .inr (.inl hp)
 have hq2:bf (bQ t p a prio).1 a.name=(bG (bf t a.name) p a.am prio).1:=by
  have:=hst.nm
  rw [e] at this ⊢
  exact vZ h this
 exact ⟨e,hst,by rw [hq2];exact ho⟩
theorem Jr {B:List Bool} {i:Nat} (hi:i<B.length):(B.take i++List.replicate (B.length-i) false).set i B[i]=B.take (i+1)++List.replicate (B.length-(i+1)) false:=by
 have h1:(B.take i).length=i:=by simp;omega
 rw [List.set_append_right _ _ (by omega),h1,Nat.sub_self,show B.length-i=(B.length-(i+1))+1 by omega,List.replicate_succ,List.set_cons_zero,List.take_succ_eq_append_getElem hi,List.append_assoc]
 rfl
theorem KB {B:List Bool} {i:Nat} (hi:i<B.length) (h:B[i]=false):B.take (i+1)++List.replicate (B.length-(i+1)) false=B.take i++List.replicate (B.length-i) false:=by
 rw [List.take_succ_eq_append_getElem hi,h,show B.length-i=(B.length-(i+1))+1 by omega,List.replicate_succ,List.append_assoc]
 rfl
theorem ja (d:Nat) (x:Ex) {L:List Tm} (h:cP x=L):FSpec prog 78 [x.a d] [] [] (.c (.sl cr L)) []:=h▸AT d x
theorem dh (x:Ex):(cP x).length≤8:=by
 cases hv:nE x with
 | false=>rw [vj hv];simp
 | true=>exact (rr hv).2.2.1
theorem ld (d:Nat) (t:List Qu) (p:Pr) (x:Ex):FSpec prog 178 [.one (.sl ji t),p.a,x.a d] [] [] (.c (.sl eh (bC t p x))) []:=by
 refine aX func178 ?_
 have hmk:prog.underlying 231=some (.slice 4):=underlying231
 have hib:(prog.info? 4).map (fun i=>(i.zero,i.size,i.bytes))=some (some (.bool false),1,1):=by kernel_rfl
 have h8:=dh x
 obtain ⟨L,hL⟩:∃L,cP x=L:=⟨_,rfl⟩
 obtain ⟨B,hB⟩:∃B,B=bC t p x:=⟨_,rfl⟩
 have hBl:B.length=L.length:=by rw [hB];simp [bC,hL]
 have hBg:∀i (h:i<L.length),B[i]'(by omega)=(aV t L[i].name && bq (bf t L[i].name).res (aq (bf t L[i].name).holds p) L[i].am):=by
  intro i h
  simp only [hB,bC,hL,List.getElem_map]
 rw [hL] at h8
 rw [←hB]
 clear hB
 repeat' (first
  | refine ah ?_ ?_
  | refine aa 9 rfl (cC [] (ja d x hL) ?_)
  | (refine aa 20 rfl ?_;refine aM (i9 (E:=eh) (y0:=false) hmk hib rfl (by decide) rfl (fun _ _=>rfl) rfl rfl rfl rfl (by first|omega|simp)) rfl rfl rfl ?_)
  | refine af ?_
  | exact ai|refine ae fun hb=>?_)
 refine ak (fun i=>i≤L.length) (fun i=>bH [4,5,1000] [(0,.c (.sl ji t)),(4,.c (.ptr 4 0)),(7,.c (.sl cr L)),(8,.c (.own 1000)),(9,.i i)] [(4,.box 23 [.sc (.int .i64 p.site),.sc (.int .i64 p.inc),.sc (.int .i64 p.num)]),(1000,.arr 4 eh (B.take i++List.replicate (B.length-i) false))]) (fun i=>L.length-i) 0 (Nat.zero_le _) (by rw [List.take_zero,List.nil_append,Nat.sub_zero,hBl];exact ao (qf [(1000,15)])) ?_
 intro i hi
 have hol:(B.take i++List.replicate (B.length-i) false).length=L.length:=by simp;omega
 by_cases hlt:i<L.length
 ·have hb1:=hBg i hlt
  obtain ⟨a,ha⟩:∃a,L[i]=a:=⟨_,rfl⟩
  have hga:L[i]? = some a:=by rw [List.getElem?_eq_getElem hlt,ha]
  rw [ha] at hb1
  by_cases hf:bK a.name 0 t<0
  ·have hno:=KB (B:=B) (i:=i) (by omega) (by rw [hb1,show aV t a.name=false by simp [aV];omega];rfl)
   repeat' (first
    | refine ah ?_ ?_
    | refine aa 9 rfl (cB [] (mO t a.name) ?_)
    | refine af ?_
    | exact ai|refine ae fun hb=>?_)
   refine ⟨i+1,by omega,by omega,?_⟩
   rw [hno]
   exact ao (qf [])
  ·obtain ⟨j,hj,hF,hq,hx⟩:=f7 hf
   have hst:=Jr (B:=B) (i:=i) (by omega)
   rw [hb1,show aV t a.name=true by simp [aV,Int.not_lt.1 hf],Bool.true_and,show bf t a.name=t[j] from hq] at hst
   repeat' (first
    | refine ah ?_ ?_
    | (refine aa 9 rfl ?_;first
     | (refine cB [] (cO t a.name hF) ?_)
     | (refine cB [] (eP t[j] p) ?_)
     | (refine cB [] (dq t[j].res (aq t[j].holds p) a.am) ?_))
    | refine af ?_
    | (refine aa 4 rfl ?_;refine bP (aI (z:=bq t[j].res (aq t[j].holds p) a.am) rfl rfl rfl rfl (by first|assumption|exact List.getElem?_eq_getElem (by omega)) rfl rfl rfl rfl (Nat.le_of_ble_eq_true rfl) rfl rfl) rfl rfl rfl ?_)
    | exact ai|refine ae fun hb=>?_)
   refine ⟨i+1,by omega,by omega,?_⟩
   rw [←hst]
   exact ao (qf [])
 ·have e:B.take i++List.replicate (B.length-i) false=B:=by rw [List.take_of_length_le (by omega),show B.length-i=0 by omega];simp
  rw [e]
  repeat' (first
   | refine ah ?_ ?_
   | refine af ?_
   | exact ai|refine ae fun hb=>?_)
  refine aE (qf []) ?_;exact ab
instance:Dp fJ:=ed _ _ _ _ _
instance:ST prog fJ 65 159 40:=⟨ElTB.mk' underlying65 (.agg #[.string { data:=#[] },.int .i64 0,.int .i64 0,.int .i64 0]) 4 40 (by kernel_rfl) rfl rfl⟩
def gA (t:List Qu):List Rs:=t.map (·.res)
theorem xR (t:List Qu) (hl:t.length≤100000):FSpec prog 177 [.one (.sl ji t)] [] [] (.c (.sl fJ (gA t))) []:=by
 refine aX func177 ?_
 repeat' (first
  | refine ah ?_ ?_
  | refine af ?_
  | exact ai|refine ae fun hb=>?_)
 refine cc 3 1000 159 fJ rfl rfl rfl ?_
 refine ak (fun i=>i≤t.length) (fun i=>bH [1000] [(0,.c (.sl ji t)),(3,.c (.own 1000)),(4,.i i)] [(1000,.arr 159 fJ (gA (t.take i)))]) (fun i=>t.length-i) 0 (Nat.zero_le _) (by exact ao (qf [])) ?_
 intro i hi
 have hlen:(gA (t.take i)).length=i:=by simp [gA,Nat.min_eq_left hi]
 repeat' (first
  | refine ah ?_ ?_
  | (refine aa 8 rfl ?_;refine aM (aj rfl rfl (ax rfl rfl) (aB [(t[i]'(by omega)).res] rfl rfl rfl rfl) rfl aC aC) rfl rfl rfl ?_)
  | refine af ?_
  | exact ai|refine ae fun hb=>?_)
 ·refine ⟨i+1,by omega,by omega,?_⟩
  have e:gA (t.take (i+1))=gA (t.take i)++[(t[i]'(by omega)).res]:=by
   unfold gA
   rw [List.take_succ_eq_append_getElem (by omega),List.map_append]
   rfl
  rw [e]
  exact ao (qf [(1000,18)])
 ·have e:gA (t.take i)=gA t:=by rw [List.take_of_length_le (by omega)]
  rw [←e]
  refine aE (qf []) ?_;exact ab
end Go.Proofs.YtdaajdflefnjfaaGreat
