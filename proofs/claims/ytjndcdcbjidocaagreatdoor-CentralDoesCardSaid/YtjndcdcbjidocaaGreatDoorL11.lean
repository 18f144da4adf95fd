/- Part 11 of 33 of the proof of centralDoes_holds (no condition). -/
import Derived.Test.YtjndcdcbjidocaaGreatDoorL10
set_option linter.unusedVariables false
set_option linter.unusedSimpArgs false
set_option maxRecDepth 100000
set_option maxHeartbeats 64000000
namespace Go.Proofs.YtjndcdcbjidocaaGreatDoor
open Go.RowKit Go.Proofs.Tryz
theorem xe {n:Nat} {q:Qu} {acc:List Ho} (hs:Sd q) (h:aw q=true):eR n q acc=(q,acc):=by
 cases n with
 | zero=>rfl
 | succ n =>
  have h2:=(cW.1 h).2;unfold eR;cases hh:dm q with
  | none=>rfl
  | some x=>dsimp only;rw [h2 x hh];rfl
theorem tM {n:Nat} {q:Qu} {acc:List Ho} (hs:Sd q) (h:aw q=false) (hn:fF q≤n):∃x,dm q=some x∧Sd (gH q x)∧fF (gH q x)+1=fF q∧0<n∧eR n q acc=eR (n-1) (gH q x) (acc++[⟨x.proc,x.am⟩]):=by
 cases hh:dm q with
 | none=>rw [cW.2 ⟨hs,fun x hx=>by rw [hh] at hx;cases hx⟩] at h;cases h
 | some x =>
  have hr:fW q.res q.holds x.proc x.am=true:=by
   cases hc:fW q.res q.holds x.proc x.am with
   | true=>rfl
   | false=>rw [cW.2 ⟨hs,fun y hy=>by rw [hh] at hy;injection hy with hy;rw [←hy];exact hc⟩] at h;cases h
  have hp:=yz hh;obtain ⟨m,rfl⟩:∃m,n=m+1:=⟨n-1,by omega⟩;refine ⟨x,rfl,hs.pop hh hr,hp,Nat.succ_pos _,?_⟩;rw [eR,hh];dsimp only;rw [hr];rfl
def yK:List D:=[.sc (.string ⟨#[]⟩),.sc (.int .i64 0),.sc (.int .i64 0),.sc (.int .i64 0),.sc (.slice none 0 0),.sc (.slice none 0 0),.sc (.slice none 0 0),.sc (.int .i64 0)]
theorem DD (q:Qu) (hs:Sd q):FSpec prog 326 [q.a] [] [] (.tup [(lf q).1.a,.one (.sl fV (lf q).2)]) []:=by
 have hh:=hs.hv.len;have h1:=hs.clen;have h2:=hs.wlen;have hsd:=mN.2 hs;have hm:fF q≤16:=by unfold fF;omega
 refine aP func326 ?_;repeat' (first|refine af ?_ ?_|(refine aa 9 rfl ?_;first|(refine cB [] (ve q) ?_)|(refine cC [] (mU q (by omega) (by omega) (by omega)) ?_))|refine ae ?_|exact ah|(refine ab fun hb=>?_;first|(simp [hsd] at hb;done)|skip))
 refine bV 4 1000 197 fV rfl rfl rfl ?_;refine ai (fun x:Nat×Qu×List Ho=>Sd x.2.1∧fF x.2.1≤x.1∧eR x.1 x.2.1 x.2.2=lf q∧x.2.2.length+x.1≤16) (fun x=>bt [1,2,1000] [(1,.c (.ptr 1 0)),(2,.c (.ptr 2 0)),(4,.c (.own 1000))] [(1,.box 81 x.2.1.d),(2,.box 81 yK),(1000,.arr 197 fV x.2.2)]) (fun x=>x.1) (fF q,q,[]) ⟨hs,Nat.le_refl _,rfl,by simpa using hm⟩ aN ?_;rintro ⟨n,q1,acc⟩ ⟨hs1,hn,hadv,hlen⟩;dsimp only at *
 cases hset:aw q1 with
 | true =>
  repeat' (first|refine af ?_ ?_|refine aa 9 rfl (cB [] (nR q1) ?_)|refine ae ?_|exact ah|(refine ab fun hb=>?_;first|(simp [hset] at hb;done)|skip))
  rw [xe hs1 hset] at hadv;rw [←hadv];refine fe (qf []) ?_;exact aj
 | false =>
  obtain ⟨x,hx,hs2,hn2,hpos,hgo⟩:=tM (acc:=acc) hs1 hset hn;rw [hgo] at hadv;have hh1:=hs1.hv.len;have hq1:=hs1;obtain ⟨r,hs',cs,ws,gn⟩:=q1;cases cs with
  | cons y cs =>
   obtain rfl:y=x:=by simpa [dm] using hx
   repeat' (first|refine af ?_ ?_|(refine aa 8 rfl ?_;refine aV (ak rfl rfl (aB rfl rfl) (aD [⟨y.proc,y.am⟩] rfl rfl rfl rfl) rfl aL aL) rfl rfl rfl ?_)|(refine aa 9 rfl ?_;first|(refine cB [] (nR ⟨r,hs',y :: cs,ws,gn⟩) ?_)|(refine cB [] (Du ⟨r,hs',y :: cs,ws,gn⟩) ?_)|(refine cC [] (Ds hs' y.proc y.am (by dsimp only at hh1;omega)) ?_))|refine ae ?_|exact ah|(refine ab fun hb=>?_;first|(simp [hset] at hb;done)|skip))
   ·refine ⟨(n-1,gH ⟨r,hs',y :: cs,ws,gn⟩ y,acc++[⟨y.proc,y.am⟩]),⟨hs2,by dsimp only;omega,hadv,by simp;omega⟩,by dsimp only;omega,?_⟩;exact a8 (qf [(1000,48)])
  | nil =>
   obtain ⟨ws2,rfl⟩:∃m,ws=x :: m:=by
    cases ws with
    | nil=>simp [dm] at hx
    | cons z m=>exact ⟨m,by rw [show z=x by simpa [dm] using hx]⟩
   repeat' (first|refine af ?_ ?_|(refine aa 8 rfl ?_;refine aV (ak rfl rfl (aB rfl rfl) (aD [⟨x.proc,x.am⟩] rfl rfl rfl rfl) rfl aL aL) rfl rfl rfl ?_)|(refine aa 9 rfl ?_;first|(refine cB [] (nR ⟨r,hs',[],x :: ws2,gn⟩) ?_)|(refine cB [] (Du ⟨r,hs',[],x :: ws2,gn⟩) ?_)|(refine cC [] (Ds hs' x.proc x.am (by dsimp only at hh1;omega)) ?_))|refine ae ?_|exact ah|(refine ab fun hb=>?_;first|(simp [hset] at hb;done)|skip))
   ·refine ⟨(n-1,gH ⟨r,hs',[],x :: ws2,gn⟩ x,acc++[⟨x.proc,x.am⟩]),⟨hs2,by dsimp only;omega,hadv,by simp;omega⟩,by dsimp only;omega,?_⟩;exact a8 (qf [(1000,48)])
def nU (R:Qu×List Ho×Int):TV:=.tup [R.1.a,.one (.sl fV R.2.1),.one (.sc (.int .i64 R.2.2))]
theorem fg (q:Qu) (p:Pr):FSpec prog 140 [q.a,p.a] [] [] (.v (ao q.holds p).a) []:=by
 refine aP func140 ?_;repeat' (first|refine af ?_ ?_|refine aa 9 rfl (cB [] (Iw q.holds p) ?_)|refine ae ?_|exact ah|refine ab fun hb=>?_|exact aX|fail)
theorem cl (q:Qu) (p:Pr) {o:Option Am} (h:ap q p=o):FSpec prog 142 [q.a,p.a] [] [] (.tup [(yJ o).a,.one (.sc (.bool o.isSome))]) []:=h▸FX q p
theorem DE (q:Qu) (p:Pr):FSpec prog 235 [q.a,p.a] [] [] (.b (eF q p)) []:=by
 refine aP func235 ?_;cases hw:ap q p with
 | some a =>
  rw [show eF q p=true by unfold eF;rw [hw];rfl];repeat' (first|refine af ?_ ?_|refine aa 9 rfl (cB [] (cl q p hw) ?_)|refine ae ?_|exact ah|refine ab fun hb=>?_|exact aX|fail)
 | none =>
  rw [show eF q p = !aH (ao q.holds p) by unfold eF;rw [hw];rfl];repeat' (first|refine af ?_ ?_|(refine aa 9 rfl ?_;first|(refine cB [] (cl q p hw) ?_)|(refine cB [] (fg q p) ?_)|(refine cB [] (fP (ao q.holds p)) ?_))|refine ae ?_|exact ah|refine ab fun hb=>?_|exact aX|fail)
theorem ln (q:Qu) (hs:Sd q):FSpec prog 291 [q.a] [] [] (nU (gK (dt q))) []:=by
 refine aP func291 ?_;repeat' (first|refine af ?_ ?_|(refine aa 9 rfl ?_;first|(refine cC [] (DD q hs) ?_)|(refine cB [] (Ha q.gen) ?_))|refine ae ?_|exact ah|refine ab fun hb=>?_|(refine cX (qf []) ?_;exact aj))
theorem bF {α:Type} {b:Bool} {x y:α} (h:b=false):(bif b then x else y)=y:=by rw [h];rfl
theorem bT {α:Type} {b:Bool} {x y:α} (h:b=true):(bif b then x else y)=x:=by rw [h];rfl
theorem xf (q:Qu) (p:Pr) {R:Qu×List Ho×Int} (hR:bh q p=R):FSpec prog 293 [q.a,p.a] [] [] (nU R) []:=by
 refine aP func293 ?_;cases hS:aw q with
 | false =>
  obtain rfl:R=bK 2:=by rw [←hR];simp [bh,hS]
  repeat' (first|refine af ?_ ?_|refine aa 9 rfl (cB [] (cD q) ?_)|refine ae ?_|exact ah|(refine ab fun hb=>?_;first|(simp [hS] at hb;done)|skip)|(refine cX (qf []) ?_;exact aj))
 | true =>
  have hs:=aJ hS;have h1:=hs.hv.len;have h2:=hs.clen;have h3:=hs.wlen;cases hw:ap q p with
  | none =>
   obtain rfl:R=bK 10:=by rw [←hR];simp [bh,hS,hw]
   repeat' (first|refine af ?_ ?_|(refine aa 9 rfl ?_;first|(refine cB [] (cD q) ?_)|(refine cB [] (cl q p hw) ?_))|refine ae ?_|exact ah|(refine ab fun hb=>?_;first|(simp [hS] at hb;done)|skip)|(refine cX (qf []) ?_;exact aj))
  | some a =>
   obtain rfl:R=gK (dt { q with convs:=bI q.convs p,waits:=bI q.waits p }):=by rw [←hR];simp [bh,hS,hw]
   have hd:=hs.drop p;repeat' (first|refine af ?_ ?_|(refine aa 9 rfl ?_;first|(refine cB [] (cD q) ?_)|(refine cB [] (cl q p hw) ?_)|(refine cC [] (mU q (by omega) (by omega) (by omega)) ?_)|(refine cC [] (nQ q.convs p (by omega)) ?_)|(refine cC [] (nQ q.waits p (by omega)) ?_)|(refine cC [] (ln { q with convs:=bI q.convs p,waits:=bI q.waits p } hd) ?_))|refine ae ?_|exact ah|(refine ab fun hb=>?_;first|(simp [hS] at hb;done)|skip)|(refine cX (qf []) ?_;exact aj))
instance:ST prog dC 23 81 120:=⟨ElTB.mk' underlying23 (.agg #[.string { data:=#[] },.int .i64 0,.int .i64 0,.int .i64 0,.slice none 0 0,.slice none 0 0,.slice none 0 0,.int .i64 0]) 8 120 (by kernel_rfl) rfl rfl⟩
theorem xg {t:List Qu} (h:fZ t=true):t.length≤8∧∀q∈t,aw q=true:=by
 unfold fZ at h;rw [Bool.and_eq_true,decide_eq_true_eq] at h;exact ⟨h.1,q8 h.2⟩
theorem cA {q:Qu} (h:aw q=true):eU q:=by
 have hs:=aJ h;exact ⟨hs.hv.len,hs.clen,by have:=hs.wlen;omega⟩
theorem dB (t:List Qu):FSpec prog 28 [.one (.sl dC t)] [] [] (.b (du t)) []:=by
 refine aP func28 ?_;cases hP:fZ t with
 | false =>
  repeat' (first|refine af ?_ ?_|refine aa 9 rfl (cB [] (Dy t) ?_)|refine ae ?_|exact ah|refine ab fun hb=>?_)
  refine d7 ?_;simp [du,hP]
 | true =>
  obtain ⟨hm,h8⟩:=xg hP;repeat' (first|refine af ?_ ?_|(refine aa 9 rfl ?_;first|(refine cB [] (Dy t) ?_)|(refine cC [] (nS t (by omega) (fun q hq=>cA (h8 q hq))) ?_))|refine ae ?_|exact ah|refine ab fun hb=>?_)
  refine d7 ?_;simp [du,hP];try omega
theorem lY (n:ByteArray) (l:List Ho) (hl:l.length≤100000):FSpec prog 232 [.one (.sc (.string n)),.one (.sl fV l)] [] [] (.c (.sl fG (aE n l))) []:=by
 refine aP func232 ?_;repeat' (first|refine af ?_ ?_|refine ae ?_|exact ah|refine ab fun hb=>?_)
 refine bV 5 1000 67 fG rfl rfl rfl ?_;refine ai (fun i=>i≤l.length) (fun i=>bt [1000] [(0,.c (.sc (.string n))),(1,.c (.sl fV l)),(5,.c (.own 1000)),(6,.i i)] [(1000,.arr 67 fG (aE n (l.take i)))]) (fun i=>l.length-i) 0 (Nat.zero_le _) aN ?_;intro i hi;have hlen:(aE n (l.take i)).length=i:=by simp [aE,Nat.min_eq_left hi]
 repeat' (first|refine af ?_ ?_|(refine aa 8 rfl ?_;refine aV (ak rfl rfl (aB rfl rfl) (aD [⟨1,(l[i]'(by omega)).proc,n,(l[i]'(by omega)).am⟩] rfl rfl rfl rfl) rfl aL aL) rfl rfl rfl ?_)|refine ae ?_|exact ah|refine ab fun hb=>?_)
 ·refine ⟨i+1,by omega,by omega,?_⟩;have e:aE n (l.take (i+1))=aE n (l.take i)++[⟨1,(l[i]'(by omega)).proc,n,(l[i]'(by omega)).am⟩]:=by
   unfold aE;rw [List.take_succ_eq_append_getElem (by omega),List.map_append];rfl
  rw [e];exact a8 (qf [(1000,27)])
 ·have e:aE n (l.take i)=aE n l:=by rw [List.take_of_length_le (by omega)]
  rw [←e];refine bP (qf []) ?_;exact aj
theorem nV (t:List Qu) (i:Nat) (q:Qu) (hi:i<t.length) (hl:t.length≤100000):FSpec prog 231 [.one (.sl dC t),.one (.sc (.int .i64 i)),q.a] [] [] (.c (.sl dC (t.set i q))) []:=by
 refine aP func231 ?_;repeat' (first|refine af ?_ ?_|refine ae ?_|(refine aa 4 rfl ?_;refine aR (aq (z:=q) rfl rfl rfl rfl (by first|assumption|exact List.getElem?_eq_getElem (by omega)) rfl rfl rfl rfl (Nat.le_of_ble_eq_true rfl) rfl rfl) rfl rfl rfl ?_)|exact ah|refine ab fun hb=>?_|exact aX|fail)
def K5 (d:Nat):V0:=.ag [.sc (.int .i64 0),.sc (.string ⟨#[]⟩),.sc (.int .i64 0),.sc (.int .i64 0),.sl (nc d) []]
theorem yL (d:Nat) (x:Ex):FSpec prog 105 [x.a d,K5 d] [] [] (.b (E0 x)) []:=by
 refine aP func105 ?_;obtain ⟨b,hB⟩:∃b,E0 x=b:=⟨_,rfl⟩;rw [hB];by_cases hk:x.k=0
 case neg =>
  obtain rfl:b=false:=by rw [←hB];simp [E0,hk]
  repeat' (first|refine af ?_ ?_|refine ae ?_|exact ah|refine ab fun hb=>?_|exact aX|fail)
 by_cases ha:x.atom=iB
 case neg =>
  obtain rfl:b=false:=by rw [←hB];simp [E0,ha]
  repeat' (first|refine af ?_ ?_|refine ae ?_|exact ah|refine ab fun hb=>?_|exact aX|fail)
 by_cases hn:x.kids.length=0
 case neg =>
  obtain rfl:b=false:=by
   rw [←hB];cases h:x.kids with
   | nil=>rw [h] at hn;simp at hn
   | cons=>simp [E0,h]
  repeat' (first|refine af ?_ ?_|refine ae ?_|exact ah|(refine ab fun hb=>?_;first|(exact absurd (by simpa using hb) hn)|skip)|exact aX|fail)
 have hn2:x.kids=[]:=List.eq_nil_of_length_eq_zero hn;obtain rfl:b=true:=by rw [←hB];simp [E0,hk,ha,hn2]
 repeat' (first|refine af ?_ ?_|refine ae ?_|exact ah|(refine ab fun hb=>?_;first|(exact absurd hn (by simpa using hb))|skip))
 refine ai (fun _:Unit=>True) (fun _=>bt [2] [(2,.c (.ptr 2 0)),(5,.i 0)] [(2,.box 42 (x.d d))]) (fun _=>0) () trivial aN ?_;rintro _ -
 repeat' (first|refine af ?_ ?_|refine ae ?_|exact ah|refine ab fun hb=>?_|exact aX|fail)
def K6 (d:Nat):V0:=.ag [.sc (.int .i64 0),.sc (.string ⟨#[]⟩),.sc (.int .i64 0),.sc (.int .i64 0),.sl (nc d) [],.sc (.int .i64 0),.sc (.int .i64 0)]
theorem Bx (d:Nat) (r:Rq):FSpec prog 45 [r.a d,K6 d] [] [] (.b (E3 r)) []:=by
 refine aP func45 ?_;obtain ⟨b,hB⟩:∃b,E3 r=b:=⟨_,rfl⟩;rw [hB];repeat' (first|refine af ?_ ?_|refine aa 9 rfl (cB [] (yL d r.expr) ?_)|refine ae ?_|exact ah|refine ab fun hb=>?_)
 all_goals (refine d7 ?_;rw [←hB];simp [E3, *];try rfl)
theorem xh (d:Nat) (r:Rq):FSpec prog 70 [r.a d] [] [] (.b (oG r)) []:=by
 refine aP func70 ?_;obtain ⟨b,hB⟩:∃b,oG r=b:=⟨_,rfl⟩;rw [hB];repeat' (first|refine af ?_ ?_|refine aa 9 rfl (cB [] (Iz d r.expr) ?_)|refine ae ?_|exact ah|refine ab fun hb=>?_)
 all_goals (refine d7 ?_;rw [←hB];simp [oG, *];try omega)
theorem lp (d:Nat) (x:Ex) {b:Bool} {L:List Tm} (h:kv x=b) (h2:cy x=L):FSpec prog 144 [x.a d] [] [] (.tup [.one (.sl cw L),.one (.sc (.bool b))]) []:=h▸h2▸nT d x
def By (set:List Bool) (n i:Nat):List Bool:=(List.range n).map fun k=>decide (k<i) && set.getD k false
theorem JR (set:List Bool) (n:Nat):By set n 0=List.replicate n false:=by
 unfold By;apply List.ext_getElem
 ·simp
 ·intro i h1 h2;simp
theorem F0 (set:List Bool) {n i:Nat} (hi:i<n):(By set n i).set i (set.getD i false)=By set n (i+1):=by
 unfold By;apply List.ext_getElem
 ·simp
 ·intro k h1 h2;rw [List.getElem_set];split
  ·next e=>subst e;simp
  ·next e =>
   simp only [List.getElem_map,List.getElem_range];congr 1
   rw [Bool.eq_iff_iff];simp;omega
theorem F1 (set:List Bool) (n:Nat):By set n n=(List.range n).map fun i=>set.getD i false:=by
 unfold By;apply List.map_congr_left
 intro i hi;rw [List.mem_range] at hi;simp [hi]
theorem F2 (set:List Bool) (n i:Nat):(By set n i).length=n:=by simp [By]
theorem IA (d:Nat) (x:Ex) (set:List Bool) (hset:set.length≤1000):FSpec prog 171 [x.a d,.one (.sl cg set)] [] [] (.c (.sl cg (bX x set))) []:=by
 refine aP func171 ?_;have hmk:prog.underlying 68=some (.slice 4):=underlying68;have hib:(prog.info? 4).map (fun i=>(i.zero,i.size,i.bytes))=some (some (.bool false),1,1):=by kernel_rfl
 cases hv:kv x with
 | false =>
  have hL:=ov hv;have hp:bX x set=[]:=by simp [bX,dD,hv,hL]
  rw [hp];repeat' (first|refine af ?_ ?_|refine aa 9 rfl (cC [] (lp d x hv hL) ?_)|(refine aa 20 rfl ?_;refine aV (f9 (E:=cg) (y0:=false) hmk hib rfl (by decide) rfl (fun _ _=>rfl) rfl rfl rfl rfl (by first|omega|simp)) rfl rfl rfl ?_)|refine ae ?_|exact ah|refine ab fun hb=>?_|exact aX|fail)
 | true =>
  obtain ⟨hsh,_,h8,_,_⟩:=mI hv;obtain ⟨L,hL⟩:∃L,cy x=L:=⟨_,rfl⟩;rw [hL] at h8;cases hh:pm (cf L set) x with
  | false =>
   have hp:bX x set=List.replicate L.length false:=by simp [bX,dD,hv,hL,hh]
   rw [hp];repeat' (first|refine af ?_ ?_|(refine aa 9 rfl ?_;first|(refine cC [] (lp d x hv hL) ?_)|(refine cB [] (vh d x L set hsh (by omega) hset) ?_))|(refine aa 20 rfl ?_;refine aV (f9 (E:=cg) (y0:=false) hmk hib rfl (by decide) rfl (fun _ _=>rfl) rfl rfl rfl rfl (by first|omega|simp)) rfl rfl rfl ?_)|refine ae ?_|exact ah|refine ab fun hb=>?_|exact aX|fail)
  | true =>
   have hp:bX x set=fA x L L.length (By set L.length L.length):=by rw [F1];simp [bX,dD,hv,hL,hh]
   rw [hp];repeat' (first|refine af ?_ ?_|(refine aa 9 rfl ?_;first|(refine cC [] (lp d x hv hL) ?_)|(refine cB [] (vh d x L set hsh (by omega) hset) ?_))|(refine aa 20 rfl ?_;refine aV (f9 (E:=cg) (y0:=false) hmk hib rfl (by decide) rfl (fun _ _=>rfl) rfl rfl rfl rfl (by first|omega|simp)) rfl rfl rfl ?_)|refine ae ?_|exact ah|refine ab fun hb=>?_)
   refine ai (fun i=>i≤L.length) (fun i=>bt [2,1000] [(1,.c (.sl cg set)),(2,.c (.ptr 2 0)),(5,.c (.sl cw L)),(7,.c (.own 1000)),(8,.i i)] [(2,.box 42 (x.d d)),(1000,.arr 4 cg (By set L.length i))]) (fun i=>L.length-i) 0 (Nat.zero_le _) (by rw [JR];exact a8 (qf [(1000,17)])) ?_;intro i hi;have hpl:=F2 set L.length i;by_cases hlt:i<L.length
   ·have hst:=F0 set hlt;by_cases hsi:i<set.length
    ·rw [show set.getD i false=set[i] by simp [List.getD_eq_getElem?_getD,hsi]] at hst;repeat' (first|refine af ?_ ?_|refine ae ?_|(refine aa 4 rfl ?_;refine aR (aq (z:=set[i]) rfl rfl rfl rfl (by first|assumption|exact List.getElem?_eq_getElem (by omega)) rfl rfl rfl rfl (Nat.le_of_ble_eq_true rfl) rfl rfl) rfl rfl rfl ?_)|exact ah|refine ab fun hb=>?_)
     refine ⟨i+1,by omega,by omega,?_⟩;rw [←hst];exact aN
    ·rw [show set.getD i false=false by simp [List.getD_eq_getElem?_getD,hsi]] at hst;repeat' (first|refine af ?_ ?_|refine ae ?_|(refine aa 4 rfl ?_;refine aR (aq (z:=false) rfl rfl rfl rfl (by first|assumption|exact List.getElem?_eq_getElem (by omega)) rfl rfl rfl rfl (Nat.le_of_ble_eq_true rfl) rfl rfl) rfl rfl rfl ?_)|exact ah|refine ab fun hb=>?_)
     refine ⟨i+1,by omega,by omega,?_⟩;rw [←hst];exact aN
   ·obtain rfl:i=L.length:=by omega
    repeat' (first|refine af ?_ ?_|refine ae ?_|exact ah|refine ab fun hb=>?_)
    refine ai (fun y:Nat×List Bool=>y.1≤L.length∧y.2.length=L.length∧fA x L y.1 y.2=fA x L L.length (By set L.length L.length)) (fun y=>bt [2,1000] [(2,.c (.ptr 2 0)),(5,.c (.sl cw L)),(7,.c (.own 1000)),(9,.i ((y.1:Int)-1))] [(2,.box 42 (x.d d)),(1000,.arr 4 cg y.2)]) (fun y=>y.1) (L.length,By set L.length L.length) ⟨Nat.le_refl _,hpl,rfl⟩ aN ?_;rintro ⟨k,out⟩ ⟨hk,hol,hs⟩;dsimp only at *
    rcases Nat.eq_zero_or_pos k with h0|h0
    ·subst h0;rw [←hs,show fA x L 0 out=out from rfl];repeat' (first|refine af ?_ ?_|refine ae ?_|exact ah|refine ab fun hb=>?_|exact aX|fail)
    ·obtain ⟨j,rfl⟩:∃j,k=j+1:=⟨k-1,by omega⟩;obtain ⟨z,hz⟩:∃z,(((j+1:Nat):Int)-1).toNat=z:=⟨_,rfl⟩;have hzj:z=j:=by omega
     obtain ⟨v,hgv⟩:∃v,out[(((j+1:Nat):Int)-1).toNat]? = some v:=⟨_,List.getElem?_eq_getElem (by omega)⟩;have hgj:out.getD j false=v:=by rw [hz,hzj] at hgv;simp [List.getD_eq_getElem?_getD,hgv]
     have hstep:fA x L (j+1) out=fA x L j (bif out.getD j false then out.set j (!pm (cf L (out.set j false)) x) else out):=rfl;rw [hstep,hgj] at hs;cases v with
     | false =>
      repeat' (first|refine af ?_ ?_|refine ae ?_|exact ah|refine ab fun hb=>?_)
      refine ⟨(j,out),⟨by dsimp only;omega,hol,hs⟩,by dsimp only;omega,?_⟩;exact aN
     | true =>
      have hl1:(out.set (((j+1:Nat):Int)-1).toNat false).length=L.length:=by rw [List.length_set,hol]
      rw [show out.set j false=out.set (((j+1:Nat):Int)-1).toNat false by rw [hz,hzj]] at hs;repeat' (first|refine af ?_ ?_|refine aa 9 rfl (cB [1000] (vh d x L (out.set (((j+1:Nat):Int)-1).toNat false) hsh (by omega) (by omega)) ?_)|refine ae ?_|(refine aa 4 rfl ?_;first|(refine aR (aq (z:=false) rfl rfl rfl rfl (by first|assumption|exact List.getElem?_eq_getElem (by omega)) rfl rfl rfl rfl (Nat.le_of_ble_eq_true rfl) rfl rfl) rfl rfl rfl ?_)|(refine aR (aq (z:=!pm (cf L (out.set (((j+1:Nat):Int)-1).toNat false)) x) rfl rfl rfl rfl (by first|assumption|exact List.getElem?_eq_getElem (by omega)) rfl rfl rfl rfl (Nat.le_of_ble_eq_true rfl) rfl rfl) rfl rfl rfl ?_))|exact ah|refine ab fun hb=>?_)
      refine ⟨(j,out.set j (!pm (cf L (out.set (((j+1:Nat):Int)-1).toNat false)) x)),⟨by dsimp only;omega,by simp [hol],hs⟩,by dsimp only;omega,?_⟩;dsimp only;rw [show out.set j (!pm (cf L (out.set (((j+1:Nat):Int)-1).toNat false)) x)=(out.set (((j+1:Nat):Int)-1).toNat false).set (((j+1:Nat):Int)-1).toNat (!pm (cf L (out.set (((j+1:Nat):Int)-1).toNat false)) x) by rw [List.set_set,hz,hzj]];exact aN
theorem vj (q:Qu) (p:Pr) (a:Am) {R:Qu×List Ho×Int} (hR:bi q p a=R):FSpec prog 234 [q.a,p.a,a.a] [] [] (nU R) []:=by
 refine aP func234 ?_;cases hS:aw q with
 | false =>
  obtain rfl:R=bK 2:=by rw [←hR];simp [bi,hS]
  repeat' (first|refine af ?_ ?_|refine aa 9 rfl (cB [] (cD q) ?_)|refine ae ?_|exact ah|(refine ab fun hb=>?_;first|(simp [hS] at hb;done)|skip)|(refine cX (qf []) ?_;exact aj))
 | true =>
  have hs:=aJ hS;have h1:=hs.hv.len;have h2:=hs.clen;have h3:=hs.wlen;cases hz:aH (ao q.holds p) with
  | true =>
   obtain rfl:R=bK 10:=by rw [←hR];simp [bi,hS,hz]
   repeat' (first|refine af ?_ ?_|(refine aa 9 rfl ?_;first|(refine cB [] (cD q) ?_)|(refine cB [] (fg q p) ?_)|(refine cB [] (fP (ao q.holds p)) ?_))|refine ae ?_|exact ah|(refine ab fun hb=>?_;first|(simp [hS] at hb;done)|(simp [hz] at hb;done)|skip)|(refine cX (qf []) ?_;exact aj))
  | false =>
   cases hw:ap q p with
   | some b =>
    obtain rfl:R=bK 14:=by rw [←hR];simp [bi,hS,hz,hw]
    repeat' (first|refine af ?_ ?_|(refine aa 9 rfl ?_;first|(refine cB [] (cD q) ?_)|(refine cB [] (fg q p) ?_)|(refine cB [] (fP (ao q.holds p)) ?_)|(refine cB [] (cl q p hw) ?_))|refine ae ?_|exact ah|(refine ab fun hb=>?_;first|(simp [hS] at hb;done)|(simp [hz] at hb;done)|skip)|(refine cX (qf []) ?_;exact aj))
   | none =>
    cases hc:bg q.res (ao q.holds p) a with
    | false =>
     obtain rfl:R=bK 12:=by rw [←hR];simp [bi,hS,hz,hw,hc]
     repeat' (first|refine af ?_ ?_|(refine aa 9 rfl ?_;first|(refine cB [] (cD q) ?_)|(refine cB [] (fg q p) ?_)|(refine cB [] (fP (ao q.holds p)) ?_)|(refine cB [] (cl q p hw) ?_)|(refine cB [] (dK q.res (ao q.holds p) a) ?_))|refine ae ?_|exact ah|(refine ab fun hb=>?_;first|(simp [hS] at hb;done)|(simp [hz] at hb;done)|(simp [hc] at hb;done)|skip)|(refine cX (qf []) ?_;exact aj))
    | true =>
     have hd:=hs.lower hw (bl.1 hz) hc;obtain ⟨R1,hR1⟩:∃R1,R1=(bif decide (ao q.holds p=a) then gK (q,[]) else gK (dt { q with holds:=cr q.holds p a })):=⟨_,rfl⟩;obtain rfl:R=R1:=by rw [←hR,hR1];simp [bi,hS,hz,hw,hc]
     clear hR;repeat' (first|refine af ?_ ?_|(refine aa 9 rfl ?_;first|(refine cB [] (cD q) ?_)|(refine cB [] (fg q p) ?_)|(refine cB [] (fP (ao q.holds p)) ?_)|(refine cB [] (cl q p hw) ?_)|(refine cB [] (dK q.res (ao q.holds p) a) ?_)|(refine cC [] (mU q (by omega) (by omega) (by omega)) ?_)|(refine cC [] (Ds q.holds p a (by omega)) ?_)|(refine cC [] (ln { q with holds:=cr q.holds p a } hd) ?_))|refine ae ?_|exact ah|(refine ab fun hb=>?_;first|(simp [hS] at hb;done)|(simp [hz] at hb;done)|(simp [hc] at hb;done)|skip))
     ·obtain rfl:R=gK (q,[]):=by rw [hR1];simp [hb]
      refine cX (qf []) ?_;exact aj
     ·obtain rfl:R=gK (dt { q with holds:=cr q.holds p a }):=by rw [hR1];simp [hb]
      refine cX (qf []) ?_;exact aj
theorem xi (q:Qu) (p:Pr) {R:Qu×List Ho×Int} (hR:a7 q p=R):FSpec prog 236 [q.a,p.a] [] [] (nU R) []:=by
 refine aP func236 ?_;cases hS:aw q with
 | false =>
  obtain rfl:R=bK 2:=by rw [←hR];simp [a7,hS]
  repeat' (first|refine af ?_ ?_|refine aa 9 rfl (cB [] (cD q) ?_)|refine ae ?_|exact ah|(refine ab fun hb=>?_;first|(simp [hS] at hb;done)|skip)|(refine cX (qf []) ?_;exact aj))
 | true =>
  have hs:=aJ hS;have h1:=hs.hv.len;have h2:=hs.clen;have h3:=hs.wlen;cases hh:eF q p with
  | false =>
   obtain rfl:R=bK 10:=by rw [←hR];simp [a7,hS,hh]
   repeat' (first|refine af ?_ ?_|(refine aa 9 rfl ?_;first|(refine cB [] (cD q) ?_)|(refine cB [] (DE q p) ?_))|refine ae ?_|exact ah|(refine ab fun hb=>?_;first|(simp [hS] at hb;done)|(simp [hh] at hb;done)|skip)|(refine cX (qf []) ?_;exact aj))
  | true =>
   obtain rfl:R=gK (dt { q with holds:=cr q.holds p ⟨0,0⟩,convs:=bI q.convs p,waits:=bI q.waits p }):=by rw [←hR];simp [a7,hS,hh]
   have hd:=hs.gone p;repeat' (first|refine af ?_ ?_|(refine aa 9 rfl ?_;first|(refine cB [] (cD q) ?_)|(refine cB [] (DE q p) ?_)|(refine cC [] (mU q (by omega) (by omega) (by omega)) ?_)|(refine cC [] (Ds q.holds p ⟨0,0⟩ (by omega)) ?_)|(refine cC [] (nQ q.convs p (by omega)) ?_)|(refine cC [] (nQ q.waits p (by omega)) ?_)|(refine cC [] (ln { q with holds:=cr q.holds p ⟨0,0⟩,convs:=bI q.convs p,waits:=bI q.waits p } hd) ?_))|refine ae ?_|exact ah|(refine ab fun hb=>?_;first|(simp [hS] at hb;done)|(simp [hh] at hb;done)|skip)|(refine cX (qf []) ?_;exact aj))
theorem F3 (q:Qu) (h1:q.holds.length≤100000) (h2:q.convs.length≤100000) (h3:q.waits.length≤100000):FSpec prog 290 [q.a] [] [0] (.v (.ag [.sc (.string q.res.name),.sc (.int .i64 q.res.kind),.sc (.int .i64 q.res.units),.sc (.int .i64 q.res.home),.sl fV q.holds,.own 0,.sl eM q.waits,.sc (.int .i64 q.gen)])) [(0,some (.arr 171 eM q.convs))]:=by
 refine aP func290 ?_;repeat' (first|refine af ?_ ?_|refine ae ?_|exact ah|refine ab fun hb=>?_)
 refine bP (qf [(0,11)]) ?_;exact aj
theorem g7 (q:Qu) (p:Pr) (a:Am) (prio:Int) {R:Qu×List Ho×Int} (hR:bv q p a prio=R) (hS:aw q=true) (hv:jl p=true) (h1:0≤prio) (h2:prio≤7) (hf:aF q.res a=true) (hw:ap q p=none) (hc:bg q.res (ao q.holds p) a=false) :
  R=(bif !aH (ao q.holds p) then gK (dt { q with convs:=q.convs++[⟨p,bG q.res (ao q.holds p) a,0,0⟩] }) else
 bif decide (8≤q.holds.length+q.waits.length) then bK 4 else
 bif !decide ((iP q.waits ⟨p,a,prio,0⟩).1=0) then bK (iP q.waits ⟨p,a,prio,0⟩).1 else
 gK (dt { q with waits:=(iP q.waits ⟨p,a,prio,0⟩).2 })):=by
 rw [←hR];simp [bv,hS,hv,h1,h2,hf,hw,hc]
theorem zR (q:Qu) (p:Pr) (a:Am) (prio:Int) {R:Qu×List Ho×Int} (hR:bv q p a prio=R):FSpec prog 230 [q.a,p.a,a.a,.one (.sc (.int .i64 prio))] [] [] (nU R) []:=by
 refine aP func230 ?_;cases hS:aw q with
 | false =>
  obtain rfl:R=bK 2:=by rw [←hR];simp [bv,hS]
  repeat' (first|refine af ?_ ?_|refine aa 9 rfl (cB [] (cD q) ?_)|refine ae ?_|exact ah|(refine ab fun hb=>?_;first|(simp [hS] at hb;done)|skip)|(refine cX (qf []) ?_;exact aj))
 | true =>
  have hs:=aJ hS;have h1:=hs.hv.len;have h2:=hs.clen;have h3:=hs.wlen;by_cases hA:jl p=true∧0≤prio∧prio≤7
  case neg =>
   obtain rfl:R=bK 1:=by
    rw [←hR];unfold bv;rw [hS,bF (b:=!true) rfl,bT];cases hv:jl p <;> simp [hv] at hA ⊢
    omega
   have hN:∀b,jl p=b→(b=true→0≤prio→prio≤7→False):=fun b hb x y z=>hA ⟨hb.trans x,y,z⟩;clear hA;repeat' (first|refine af ?_ ?_|(refine aa 9 rfl ?_;first|(refine cB [] (cD q) ?_)|(refine cB [] (ga p) ?_))|refine ae ?_|exact ah|(refine ab fun hb=>?_;first|(exact (hN true (by assumption) rfl (by omega) (by omega)).elim)|skip)|(refine cX (qf []) ?_;exact aj))
  obtain ⟨hv,hp1,hp2⟩:=hA;cases hf:aF q.res a with
  | false =>
   obtain rfl:R=bK 12:=by rw [←hR];simp [bv,hS,hv,hp1,hp2,hf]
   repeat' (first|refine af ?_ ?_|(refine aa 9 rfl ?_;first|(refine cB [] (cD q) ?_)|(refine cB [] (ga p) ?_)|(refine cB [] (im q.res a) ?_))|refine ae ?_|exact ah|refine ab fun hb=>?_|(refine cX (qf []) ?_;exact aj))
  | true =>
   cases hw:ap q p with
   | some b =>
    obtain rfl:R=bK 14:=by rw [←hR];simp [bv,hS,hv,hp1,hp2,hf,hw]
    repeat' (first|refine af ?_ ?_|(refine aa 9 rfl ?_;first|(refine cB [] (cD q) ?_)|(refine cB [] (ga p) ?_)|(refine cB [] (im q.res a) ?_)|(refine cB [] (cl q p hw) ?_))|refine ae ?_|exact ah|refine ab fun hb=>?_|(refine cX (qf []) ?_;exact aj))
   | none =>
    cases hc:bg q.res (ao q.holds p) a with
    | true =>
     obtain rfl:R=gK (q,[]):=by rw [←hR];simp [bv,hS,hv,hp1,hp2,hf,hw,hc]
     repeat' (first|refine af ?_ ?_|(refine aa 9 rfl ?_;first|(refine cB [] (cD q) ?_)|(refine cB [] (ga p) ?_)|(refine cB [] (im q.res a) ?_)|(refine cB [] (cl q p hw) ?_)|(refine cC [] (mU q (by omega) (by omega) (by omega)) ?_)|(refine cB [] (fg q p) ?_)|(refine cB [] (dK q.res (ao q.holds p) a) ?_))|refine ae ?_|exact ah|refine ab fun hb=>?_|(refine cX (qf []) ?_;exact aj))
    | false =>
     cases hz:aH (ao q.holds p) with
     | false =>
      obtain rfl:R=gK (dt { q with convs:=q.convs++[⟨p,bG q.res (ao q.holds p) a,0,0⟩] }):=by rw [g7 q p a prio hR hS hv hp1 hp2 hf hw hc,hz];rfl
      have hd:=(hs.cons (bl.1 hz) hw hf hc);repeat' (first|refine af ?_ ?_|(refine aa 8 rfl ?_;refine aV (ak rfl rfl (aB rfl rfl) (aD [⟨p,bG q.res (ao q.holds p) a,0,0⟩] rfl rfl rfl rfl) rfl aL aL) rfl rfl rfl ?_)|(refine aa 9 rfl ?_;first|(refine cB [] (cD q) ?_)|(refine cB [] (ga p) ?_)|(refine cB [] (im q.res a) ?_)|(refine cB [] (cl q p hw) ?_)|(refine cH (qf [(0,1000)]) (F3 q (by omega) (by omega) (by omega)) ?_)|(refine cB [1000] (fg q p) ?_)|(refine cB [] (dK q.res (ao q.holds p) a) ?_)|(refine cB [] (fP (ao q.holds p)) ?_)|(refine cB [] (Dq q.res (ao q.holds p) a) ?_)|(refine cC [71] (ln { q with convs:=q.convs++[⟨p,bG q.res (ao q.holds p) a,0,0⟩] } hd) ?_))|refine ae ?_|exact ah|refine ab fun hb=>?_|(refine cX (qf []) ?_;exact aj))
     | true =>
      have hz0:ao q.holds p=⟨0,0⟩:=by simpa [aH] using hz
      by_cases hn:8≤q.holds.length+q.waits.length
      case pos =>
       obtain rfl:R=bK 4:=by rw [g7 q p a prio hR hS hv hp1 hp2 hf hw hc,hz];simp [hn]
       repeat' (first|refine af ?_ ?_|(refine aa 9 rfl ?_;first|(refine cB [] (cD q) ?_)|(refine cB [] (ga p) ?_)|(refine cB [] (im q.res a) ?_)|(refine cB [] (cl q p hw) ?_)|(refine cC [] (mU q (by omega) (by omega) (by omega)) ?_)|(refine cB [] (fg q p) ?_)|(refine cB [] (dK q.res (ao q.holds p) a) ?_)|(refine cB [] (fP (ao q.holds p)) ?_))|refine ae ?_|exact ah|refine ab fun hb=>?_|(refine cX (qf []) ?_;exact aj))
      obtain ⟨e,he1,he2⟩:∃e,iP q.waits ⟨p,a,prio,0⟩=(0,e)∧Sd { q with waits:=e }:=by
       have hi:=nG hs hw hf hv ⟨hp1,hp2⟩ (Nat.lt_of_not_le hn);exact ⟨_,hi.1,hs.ins (w:=⟨p,a,prio,0⟩) hz0 hw hf hi.2 (Nat.lt_of_not_le hn)⟩
      have hI:=Dt q.waits ⟨p,a,prio,0⟩;rw [he1] at hI;obtain rfl:R=gK (dt { q with waits:=e }):=by rw [g7 q p a prio hR hS hv hp1 hp2 hf hw hc,hz,he1];simp [hn]
      repeat' (first|refine af ?_ ?_|(refine aa 9 rfl ?_;first|(refine cB [] (cD q) ?_)|(refine cB [] (ga p) ?_)|(refine cB [] (im q.res a) ?_)|(refine cB [] (cl q p hw) ?_)|(refine cC [] (mU q (by omega) (by omega) (by omega)) ?_)|(refine cB [] (fg q p) ?_)|(refine cB [] (dK q.res (ao q.holds p) a) ?_)|(refine cB [] (fP (ao q.holds p)) ?_)|(refine cC [] (hI) ?_)|(refine cC [] (ln { q with waits:=e } he2) ?_))|refine ae ?_|exact ah|refine ab fun hb=>?_|(refine cX (qf []) ?_;exact aj))
theorem tN:∀(n:Nat) (q:Qu) (acc:List Ho),(eR n q acc).2.length≤acc.length+n
 | 0,q,acc=>Nat.le_refl _
 | n+1,q,acc=>by
  unfold eR;cases dm q with
  | none=>dsimp only;omega
  | some x =>
   dsimp only;cases fW q.res q.holds x.proc x.am with
   | true =>
    have:=tN n (gH q x) (acc++[⟨x.proc,x.am⟩]);simp at this ⊢;omega
   | false=>simp
theorem nW (q:Qu):(dt q).2.length≤q.convs.length+q.waits.length:=by
 have:=tN (fF q) q [];simpa [dt,lf,fF] using this
theorem DF (l:List Wt) (w:Wt):(iP l w).2.length≤l.length+1:=by
 unfold iP;cases d9 l <;> cases (pf w && decide (w.passed=0)) <;> cases decide (0≤dG l w.proc) <;> cases decide (l.length=8) <;> simp [wG]
theorem mV {q:Qu} (h:aw q=true) (p:Pr) (a:Am) (prio:Int):(bv q p a prio).2.1.length≤17:=by
 have hs:=aJ h;have h2:=hs.clen;have h3:=hs.wlen;unfold bv;have e1:=nW { q with convs:=q.convs++[⟨p,bG q.res (ao q.holds p) a,0,0⟩] };have e2:=nW { q with waits:=(iP q.waits ⟨p,a,prio,0⟩).2 };have e3:=DF q.waits ⟨p,a,prio,0⟩;simp only [List.length_append,List.length_cons,List.length_nil] at e1 e2;repeat' (first|(simp [bK,gK];done)|(simp only [gK];omega)|(rw [cond_eq_ite];split))
theorem lq {q:Qu} (h:aw q=true) (p:Pr):(bh q p).2.1.length≤17:=by
 have hs:=aJ h;have h2:=hs.clen;have h3:=hs.wlen;have e1:=nW { q with convs:=bI q.convs p,waits:=bI q.waits p };have e2:=i3 q.convs p;have e3:=i3 q.waits p;dsimp only at e1;unfold bh;repeat' (first|(simp [bK,gK];done)|(simp only [gK];omega)|(rw [cond_eq_ite];split))
theorem mW {q:Qu} (h:aw q=true) (p:Pr) (a:Am):(bi q p a).2.1.length≤17:=by
 have hs:=aJ h;have h2:=hs.clen;have h3:=hs.wlen;have e1:=nW { q with holds:=cr q.holds p a };dsimp only at e1;unfold bi;repeat' (first|(simp [bK,gK];done)|(simp only [gK];omega)|(rw [cond_eq_ite];split))
theorem lr {q:Qu} (h:aw q=true) (p:Pr):(a7 q p).2.1.length≤17:=by
 have hs:=aJ h;have h2:=hs.clen;have h3:=hs.wlen;have e1:=nW { q with holds:=cr q.holds p ⟨0,0⟩,convs:=bI q.convs p,waits:=bI q.waits p };have e2:=i3 q.convs p;have e3:=i3 q.waits p;dsimp only at e1;unfold a7;repeat' (first|(simp [bK,gK];done)|(simp only [gK];omega)|(rw [cond_eq_ite];split))
def Bz (R:List Qu×List Ev×Int):TV:=.tup [.one (.sl dC R.1),.one (.sl fG R.2.1),.one (.sc (.int .i64 R.2.2))]
theorem dl (l:List Qu) (n:ByteArray) {k:Int} (h:bk n 0 l=k):FSpec prog 65 [.one (.sl dC l),.one (.sc (.string n))] [] [] (.i k) []:=h▸oH l n
theorem d8 {t:List Qu} {n:ByteArray} (h:¬bk n 0 t<0):∃i,∃hi:i<t.length,bk n 0 t=(i:Int)∧t.getD (iQ t n) jW=t[i]∧iQ t n=i:=by
 obtain ⟨i,hi,h1,_⟩:=jC (Int.not_lt.1 h);have h2:bk n 0 t=(i:Int):=by rw [h1];simp
 refine ⟨i,hi,h2,?_,?_⟩
 ·unfold iQ;rw [h2];simp [List.getD_eq_getElem?_getD,hi]
 ·unfold iQ;rw [h2];rfl
theorem xj (t:List Qu) (p:Pr) (n:ByteArray) {R:List Qu×List Ev×Int} (hR:bq t p n=R):FSpec prog 233 [.one (.sl dC t),p.a,.one (.sc (.string n))] [] [] (Bz R) []:=by
 refine aP func233 ?_;cases hV:du t with
 | false =>
  obtain rfl:R=dO 2:=by rw [←hR];simp [bq,hV]
  repeat' (first|refine af ?_ ?_|refine aa 9 rfl (cB [] (dB t) ?_)|refine ae ?_|exact ah|refine ab fun hb=>?_|(refine cX (qf []) ?_;exact aj))
 | true =>
  have hm:=(bf hV).1;by_cases hf:bk n 0 t<0
  case pos =>
   obtain rfl:R=dO 10:=by rw [←hR];simp [bq,hV,hf]
   repeat' (first|refine af ?_ ?_|(refine aa 9 rfl ?_;first|(refine cB [] (dB t) ?_)|(refine cB [] (oH t n) ?_))|refine ae ?_|exact ah|refine ab fun hb=>?_|(refine cX (qf []) ?_;exact aj))
  obtain ⟨i,hi,hF,hq,hx⟩:=d8 hf;have hS:=ct hV (List.getElem_mem hi);obtain ⟨Q,hQ⟩:∃Q,bh t[i] p=Q:=⟨_,rfl⟩;have hQl:=lq hS p;rw [hQ] at hQl;have hlen:Q.2.1.length≤100000:=by omega
  by_cases he:Q.2.2=0
  ·obtain rfl:R=(t.set i Q.1,aE n Q.2.1,0):=by rw [←hR];unfold bq;rw [hq,hQ,hx];simp [hV,hf,he]
   repeat' (first|refine af ?_ ?_|(refine aa 9 rfl ?_;first|(refine cB [] (dB t) ?_)|(refine cB [] (dl t n hF) ?_)|(refine cC [] (xf t[i] p hQ) ?_)|(refine cC [] (nV t i Q.1 hi (by omega)) ?_)|(refine cC [] (lY n Q.2.1 hlen) ?_))|refine ae ?_|exact ah|refine ab fun hb=>?_|(refine cX (qf []) ?_;exact aj))
  ·obtain rfl:R=dO Q.2.2:=by rw [←hR];unfold bq;rw [hq,hQ,hx];simp [hV,hf,he]
   repeat' (first|refine af ?_ ?_|(refine aa 9 rfl ?_;first|(refine cB [] (dB t) ?_)|(refine cB [] (dl t n hF) ?_)|(refine cC [] (xf t[i] p hQ) ?_))|refine ae ?_|exact ah|refine ab fun hb=>?_|(refine cX (qf []) ?_;exact aj))
theorem p8 (t:List Qu) (p:Pr) (a:Tm) {R:List Qu×List Ev×Int} (hR:bJ t p a=R):FSpec prog 173 [.one (.sl dC t),p.a,a.a] [] [] (Bz R) []:=by
 refine aP func173 ?_;cases hV:du t with
 | false =>
  obtain rfl:R=dO 2:=by rw [←hR];simp [bJ,hV]
  repeat' (first|refine af ?_ ?_|refine aa 9 rfl (cB [] (dB t) ?_)|refine ae ?_|exact ah|refine ab fun hb=>?_|(refine cX (qf []) ?_;exact aj))
 | true =>
  have hm:=(bf hV).1;by_cases hf:bk a.name 0 t<0
  case pos =>
   obtain rfl:R=dO 10:=by rw [←hR];simp [bJ,hV,hf]
   repeat' (first|refine af ?_ ?_|(refine aa 9 rfl ?_;first|(refine cB [] (dB t) ?_)|(refine cB [] (oH t a.name) ?_))|refine ae ?_|exact ah|refine ab fun hb=>?_|(refine cX (qf []) ?_;exact aj))
  obtain ⟨i,hi,hF,hq,hx⟩:=d8 hf;have hS:=ct hV (List.getElem_mem hi);obtain ⟨Q,hQ⟩:∃Q,bi t[i] p a.am=Q:=⟨_,rfl⟩;have hQl:=mW hS p a.am;rw [hQ] at hQl;have hlen:Q.2.1.length≤100000:=by omega
  have hgl:(aE a.name Q.2.1).length≤17:=by unfold aE;rw [List.length_map];exact hQl
  by_cases he:Q.2.2=0
  ·by_cases hh:ao t[i].holds p=a.am
   ·obtain rfl:R=(t.set i Q.1,aE a.name Q.2.1,0):=by rw [←hR];unfold bJ;rw [hq,hQ,hx];simp [hV,hf,he,hh]
    repeat' (first|refine af ?_ ?_|(refine aa 9 rfl ?_;first|(refine cB [] (dB t) ?_)|(refine cB [] (dl t a.name hF) ?_)|(refine cB [] (fg t[i] p) ?_)|(refine cC [] (vj t[i] p a.am hQ) ?_)|(refine cC [] (nV t i Q.1 hi (by omega)) ?_)|(refine cC [] (lY a.name Q.2.1 hlen) ?_))|refine ae ?_|exact ah|refine ab fun hb=>?_|(refine cX (qf []) ?_;exact aj))
   ·obtain rfl:R=(t.set i Q.1,[⟨3,p,a.name,a.am⟩]++aE a.name Q.2.1,0):=by rw [←hR];unfold bJ;rw [hq,hQ,hx];simp [hV,hf,he,hh]
    repeat' (first|refine af ?_ ?_|(refine aa 8 rfl ?_;refine aV (ak (E:=fG) rfl rfl (p6 rfl) (aD [⟨3,p,a.name,a.am⟩] rfl rfl rfl rfl) (List.nil_append _) aL aL) rfl rfl rfl ?_)|(refine aa 9 rfl ?_;first|(refine cB [] (dB t) ?_)|(refine cB [] (dl t a.name hF) ?_)|(refine cB [] (fg t[i] p) ?_)|(refine cC [] (vj t[i] p a.am hQ) ?_)|(refine cC [] (nV t i Q.1 hi (by omega)) ?_)|(refine cC [] (lY a.name Q.2.1 hlen) ?_))|refine ae ?_|exact ah|refine ab fun hb=>?_|(refine cX (qf []) ?_;exact aj))
  ·obtain rfl:R=dO Q.2.2:=by rw [←hR];unfold bJ;rw [hq,hQ,hx];simp [hV,hf,he]
   repeat' (first|refine af ?_ ?_|(refine aa 9 rfl ?_;first|(refine cB [] (dB t) ?_)|(refine cB [] (dl t a.name hF) ?_)|(refine cB [] (fg t[i] p) ?_)|(refine cC [] (vj t[i] p a.am hQ) ?_))|refine ae ?_|exact ah|refine ab fun hb=>?_|(refine cX (qf []) ?_;exact aj))
theorem ls (n:ByteArray):∀{t t':List Qu} (k:Nat),fk t=fk t'→bk n k t=bk n k t'
 | [],[],_,_=>rfl
 | [],_ :: _,_,h=>by simp [fk] at h
 | _ :: _,[],_,h=>by simp [fk] at h
 | q :: t,q' :: t',k,h=>by
  have h':q.res.name :: fk t=q'.res.name :: fk t':=h;injection h' with h1 h2;rw [fu,fu,h1,ls n (k+1) h2]
theorem g8 {t t':List Qu} (h:fk t=fk t') (n:ByteArray):aW t n=aW t' n∧iQ t n=iQ t' n:=by
 unfold aW iQ;rw [ls n 0 h];exact ⟨rfl,rfl⟩
theorem oI {t:List Qu} {n:ByteArray} (h:aW t n=true):∃i,∃hi:i<t.length,iQ t n=i∧t[i].res.name=n∧be t n=t[i]:=by
 unfold aW at h;obtain ⟨i,hi,e1,e2⟩:=jC (of_decide_eq_true h);have e3:iQ t n=i:=by unfold iQ;rw [e1];omega
 refine ⟨i,hi,e3,e2,?_⟩;unfold be;rw [e3];simp [hi]
theorem dL {t:List Qu} {n:ByteArray} (h:aW t n=true):be t n∈t∧(be t n).res.name=n:=by
 obtain ⟨i,hi,_,e2,e3⟩:=oI h;rw [e3];exact ⟨List.getElem_mem hi,e2⟩
theorem lZ {t:List Qu} (hv:du t=true) {q:Qu} (hq:q∈t):aW t q.res.name=true∧be t q.res.name=q:=by
 obtain ⟨i,hi,rfl⟩:=List.mem_iff_getElem.1 hq;have h:=wN (k:=0) hi (wM hv);unfold aW be iQ;rw [h];refine ⟨decide_eq_true (by omega),?_⟩;have:((0+i:Nat):Int).toNat=i:=by omega
 rw [this];simp [hi]
structure TStep (t t':List Qu) (p:Pr) (n:ByteArray):Prop where
 v:du t'=true
 nm:fk t'=fk t
 has:aW t n=true
 oth:∀m,m≠n→aW t m=true→be t' m=be t m
 out:Out (be t n) (be t' n) p
 sub:∀r∈aC t',r=p∨r∈aC t
theorem TOut.step {t t':List Qu} {i:Nat} {p:Pr} {n:ByteArray} (h:TOut t t' i p) (hv:du t=true) (hn:(t[i]'h.lt).res.name=n) (hp:(aC t).length≤7∨p∈aC t∨p ∉ aC t'):TStep t t' p n:=by
 have hm:=h.names;have hmem:=lZ hv (List.getElem_mem h.lt);rw [hn] at hmem;have hix:iQ t n=i:=by
  obtain ⟨j,hj,e1,e2,e3⟩:=oI hmem.1;rw [e1];have hnd:=wM hv;unfold fk at hnd;rcases Nat.lt_trichotomy j i with hlt|he|hgt
  ·have:=List.pairwise_iff_getElem.1 hnd j i (by simpa using hj) (by simpa using h.lt) hlt;simp only [List.getElem_map] at this;exact absurd (e2.trans hn.symm) this
  ·exact he
  ·have:=List.pairwise_iff_getElem.1 hnd i j (by simpa using h.lt) (by simpa using hj) hgt;simp only [List.getElem_map] at this;exact absurd (hn.trans e2.symm) this
 refine ⟨h.valid hv hp,hm,hmem.1,fun m hne hh=>?_,?_,tF hv h⟩
 ·unfold be;rw [(g8 hm m).2];obtain ⟨j,hj,e1,e2,_⟩:=oI hh;rw [e1];have hji:j≠i:=fun e=>by subst e;exact hne (e2.symm.trans hn)
  have:=h.other hji;simp only [List.getD_eq_getElem?_getD,this]
 ·obtain ⟨q,e,ho⟩:=h.at;have e2:be t' n=q:=by
   unfold be;rw [(g8 hm n).2,hix];simp only [List.getD_eq_getElem?_getD,e];rfl
  rw [e2,hmem.2];exact ho
theorem TStep.hasE {t t':List Qu} {p:Pr} {n:ByteArray} (h:TStep t t' p n) (m:ByteArray):aW t' m=aW t m:=(g8 h.nm m).1
structure TP (t t':List Qu) (p:Pr):Prop where
 v:du t'=true
 nm:fk t'=fk t
 out:∀n,aW t n=true→Out (be t n) (be t' n) p
 sub:∀r∈aC t',r=p∨r∈aC t
theorem TStep.tp {t t':List Qu} {p:Pr} {n:ByteArray} (hv:du t=true) (h:TStep t t' p n):TP t t' p:=by
 refine ⟨h.v,h.nm,fun m hm=>?_,h.sub⟩;by_cases e:m=n
 ·subst e;exact h.out
 ·rw [h.oth m e hm];exact Out.same p (ct hv (dL hm).1)
theorem TP.hasE {t t':List Qu} {p:Pr} (h:TP t t' p) (m:ByteArray):aW t' m=aW t m:=(g8 h.nm m).1
abbrev gD (x:Pc) (n:ByteArray):Am:=ax x.led.entries n
structure FitR (t:List Qu) (n:ByteArray) (x:Pc):Prop where
 h:ao (be t n).holds x.proc=gD x n
 w:ap (be t n) x.proc=none
abbrev jn (t:List Qu) (n:ByteArray) (x:Pc) (a:Am):Am:=bG (be t n).res (gD x n) a
def FitA (t:List Qu) (n:ByteArray) (x:Pc) (a:Am):Prop :=
  (bg (be t n).res (gD x n) a=true∧FitR t n x)∨(bg (be t n).res (gD x n) a=false∧
    ((ao (be t n).holds x.proc=jn t n x a∧ap (be t n) x.proc=none)∨
     (ao (be t n).holds x.proc=gD x n∧ap (be t n) x.proc=some (jn t n x a)∧∀y∈(be t n).waits,y.proc=x.proc→y.prio=x.req.prio)))
def dq (l:List Tm) (n:ByteArray):Option Tm:=l.find? fun a=>ba a.name n
def FitW (t:List Qu) (n:ByteArray) (x:Pc) (l:List Tm):Prop:=match dq l n with
 | none=>FitR t n x
 | some a=>FitA t n x a.am
theorem FitR.tp {t t':List Qu} {p:Pr} {m:ByteArray} {x:Pc} (hs:TP t t' p) (hp:x.proc≠p) (hm:aW t m=true) (h:FitR t m x):FitR t' m x:=by
 rcases (hs.out m hm).eff x.proc hp with ⟨h1,h2⟩|⟨a,h1,_⟩
 ·exact ⟨h1.trans h.h,h2.trans h.w⟩
 ·rw [h.w] at h1;cases h1
theorem FitA.tp {t t':List Qu} {p:Pr} {m:ByteArray} {x:Pc} {a:Am} (hs:TP t t' p) (hp:x.proc≠p) (hm:aW t m=true) (h:FitA t m x a):FitA t' m x a:=by
 have hr:=(hs.out m hm).res;unfold FitA jn at *
 rw [hr];rcases h with ⟨h1,h2⟩|⟨h1,h2⟩
 ·exact .inl ⟨h1,h2.tp hs hp hm⟩
 ·refine .inr ⟨h1,?_⟩;rcases h2 with ⟨h3,h4⟩|⟨h3,h4,h5⟩
  ·rcases (hs.out m hm).eff x.proc hp with ⟨k1,k2⟩|⟨b,k1,_⟩
   ·exact .inl ⟨k1.trans h3,k2.trans h4⟩
   ·rw [h4] at k1;cases k1
  ·rcases (hs.out m hm).eff x.proc hp with ⟨k1,k2⟩|⟨b,k1,k2,k3⟩
   ·refine .inr ⟨k1.trans h3,k2.trans h4,fun y hy hyp=>?_⟩;obtain ⟨z,hz,e1,e2⟩:=(hs.out m hm).prio y hy (by rw [hyp];exact hp);rw [←e2];exact h5 z hz (e1.trans hyp)
   ·rw [h4] at k1;injection k1 with k1;exact .inl ⟨k2.trans k1.symm,k3⟩
theorem FitW.tp {t t':List Qu} {p:Pr} {m:ByteArray} {x:Pc} {l:List Tm} (hs:TP t t' p) (hp:x.proc≠p) (hm:aW t m=true) (h:FitW t m x l):FitW t' m x l:=by
 unfold FitW at *
 cases hf:dq l m with
 | none=>rw [hf] at h;exact h.tp hs hp hm
 | some a=>rw [hf] at h;exact h.tp hs hp hm
structure PStat (t:List Qu) (x:Pc):Prop where
 vp:jl x.proc=true
 cost:1≤x.cost∧x.cost≤1000
 led:Ld x.led
 gen:0≤x.gen∧x.gen≤1073741824
 hf:∀n,gD x n≠⟨0,0⟩→aW t n=true∧aF (be t n).res (gD x n)=true
theorem xk {t t':List Qu} {p:Pr} (hs:TP t t' p):∀l:List Tm,fc t' l=fc t l
 | []=>rfl
 | a :: l=>by
  unfold fc;rw [hs.hasE,xk hs l];cases hh:aW t a.name with
  | false=>rfl
  | true=>rw [(hs.out _ hh).res]
theorem zS {t t':List Qu} {p:Pr} (hs:TP t t' p) (x:Ex):gw t' x=gw t x:=by
 unfold gw;rw [xk hs]
structure PWait (t:List Qu) (now:Int) (x:Pc):Prop where
 rq:oG x.req=true
 rs:gw t x.req.expr=0
 sn:0≤x.since∧x.since≤now
structure PInv (t:List Qu) (now:Int) (x:Pc):Prop where
 stat:PStat t x
 run:x.waiting=false→x.req=Rq.zero∧x.since=0∧∀n,aW t n=true→FitR t n x
 wat:x.waiting=true→PWait t now x∧∀n,aW t n=true→FitW t n x (cy x.req.expr)
theorem PStat.tp {t t':List Qu} {p:Pr} {x:Pc} (hs:TP t t' p) (h:PStat t x):PStat t' x :=
 ⟨h.vp,h.cost,h.led,h.gen,fun m hm=>by
  obtain ⟨h1,h2⟩:=h.hf m hm;exact ⟨by rw [hs.hasE];exact h1,by rw [(hs.out m h1).res];exact h2⟩⟩
theorem PWait.tp {t t':List Qu} {p:Pr} {now:Int} {x:Pc} (hs:TP t t' p) (h:PWait t now x):PWait t' now x:=⟨h.rq,by rw [zS hs];exact h.rs,h.sn⟩
theorem PInv.tp {t t':List Qu} {p:Pr} {now:Int} {x:Pc} (hs:TP t t' p) (hp:x.proc≠p) (h:PInv t now x):PInv t' now x:=by
 refine ⟨h.stat.tp hs,fun hw=>?_,fun hw=>?_⟩
 ·obtain ⟨h1,h2,h3⟩:=h.run hw;exact ⟨h1,h2,fun m hm=>by rw [hs.hasE] at hm;exact (h3 m hm).tp hs hp hm⟩
 ·obtain ⟨h1,h2⟩:=h.wat hw;exact ⟨h1.tp hs,fun m hm=>by rw [hs.hasE] at hm;exact (h2 m hm).tp hs hp hm⟩
theorem vk {t:List Qu} {n:ByteArray} {p:Pr} {q':Qu} (h:aW t n=true) (ho:Out (be t n) q' p):∃i,∃hi:i<t.length,iQ t n=i∧t[i].res.name=n∧TOut t (t.set (iQ t n) q') i p:=by
 obtain ⟨i,hi,e1,e2,e3⟩:=oI h;refine ⟨i,hi,e1,e2,hi,q',by rw [e1],?_⟩;rw [e3] at ho;exact ho
theorem vl {t:List Qu} {n:ByteArray} {q':Qu} (h:aW t n=true) (hn:fk (t.set (iQ t n) q')=fk t):be (t.set (iQ t n) q') n=q':=by
 obtain ⟨i,hi,e1,e2,e3⟩:=oI h;unfold be;rw [(g8 hn n).2,e1];simp [hi]
theorem mX {t:List Qu} {p:Pr} {n:ByteArray} (hv:du t=true) (h:aW t n=true) (hw:(ap (be t n) p).isSome=true) :
  bq t p n=(t.set (iQ t n) (bh (be t n) p).1,aE n (bh (be t n) p).2.1,0)∧TStep t (bq t p n).1 p n∧ao (be (bq t p n).1 n).holds p=ao (be t n).holds p∧ap (be (bq t p n).1 n) p=none:=by
 have hq:=dL h;have hs:=uW (ct hv hq.1) hw;obtain ⟨ho,h1,h2⟩:=wP hs;have e:bq t p n=(t.set (iQ t n) (bh (be t n) p).1,aE n (bh (be t n) p).2.1,0):=by
  unfold aW at h;have hf:=of_decide_eq_true h;unfold bq;rw [hv,decide_eq_false (show ¬bk n 0 t<0 by omega)];simp only [Bool.not_true,cond_false];rw [show t.getD (iQ t n) jW=be t n from rfl,decide_eq_true hs];rfl
 obtain ⟨i,hi,e1,e2,hto⟩:=vk h ho;have hp:p∈aC t:=by
  unfold aC;rw [cN,gu];exact ⟨_,hq.1,(dY (aJ (ct hv hq.1)) p).2 (by unfold eF;rw [hw];rfl)⟩
 have hst:TStep t (bq t p n).1 p n:=by rw [e];exact hto.step hv e2 (.inr (.inl hp))
 have hq2:be (bq t p n).1 n=(bh (be t n) p).1:=by
  have:=hst.nm;rw [e] at this ⊢;exact vl h this
 exact ⟨e,hst,by rw [hq2];exact h1,by rw [hq2];exact h2⟩
theorem oJ {t:List Qu} {p:Pr} {a:Tm} (hv:du t=true) (h:aW t a.name=true) (h0:ao (be t a.name).holds p≠⟨0,0⟩) (hw:ap (be t a.name) p=none) (hc:bg (be t a.name).res (ao (be t a.name).holds p) a.am=true) :
  bJ t p a=(t.set (iQ t a.name) (bi (be t a.name) p a.am).1,(bif decide (ao (be t a.name).holds p=a.am) then [] else [⟨3,p,a.name,a.am⟩])++aE a.name (bi (be t a.name) p a.am).2.1,0)∧TStep t (bJ t p a).1 p a.name∧ao (be (bJ t p a).1 a.name).holds p=a.am∧ap (be (bJ t p a).1 a.name) p=none:=by
 have hq:=dL h;have hs:=wQ (ct hv hq.1) h0 hw hc;obtain ⟨ho,h1,h2⟩:=yF hs;have e:bJ t p a=(t.set (iQ t a.name) (bi (be t a.name) p a.am).1,(bif decide (ao (be t a.name).holds p=a.am) then [] else [⟨3,p,a.name,a.am⟩])++aE a.name (bi (be t a.name) p a.am).2.1,0):=by
  unfold aW at h;have hf:=of_decide_eq_true h;unfold bJ;rw [hv,decide_eq_false (show ¬bk a.name 0 t<0 by omega)];simp only [Bool.not_true,cond_false];rw [show t.getD (iQ t a.name) jW=be t a.name from rfl,decide_eq_true hs];rfl
 obtain ⟨i,hi,e1,e2,hto⟩:=vk h ho;have hp:p∈aC t:=by
  unfold aC;rw [cN,gu];exact ⟨_,hq.1,(dY (aJ (ct hv hq.1)) p).2 (by unfold eF;rw [bl.2 h0];simp)⟩
 have hst:TStep t (bJ t p a).1 p a.name:=by rw [e];exact hto.step hv e2 (.inr (.inl hp))
 have hq2:be (bJ t p a).1 a.name=(bi (be t a.name) p a.am).1:=by
  have:=hst.nm;rw [e] at this ⊢;exact vl h this
 exact ⟨e,hst,by rw [hq2];exact h1,by rw [hq2];exact h2⟩
theorem BA {t:List Qu} {p:Pr} {a:Tm} {prio:Int} (hv:du t=true) (h:aW t a.name=true) (hvp:jl p=true) (hr:0≤prio∧prio≤7) (hf:aF (be t a.name).res a.am=true) (hw:ap (be t a.name) p=none)
  (hl:ao (be t a.name).holds p≠⟨0,0⟩∨(be t a.name).holds.length+(be t a.name).waits.length<8) (hp:(aC t).length≤7∨p∈aC t) :
  bd t p a prio=(t.set (iQ t a.name) (bv (be t a.name) p a.am prio).1,aE a.name (bv (be t a.name) p a.am prio).2.1,0)∧TStep t (bd t p a prio).1 p a.name∧ClOut (be t a.name) (be (bd t p a prio).1 a.name) p a.am prio:=by
 have hq:=dL h;have hs:=wO (ct hv hq.1) hvp hr hf hw hl;have ho:=yE hs;have e:bd t p a prio=(t.set (iQ t a.name) (bv (be t a.name) p a.am prio).1,aE a.name (bv (be t a.name) p a.am prio).2.1,0):=by
  unfold aW at h;have hf:=of_decide_eq_true h;have hc:(decide ((aC t).length=8) && !decide (p∈aC t))=false:=by
   rcases hp with hp|hp
   ·rw [decide_eq_false (by omega)];rfl
   ·rw [decide_eq_true hp];simp
  unfold bd;rw [hv,decide_eq_false (show ¬bk a.name 0 t<0 by omega),hc];simp only [Bool.not_true,cond_false];rw [show t.getD (iQ t a.name) jW=be t a.name from rfl,decide_eq_true hs];rfl
 obtain ⟨i,hi,e1,e2,hto⟩:=vk h ho.out;have hst:TStep t (bd t p a prio).1 p a.name:=by
  rw [e];refine hto.step hv e2 ?_;rcases hp with hp|hp
  ·exact .inl hp
  ·exact .inr (.inl hp)
 have hq2:be (bd t p a prio).1 a.name=(bv (be t a.name) p a.am prio).1:=by
  have:=hst.nm;rw [e] at this ⊢;exact vl h this
 exact ⟨e,hst,by rw [hq2];exact ho⟩
theorem IB {B:List Bool} {i:Nat} (hi:i<B.length):(B.take i++List.replicate (B.length-i) false).set i B[i]=B.take (i+1)++List.replicate (B.length-(i+1)) false:=by
 have h1:(B.take i).length=i:=by simp;omega
 rw [List.set_append_right _ _ (by omega),h1,Nat.sub_self,show B.length-i=(B.length-(i+1))+1 by omega,List.replicate_succ,List.set_cons_zero,List.take_succ_eq_append_getElem hi,List.append_assoc];rfl
theorem JS {B:List Bool} {i:Nat} (hi:i<B.length) (h:B[i]=false):B.take (i+1)++List.replicate (B.length-(i+1)) false=B.take i++List.replicate (B.length-i) false:=by
 rw [List.take_succ_eq_append_getElem hi,h,show B.length-i=(B.length-(i+1))+1 by omega,List.replicate_succ,List.append_assoc];rfl
theorem lv (d:Nat) (x:Ex) {L:List Tm} (h:cy x=L):FSpec prog 75 [x.a d] [] [] (.c (.sl cw L)) []:=h▸FZ d x
theorem cd (x:Ex):(cy x).length≤8:=by
 cases hv:kv x with
 | false=>rw [ov hv];simp
 | true=>exact (mI hv).2.2.1
theorem lw (d:Nat) (t:List Qu) (p:Pr) (x:Ex):FSpec prog 74 [.one (.sl dC t),p.a,x.a d] [] [] (.c (.sl cg (aZ t p x))) []:=by
 refine aP func74 ?_;have hmk:prog.underlying 68=some (.slice 4):=underlying68;have hib:(prog.info? 4).map (fun i=>(i.zero,i.size,i.bytes))=some (some (.bool false),1,1):=by kernel_rfl
 have h8:=cd x;obtain ⟨L,hL⟩:∃L,cy x=L:=⟨_,rfl⟩;obtain ⟨B,hB⟩:∃B,B=aZ t p x:=⟨_,rfl⟩;have hBl:B.length=L.length:=by rw [hB];simp [aZ,hL]
 have hBg:∀i (h:i<L.length),B[i]'(by omega)=(aW t L[i].name && bg (be t L[i].name).res (ao (be t L[i].name).holds p) L[i].am):=by
  intro i h;simp only [hB,aZ,hL,List.getElem_map]
 rw [hL] at h8;rw [←hB];clear hB;repeat' (first|refine af ?_ ?_|refine aa 9 rfl (cC [] (lv d x hL) ?_)|(refine aa 20 rfl ?_;refine aV (f9 (E:=cg) (y0:=false) hmk hib rfl (by decide) rfl (fun _ _=>rfl) rfl rfl rfl rfl (by first|omega|simp)) rfl rfl rfl ?_)|refine ae ?_|exact ah|refine ab fun hb=>?_)
 refine ai (fun i=>i≤L.length) (fun i=>bt [4,5,1000] [(0,.c (.sl dC t)),(4,.c (.ptr 4 0)),(7,.c (.sl cw L)),(8,.c (.own 1000)),(9,.i i)] [(4,.box 35 [.sc (.int .i64 p.site),.sc (.int .i64 p.inc),.sc (.int .i64 p.num)]),(1000,.arr 4 cg (B.take i++List.replicate (B.length-i) false))]) (fun i=>L.length-i) 0 (Nat.zero_le _) (by rw [List.take_zero,List.nil_append,Nat.sub_zero,hBl];exact a8 (qf [(1000,15)])) ?_;intro i hi;have hol:(B.take i++List.replicate (B.length-i) false).length=L.length:=by simp;omega
 by_cases hlt:i<L.length
 ·have hb1:=hBg i hlt;obtain ⟨a,ha⟩:∃a,L[i]=a:=⟨_,rfl⟩;have hga:L[i]? = some a:=by rw [List.getElem?_eq_getElem hlt,ha]
  rw [ha] at hb1;by_cases hf:bk a.name 0 t<0
  ·have hno:=JS (B:=B) (i:=i) (by omega) (by rw [hb1,show aW t a.name=false by simp [aW];omega];rfl);repeat' (first|refine af ?_ ?_|refine aa 9 rfl (cB [] (oH t a.name) ?_)|refine ae ?_|exact ah|refine ab fun hb=>?_)
   refine ⟨i+1,by omega,by omega,?_⟩;rw [hno];exact aN
  ·obtain ⟨j,hj,hF,hq,hx⟩:=d8 hf;have hst:=IB (B:=B) (i:=i) (by omega);rw [hb1,show aW t a.name=true by simp [aW,Int.not_lt.1 hf],Bool.true_and,show be t a.name=t[j] from hq] at hst;repeat' (first|refine af ?_ ?_|(refine aa 9 rfl ?_;first|(refine cB [] (dl t a.name hF) ?_)|(refine cB [] (fg t[j] p) ?_)|(refine cB [] (dK t[j].res (ao t[j].holds p) a.am) ?_))|refine ae ?_|(refine aa 4 rfl ?_;refine aR (aq (z:=bg t[j].res (ao t[j].holds p) a.am) rfl rfl rfl rfl (by first|assumption|exact List.getElem?_eq_getElem (by omega)) rfl rfl rfl rfl (Nat.le_of_ble_eq_true rfl) rfl rfl) rfl rfl rfl ?_)|exact ah|refine ab fun hb=>?_)
   refine ⟨i+1,by omega,by omega,?_⟩;rw [←hst];exact aN
 ·have e:B.take i++List.replicate (B.length-i) false=B:=by rw [List.take_of_length_le (by omega),show B.length-i=0 by omega];simp
  rw [e];repeat' (first|refine af ?_ ?_|refine ae ?_|exact ah|refine ab fun hb=>?_)
  refine bP (qf []) ?_;exact aj
instance:Dp eT:=fo _ _ _ _ _
instance:ST prog eT 22 55 40:=⟨ElTB.mk' underlying22 (.agg #[.string { data:=#[] },.int .i64 0,.int .i64 0,.int .i64 0]) 4 40 (by kernel_rfl) rfl rfl⟩
def b8 (t:List Qu):List Rs:=t.map (·.res)
theorem xl (t:List Qu) (hl:t.length≤100000):FSpec prog 72 [.one (.sl dC t)] [] [] (.c (.sl eT (b8 t))) []:=by
 refine aP func72 ?_;repeat' (first|refine af ?_ ?_|refine ae ?_|exact ah|refine ab fun hb=>?_)
 refine bV 3 1000 55 eT rfl rfl rfl ?_;refine ai (fun i=>i≤t.length) (fun i=>bt [1000] [(0,.c (.sl dC t)),(3,.c (.own 1000)),(4,.i i)] [(1000,.arr 55 eT (b8 (t.take i)))]) (fun i=>t.length-i) 0 (Nat.zero_le _) aN ?_;intro i hi;have hlen:(b8 (t.take i)).length=i:=by simp [b8,Nat.min_eq_left hi]
 repeat' (first|refine af ?_ ?_|(refine aa 8 rfl ?_;refine aV (ak rfl rfl (aB rfl rfl) (aD [(t[i]'(by omega)).res] rfl rfl rfl rfl) rfl aL aL) rfl rfl rfl ?_)|refine ae ?_|exact ah|refine ab fun hb=>?_)
 ·refine ⟨i+1,by omega,by omega,?_⟩;have e:b8 (t.take (i+1))=b8 (t.take i)++[(t[i]'(by omega)).res]:=by
   unfold b8;rw [List.take_succ_eq_append_getElem (by omega),List.map_append];rfl
  rw [e];exact a8 (qf [(1000,18)])
 ·have e:b8 (t.take i)=b8 t:=by rw [List.take_of_length_le (by omega)]
  rw [←e];refine bP (qf []) ?_;exact aj
def B8 (w:Wk) (a b:Nat):List D:=[.sc (.int .i64 w.c.now),.sl dC w.c.queues,.ocut a,.own b]
def HI (d:Nat) (w:Wk):List (Nat×Box):=[(0,.box 89 (B8 w 1 2)),(1,.arr 63 (eI d) w.c.procs),(2,.arr 67 fG w.ev)]
def HO (d:Nat) (w:Wk):List (Nat×Option Box):=[(0,some (.box 89 (B8 w 3 4))),(3,some (.arr 63 (eI d) w.c.procs)),(4,some (.arr 67 fG w.ev)),(1,none),(2,none)]
abbrev gA:V0:=.one (.ptr 0 0)
abbrev oK (n:Int):V0:=.one (.sc (.int .i64 n))
theorem pF (d:Nat) (w:Wk) (t:List Qu) (ev:List Ev) (hl:w.ev.length+ev.length≤1000000):FSpec prog 166 [gA,.one (.sl dC t),.one (.sl fG ev)] (HI d w) [3,4] (.tup []) (HO d (w.take t ev)):=by
 refine aP func166 ?_;repeat' (first|refine af ?_ ?_|refine ae ?_|exact ah|refine ab fun hb=>?_|(exact mS (qf [(3,1),(4,17)])))
theorem DG (d:Nat) (w:Wk) (k:Int) (p:Pr) (hl:w.ev.length≤1000000):FSpec prog 164 [gA,oK k,p.a] (HI d w) [3,4] (.tup []) (HO d (w.note k p)):=by
 refine aP func164 ?_;have h0:Nat.ble w.ev.length 1000000=true:=by simpa using hl
 repeat' (first|refine af ?_ ?_|(refine aa 8 rfl ?_;refine aV (ak rfl rfl (aB rfl rfl) (aD [⟨k,p,⟨#[]⟩,⟨0,0⟩⟩] rfl rfl rfl rfl) rfl aL aL) rfl rfl rfl ?_)|refine ae ?_|exact ah|refine ab fun hb=>?_|(exact mS (qf [(3,1),(4,15)])))
theorem dJ {w:Wk} {i:Nat} {x:Pc} (h:w.c.procs[i]? = some x):w.pc i=x:=by unfold Wk.pc;rw [List.getD_eq_getElem?_getD,h];rfl
theorem fB {α:Type} {l:List α} {i:Nat} (h:i<l.length) (y:α):(l.set i y)[i]? = some y:=by simp [h]
theorem Hb (d:Nat) (w:Wk) (i:Nat) (hi:i<w.c.procs.length):FSpec prog 168 [gA,oK i] (HI d w) [3,4] (.tup []) (HO d (dQ w i)):=by
 refine aP func168 ?_;obtain ⟨x,hx⟩:∃x,w.c.procs[i]? = some x:=⟨_,List.getElem?_eq_getElem hi⟩;have hs1:=fB hi { x with waiting:=false };have hl1:(w.c.procs.set i { x with waiting:=false }).length=w.c.procs.length:=List.length_set;have hs2:=fB (hl1▸hi) { x with waiting:=false,req:=Rq.zero };have hl2:((w.c.procs.set i { x with waiting:=false }).set i { x with waiting:=false,req:=Rq.zero }).length=w.c.procs.length:=by rw [List.length_set,hl1]
 have e:dQ w i=⟨{ w.c with procs:=((w.c.procs.set i { x with waiting:=false }).set i { x with waiting:=false,req:=Rq.zero }).set i { x with waiting:=false,req:=Rq.zero,since:=0 } },w.ev⟩:=by
  unfold dQ Wk.setP;rw [dJ hx,List.set_set,List.set_set]
 rw [e];repeat' (first|refine af ?_ ?_|refine ae ?_|(refine aa 4 rfl ?_;first|(refine aR (aq (z:={ x with waiting:=false }) rfl rfl rfl rfl hx rfl rfl rfl rfl (Nat.le_of_ble_eq_true rfl) rfl rfl) rfl rfl rfl ?_)|(refine aR (jG (z:={ x with waiting:=false,req:=Rq.zero }) rfl rfl rfl rfl hs1 rfl rfl rfl rfl (Nat.le_of_ble_eq_true rfl) (by (repeat' (first|exact trivial|exact .same _|exact .nil|refine ⟨?_,?_⟩));first|done|fail) rfl) rfl rfl rfl ?_)|(refine aR (aq (z:={ x with waiting:=false,req:=Rq.zero,since:=0 }) rfl rfl rfl rfl hs2 rfl rfl rfl rfl (Nat.le_of_ble_eq_true rfl) rfl rfl) rfl rfl rfl ?_))|exact ah|refine ab fun hb=>?_|(exact mS (qf [(3,1),(4,2)])))
theorem mY (d:Nat) (w:Wk) (i:Nat) (hi:i<w.c.procs.length):FSpec prog 91 [gA,oK i] (HI d w) [3,4] (.tup []) (HO d (aU w i)):=by
 refine aP func91 ?_;obtain ⟨x,hx⟩:∃x,w.c.procs[i]? = some x:=⟨_,List.getElem?_eq_getElem hi⟩;have e:aU w i=⟨{ w.c with procs:=w.c.procs.set i { x with gen:=aS x.gen } },w.ev⟩:=by
  unfold aU Wk.setP;rw [dJ hx]
 rw [e];repeat' (first|refine af ?_ ?_|refine aa 9 rfl (cB [] (Ha x.gen) ?_)|refine ae ?_|(refine aa 4 rfl ?_;refine aR (aq (z:={ x with gen:=aS x.gen }) rfl rfl rfl rfl hx rfl rfl rfl rfl (Nat.le_of_ble_eq_true rfl) rfl rfl) rfl rfl rfl ?_)|exact ah|refine ab fun hb=>?_|(exact mS (qf [(3,1),(4,2)])))
theorem yM (t:List Qu) (l:List Pc) (i:Nat) (h:i<l.length):dI t i (l.drop i)=bif dA t l[i] then some i else dI t (i+1) (l.drop (i+1)):=by
 rw [List.drop_eq_getElem_cons h];rfl
def Hc:Option Nat→Int
 | some i=>i
 | none=>-1
theorem rj (d:Nat) (w:Wk) (h8:w.c.procs.length≤100000):FSpec prog 170 [gA] (HI d w) [3,4] (.i (Hc (dI w.c.queues 0 w.c.procs))) (HO d w):=by
 refine aP func170 ?_;repeat' (first|refine af ?_ ?_|refine ae ?_|exact ah|refine ab fun hb=>?_)
 refine ai (fun i=>i≤w.c.procs.length∧dI w.c.queues i (w.c.procs.drop i)=dI w.c.queues 0 w.c.procs) (fun i=>bt [0,1,2] [(0,.v gA),(3,.i i)] [(0,.box 89 (B8 w 1 2)),(1,.arr 63 (eI d) w.c.procs),(2,.arr 67 fG w.ev)]) (fun i=>w.c.procs.length-i) 0 ⟨Nat.zero_le _,by simp⟩ aN ?_;rintro i ⟨hi,hs⟩;by_cases hlt:i<w.c.procs.length
 ·obtain ⟨x,hx⟩:∃x,w.c.procs[i]=x:=⟨_,rfl⟩;have hgx:w.c.procs[i]? = some x:=by rw [List.getElem?_eq_getElem hlt,hx]
  rw [yM _ _ _ hlt,hx] at hs;have hgl:(aZ w.c.queues x.proc x.req.expr).length≤1000:=by
   have:=cd x.req.expr;simp [aZ];omega
  cases hw:x.waiting with
  | false =>
   rw [show dA w.c.queues x=false by simp [dA,hw],cond_false] at hs;repeat' (first|refine af ?_ ?_|(refine aa 9 rfl ?_;first|(refine cC [] (lw d w.c.queues x.proc x.req.expr) ?_)|(refine cB [] (vi d x.req.expr (aZ w.c.queues x.proc x.req.expr) hgl) ?_))|refine ae ?_|exact ah|refine ab fun hb=>?_)
   refine ⟨i+1,⟨by omega,hs⟩,by omega,?_⟩;exact aN
  | true =>
   cases hh:dD x.req.expr (aZ w.c.queues x.proc x.req.expr) with
   | false =>
    rw [show dA w.c.queues x=false by simp [dA,hh],cond_false] at hs;repeat' (first|refine af ?_ ?_|(refine aa 9 rfl ?_;first|(refine cC [] (lw d w.c.queues x.proc x.req.expr) ?_)|(refine cB [] (vi d x.req.expr (aZ w.c.queues x.proc x.req.expr) hgl) ?_))|refine ae ?_|exact ah|refine ab fun hb=>?_)
    refine ⟨i+1,⟨by omega,hs⟩,by omega,?_⟩;exact aN
   | true =>
    rw [show dA w.c.queues x=true by simp [dA,hw,hh],cond_true] at hs;rw [←hs];repeat' (first|refine af ?_ ?_|(refine aa 9 rfl ?_;first|(refine cC [] (lw d w.c.queues x.proc x.req.expr) ?_)|(refine cB [] (vi d x.req.expr (aZ w.c.queues x.proc x.req.expr) hgl) ?_))|refine ae ?_|exact ah|refine ab fun hb=>?_|(refine bP (qf [(3,1),(4,2)]) ?_;exact aj))
 ·rw [←hs,List.drop_eq_nil_of_le (by omega),show dI w.c.queues i []=none from rfl];repeat' (first|refine af ?_ ?_|refine ae ?_|exact ah|refine ab fun hb=>?_|(refine bP (qf [(3,1),(4,2)]) ?_;exact aj))
theorem rl {n:ByteArray}:∀{acc:List ByteArray} {kk:Nat},kk≤acc.length→(∀m∈acc.drop kk,jo n m=true)→(∀j (h:j<acc.length),j<kk→jo n acc[j]=false)→gP n acc=acc.take kk++n :: acc.drop kk
 | [],kk,_,_,_=>by simp [gP]
 | m :: l,0,_,h1,_=>by have:=h1 m (by simp);simp [gP,this]
 | m :: l,kk+1,hk,h1,h2=>by
  have h3:=h2 0 (by simp) (by omega);have h4:=rl (kk:=kk) (acc:=l) (by simpa using hk) (by simpa using h1) (fun j hj hjk=>by have:=h2 (j+1) (by simpa using hj) (by omega);simpa using this);simp at h3;simp [gP,h3,h4]
theorem F4 {n:ByteArray} {acc:List ByteArray} {kk:Nat} (ha:mQ acc) (hk:kk≤acc.length) (h1:∀m∈acc.drop kk,jo n m=true) (h2:∀j (h:j<acc.length),j+1=kk→jo n acc[j]=false):gP n acc=acc.take kk++n :: acc.drop kk:=by
 refine rl hk h1 fun j hj hjk=>?_;rcases Nat.lt_or_ge (j+1) kk with h|h
 ·cases hc:jo n acc[j] with
  | false=>rfl
  | true =>
   have h3:=h2 (kk-1) (by omega) (by omega);have h4:=(List.pairwise_iff_getElem.1 ha) j (kk-1) hj (by omega) (by omega);rw [f7 hc h4] at h3;cases h3
 ·exact h2 j hj (by omega)
theorem jK (acc:List ByteArray) (e:En) (l:List En):dx acc (e :: l)=dx (bif dZ e.name acc then acc else gP e.name acc) l:=rfl
theorem tO (n m:ByteArray) (l:List ByteArray):dZ n (m :: l)=(m.toList == n.toList || dZ n l):=rfl
theorem xm {n:ByteArray}:∀{l:List ByteArray},dZ n l=false→n ∉ l
 | [],_=>by simp
 | m :: l,h=>by
  rw [tO,Bool.or_eq_false_iff] at h;intro hm;rcases List.mem_cons.1 hm with rfl|hm
  ·have h:=h.1;simp at h
  ·exact xm h.2 hm
theorem i7 (n:ByteArray):∀l:List ByteArray,(gP n l).length=l.length+1
 | []=>rfl
 | m :: l=>by
  unfold gP;cases jo n m with
  | true=>rfl
  | false=>simp [i7 n l]
theorem F5:ElTB prog pS 158 9 16:=ElTB.mk' underlying158 (.string ⟨#[]⟩) 1 16 (by kernel_rfl) rfl rfl
instance:ST prog pS 158 9 16:=⟨F5⟩
theorem rm (l:List En) (hl:l.length≤100000):FSpec prog 136 [.one (.sl iG l)] [] [] (.c (.sl pS (bB l))) []:=by
 refine aP func136 ?_;repeat' (first|refine af ?_ ?_|refine ae ?_|exact ah|refine ab fun hb=>?_)
 refine bV 3 1000 9 pS rfl rfl rfl ?_;refine ai (fun x:Nat×List ByteArray=>x.1≤l.length∧x.2.length≤x.1∧mQ x.2∧dx x.2 (l.drop x.1)=bB l) (fun x=>bt [1000] [(0,.c (.sl iG l)),(3,.c (.own 1000)),(4,.i x.1)] [(1000,.arr 9 pS x.2)]) (fun x=>l.length-x.1) (0,[]) ⟨Nat.zero_le _,Nat.le_refl _,by simp [mQ],rfl⟩ aN ?_;rintro ⟨i,acc⟩ ⟨hi,hal,hasc,hs⟩;dsimp only at *
 by_cases hlt:i<l.length
 case neg =>
  have e:acc=bB l:=by rw [←hs,List.drop_eq_nil_of_le (by omega)];rfl
  repeat' (first|refine af ?_ ?_|refine ae ?_|exact ah|refine ab fun hb=>?_)
  rw [←e];refine bP (qf []) ?_;exact aj
 rw [List.drop_eq_getElem_cons hlt,jK] at hs;obtain ⟨n,hn⟩:∃n,l[i].name=n:=⟨_,rfl⟩;rw [hn] at hs;repeat' (first|refine af ?_ ?_|refine ae ?_|exact ah|refine ab fun hb=>?_)
 refine ai (fun x:Nat×Bool=>x.1≤acc.length∧dZ n acc=(x.2 || dZ n (acc.drop x.1))) (fun x=>bt [1000] [(0,.c (.sl iG l)),(3,.c (.own 1000)),(4,.i i),(5,.b x.2),(6,.i x.1)] [(1000,.arr 9 pS acc)]) (fun x=>acc.length-x.1) (0,false) ⟨Nat.zero_le _,rfl⟩ aN ?_;rintro ⟨k,is⟩ ⟨hk,hh⟩;dsimp only at *
 by_cases hkl:k<acc.length
 ·rw [List.drop_eq_getElem_cons hkl,tO] at hh;repeat' (first|refine af ?_ ?_|refine ae ?_|exact ah|refine ab fun hb=>?_)
  ·refine ⟨(k+1,true),⟨by dsimp only;omega,by dsimp only;rw [hh,hb];simp⟩,by dsimp only;omega,?_⟩;exact aN
  ·refine ⟨(k+1,acc[k].toList == l[i].name.toList),⟨by dsimp only;omega,by dsimp only;rw [hh,hb,hn];simp⟩,by dsimp only;omega,?_⟩;exact aN
 have hh2:dZ n acc=is:=by rw [hh,List.drop_eq_nil_of_le (by omega)];simp [dZ]
 clear hh;cases is with
 | true =>
  rw [hh2] at hs;repeat' (first|refine af ?_ ?_|refine ae ?_|exact ah|refine ab fun hb=>?_)
  refine ⟨(i+1,acc),⟨by dsimp only;omega,by dsimp only;omega,hasc,hs⟩,by dsimp only;omega,?_⟩;exact aN
 | false =>
  rw [hh2] at hs;have hnm:=xm hh2;have hL:(acc++[l[i].name]).length=acc.length+1:=by simp
  have e1:acc.take acc.length++n :: acc.drop acc.length=acc++[l[i].name]:=by simp [hn]
  rw [cond_false] at hs;repeat' (first|refine af ?_ ?_|(refine aa 8 rfl ?_;refine aV (ak rfl rfl (aB rfl rfl) (aD [l[i].name] rfl rfl rfl rfl) rfl aL aL) rfl rfl rfl ?_)|refine ae ?_|exact ah|refine ab fun hb=>?_)
  refine ai (fun k=>k≤acc.length∧∀m∈acc.drop k,jo n m=true) (fun k=>bt [1000] [(0,.c (.sl iG l)),(3,.c (.own 1000)),(4,.i i),(7,.i k)] [(1000,.arr 9 pS (acc.take k++n :: acc.drop k))]) (fun k=>k) acc.length ⟨Nat.le_refl _,by simp⟩ (by dsimp only;rw [e1];exact a8 (qf [(1000,42)])) ?_;rintro k ⟨hk,hall⟩;have hW:(acc.take k++n :: acc.drop k).length=acc.length+1:=by simp;omega
  have hgk:(acc.take k++n :: acc.drop k)[k]? = some n:=by rw [List.getElem?_append_right (by simp;omega)];simp [Nat.min_eq_left hk]
  have hdone:(∀j (h:j<acc.length),j+1=k→jo n acc[j]=false)→gP n acc=acc.take k++n :: acc.drop k:=fun h2=>F4 hasc hk hall h2;by_cases hk0:k=0
  ·subst hk0;repeat' (first|refine af ?_ ?_|refine ae ?_|exact ah|refine ab fun hb=>?_)
   refine ⟨(i+1,gP n acc),⟨by dsimp only;omega,by dsimp only;rw [i7];omega,nJ hasc hnm,hs⟩,by dsimp only;omega,?_⟩;dsimp only;rw [hdone (fun j _ h=>by omega)];exact aN
  ·obtain ⟨m,hm⟩:∃m,acc[k-1]'(by omega)=m:=⟨_,rfl⟩;have hgm:(acc.take k++n :: acc.drop k)[((k:Int)-1).toNat]? = some m:=by
    rw [show ((k:Int)-1).toNat=k-1 by omega,List.getElem?_append_left (by simp;omega)];simp [←hm,List.getElem?_take,show k-1<k by omega,show k-1<acc.length by omega]
   have e3:acc.drop (k-1)=m :: acc.drop k:=by
    rw [List.drop_eq_getElem_cons (i:=k-1) (by omega),hm,show k-1+1=k by omega]
   have e4:acc.take k=acc.take (k-1)++[m]:=by
    have:=List.take_succ_eq_append_getElem (l:=acc) (i:=k-1) (by omega);rw [show k-1+1=k by omega,hm] at this;exact this
   have l1:(acc.take (k-1)).length=k-1:=by simp;omega
   have hset:((acc.take k++n :: acc.drop k).set k m).set ((k:Int)-1).toNat n=acc.take (k-1)++n :: acc.drop (k-1):=by
    rw [show ((k:Int)-1).toNat=k-1 by omega,e3,List.set_append_right _ _ (by simp;omega),e4];rw [show k-(acc.take (k-1)++[m]).length=0 by simp;omega,List.set_cons_zero,List.append_assoc,List.set_append_right _ _ (by omega),l1,Nat.sub_self];rfl
   have hW2:((acc.take k++n :: acc.drop k).set k m).length=acc.length+1:=by rw [List.length_set,hW]
   cases hc:jo n m with
   | false =>
    repeat' (first|refine af ?_ ?_|refine ae ?_|exact ah|refine ab fun hb=>?_)
    refine ⟨(i+1,gP n acc),⟨by dsimp only;omega,by dsimp only;rw [i7];omega,nJ hasc hnm,hs⟩,by dsimp only;omega,?_⟩;dsimp only;rw [hdone (fun j hj h=>by rw [←hc,←hm];congr 2;omega)];exact aN
   | true =>
    repeat' (first|refine af ?_ ?_|refine ae ?_|(refine aa 4 rfl ?_;first|(refine aR (aq (z:=m) rfl rfl rfl rfl (by first|assumption|exact List.getElem?_eq_getElem (by omega)) rfl rfl rfl rfl (Nat.le_of_ble_eq_true rfl) rfl rfl) rfl rfl rfl ?_)|(refine aR (aq (z:=n) rfl rfl rfl rfl (by first|assumption|exact List.getElem?_eq_getElem (by omega)) rfl rfl rfl rfl (Nat.le_of_ble_eq_true rfl) rfl rfl) rfl rfl rfl ?_))|exact ah|refine ab fun hb=>?_)
    refine ⟨k-1,⟨by omega,?_⟩,by omega,?_⟩
    ·rw [e3];intro y hy;rcases List.mem_cons.1 hy with rfl|hy
     ·exact hc
     ·exact hall y hy
    ·rw [←hset];exact aN
end Go.Proofs.YtjndcdcbjidocaaGreatDoor
