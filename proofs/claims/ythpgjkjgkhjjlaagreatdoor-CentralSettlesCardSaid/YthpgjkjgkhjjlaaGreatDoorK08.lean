/- Part K08 of a proof of statements of chapter 15 (no condition). -/
import Derived.Test.YthpgjkjgkhjjlaaGreatDoorK05
import Derived.Test.YthpgjkjgkhjjlaaGreatDoorK04
import Derived.Deep.MidRow
import Derived.Laws.CopyRow
import Derived.Orders
import Derived.Still
import Derived.Laws.MakeOwn
import Derived.Carry
import Derived.SizedLaws
import Derived.Deep.RegionLaw
import Derived.Ground.SlsfProg
import Derived.IntWalk
import Derived.JoinedTies
import Derived.KernelRfl
import Derived.Laws.BitsAllLaws
import Derived.Lib.SliceRun
import Derived.Lib.SmallJoins
import Derived.ProofKit
import Derived.Shelf.RegionOpenPlain
import Derived.Shelf.SlGeneric
import Derived.Shelf.SlLaysF0
import GoSem.Claim
import GoSem.ClaimJoined
import GoSem.ClaimMapViews
set_option linter.unusedVariables false
set_option linter.unusedSimpArgs false
set_option maxRecDepth 100000
set_option maxHeartbeats 64000000
namespace Go.Proofs.YthpgjkjgkhjjlaaGreatDoor
open Go.RowKit Go.Proofs.Tryz
def cr (a:Am):Bool:=cL a.mode && decide (a.units=0) || decide (a.mode=0) && decide (1<=a.units) && decide (a.units<=8)
def uO (x:Wt):Bool:=jW x.proc && cr x.am && decide (0<=x.prio) && decide (x.prio<=7) && decide (0<=x.passed) && decide (x.passed<=3)
def iS (p:Pr):Nat->List Wt->Int
 | _,[]=>-1
 | k,x :: l=>bif decide (x.proc=p) then (k:Int) else iS p (k+1) l
def eH (l:List Wt) (p:Pr):Int:=iS p 0 l
def BM (all:List Wt):Nat->List Wt->Bool
 | _,[]=>true
 | k,x :: l=>uO x && decide (eH all x.proc=(k:Int)) && BM all (k+1) l
def fc (l:List Wt):Bool:=decide (l.length<=8) && BM l 0 l
theorem nT (all:List Wt) (k:Nat) (x:Wt) (l:List Wt):BM all k (x :: l)=(uO x && decide (eH all x.proc=(k:Int)) && BM all (k+1) l):=rfl
theorem fx (p:Pr) (k:Nat) (x:Wt) (l:List Wt):iS p k (x :: l)=bif decide (x.proc=p) then (k:Int) else iS p (k+1) l:=rfl
theorem Di (m u:Int):cr ⟨m,u⟩=(aS ⟨⟨#[]⟩,1,1,0⟩ ⟨m,u⟩ || aS ⟨⟨#[]⟩,2,8,0⟩ ⟨m,u⟩):=by
 unfold cr aS br;simp
section
inductive Ex where
 | mk (k:Int) (atom:Tm) (kids:List Ex)
namespace Ex
def k:Ex->Int | .mk k _ _=>k
def atom:Ex->Tm | .mk _ a _=>a
def kids:Ex->List Ex | .mk _ _ l=>l
theorem ind {P:Ex->Prop} (h:∀k a l,(∀x∈l,P x)->P (.mk k a l)):∀x,P x:=by
 intro x;refine Ex.rec (motive_1:=P) (motive_2:=fun l=>∀x∈l,P x) h (fun x hx=>absurd hx (by simp)) (fun x l h1 h2 y hy=>?_) x;rcases List.mem_cons.1 hy with rfl|hy
 ·exact h1
 ·exact h2 _ hy
end Ex
def Ex.val (x:Ex) (A:Option Addr) (cap:Nat):Value:=.agg #[.int .i64 x.k,.string x.atom.name,.int .i64 x.atom.am.mode,.int .i64 x.atom.am.units,.slice A x.kids.length cap]
def Ex.zero:Ex:=.mk 0 ⟨⟨#[]⟩,Am.zero⟩ []
def pA:Nat->El Ex
 | 0=>{ n:=5,pos:=by decide,rep:=fun _ _ _ _=>False,len:=fun h=>h.elim,one:=fun h=>h.elim,same:=fun h _ _=>h.elim }
 | d+1=>{
  n:=5
  pos:=by decide
  rep:=fun w S x cs=>∃A cap,cs=[.int .i64 x.k,.string x.atom.name,.int .i64 x.atom.am.mode,.int .i64 x.atom.am.units,.slice A x.kids.length cap]/\x.kids.length<=cap/\cap<=maxLen/\RowsAt (pA d) w S A x.kids
  len:=fun h=>by obtain ⟨A,cap,rfl,_⟩:=h;rfl
  one:=fun h=>by obtain ⟨A,cap,rfl,_⟩:=h;intro u hu;simp at hu;rcases hu with rfl|rfl|rfl|rfl|rfl <;> rfl
  same:=fun h hk hS=>by
   obtain ⟨A,cap,e,h1,h2,h3⟩:=h;exact ⟨A,cap,e,h1,h2,h3.same hk hS⟩ }
section
variable {w:World} {S:Nat->Prop} {A:Option Addr} {i d:Nat}
theorem K0 {l:List Ex} {k:Int} {n:ByteArray} {m u:Int} {ks:List Ex} (h:RowsAt (pA d) w S A l) (hi:i<l.length) (hx:l[i] = .mk k ⟨n,⟨m,u⟩⟩ ks) :
  ∃g off A' cap,A=some ⟨g,off,none⟩/\S g/\w.cell? ⟨g,off+i*5,none⟩=some (.int .i64 k)/\w.cell? ⟨g,off+i*5+1,none⟩=some (.string n)/\w.cell? ⟨g,off+i*5+2,none⟩=some (.int .i64 m)/\w.cell? ⟨g,off+i*5+3,none⟩=some (.int .i64 u)/\w.cell? ⟨g,off+i*5+4,none⟩=some (.slice A' ks.length cap)/\ks.length<=cap/\cap<=maxLen/\∃d',d=d'+1/\RowsAt (pA d') w S A' ks:=by
 cases d with
 | zero =>
  obtain ⟨g,off,cs,_,_,hc,_⟩:=h.getx hi hx;exact hc.elim
 | succ d' =>
  obtain ⟨g,off,cs,hA,hS,hc,hd⟩:=h.getx hi hx;obtain ⟨A',cap,rfl,h1,h2,h3⟩:=hc;exact ⟨g,off,A',cap,hA,hS,hd 0 (show 0<5 by decide),hd 1 (show 1<5 by decide),hd 2 (show 2<5 by decide),hd 3 (show 3<5 by decide),hd 4 (show 4<5 by decide),h1,h2,d',rfl,h3⟩
end
mutual
def Ex.cnt:Ex->Nat
 | .mk _ _ l=>1+i9 l
def i9:List Ex->Nat
 | []=>0
 | x :: l=>x.cnt+i9 l
end
mutual
def Ex.dep:Ex->Nat
 | .mk _ _ l=>1+mv l
def mv:List Ex->Nat
 | []=>0
 | x :: l=>max x.dep (mv l)
end
theorem Ex.dep_mk (k:Int) (a:Tm) (l:List Ex):(Ex.mk k a l).dep=1+mv l:=rfl
theorem Ex.cnt_mk (k:Int) (a:Tm) (l:List Ex):(Ex.mk k a l).cnt=1+i9 l:=rfl
theorem rZ (x:Ex) (l:List Ex):mv (x :: l)=max x.dep (mv l):=rfl
theorem ig (x:Ex) (l:List Ex):i9 (x :: l)=x.cnt+i9 l:=rfl
theorem Ex.dep_pos (x:Ex):0<x.dep:=by cases x;rw [Ex.dep_mk];omega
theorem Ex.cnt_pos (x:Ex):0<x.cnt:=by cases x;rw [Ex.cnt_mk];omega
theorem uR:∀l:List Ex,l.length<=i9 l
 | []=>Nat.zero_le _
 | x :: l=>by have:=uR l;have:=x.cnt_pos;rw [ig,List.length_cons];omega
def Ds (x:Ex):Bool:=decide (x.dep<=4) && decide (x.cnt<=24)
mutual
def ku:Ex->Nat->Nat->Nat×Nat
 | .mk _ _ l,lev,n=>if 4<lev\/24<n+1 then (0,n+1) else oz l lev (n+1) 0
def oz:List Ex->Nat->Nat->Nat->Nat×Nat
 | [],_,n,d=>(d+1,n)
 | x :: l,lev,n,d=>if (ku x (lev+1) n).1=0 then (0,(ku x (lev+1) n).2) else oz l lev (ku x (lev+1) n).2 (max d (ku x (lev+1) n).1)
end
theorem Hg (k:Int) (a:Tm) (l:List Ex) (lev n:Nat):ku (.mk k a l) lev n=if 4<lev\/24<n+1 then (0,n+1) else oz l lev (n+1) 0:=rfl
theorem Jj (lev n d:Nat):oz [] lev n d=(d+1,n):=rfl
theorem xS (x:Ex) (l:List Ex) (lev n d:Nat):oz (x :: l) lev n d=if (ku x (lev+1) n).1=0 then (0,(ku x (lev+1) n).2) else oz l lev (ku x (lev+1) n).2 (max d (ku x (lev+1) n).1):=rfl
theorem Hh:∀(x:Ex) (lev n:Nat),(x.dep+lev<=5/\n+x.cnt<=24/\ku x lev n=(x.dep,n+x.cnt))\/(¬(x.dep+lev<=5/\n+x.cnt<=24)/\(ku x lev n).1=0/\((ku x lev n).2<=25\/(ku x lev n).2<=n+1)):=by
 refine Ex.ind (fun k a l ih=>?_);have hl:∀(m:List Ex) (lev n d:Nat),(∀x∈m,x∈l)->lev<=4->n<=24->(mv m+lev<=4/\n+i9 m<=24/\oz m lev n d=(max d (mv m)+1,n+i9 m))\/(¬(mv m+lev<=4/\n+i9 m<=24)/\(oz m lev n d).1=0/\(oz m lev n d).2<=25):=by
  intro m;induction m with
  | nil=>intro lev n d _ h1 h2;exact .inl ⟨by simpa [mv] using h1,by simpa [i9] using h2,by rw [Jj];simp [mv,i9]⟩
  | cons x m ihm =>
   intro lev n d hm h1 h2;rw [xS,rZ,ig];have hx0:=x.dep_pos;rcases ih x (hm x (by simp)) (lev+1) n with ⟨a1,a2,a3⟩|⟨a1,a2,a3⟩
   ·rw [a3];rw [if_neg (by show ¬x.dep=0;omega)];rcases ihm lev (n+x.cnt) (max d x.dep) (fun y hy=>hm y (by simp [hy])) h1 a2 with ⟨b1,b2,b3⟩|⟨b1,b2,b3⟩
    ·exact .inl ⟨by omega,by omega,by rw [b3];congr 1 <;> omega⟩
    ·exact .inr ⟨by omega,b2,b3⟩
   ·rw [if_pos a2];exact .inr ⟨by omega,rfl,by show (ku x (lev+1) n).2<=25;omega⟩
 intro lev n;rw [Hg,Ex.dep_mk,Ex.cnt_mk];by_cases hc:4<lev\/24<n+1
 ·rw [if_pos hc];exact .inr ⟨by omega,rfl,.inr (Nat.le_refl _)⟩
 ·rw [if_neg hc];rcases hl l lev (n+1) 0 (fun _ h=>h) (by omega) (by omega) with ⟨b1,b2,b3⟩|⟨b1,b2,b3⟩
  ·exact .inl ⟨by omega,by omega,by rw [b3];congr 1 <;> omega⟩
  ·exact .inr ⟨by omega,b2,.inl b3⟩
theorem NE (x:Ex):(ku x 1 0).1=if Ds x then x.dep else 0:=by
 unfold Ds;rcases Hh x 1 0 with ⟨a1,a2,a3⟩|⟨a1,a2,_⟩
 ·rw [a3];simp;omega
 ·rw [a2,if_neg];simp;omega
mutual
def iC:Ex->Nat->Nat×Nat
 | .mk _ _ l,dp=>if 4<dp\/24<l.length then (25,0) else lE l dp 1 0
def lE:List Ex->Nat->Nat->Nat->Nat×Nat
 | [],_,n,d=>(n,d+1)
 | x :: l,dp,n,d=>if 24<n+(iC x (dp+1)).1 then (25,0) else lE l dp (n+(iC x (dp+1)).1) (if d<(iC x (dp+1)).2 then (iC x (dp+1)).2 else d)
end
theorem Dt (k:Int) (a:Tm) (l:List Ex) (dp:Nat):iC (.mk k a l) dp=if 4<dp\/24<l.length then (25,0) else lE l dp 1 0:=rfl
theorem FU (dp n d:Nat):lE [] dp n d=(n,d+1):=rfl
theorem uS (x:Ex) (l:List Ex) (dp n d:Nat):lE (x :: l) dp n d=if 24<n+(iC x (dp+1)).1 then (25,0) else lE l dp (n+(iC x (dp+1)).1) (if d<(iC x (dp+1)).2 then (iC x (dp+1)).2 else d):=rfl
theorem xT:∀(x:Ex) (dp:Nat),(x.dep+dp<=5/\x.cnt<=24/\iC x dp=(x.cnt,x.dep))\/(¬(x.dep+dp<=5/\x.cnt<=24)/\iC x dp=(25,0)):=by
 refine Ex.ind (fun k a l ih=>?_);have hl:∀(m:List Ex) (dp n d:Nat),(∀x∈m,x∈l)->dp<=4->n<=24->(mv m+dp<=4/\n+i9 m<=24/\lE m dp n d=(n+i9 m,max d (mv m)+1))\/(¬(mv m+dp<=4/\n+i9 m<=24)/\lE m dp n d=(25,0)):=by
  intro m;induction m with
  | nil=>intro dp n d _ h1 h2;exact .inl ⟨by simpa [mv] using h1,by simpa [i9] using h2,by rw [FU];simp [mv,i9]⟩
  | cons x m ihm =>
   intro dp n d hm h1 h2;rw [uS,rZ,ig];have hx0:=x.dep_pos;rcases ih x (hm x (by simp)) (dp+1) with ⟨a1,a2,a3⟩|⟨a1,a3⟩
   ·rw [a3];by_cases hn:24<n+x.cnt
    ·rw [if_pos hn];exact .inr ⟨by omega,rfl⟩
    ·rw [if_neg hn];rcases ihm dp (n+x.cnt) (if d<x.dep then x.dep else d) (fun y hy=>hm y (by simp [hy])) h1 (by omega) with ⟨b1,b2,b3⟩|⟨b1,b2⟩
     ·refine .inl ⟨by omega,by omega,?_⟩;rw [b3];congr 1
      ·omega
      ·split <;> omega
     ·exact .inr ⟨by omega,b2⟩
   ·rw [a3,if_pos (by show 24<n+25;omega)];exact .inr ⟨by omega,rfl⟩
 intro dp;rw [Dt,Ex.dep_mk,Ex.cnt_mk];have hlen:=uR l;by_cases hc:4<dp\/24<l.length
 ·rw [if_pos hc];exact .inr ⟨by omega,rfl⟩
 ·rw [if_neg hc];rcases hl l dp 1 0 (fun _ h=>h) (by omega) (by omega) with ⟨b1,b2,b3⟩|⟨b1,b3⟩
  ·exact .inl ⟨by omega,by omega,by rw [b3];congr 1;omega⟩
  ·exact .inr ⟨by omega,b3⟩
theorem K1 (x:Ex):(24<(iC x 1).1) = ¬Ds x=true:=by
 unfold Ds;rcases xT x 1 with ⟨a1,a2,a3⟩|⟨a1,a3⟩ <;> rw [a3] <;> simp <;> omega
end
structure But (g:Nat) (w w':World):Prop where
 os:w'.os=w.os
 tape:w'.tape=w.tape
 output:w'.output=w.output
 size:w.heap.size<=w'.heap.size
 block:∀k,k<w.heap.size->k≠g->w'.heap[k]? = w.heap[k]?
section
variable {g:Nat} {a b c w w':World}
end
section
variable {X:Nat->Prop} {a b c w w':World} {u v v':Value} {base:Nat}
end
section
variable {α:Type} {e:TypeId} {n:Nat} {pos:0<n} {f:α->List Value} {len:∀x,(f x).length=n} {one:∀x,∀u∈f x,u.oneCell'=true}
theorem PA {w w':World} {S S':Nat->Prop}:∀{l:List α} {xs:List Value},Reps (El.plain n pos f len one) w S l xs->Reps (El.plain n pos f len one) w' S' l xs
 | [],_,h=>h
 | _ :: _,_,h=>by
  obtain ⟨cs,rest,rfl,h1,h2⟩:=h;exact ⟨cs,rest,rfl,h1,PA h2⟩
end
def jK:Tm:=⟨⟨#[]⟩,Am.zero⟩
def iD (a:Tm):Bool:=dh a.name.toList && cr a.am
def lF (a:Tm):List Tm->Bool
 | []=>false
 | b :: l=>bif decide (b=a) then true else lF a l
theorem r7 (a b:Tm) (l:List Tm):lF a (b :: l)=bif decide (b=a) then true else lF a l:=rfl
theorem mO (a:Tm) (l:List Tm):lF a l=true↔a∈l:=by
 induction l with
 | nil=>simp [lF]
 | cons b l ih =>
  rw [r7,List.mem_cons];by_cases h:b=a
  ·simp [h]
  ·simp [h,ih,Ne.symm h]
def iU (l:List Tm) (a:Tm):List Tm:=bif lF a l then l else l++[a]
def Ay (k:Int) (a:Tm) (l:List Ex):Bool:=bif l.isEmpty then decide (k=0) && iD a else decide (1<=k) && decide (k<=(l.length:Int)) && decide (a=jK)
mutual
def C9:Ex->Bool
 | .mk k a l=>Ay k a l && Jk l
def Jk:List Ex->Bool
 | []=>true
 | x :: l=>C9 x && Jk l
end
mutual
def fV:Ex->List Tm->List Tm
 | .mk _ a l,acc=>bif l.isEmpty then iU acc a else ia l acc
def ia:List Ex->List Tm->List Tm
 | [],acc=>acc
 | x :: l,acc=>ia l (fV x acc)
end
theorem r8 (k:Int) (a:Tm) (l:List Ex):C9 (.mk k a l)=(Ay k a l && Jk l):=rfl
theorem mP (x:Ex) (l:List Ex):Jk (x :: l)=(C9 x && Jk l):=rfl
theorem lG (k:Int) (a:Tm) (l:List Ex) (acc:List Tm):fV (.mk k a l) acc=bif l.isEmpty then iU acc a else ia l acc:=rfl
theorem ii (x:Ex) (l:List Ex) (acc:List Tm):ia (x :: l) acc=ia l (fV x acc):=rfl
def Hi (k:Int) (a:Tm) (acc:List Tm):Option (List Tm):=bif decide (k=0) && iD a then some (iU acc a) else none
def r9 (k:Int) (a:Tm) (l:List Ex):Bool:=decide (1<=k) && decide (k<=(l.length:Int)) && decide (a=jK)
mutual
def BR:Ex->List Tm->Option (List Tm)
 | .mk k a l,acc=>bif l.isEmpty then Hi k a acc else bif r9 k a l then FV l acc else none
def FV:List Ex->List Tm->Option (List Tm)
 | [],acc=>some acc
 | x :: l,acc=>(BR x acc).bind fun r=>FV l r
end
theorem Hj (k:Int) (a:Tm) (l:List Ex) (acc:List Tm):BR (.mk k a l) acc=bif l.isEmpty then Hi k a acc else bif r9 k a l then FV l acc else none:=rfl
theorem Az (x:Ex) (l:List Ex) (acc:List Tm):FV (x :: l) acc=(BR x acc).bind fun r=>FV l r:=rfl
theorem Hk:∀(x:Ex) (acc:List Tm),BR x acc=if C9 x then some (fV x acc) else none:=by
 refine Ex.ind (fun k a l ih=>?_);have hl:∀(m:List Ex) (acc:List Tm),(∀x∈m,x∈l)->FV m acc=if Jk m then some (ia m acc) else none:=by
  intro m;induction m with
  | nil=>intro acc _;rfl
  | cons x m ihm =>
   intro acc hm;rw [Az,mP,ii,ih x (hm x (by simp))];cases h:C9 x with
   | false=>simp
   | true=>simpa using ihm (fV x acc) fun y hy=>hm y (by simp [hy])
 intro acc;rw [Hj,r8,lG,hl l acc fun _ h=>h];unfold Ay Hi r9;cases hE:l.isEmpty with
 | true =>
  obtain rfl:=List.isEmpty_iff.1 hE;simp [Jk,Bool.cond_eq_ite]
 | false =>
  simp only [qCf];cases decide (1<=k) && decide (k<=(l.length:Int)) && decide (a=jK) <;> simp
theorem K2 (l:List Tm) (a:Tm):(iU l a).length<=l.length+1:=by
 unfold iU;cases lF a l <;> simp
theorem xU:∀(x:Ex) (acc:List Tm),(fV x acc).length<=acc.length+x.cnt:=by
 refine Ex.ind (fun k a l ih=>?_);have hl:∀(m:List Ex) (acc:List Tm),(∀x∈m,x∈l)->(ia m acc).length<=acc.length+i9 m:=by
  intro m;induction m with
  | nil=>intro acc _;exact Nat.le_refl _
  | cons x m ihm =>
   intro acc hm;rw [ii,ig];have h1:=ihm (fV x acc) fun y hy=>hm y (by simp [hy]);have h2:=ih x (hm x (by simp)) acc;omega
 intro acc;rw [lG,Ex.cnt_mk];cases l.isEmpty with
 | true=>have:=K2 acc a;simp only [qCt];omega
 | false=>have:=hl l acc (fun _ h=>h);simp only [qCf];omega
theorem K3 (x:Ex) (acc r:List Tm) (h:BR x acc=some r):r.length<=acc.length+x.cnt:=by
 rw [Hk] at h;split at h
 ·injection h with h;rw [<-h];exact xU x acc
 ·cases h
def iE:List Tm->List Tm->Tm->Option (List Tm)
 | [],acc,a=>if acc.length=8 then none else some (acc++[a])
 | b :: l,acc,a=>bif decide (a=b) then some acc else bif decide (a.name=b.name) then none else iE l acc a
theorem lH (b:Tm) (l acc:List Tm) (a:Tm):iE (b :: l) acc a=bif decide (a=b) then some acc else bif decide (a.name=b.name) then none else iE l acc a:=rfl
def Du (k:Int) (a:Tm) (acc:List Tm):Option (List Tm):=bif decide (k=0) && iD a then iE acc acc a else none
mutual
def Jl:Ex->List Tm->Option (List Tm)
 | .mk k a l,acc=>bif l.isEmpty then Du k a acc else bif r9 k a l then NF l acc else none
def NF:List Ex->List Tm->Option (List Tm)
 | [],acc=>some acc
 | x :: l,acc=>(Jl x acc).bind fun r=>NF l r
end
theorem FW (k:Int) (a:Tm) (l:List Ex) (acc:List Tm):Jl (.mk k a l) acc=bif l.isEmpty then Du k a acc else bif r9 k a l then NF l acc else none:=rfl
theorem xV (x:Ex) (l:List Ex) (acc:List Tm):NF (x :: l) acc=(Jl x acc).bind fun r=>NF l r:=rfl
def sa (l:List Tm):Prop:=l.length<=8/\l.Pairwise fun a b=>a.name≠b.name
theorem K4 (acc:List Tm) (a:Tm) (hacc:sa acc):(sa (iU acc a)->iE acc acc a=some (iU acc a))/\(¬sa (iU acc a)->iE acc acc a=none):=by
 have h:∀(l p:List Tm),acc=p++l->(∀b∈p,a≠b/\a.name≠b.name)->(sa (iU acc a)->iE l acc a=some (iU acc a))/\(¬sa (iU acc a)->iE l acc a=none):=by
  intro l;induction l with
  | nil =>
   intro p hp hn;have hno:lF a acc=false:=by
    rw [Bool.eq_false_iff];intro h;rw [mO,hp,List.append_nil] at h;exact (hn a h).1 rfl
   have he:iU acc a=acc++[a]:=by unfold iU;rw [hno];rfl
   rw [he];unfold sa iE;rw [List.length_append,List.pairwise_append];have hp2:∀b∈acc,∀c∈[a],b.name≠c.name:=by
    intro b hb c hc;rw [List.mem_singleton.1 hc];rw [hp,List.append_nil] at hb;exact fun e=>(hn b hb).2 e.symm
   constructor
   ·intro h;rw [if_neg];have:=h.1;simp at this;omega
   ·intro h;rw [if_pos];have h8:=hacc.1;refine Classical.byContradiction fun h9=>h ⟨by simp;omega,hacc.2,by simp,hp2⟩
  | cons b l ih =>
   intro p hp hn;rw [lH];by_cases h1:a=b
   ·have hi:lF a acc=true:=by rw [mO,hp,h1];simp
    have he:iU acc a=acc:=by unfold iU;rw [hi];rfl
    rw [he];simp [h1,hacc]
   ·by_cases h2:a.name=b.name
    ·have hb:b∈acc:=by rw [hp];simp
     have hno:lF a acc=false:=by
      rw [Bool.eq_false_iff];intro h;rw [mO] at h;have hpw:=hacc.2;rcases List.mem_iff_getElem.1 h with ⟨i,hi,ei⟩;rcases List.mem_iff_getElem.1 hb with ⟨j,hj,ej⟩;rw [List.pairwise_iff_getElem] at hpw;rcases Nat.lt_trichotomy i j with hij|hij|hij
      ·exact hpw i j hi hj hij (by rw [ei,ej];exact h2)
      ·subst hij;exact h1 (ei.symm.trans ej)
      ·exact hpw j i hj hi hij (by rw [ei,ej];exact h2.symm)
     have he:iU acc a=acc++[a]:=by unfold iU;rw [hno];rfl
     have hbad:¬sa (iU acc a):=by
      rw [he];intro h;have:=(List.pairwise_append.1 h.2).2.2 b hb a (by simp);exact this h2.symm
     simp [h1,h2,hbad]
    ·simp only [h1,h2,decide_false,qCf];exact ih (p++[b]) (by rw [hp];simp) (by
      intro c hc;rcases List.mem_append.1 hc with hc|hc
      ·exact hn c hc
      ·rw [List.mem_singleton.1 hc];exact ⟨h1,h2⟩)
 exact h acc [] rfl (by simp)
theorem K5:∀(x:Ex) (acc:List Tm),∃t,fV x acc=acc++t:=by
 refine Ex.ind (fun k a l ih=>?_);have hl:∀(m:List Ex) (acc:List Tm),(∀x∈m,x∈l)->∃t,ia m acc=acc++t:=by
  intro m;induction m with
  | nil=>intro acc _;exact ⟨[],by simp [ia]⟩
  | cons x m ihm =>
   intro acc hm;obtain ⟨t,ht⟩:=ih x (hm x (by simp)) acc;obtain ⟨t',ht'⟩:=ihm (fV x acc) fun y hy=>hm y (by simp [hy]);exact ⟨t++t',by rw [ii,ht',ht,List.append_assoc]⟩
 intro acc;rw [lG];cases l.isEmpty with
 | true =>
  unfold iU;cases lF a acc with
  | true=>exact ⟨[],by simp⟩
  | false=>exact ⟨[a],rfl⟩
 | false=>exact hl l acc fun _ h=>h
theorem sb:∀(m:List Ex) (acc:List Tm),∃t,ia m acc=acc++t
 | [],acc=>⟨[],by simp [ia]⟩
 | x :: m,acc=>by
  obtain ⟨t,ht⟩:=K5 x acc;obtain ⟨t',ht'⟩:=sb m (fV x acc);exact ⟨t++t',by rw [ii,ht',ht,List.append_assoc]⟩
theorem NG {l t:List Tm} (h:sa (l++t)):sa l:=⟨by have:=h.1;simp at this;omega,(List.pairwise_append.1 h.2).1⟩
theorem Qh:∀(x:Ex) (acc:List Tm),sa acc->(C9 x=true/\sa (fV x acc)->Jl x acc=some (fV x acc))/\(¬(C9 x=true/\sa (fV x acc))->Jl x acc=none):=by
 refine Ex.ind (fun k a l ih=>?_);have hl:∀(m:List Ex) (acc:List Tm),(∀x∈m,x∈l)->sa acc->(Jk m=true/\sa (ia m acc)->NF m acc=some (ia m acc))/\(¬(Jk m=true/\sa (ia m acc))->NF m acc=none):=by
  intro m;induction m with
  | nil=>intro acc _ h;exact ⟨fun _=>rfl,fun h2=>absurd ⟨rfl,h⟩ h2⟩
  | cons x m ihm =>
   intro acc hm h;rw [xV,mP,ii];have hx:=ih x (hm x (by simp)) acc h;by_cases h1:C9 x=true/\sa (fV x acc)
   ·rw [hx.1 h1,Option.bind_some];have h2:=ihm (fV x acc) (fun y hy=>hm y (by simp [hy])) h1.2;rw [h1.1,Bool.true_and];exact h2
   ·rw [hx.2 h1,Option.bind_none];refine ⟨fun h2=>absurd ⟨?_,?_⟩ h1,fun _=>rfl⟩
    ·have:=h2.1;simp at this;exact this.1
    ·obtain ⟨t,ht⟩:=sb m (fV x acc);have:=h2.2;rw [ht] at this;exact NG this
 intro acc h;rw [FW,r8,lG];unfold Du Ay;cases hE:l.isEmpty with
 | true =>
  obtain rfl:=List.isEmpty_iff.1 hE;simp only [qCt,Jk,Bool.and_true];have hn:=K4 acc a h;cases hk:decide (k=0) && iD a with
  | true=>simpa using hn
  | false=>simp
 | false =>
  simp only [qCf];have h2:=hl l acc (fun _ h=>h) h;unfold r9;cases decide (1<=k) && decide (k<=(l.length:Int)) && decide (a=jK) with
  | true=>simpa using h2
  | false=>simp
theorem AA:∀(l acc:List Tm) (a:Tm) (r:List Tm),acc.length<=8->iE l acc a=some r->r.length<=8
 | [],acc,a,r,h,e=>by
  unfold iE at e;split at e
  ·cases e
  ·injection e with e;rw [<-e,List.length_append];simp;omega
 | b :: l,acc,a,r,h,e=>by
  rw [lH] at e;cases h1:decide (a=b) with
  | true=>rw [h1] at e;injection e with e;rw [<-e];exact h
  | false =>
   cases h2:decide (a.name=b.name) with
   | true=>rw [h1,h2] at e;cases e
   | false=>rw [h1,h2] at e;exact AA l acc a r h e
theorem NH:∀(x:Ex) (acc r:List Tm),acc.length<=8->Jl x acc=some r->r.length<=8:=by
 refine Ex.ind (fun k a l ih=>?_);have hl:∀(m:List Ex) (acc r:List Tm),(∀x∈m,x∈l)->acc.length<=8->NF m acc=some r->r.length<=8:=by
  intro m;induction m with
  | nil=>intro acc r _ h e;injection e with e;rw [<-e];exact h
  | cons x m ihm =>
   intro acc r hm h e;rw [xV] at e;cases h1:Jl x acc with
   | none=>rw [h1] at e;cases e
   | some r1 =>
    rw [h1] at e;exact ihm r1 r (fun y hy=>hm y (by simp [hy])) (ih x (hm x (by simp)) acc r1 h h1) e
 intro acc r h e;rw [FW] at e;unfold Du at e;cases hE:l.isEmpty with
 | true =>
  rw [hE] at e;cases hk:decide (k=0) && iD a with
  | true=>rw [hk] at e;exact AA acc acc a r h e
  | false=>rw [hk] at e;cases e
 | false =>
  rw [hE] at e;cases hg:r9 k a l with
  | true=>rw [hg] at e;exact hl l acc r (fun _ h=>h) h e
  | false=>rw [hg] at e;cases e
instance (l:List Tm):Decidable (sa l):=by unfold sa;infer_instance
def kv (x:Ex):Bool:=Ds x && (C9 x && decide (sa (fV x [])))
def bJ (x:Ex):List Tm:=bif kv x then fV x [] else []
theorem NI:sa []:=⟨by simp,List.Pairwise.nil⟩
theorem Qi (x:Ex):kv x=(Ds x && (Jl x []).isSome):=by
 have h:=Qh x [] NI;unfold kv;congr 1
 by_cases h1:C9 x=true/\sa (fV x [])
 ·rw [h.1 h1,h1.1];simp [h1.2]
 ·rw [h.2 h1];cases hs:C9 x with
  | false=>simp
  | true=>simp only [hs,true_and] at h1;simp [h1]
def Tt (base:Nat) (w:World) (b:Nat):Prop:=base<=b/\b<w.heap.size
section
variable {α:Type} {E:El α} {base:Nat} {w:World} {S:Nat->Prop} {e t:TypeId}
end
section
variable {α:Type} {e:TypeId} {n:Nat} {pos:0<n} {f:α->List Value} {len:∀x,(f x).length=n} {one:∀x,∀u∈f x,u.oneCell'=true}
theorem OwnRows.newP {w:World} {base:Nat} {v:Value} {l:List α} (h:OwnRows (El.plain n pos f len one) e w base v l):∃A cap,v = .slice A l.length cap/\RowsAt (El.plain n pos f len one) w (Tt base w) A l/\l.length<=cap:=by
 rcases Nat.eq_zero_or_pos l.length with hl|hl
 ·obtain ⟨A,cap,hv,_,hc,_⟩:=h.form;obtain rfl:l=[]:=List.eq_nil_of_length_eq_zero hl;exact ⟨A,cap,hv,RowsAt.nil _ _ _ _,hc⟩
 ·obtain ⟨g,cap,hv,hg,hg2,hc,_,_,hr⟩:=h.addr hl;obtain ⟨xs,h1,h2⟩:=hr;refine ⟨_,cap,hv,⟨xs,PA h1,fun hp=>?_⟩,hc⟩;obtain ⟨b,off,hA,_,hcells⟩:=h2 hp;injection hA with hA;injection hA with e1 e2;subst e1;subst e2;exact ⟨_,_,rfl,⟨hg,hg2⟩,hcells⟩
end
def All2 {α:Type _} {β:Type _} (R:α->β->Prop):List α->List β->Prop
 | [],[]=>True
 | a :: l,b :: m=>R a b/\All2 R l m
 | _,_=>False
section
variable {α:Type _} {β:Type _} {R R':α->β->Prop}
theorem All2.length:∀{l:List α} {m:List β},All2 R l m->l.length=m.length
 | [],[],_=>rfl
 | _ :: _,_ :: _,h=>by simp [All2.length h.2]
 | [],_ :: _,h=>h.elim
 | _ :: _,[],h=>h.elim
theorem All2.imp:∀{l:List α} {m:List β},All2 R l m->(∀a b,a∈l->R a b->R' a b)->All2 R' l m
 | [],[],_,_=>trivial
 | _ :: _,_ :: _,h,f=>⟨f _ _ (by simp) h.1,All2.imp h.2 fun a b ha=>f a b (by simp [ha])⟩
 | [],_ :: _,h,_=>h.elim
 | _ :: _,[],h,_=>h.elim
theorem All2.get:∀{l:List α} {m:List β},All2 R l m->∀{i:Nat} {a:α},l[i]? = some a->∃b,m[i]? = some b/\R a b
 | [],[],_,_,_,h=>by simp at h
 | _ :: _,_ :: _,h,0,_,e=>by simp at e;subst e;exact ⟨_,by simp,h.1⟩
 | _ :: _,_ :: _,h,i+1,_,e=>by simpa using All2.get h.2 (by simpa using e)
 | [],_ :: _,h,_,_,_=>h.elim
 | _ :: _,[],h,_,_,_=>h.elim
theorem All2.append:∀{l l':List α} {m m':List β},All2 R l m->All2 R l' m'->All2 R (l++l') (m++m')
 | [],_,[],_,_,k=>k
 | _ :: _,_,_ :: _,_,h,k=>⟨h.1,All2.append h.2 k⟩
 | [],_,_ :: _,_,h,_=>h.elim
 | _ :: _,_,[],_,h,_=>h.elim
theorem All2.drop:∀(k:Nat) {l:List α} {m:List β},All2 R l m->All2 R (l.drop k) (m.drop k)
 | 0,_,_,h=>by simpa using h
 | _+1,[],[],_=>trivial
 | k+1,_ :: _,_ :: _,h=>by simpa using All2.drop k h.2
 | _+1,[],_ :: _,h=>h.elim
 | _+1,_ :: _,[],h=>h.elim
theorem All2.take:∀(k:Nat) {l:List α} {m:List β},All2 R l m->All2 R (l.take k) (m.take k)
 | 0,_,_,h=>by simp [All2]
 | _+1,[],[],_=>trivial
 | k+1,_ :: _,_ :: _,h=>by simpa using ⟨h.1,All2.take k h.2⟩
 | _+1,[],_ :: _,h=>h.elim
 | _+1,_ :: _,[],h=>h.elim
theorem All2.mapL {γ:Type _} {f:γ->α}:∀{l:List γ} {m:List β},All2 R (l.map f) m↔All2 (fun c b=>R (f c) b) l m
 | [],[]=>Iff.rfl
 | _ :: _,_ :: _=>and_congr Iff.rfl All2.mapL
 | [],_ :: _=>Iff.rfl
 | _ :: _,[]=>Iff.rfl
end
inductive D:Type 1 where
 | any
 | sc (v:Value)
 | sl {α:Type} (E:El α) (l:List α)
 | full {α:Type} (E:El α) (l:List α)
 | own (k:Nat)
 | slb (k n:Nat)
 | ptr (k off:Nat)
 | eptr {α:Type} (E:El α) (l:List α) (i off:Nat)
 | optr (k m i off:Nat)
 | ocut (k:Nat)
 | osl (k m lo hi:Nat) (fl:Bool)
 | clo (f:FuncId) (ks:List Nat)
inductive V0:Type 1 where
 | one (d:D)
 | ag (l:List D)
inductive TV:Type 1 where
 | v (x:V0)
 | tup (l:List V0)
inductive Box:Type 1 where
 | box (t:TypeId) (cs:List D)
 | arr {α:Type} (e:TypeId) (E:El α) (l:List α)
 | mp (l:List (Value×Value))
 | it (k n:Nat) (seen:List Nat)
structure Mst:Type 1 where
 t:Nat->TV
 h:Nat->Option Box
 f:Nat->Bool
def kb:Value->Option Nat
 | .pointer (some a)=>some a.block
 | .slice (some a) _ _=>some a.block
 | .map (some b)=>some b
 | _=>none
def fM:Nat->List (Value×Value)->List MapEntry
 | _,[]=>[]
 | i,x :: l=>⟨x.1,x.2,i⟩ :: fM (i+1) l
def mQ (l:List (Value×Value)):Obj:=.map (fM 0 l).toArray l.length
def D.rep (w:World) (F:Nat->Prop) (ρ:Nat->Value):D->Value->Prop
 | .any,_=>True
 | .sc x,v=>v=x
 | .sl E l,v=>∃A cap,v = .slice A l.length cap/\(l.length<=cap/\cap<=maxLen)/\RowsAt E w F A l
 | .full E l,v=>∃A,v = .slice A l.length l.length/\l.length<=maxLen/\RowsAt E w F A l
 | .own k,v=>v=ρ k
 | .slb k n,v=>∃g,ρ k = .pointer (some ⟨g,0,none⟩)/\v = .slice (some ⟨g,0,none⟩) n n
 | .ptr k off,v=>∃g,ρ k = .pointer (some ⟨g,0,none⟩)/\v = .pointer (some ⟨g,off,none⟩)
 | .eptr E l i off,v=>∃b o,v = .pointer (some ⟨b,o+i*E.n+off,none⟩)/\RowsAt E w F (some ⟨b,o,none⟩) l/\i<l.length
 | .optr k m i off,v=>∃g n cap,ρ k = .slice (some ⟨g,0,none⟩) n cap/\v = .pointer (some ⟨g,i*m+off,none⟩)
 | .ocut k,v=>∃A n cap c,ρ k = .slice A n cap/\(n<=c/\c<=cap)/\v = .slice A n c
 | .osl k m lo hi fl,v=>∃g n cap c A,ρ k = .slice (some ⟨g,0,none⟩) n cap/\(lo<=hi/\hi<=n/\hi<=lo+c/\lo+c<=cap)/\(fl=true->lo+c=hi)/\v = .slice (some A) (hi-lo) c/\(lo=0\/0<c->A=⟨g,lo*m,none⟩)
 | .clo f ks,v=>∃vs:List Value,v = .func (.func f) #[] vs.toArray/\All2 (fun k u=>u=ρ k) ks vs
def V0.rep (w:World) (F:Nat->Prop) (ρ:Nat->Value):V0->Value->Prop
 | .one d,v=>d.rep w F ρ v
 | .ag l,v=>∃cs:List Value,v = .agg cs.toArray/\All2 (D.rep w F ρ) l cs
def TV.rep (w:World) (F:Nat->Prop) (ρ:Nat->Value):TV->Value->Prop
 | .v x,u=>x.rep w F ρ u
 | .tup l,u=>∃vs:List Value,u = .tuple vs.toArray/\All2 (V0.rep w F ρ) l vs
def Box.rep (w:World) (F:Nat->Prop) (ρ:Nat->Value):Box->Value->Prop
 | .box t cs,v=>∃(g:Nat) (vs:List Value),v = .pointer (some ⟨g,0,none⟩)/\Blk w g t vs.toArray/\All2 (D.rep w F ρ) cs vs/\∀u∈vs,u.oneCell'=true
 | .arr e E l,v=>∃xs,w.ownsRow 0 e E.n v l.length xs/\Reps E w F l xs
 | .mp l,v=>∃g,v = .map (some g)/\w.heap[g]? = some (mQ l)
 | .it k n seen,v=>∃g m,v = .pointer (some ⟨g,0,none⟩)/\ρ k = .map (some m)/\w.heap[g]? = some (.mapIter (some m) n seen.toArray n)
def D.has (k:Nat):D->Bool
 | .own j | .slb j _ | .ptr j _ | .optr j _ _ _ | .ocut j | .osl j _ _ _ _=>j.beq k
 | .clo _ ks=>ks.any fun j=>j.beq k
 | _=>false
def V0.has (k:Nat):V0->Bool
 | .one d=>d.has k
 | .ag l=>l.any (D.has k)
def TV.has (k:Nat):TV->Bool
 | .v x=>x.has k
 | .tup l=>l.any (V0.has k)
def Box.has (k:Nat):Box->Bool
 | .box _ cs=>cs.any (D.has k)
 | .arr ..=>false
 | .mp _=>false
 | .it j _ _=>j.beq k
section
variable {w w':World} {F F':Nat->Prop} {ρ ρ':Nat->Value}
theorem D.rep.mono {d:D} {v:Value} (h:d.rep w F ρ v) (hF:∀b,F b->F' b/\w'.heap[b]? = w.heap[b]?) (hρ:∀k,d.has k=true->ρ' k=ρ k):d.rep w' F' ρ' v:=by
 have h1:∀b,F b->w'.heap[b]? = w.heap[b]?:=fun b hb=>(hF b hb).2;have h2:∀b,F b->F' b:=fun b hb=>(hF b hb).1;cases d with
 | any=>trivial
 | sc x=>exact h
 | sl E l=>obtain ⟨A,cap,e,h3,h4⟩:=h;exact ⟨A,cap,e,h3,h4.same h1 h2⟩
 | full E l=>obtain ⟨A,e,h3,h4⟩:=h;exact ⟨A,e,h3,h4.same h1 h2⟩
 | own k=>exact h.trans (hρ k (by simp [D.has])).symm
 | slb k n=>obtain ⟨g,h3,h4⟩:=h;exact ⟨g,(hρ k (by simp [D.has])).trans h3,h4⟩
 | ptr k off=>obtain ⟨g,h3,h4⟩:=h;exact ⟨g,(hρ k (by simp [D.has])).trans h3,h4⟩
 | eptr E l i off=>obtain ⟨b,o,e,h3,h4⟩:=h;exact ⟨b,o,e,h3.same h1 h2,h4⟩
 | optr k m i off=>obtain ⟨g,n,cap,h3,h4⟩:=h;exact ⟨g,n,cap,(hρ k (by simp [D.has])).trans h3,h4⟩
 | ocut k=>obtain ⟨A,n,cap,c,h3,h4⟩:=h;exact ⟨A,n,cap,c,(hρ k (by simp [D.has])).trans h3,h4⟩
 | osl k m lo hi fl=>obtain ⟨g,n,cap,c,A,h3,h4⟩:=h;exact ⟨g,n,cap,c,A,(hρ k (by simp [D.has])).trans h3,h4⟩
 | clo f ks=>obtain ⟨vs,e,h3⟩:=h;exact ⟨vs,e,h3.imp fun j u hj (hu:u=ρ j)=>hu.trans (hρ j (by simp only [D.has];exact List.any_eq_true.2 ⟨j,hj,Nat.beq_refl j⟩)).symm⟩
theorem V0.rep.mono {d:V0} {v:Value} (h:d.rep w F ρ v) (hF:∀b,F b->F' b/\w'.heap[b]? = w.heap[b]?) (hρ:∀k,d.has k=true->ρ' k=ρ k):d.rep w' F' ρ' v:=by
 cases d with
 | one d=>exact D.rep.mono (d:=d) h hF hρ
 | ag l =>
  obtain ⟨cs,e,h1⟩:=h;exact ⟨cs,e,h1.imp fun a b ha (h2:D.rep w F ρ a b)=>D.rep.mono h2 hF fun k hk=>hρ k (by simp only [V0.has,List.any_eq_true];exact ⟨a,ha,hk⟩)⟩
theorem TV.rep.mono {d:TV} {v:Value} (h:d.rep w F ρ v) (hF:∀b,F b->F' b/\w'.heap[b]? = w.heap[b]?) (hρ:∀k,d.has k=true->ρ' k=ρ k):d.rep w' F' ρ' v:=by
 cases d with
 | v d=>exact V0.rep.mono (d:=d) h hF hρ
 | tup l =>
  obtain ⟨cs,e,h1⟩:=h;exact ⟨cs,e,h1.imp fun a b ha (h2:V0.rep w F ρ a b)=>V0.rep.mono h2 hF fun k hk=>hρ k (by simp only [TV.has,List.any_eq_true];exact ⟨a,ha,hk⟩)⟩
theorem BS {e:TypeId} {n m:Nat} {v:Value} {xs:List Value} (h:w.ownsRow 0 e n v m xs) (hb:∀g,kb v=some g->w'.heap[g]? = w.heap[g]?):w'.ownsRow 0 e n v m xs:=by
 refine ⟨h.1,?_⟩;rcases h.2 with hn|⟨g,cap,cur,hv,hg,hh,rest⟩
 ·exact .inl hn
 ·exact .inr ⟨g,cap,cur,hv,hg,by rw [hb g (by rw [hv];rfl)];exact hh,rest⟩
theorem Box.rep.mono {d:Box} {v:Value} (h:d.rep w F ρ v) (hb:∀g,kb v=some g->w'.heap[g]? = w.heap[g]?) (hF:∀b,F b->F' b/\w'.heap[b]? = w.heap[b]?) (hρ:∀k,d.has k=true->ρ' k=ρ k):d.rep w' F' ρ' v:=by
 cases d with
 | box t cs =>
  obtain ⟨g,vs,e,h1,h2,h3⟩:=h;exact ⟨g,vs,e,(hb g (by rw [e];rfl)).trans h1,h2.imp fun a b ha (h4:D.rep w F ρ a b)=>D.rep.mono h4 hF fun k hk=>hρ k (by simp only [Box.has,List.any_eq_true];exact ⟨a,ha,hk⟩),h3⟩
 | arr e E l =>
  obtain ⟨xs,h1,h2⟩:=h;exact ⟨xs,BS h1 hb,h2.same (fun b hb2=>(hF b hb2).2) fun b hb2=>(hF b hb2).1⟩
 | mp l =>
  obtain ⟨g,e,h1⟩:=h;exact ⟨g,e,(hb g (by rw [e];rfl)).trans h1⟩
 | it k n seen =>
  obtain ⟨g,m,e,h1,h2⟩:=h;exact ⟨g,m,e,(hρ k (by simp [Box.has])).trans h1,(hb g (by rw [e];rfl)).trans h2⟩
theorem Box.lt {d:Box} {v:Value} {g:Nat} (h:d.rep w F ρ v) (hg:kb v=some g):g<w.heap.size:=by
 cases d with
 | box t cs =>
  obtain ⟨g',vs,e,h1,_⟩:=h;subst e;injection hg with hg;subst hg;exact h1.lt
 | arr e E l =>
  obtain ⟨xs,h1,h2⟩:=h;rcases h1.2 with ⟨hv,hn⟩|⟨g',cap,cur,hv,_,hh,_⟩
  ·subst hv;cases hg
  ·subst hv;injection hg with hg;subst hg;exact (Array.getElem?_eq_some_iff.1 hh).1
 | mp l =>
  obtain ⟨g',e,h1⟩:=h;subst e;injection hg with hg;subst hg;exact (Array.getElem?_eq_some_iff.1 h1).1
 | it k n seen =>
  obtain ⟨g',m,e,_,h1⟩:=h;subst e;injection hg with hg;subst hg;exact (Array.getElem?_eq_some_iff.1 h1).1
end
def PinW (w:World) (X:Nat->Prop):Prop:=Tog w/\¬X 1
theorem PinW.sub {w w':World} {X X':Nat->Prop} (h:PinW w X) (hw:∀b,b<w.heap.size->¬X b->w'.heap[b]? = w.heap[b]?) (hX:∀b,b<w.heap.size->X' b->X b):PinW w' X':=by
 have hb:1<w.heap.size:=World.block_lt_of_cell? w _ (h.1.at_ 0 0 (by decide) (by decide));exact ⟨⟨fun i j hi hj=>(World.cell?_of_block (a:=⟨1,i*5+j,none⟩) (hw _ hb h.2)).trans (h.1.at_ i j hi hj)⟩,fun hx=>h.2 (hX _ hb hx)⟩
structure Ctx where
 w0:World
 S:Nat->Prop
 X:Nat->Prop
 nt:Nat
 K:List Nat
 ρ0:Nat->Value
 hS:∀b,S b->b<w0.heap.size
 hX:∀b,X b->S b
 hpin:PinW w0 X:=by exact trivial
 dfr:List Deferred:=[]
def Fz (c:Ctx) (h:Nat->Option Box) (ρ:Nat->Value) (w:World) (b:Nat):Prop :=
 (c.S b\/c.w0.heap.size<=b)/\b<w.heap.size/\∀k bx,h k=some bx->kb (ρ k)≠some b
structure Frx (w w':World) (M:Nat->Prop):Prop where
 os:w'.os=w.os
 tape:w'.tape=w.tape
 output:w'.output=w.output
 size:w.heap.size<=w'.heap.size
 keep:∀b,b<w.heap.size->¬M b->w'.heap[b]? = w.heap[b]?
theorem Frx.refl (w:World) (M:Nat->Prop):Frx w w M:=⟨rfl,rfl,rfl,Nat.le_refl _,fun _ _ _=>rfl⟩
theorem Frx.drew {w w':World} {M:Nat->Prop} (h:Frx w w' M):Frx w { w' with drawn:=w'.drawn+1 } M:=⟨h.os,h.tape,h.output,h.size,h.keep⟩
theorem Frx.alloc (w:World) (o:Obj) (M:Nat->Prop):Frx w (w.alloc o) M:=⟨rfl,rfl,rfl,by simp,fun b hb _=>Below.heap_alloc w o b hb⟩
theorem Frx.below {w w':World} {M:Nat->Prop} (h:Below w.heap.size w w'):Frx w w' M:=⟨h.os,h.tape,h.output,h.size,fun b hb _=>h.block b hb⟩
structure Mst.Wf (s:Mst):Prop where
 h:∀k,s.f k=true->s.h k=none
 t:∀k t,s.f k=true->(s.t t).has k=false
 b:∀k k' b,s.f k=true->s.h k'=some b->b.has k=false
structure Rp (c:Ctx) (s:Mst) (ρ:Nat->Value) (a:Act) (w:World):Prop where
 dfr:a.defers=c.dfr
 siz:a.tmps.size=c.nt
 frm:Frx c.w0 w c.X
 tmp:∀t,(s.t t).rep w (Fz c s.h ρ w) ρ (a.tmps.getD t undef)
 hp:∀k b,s.h k=some b->b.rep w (Fz c s.h ρ w) ρ (ρ k)
 inb:∀k b g,s.h k=some b->kb (ρ k)=some g->c.X g\/c.w0.heap.size<=g
 dis:∀k k' b b' g,s.h k=some b->s.h k'=some b'->kb (ρ k)=some g->kb (ρ k')=some g->k=k'
 ent:∀k,k∈c.K->ρ k=c.ρ0 k/\s.f k=false
 wf:s.Wf
section
variable {c:Ctx} {s s':Mst} {ρ ρ':Nat->Value} {a a':Act} {w w':World} {M:Nat->Prop}
theorem Rp.pin (h:Rp c s ρ a w):PinW w fun _=>False:=c.hpin.sub h.frm.keep fun _ _ h=>h.elim
theorem Rp.ltb (h:Rp c s ρ a w) {k:Nat} {b:Box} {g:Nat} (hk:s.h k=some b) (hg:kb (ρ k)=some g):g<w.heap.size:=Box.lt (h.hp k b hk) hg
structure Stp (c:Ctx) (s s':Mst) (ρ ρ':Nat->Value) (w w':World) (M:Nat->Prop):Prop where
 ch:∀k,¬M k->s'.h k=s.h k
 pl:∀k,s.f k=false->ρ' k=ρ k
 fr:∀k,s'.f k=true->s.f k=true
 fw:Frx w w' fun b=>∃k bx,M k/\s.h k=some bx/\kb (ρ k)=some b
 nb:∀k bx g,M k->s'.h k=some bx->kb (ρ' k)=some g->g<w'.heap.size/\(w.heap.size<=g\/∃k0 b0,M k0/\s.h k0=some b0/\kb (ρ k0)=some g)
 ds:∀k k' b b' g,M k->M k'->s'.h k=some b->s'.h k'=some b'->kb (ρ' k)=some g->kb (ρ' k')=some g->k=k'
theorem Rp.place (h:Rp c s ρ a w) (p:Stp c s s' ρ ρ' w w' M) {k:Nat} {b:Box} (hk:s.h k=some b):ρ' k=ρ k:=by
 refine p.pl k ?_;cases hf:s.f k with
 | false=>rfl
 | true=>rw [h.wf.h k hf] at hk;cases hk
theorem Rp.fz (h:Rp c s ρ a w) (p:Stp c s s' ρ ρ' w w' M):∀b,Fz c s.h ρ w b->Fz c s'.h ρ' w' b/\w'.heap[b]? = w.heap[b]?:=by
 intro b ⟨h1,h2,h3⟩;refine ⟨⟨h1,Nat.lt_of_lt_of_le h2 p.fw.size,fun k bx hk hg=>?_⟩,p.fw.keep b h2 fun ⟨k,bx,_,hk,hg⟩=>h3 k bx hk hg⟩;by_cases hm:M k
 ·rcases (p.nb k bx b hm hk hg).2 with h4|⟨k0,b0,_,hk0,hg0⟩
  ·omega
  ·exact h3 k0 b0 hk0 hg0
 ·rw [p.ch k hm] at hk;rw [h.place p hk] at hg;exact h3 k bx hk hg
theorem Rp.old (h:Rp c s ρ a w) (p:Stp c s s' ρ ρ' w w' M) {d:TV} {v:Value} (hd:d.rep w (Fz c s.h ρ w) ρ v) (hk:∀k,s.f k=true->d.has k=false):d.rep w' (Fz c s'.h ρ' w') ρ' v :=
 hd.mono (h.fz p) fun k hh=>p.pl k (by
  cases hf:s.f k with
  | false=>rfl
  | true=>rw [hk k hf] at hh;cases hh)
theorem Rp.step (h:Rp c s ρ a w) (p:Stp c s s' ρ ρ' w w' M) (hd:a'.defers=c.dfr) (hsz:a'.tmps.size=c.nt) (hwf:s'.Wf) (hfr:∀k,k∈c.K->s'.f k=false)
  (hnew:∀k bx,M k->s'.h k=some bx->bx.rep w' (Fz c s'.h ρ' w') ρ' (ρ' k))
  (htmp:∀t,(s'.t t).rep w' (Fz c s'.h ρ' w') ρ' (a'.tmps.getD t undef)):Rp c s' ρ' a' w' where
 dfr:=hd
 siz:=hsz
 frm:=⟨p.fw.os.trans h.frm.os,p.fw.tape.trans h.frm.tape,p.fw.output.trans h.frm.output,Nat.le_trans h.frm.size p.fw.size,fun b hb hx=>by
  rw [p.fw.keep b (Nat.lt_of_lt_of_le hb h.frm.size) fun ⟨k,bx,_,hk,hg⟩=>?_,h.frm.keep b hb hx];rcases h.inb k bx b hk hg with h1|h1
  ·exact hx h1
  ·omega⟩
 tmp:=htmp
 hp:=fun k b hk=>by
  by_cases hm:M k
  ·exact hnew k b hm hk
  ·rw [p.ch k hm] at hk;have hpl:=h.place p hk;rw [hpl];refine (h.hp k b hk).mono (fun g hg=>p.fw.keep g (h.ltb hk hg) fun ⟨k',b',hm',hk',hg'⟩=>hm (by rw [h.dis k k' b b' g hk hk' hg hg'];exact hm')) (h.fz p) fun k' hh=>p.pl k' ?_;cases hf:s.f k' with
   | false=>rfl
   | true=>rw [h.wf.b k' k b hf hk] at hh;cases hh
 inb:=fun k b g hk hg=>by
  by_cases hm:M k
  ·rcases (p.nb k b g hm hk hg).2 with h1|⟨k0,b0,_,hk0,hg0⟩
   ·exact .inr (Nat.le_trans h.frm.size h1)
   ·exact h.inb k0 b0 g hk0 hg0
  ·rw [p.ch k hm] at hk;rw [h.place p hk] at hg;exact h.inb k b g hk hg
 dis:=by
  have mix:∀k k' b b' g,M k->¬M k'->s'.h k=some b->s'.h k'=some b'->kb (ρ' k)=some g->kb (ρ' k')=some g->False:=fun k k' b b' g hm hm' hk hk' hg hg'=>by
   rw [p.ch k' hm'] at hk';rw [h.place p hk'] at hg';rcases (p.nb k b g hm hk hg).2 with h1|⟨k0,b0,hm0,hk0,hg0⟩
   ·have:=h.ltb hk' hg';omega
   ·exact hm' (by rw [<-h.dis k0 k' b0 b' g hk0 hk' hg0 hg'];exact hm0)
  intro k k' b b' g hk hk' hg hg';by_cases hm:M k
  ·by_cases hm':M k'
   ·exact p.ds k k' b b' g hm hm' hk hk' hg hg'
   ·exact (mix k k' b b' g hm hm' hk hk' hg hg').elim
  ·by_cases hm':M k'
   ·exact (mix k' k b' b g hm' hm hk' hk hg' hg).elim
   ·rw [p.ch k hm] at hk;rw [p.ch k' hm'] at hk';rw [h.place p hk] at hg;rw [h.place p hk'] at hg';exact h.dis k k' b b' g hk hk' hg hg'
 ent:=fun k hk=>⟨(p.pl k (h.ent k hk).2).trans (h.ent k hk).1,hfr k hk⟩
 wf:=hwf
end
structure Mef:Type 1 where
 d:TV
 hs:List (Nat×Option Box)
 us:List Nat
def aX:List Nat->Nat->Bool
 | [],_=>false
 | k :: r,n=>k.beq n || aX r n
def aL:List (Nat×Option Box)->Nat->Bool
 | [],_=>false
 | (k,_) :: r,n=>k.beq n || aL r n
def hput:List (Nat×Option Box)->(Nat->Option Box)->Nat->Option Box
 | [],h=>h
 | (k,b) :: r,h=>fun n=>bif k.beq n then b else hput r h n
def mw:Option Nat->TV->(Nat->TV)->Nat->TV
 | none,_,t=>t
 | some k,d,t=>fun n=>bif k.beq n then d else t n
def Mst.app (s:Mst) (dst:Option Nat) (e:Mef):Mst:={ t:=mw dst e.d s.t,h:=hput e.hs s.h,f:=fun n=>s.f n && !aX e.us n }
abbrev TV.c (d:D):TV:=.v (.one d)
abbrev TV.i (n:Int):TV:=.v (.one (.sc (.int .i64 n)))
abbrev TV.b (x:Bool):TV:=.v (.one (.sc (.bool x)))
def BT:Value->TV
 | .agg cs=>.v (.ag (cs.toList.map .sc))
 | v=>.v (.one (.sc v))
def Mst.ev (s:Mst):Operand->TV
 | .tmp t=>s.t t
 | .const v=>BT v
 | .global g=>.v (.one (.sc (.pointer (some ⟨g,0,none⟩))))
 | .func f=>.v (.one (.sc (.func (.func f) #[] #[])))
theorem cz:∀{l:List (Nat×Option Box)} {h:Nat->Option Box} {n:Nat},aL l n=false->hput l h n=h n
 | [],_,_,_=>rfl
 | (k,b) :: r,h,n,e=>by
  simp only [aL,Bool.or_eq_false_iff] at e;simp only [hput,e.1,qCf];exact cz e.2
theorem BU:∀{l:List (Nat×Option Box)} {h h':Nat->Option Box} {n:Nat},aL l n=true->hput l h n=hput l h' n
 | [],_,_,_,e=>by simp [aL] at e
 | (k,b) :: r,h,h',n,e=>by
  simp only [hput];cases hk:k.beq n with
  | true=>rfl
  | false =>
   simp only [aL,hk,Bool.false_or] at e;simp only [qCf];exact BU e
theorem Jn {l m:List (Nat×Option Box)} {h:Nat->Option Box} (hd:∀n,aL l n=true->aL m n=false):hput l (hput m h)=hput m (hput l h):=by
 funext n
 cases hl:aL l n with
 | true=>rw [cz (hd n hl),BU hl]
 | false =>
  rw [cz hl];cases hm:aL m n with
  | true=>exact BU hm
  | false=>rw [cz hm,cz hm,cz hl]
theorem Jo {a b:Option Nat} {x y:TV} {t:Nat->TV} (h:∀d,a=some d->b≠some d):mw a x (mw b y t)=mw b y (mw a x t):=by
 cases a with
 | none=>rfl
 | some d =>
  cases b with
  | none=>rfl
  | some e =>
   have hne:d≠e:=fun he=>h d rfl (he▸rfl);funext n
   simp only [mw];cases h1:d.beq n with
   | false=>rfl
   | true =>
    have:e.beq n=false:=by
     cases h2:e.beq n with
     | false=>rfl
     | true=>exact absurd ((qNb h1).trans (qNb h2).symm) hne
    simp [this]
theorem BV {a:Option Nat} {x:TV} {t:Nat->TV} {n:Nat} (h:a≠some n):mw a x t n=t n:=by
 cases a with
 | none=>rfl
 | some d =>
  simp only [mw];cases h1:d.beq n with
  | false=>rfl
  | true=>exact absurd (by rw [qNb h1]) h
theorem Mst.app_comm {s:Mst} {a b:Option Nat} {x y:Mef} (h:∀d,a=some d->b≠some d) (hd:∀n,aL x.hs n=true->aL y.hs n=false):(s.app a x).app b y=(s.app b y).app a x:=by
 simp only [Mst.app,Mst.mk.injEq];refine ⟨(Jo h).symm,(Jn hd).symm,?_⟩;funext n
 cases s.f n <;> cases aX x.us n <;> cases aX y.us n <;> rfl
section
variable {c:Ctx} {s st:Mst} {ρ:Nat->Value} {a:Act} {w:World} {P:Program}
theorem All2.scs {w:World} {F:Nat->Prop} {ρ:Nat->Value}:∀(l:List Value),All2 (D.rep w F ρ) (l.map .sc) l
 | []=>trivial
 | x :: l=>⟨rfl,All2.scs l⟩
theorem Rp.ev (h:Rp c s ρ a w) (x:Operand):(s.ev x).rep w (Fz c s.h ρ w) ρ (a.eval x):=by
 cases x with
 | tmp t=>exact h.tmp t
 | const v =>
  cases v with
  | agg cs=>exact ⟨cs.toList,by simp [Act.eval],All2.scs _⟩
  | _=>exact rfl
 | global g=>exact rfl
 | func f=>exact rfl
theorem Rp.drew (h:Rp c s ρ a w):Rp c s ρ a { w with drawn:=w.drawn+1 } where
 dfr:=h.dfr
 siz:=h.siz
 frm:=⟨h.frm.os,h.frm.tape,h.frm.output,h.frm.size,h.frm.keep⟩
 tmp:=fun t=>(h.tmp t).mono (fun b hb=>⟨hb,rfl⟩) fun _ _=>rfl
 hp:=fun k b hk=>(h.hp k b hk).mono (fun _ _=>rfl) (fun b hb=>⟨hb,rfl⟩) fun _ _=>rfl
 inb:=h.inb
 dis:=h.dis
 ent:=h.ent
 wf:=h.wf
def LOp (P:Program) (o:Oper) (s:Mst) (R:List Nat) (e:Mef):Prop :=
 ∀(c:Ctx) (st:Mst) (ρ:Nat->Value) (a:Act) (w:World),Rp c st ρ a w->(∀x,x∈o.op.operands->st.ev x=s.ev x)->(∀k,aX R k=true->st.h k=s.h k)->(∀k,aX e.us k=true->st.f k=true)->(∀d,o.dst=some d->d<c.nt)->
  o.wp P a w (fun a' w'=>∃ρ',Rp c (st.app o.dst e) ρ' a' w') fun _ _ _=>False
theorem Oper.wp_post {o:Oper} {a:Act} {w:World} {K K':Act->World->Prop} {Q:Exit->Act->World->Prop} (h:o.wp P a w K fun _ _ _=>False) (hK:∀a w,K a w->K' a w):o.wp P a w K' Q:=by
 unfold Oper.wp at *
 generalize (execOp a.eval o).run P w=r at *
 cases r with
 | ok n w' =>
  cases n <;> simp only [Oper.upon] at h ⊢ <;>
   first|exact hK _ _ h|exact Calls.mono h (fun e w'' he=>by cases e <;> first|exact hK _ _ he|exact he.elim|(obtain ⟨_,_,hf⟩:=he;exact hf.elim))|exact Rows.mono h (fun _ _ he=>hK _ _ he)
 | halt x w'=>cases x <;> simp only [Oper.upon] at h
def Mst.gd (s:Mst) (ops:Array Oper) (o:Oper):Option Bool :=
 match o.guard with
 | none=>some true
 | some (j,want) =>
  match ((ops[j]?).bind (·.dst)).map s.t with
  | some (.v (.one (.sc (.bool b))))=>some (b == want)
  | some (.v (.one (.sc (.tuple _))))=>some false
  | _=>none
theorem Rp.gd {ops:Array Oper} {o:Oper} {g:Bool} (h:Rp c s ρ a w) (hg:s.gd ops o=some g):Region.wanted o (yielded ops a.tmps)=g:=by
 unfold Mst.gd at hg;unfold Region.wanted;split at hg
 ·rename_i h1
  rw [h1];exact Option.some.inj hg
 ·rename_i j want h1
  rw [h1];dsimp only;unfold yielded;cases hd:(ops[j]?).bind (·.dst) with
  | none=>rw [hd] at hg;simp at hg
  | some t =>
   rw [hd] at hg;simp only [Option.map_some,Option.bind_some] at hg ⊢;have ht:=h.tmp t;generalize s.t t=d at *
   split at hg
   ·rename_i b hb
    injection hb with hb;subst hb;have h2:a.tmps.getD t undef = .bool b:=ht;have h3:a.tmps[t]? = some (.bool b):=by
     rw [Array.getD_eq_getD_getElem?] at h2;cases h4:a.tmps[t]? with
     | none=>rw [h4] at h2;simp [undef] at h2
     | some v=>rw [h4] at h2;simp at h2;rw [h2]
    rw [h3];have hg:=Option.some.inj hg;rw [<-hg];cases b <;> cases want <;> rfl
   ·rename_i vs hb
    injection hb with hb;subst hb;have h2:a.tmps.getD t undef = .tuple vs:=ht;rw [Array.getD_eq_getD_getElem?] at h2;have hg:=Option.some.inj hg;rw [<-hg];cases h4:a.tmps[t]? with
    | none=>rfl
    | some v=>rw [h4] at h2;simp at h2;subst h2;rfl
   ·cases hg
def DW (P:Program) (ops:Array Oper):List Oper->List (List Nat×List Nat)->Mst->(Mst->Prop)->Prop
 | [],_,s,K=>K s
 | o :: r,fps,s,K=>∃R W fps',fps=(R,W) :: fps'/\∃g,s.gd ops o=some g/\
   (g=true->∃e,(LOp P o s R e/\(∀k,aL e.hs k=true->aX W k=true)/\∀k,aX e.us k=true->s.f k=true)/\DW P ops r fps' (s.app o.dst e) K)/\
   (g=false->DW P ops r fps' (s.app o.dst ⟨.c (.sc undef),[],[]⟩) K)
def jv (nt:Nat) (l:List Oper):Bool:=l.all fun o=>match o.dst with|some d=>Nat.blt d nt|none=>true
theorem AB {nt:Nat} {l:List Oper} (h:jv nt l=true) {o:Oper} (ho:o∈l) {d:Nat} (hd:o.dst=some d):d<nt:=by
 have:=List.all_eq_true.1 h o ho;rw [hd] at this;simpa using this
theorem Rp.put_any (h:Rp c s ρ a w) (dst:Option Nat):Rp c (s.app dst ⟨.c (.sc undef),[],[]⟩) ρ (a.put dst undef) w where
 dfr:=by cases dst <;> exact h.dfr
 siz:=by cases dst <;> simp [Act.put,h.siz]
 frm:=h.frm
 tmp:=fun t=>by
  cases dst with
  | none=>exact h.tmp t
  | some d =>
   simp only [Mst.app,mw];by_cases e:d=t
   ·subst e;simp only [Nat.beq_refl,qCt];show (a.tmps.setIfInBounds d undef).getD d undef=undef;rw [Array.getD_eq_getD_getElem?,Array.getElem?_setIfInBounds];simp only [if_true];split <;> rfl
   ·have:d.beq t=false:=by
     cases h2:d.beq t with
     | false=>rfl
     | true=>exact absurd (qNb h2) e
    simp only [this,qCf,Act.put,Array.getD_eq_getD_getElem?,Array.getElem?_setIfInBounds_ne e];have:=h.tmp t
    rwa [Array.getD_eq_getD_getElem?] at this
 hp:=h.hp
 inb:=h.inb
 dis:=h.dis
 ent:=fun k hk=>⟨(h.ent k hk).1,by simp [Mst.app,aX,(h.ent k hk).2]⟩
 wf:=⟨fun k hk=>h.wf.h k (by simpa [Mst.app,aX] using hk),fun k t hk=>by
   have hk':s.f k=true:=by simpa [Mst.app,aX] using hk
   cases dst with
   | none=>exact h.wf.t k t hk'
   | some d =>
    simp only [Mst.app,mw];cases d.beq t with
    | true=>rfl
    | false=>exact h.wf.t k t hk',fun k k' b hk hb=>h.wf.b k k' b (by simpa [Mst.app,aX] using hk) hb⟩
def AW (P:Program) (nt:Nat) (K:List Nat) (code:Code) (Q:Exit->Mst->Prop) (s:Mst):Prop :=
 ∀(c:Ctx) (ρ:Nat->Value) (a:Act) (w:World),c.nt=nt->c.K=K->Rp c s ρ a w->code.wp P (fun e a' w'=>∃s' ρ',Q e s'/\Rp c s' ρ' a' w') a w
theorem lJ {ops:Array Oper} {Q:Exit->Act->World->Prop} (c:Ctx):∀(l:List Oper) (fps:List (List Nat×List Nat)) (s:Mst) (K:Mst->Prop),jv c.nt l=true->DW P ops l fps s K->(∀s' ρ' a' w',K s'->Rp c s' ρ' a' w'->Q .normal a' w')->
  ∀(ρ:Nat->Value) (a:Act) (w:World),Rp c s ρ a w->wpList P ops Q l a w
 | [],_,s,K,_,h,hQ,ρ,a,w,hr=>hQ s ρ a w h hr
 | o :: l,fps,s,K,hnt,h,hQ,ρ,a,w,hr=>by
  obtain ⟨R,W,fps',_,g,hg,h1,h2⟩:=h;have hnt':jv c.nt l=true:=by simp [jv] at hnt ⊢;exact hnt.2
  refine wpList_step fun K' hK'=>?_;rw [hr.gd hg];cases g with
  | true =>
   obtain ⟨e,⟨he,hkw,hu⟩,hn⟩:=h1 rfl;rw [if_pos rfl];have h3:=he c s ρ a w hr (fun _ _=>rfl) (fun _ _=>rfl) hu (fun d hd=>AB hnt (by simp) hd);refine Oper.wp_post h3 ?_;rintro a' w' ⟨ρ',hr'⟩;exact hK' _ _ (lJ c l fps' _ K hnt' hn hQ ρ' a' w' hr')
  | false =>
   rw [if_neg (by simp)];exact hK' _ _ (lJ c l fps' _ K hnt' (h2 rfl) hQ ρ _ w (hr.put_any o.dst))
theorem Jp {nt id:Nat} {Ks:List Nat} {l:List Oper} {fps:List (List Nat×List Nat)} {Q:Exit->Mst->Prop} (hnt:jv nt l=true) (h:DW P l.toArray l fps s fun s'=>Q .normal s'):AW P nt Ks (.region id l.toArray false) Q s:=by
 intro c ρ a w hc _ hr;subst hc;exact wp_region_lit (lJ c l fps s _ hnt h (fun s' ρ' a' w' hq hr'=>⟨s',ρ',hq,hr'⟩) ρ a w hr)
end
section
variable {P:Program} {ops:Array Oper}
def NL (ops:Array Oper):Nat->Nat->Nat->Bool
 | 0,_,_=>false
 | n+1,i,j=>match ops[j]? with
  | none=>false
  | some o=>o.after.any fun e=>Region.binds .any e && (e.on == i || NL ops n i e.on)
def RL (x y:List Nat×List Nat):Bool:=x.2.all (fun k=>!aX y.1 k && !aX y.2 k) && y.2.all fun k=>!aX x.1 k
def oL (fps:List (List Nat×List Nat)) (i:Nat):List Nat×List Nat:=fps.getD i ([],[])
def BW (ops:Array Oper) (fps:List (List Nat×List Nat)) (listed:Array Bool) (k:Nat):Bool :=
 match ops[k]? with
 | none=>false
 | some o=>(List.range ops.size).all fun j=>j == k || listed.getD j true || NL ops 6 k j || (match ops[j]? with|none=>true|some o'=>o.apart ops o' && RL (oL fps k) (oL fps j))
def pD (ops:Array Oper) (fps:List (List Nat×List Nat)):Nat->Nat->Array Bool->Bool
 | 0,_,listed=>(Region.ready .any ops listed).isEmpty
 | fuel+1,k,listed=>(Region.ready .any ops listed).contains k && BW ops fps listed k && pD ops fps fuel (k+1) (listed.setIfInBounds k true)
def DC (ops:Array Oper) (listed:Array Bool):Prop:=∀(k:Nat) (o:Oper),ops[k]? = some o->listed.getD k false=true->∀e∈o.after,Region.binds .any e=true->listed.getD e.on false=true
theorem Hm {l:Array Bool} {i:Nat} (h:l.getD i true=false):l.getD i false=false:=by
 rw [Array.getD_eq_getD_getElem?] at *
 cases h1:l[i]? with
 | none=>rfl
 | some b=>rw [h1] at h;exact h
theorem xW {listed:Array Bool} (hd:DC ops listed) {i:Nat} (hi:listed.getD i true=false):∀(n k:Nat),listed.getD k false=true->NL ops n i k=false
 | 0,_,_=>rfl
 | n+1,k,hk=>by
  unfold NL;cases ho:ops[k]? with
  | none=>rfl
  | some o =>
   dsimp only;rw [Array.any_eq_false'];intro e he;cases hb:Region.binds .any e with
   | false=>simp
   | true =>
    have h1:=hd k o ho hk e he hb;have h2:(e.on == i)=false:=by
     rw [beq_eq_false_iff_ne];intro heq;rw [heq,Hm hi] at h1;cases h1
    simp [h2,xW hd hi n e.on h1]
theorem Jq {listed:Array Bool} (hd:DC ops listed) {i j:Nat} (hi:listed.getD i true=false) (hj:j∈Region.ready .any ops listed) (n:Nat):NL ops n i j=false:=by
 cases n with
 | zero=>rfl
 | succ n =>
  obtain ⟨_,o,ho,hall⟩:=mem_ready.1 hj;unfold NL;rw [ho];dsimp only;rw [Array.any_eq_false'];intro e he;cases hb:Region.binds .any e with
  | false=>simp
  | true =>
   have h1:=hall e he hb;have h2:(e.on == i)=false:=by
    rw [beq_eq_false_iff_ne];intro heq;rw [heq,Hm hi] at h1;cases h1
   simp [h2,xW hd hi n e.on h1]
theorem DC.set {listed:Array Bool} (hd:DC ops listed) {i:Nat} (hi:i∈Region.ready .any ops listed):DC ops (listed.setIfInBounds i true):=by
 have up:∀k,listed.getD k false=true->(listed.setIfInBounds i true).getD k false=true:=fun k hk=>by
  rw [Array.getD_eq_getD_getElem?] at *
  rw [Array.getElem?_setIfInBounds];split
  ·rename_i h1
   subst h1;split
   ·rfl
   ·rename_i h2
    rw [Array.getElem?_eq_none (by omega)] at hk;exact hk
  ·exact hk
 intro k o ho hk e he hb;by_cases hki:i=k
 ·subst hki;obtain ⟨_,o',ho',hall⟩:=mem_ready.1 hi;rw [ho] at ho';injection ho' with ho';subst ho';exact up _ (hall e he hb)
 ·refine up _ (hd k o ho ?_ e he hb);rw [Array.getD_eq_getD_getElem?] at *
  rwa [Array.getElem?_setIfInBounds_ne hki] at hk
def Acts (P:Program) (ops:Array Oper) (o:Oper) (s:Mst) (R W:List Nat) (e:Mef):Prop :=
 (s.gd ops o=some true/\LOp P o s R e/\(∀k,aL e.hs k=true->aX W k=true)/\∀k,aX e.us k=true->s.f k=true)\/(s.gd ops o=some false/\e=⟨.c (.sc undef),[],[]⟩)
def RU (P:Program) (ops:Array Oper) (fps:List (List Nat×List Nat)) (i:Nat) (K:Mst->Prop) (s:Mst):Prop :=
 match ops[i]? with
 | none=>K s
 | some o=>∃e,Acts P ops o s (oL fps i).1 (oL fps i).2 e/\K (s.app o.dst e)
theorem LOp.congr {o:Oper} {s s':Mst} {R:List Nat} {e:Mef} (h:LOp P o s R e) (he:∀x,x∈o.op.operands->s'.ev x=s.ev x) (hR:∀k,aX R k=true->s'.h k=s.h k):LOp P o s' R e :=
 fun c st ρ a w hr h1 h2 h3 h4=>h c st ρ a w hr (fun x hx=>(h1 x hx).trans (he x hx)) (fun k hk=>(h2 k hk).trans (hR k hk)) h3 h4
theorem Dv {o:Oper} {s s':Mst} (h:∀t,t∈o.looksAt ops->s'.t t=s.t t):s'.gd ops o=s.gd ops o:=by
 unfold Mst.gd;cases hg:o.guard with
 | none=>rfl
 | some g =>
  obtain ⟨j,want⟩:=g;dsimp only;cases hd:(ops[j]?).bind (·.dst) with
  | none=>rfl
  | some t=>simp only [Option.map_some];rw [h t (by simp [Oper.looksAt,hg,hd])]
theorem K8 {o:Oper} {s s':Mst} (h:∀t,t∈o.looksAt ops->s'.t t=s.t t) {x:Operand} (hx:x∈o.op.operands):s'.ev x=s.ev x:=by
 cases x with
 | tmp t=>exact h t (by simp [Oper.looksAt];exact .inl ⟨_,hx,rfl⟩)
 | _=>rfl
theorem Acts.congr {o:Oper} {s s':Mst} {R W:List Nat} {e:Mef} (h:Acts P ops o s R W e) (ht:∀t,t∈o.looksAt ops->s'.t t=s.t t) (hR:∀k,aX R k=true->s'.h k=s.h k) (hf:∀k,aX e.us k=true->s.f k=true->s'.f k=true):Acts P ops o s' R W e:=by
 rcases h with ⟨h1,h2,h3,h4⟩|⟨h1,h2⟩
 ·exact .inl ⟨(Dv ht).trans h1,h2.congr (fun x hx=>K8 ht hx) hR,h3,fun k hk=>hf k hk (h4 k hk)⟩
 ·exact .inr ⟨(Dv ht).trans h1,h2⟩
theorem Acts.keys {o:Oper} {s:Mst} {R W:List Nat} {e:Mef} (h:Acts P ops o s R W e) {k:Nat} (hk:aL e.hs k=true):aX W k=true:=by
 rcases h with ⟨_,_,h3,_⟩|⟨_,rfl⟩
 ·exact h3 k hk
 ·simp [aL] at hk
theorem Acts.fr {o:Oper} {s:Mst} {R W:List Nat} {e:Mef} (h:Acts P ops o s R W e) {k:Nat} (hk:aX e.us k=true):s.f k=true:=by
 rcases h with ⟨_,_,_,h4⟩|⟨_,rfl⟩
 ·exact h4 k hk
 ·simp [aX] at hk
theorem lK {l:List Nat} {p:Nat->Bool} (h:l.all p=true):∀k,aX l k=true->p k=true:=by
 induction l with
 | nil=>intro k hk;simp [aX] at hk
 | cons x l ih =>
  intro k hk;simp only [List.all_cons,qBa] at h;simp only [aX,Bool.or_eq_true] at hk;rcases hk with hk|hk
  ·rw [<-qNb hk];exact h.1
  ·exact ih h.2 k hk
theorem K9 {x y:List Nat×List Nat} (h:RL x y=true):(∀k,aX x.2 k=true->aX y.1 k=false/\aX y.2 k=false)/\∀k,aX y.2 k=true->aX x.1 k=false:=by
 simp only [RL,qBa] at h;refine ⟨fun k hk=>?_,fun k hk=>?_⟩
 ·have:=lK h.1 k hk;simpa using this
 ·have:=lK h.2 k hk;simpa using this
theorem Acts.swap {oi oj:Oper} {s:Mst} {fi fj:List Nat×List Nat} {ei ej:Mef} (hap:oi.apart ops oj=true) (hnc:RL fi fj=true) (hi:Acts P ops oi s fi.1 fi.2 ei) (hj:Acts P ops oj (s.app oi.dst ei) fj.1 fj.2 ej) :
  Acts P ops oj s fj.1 fj.2 ej/\Acts P ops oi (s.app oj.dst ej) fi.1 fi.2 ei/\(s.app oj.dst ej).app oi.dst ei=(s.app oi.dst ei).app oj.dst ej:=by
 obtain ⟨h1,h2,h3⟩:=Oper.apart_spec hap;obtain ⟨n1,n2⟩:=K9 hnc;have ki:∀k,aX fj.1 k=true->aL ei.hs k=false:=fun k hk=>by
  cases hh:aL ei.hs k with
  | false=>rfl
  | true=>rw [(n1 k (hi.keys hh)).1] at hk;cases hk
 have kj:∀k,aX fi.1 k=true->aL ej.hs k=false:=fun k hk=>by
  cases hh:aL ej.hs k with
  | false=>rfl
  | true=>rw [n2 k (hj.keys hh)] at hk;cases hk
 have kk:∀k,aL ei.hs k=true->aL ej.hs k=false:=fun k hk=>by
  cases hh:aL ej.hs k with
  | false=>rfl
  | true=>have:=(n1 k (hi.keys hk)).2;rw [hj.keys hh] at this;cases this
 refine ⟨hj.congr (fun t ht=>?_) (fun k hk=>?_) fun k _ hf=>?_,hi.congr (fun t ht=>?_) (fun k hk=>?_) fun k hk hf=>?_,(Mst.app_comm h2 kk).symm⟩
 ·exact (BV (fun e=>h1 t e ht)).symm
 ·exact (cz (ki k hk)).symm
 ·simp only [Mst.app,qBa] at hf;exact hf.1
 ·exact BV (fun e=>h3 t e ht)
 ·exact cz (kj k hk)
 ·simp only [Mst.app,hf,Bool.true_and];cases hh:aX ej.us k with
  | false=>rfl
  | true =>
   have:=hj.fr hh;simp only [Mst.app,hk,Bool.not_true,Bool.and_false] at this;cases this
def xX (P:Program) (ops:Array Oper) (fps:List (List Nat×List Nat)) (K:Mst->Prop):Nat->Array Bool->Mst->Prop
 | 0,listed,s=>Region.ready .any ops listed=[]/\K s
 | fuel+1,listed,s=>(Region.ready .any ops listed=[]->K s)/\∀i∈Region.ready .any ops listed,RU P ops fps i (xX P ops fps K fuel (listed.setIfInBounds i true)) s
theorem BX {fps:List (List Nat×List Nat)} {K:Mst->Prop} {i:Nat} {oi:Oper} {ei:Mef} (hi:ops[i]? = some oi) :
  ∀(fuel:Nat) (listed:Array Bool) (s:Mst),DC ops listed->
   (∀j oj,ops[j]? = some oj->j≠i->listed.getD j true=false->NL ops 6 i j=false->oi.apart ops oj=true/\RL (oL fps i) (oL fps j)=true)->
   i∈Region.ready .any ops listed->Acts P ops oi s (oL fps i).1 (oL fps i).2 ei->
   xX P ops fps K fuel (listed.setIfInBounds i true) (s.app oi.dst ei)->xX P ops fps K (fuel+1) listed s:=by
 intro fuel;induction fuel with
 | zero =>
  intro listed s hdc _ hr hy H;refine ⟨fun h=>(by rw [h] at hr;cases hr),fun j hj=>?_⟩;by_cases hji:j=i
  ·subst hji;unfold RU;rw [hi];exact ⟨ei,hy,H⟩
  ·have:=ready_mono hj hji;rw [H.1] at this;cases this
 | succ fuel ih =>
  intro listed s hdc hfree hr hy H;refine ⟨fun h=>(by rw [h] at hr;cases hr),fun j hj=>?_⟩;by_cases hji:j=i
  ·subst hji;unfold RU;rw [hi];exact ⟨ei,hy,H⟩
  ·have h1:=H.2 j (ready_mono hj hji);obtain ⟨hjun,oj,hoj,hall⟩:=mem_ready.1 hj;obtain ⟨hap,hnc⟩:=hfree j oj hoj hji hjun (Jq hdc (mem_ready.1 hr).1 hj 6);unfold RU at h1 ⊢;rw [hoj] at h1 ⊢;obtain ⟨ej,hej,hK⟩:=h1;obtain ⟨a1,a2,a3⟩:=hy.swap hap hnc hej;refine ⟨ej,a1,ih (listed.setIfInBounds j true) _ (hdc.set hj) ?_ (ready_mono hr (Ne.symm hji)) a2 ?_⟩
   ·intro k ok hk hki hun hno;refine hfree k ok hk hki ?_ hno;by_cases hjk:j=k
    ·subst hjk;exact hjun
    ·rw [getD_set_ne true hjk] at hun;exact hun
   ·rw [Array.setIfInBounds_comm _ _ hji,a3];exact hK
theorem xY {fps:List (List Nat×List Nat)} {K:Mst->Prop}:∀(l:List Oper) (k:Nat) (listed:Array Bool) (s:Mst) (gps:List (List Nat×List Nat)),(∀j,l[j]? = ops[k+j]?)->(∀j,j<l.length->gps.getD j ([],[])=oL fps (k+j))->DC ops listed->
  pD ops fps l.length k listed=true->DW P ops l gps s K->xX P ops fps K l.length listed s
 | [],_,_,_,_,_,_,_,hB,h=>⟨by simpa [pD] using hB,h⟩
 | o :: l,k,listed,s,gps,hl,hg,hdc,hB,h=>by
  have h0:ops[k]? = some o:=by simpa using (hl 0).symm
  simp only [List.length_cons,pD,qBa] at hB;obtain ⟨⟨hr,hf⟩,hB'⟩:=hB;have hr':k∈Region.ready .any ops listed:=by simpa using hr
  obtain ⟨R,W,gps',rfl,g,hgd,ht,hff⟩:=h;have hfp:oL fps k=(R,W):=by have:=hg 0 (by simp);simpa using this.symm
  have step:∃e,Acts P ops o s (oL fps k).1 (oL fps k).2 e/\DW P ops l gps' (s.app o.dst e) K:=by
   rw [hfp];cases g with
   | true=>obtain ⟨e,⟨h1,h2,h3⟩,h4⟩:=ht rfl;exact ⟨e,.inl ⟨hgd,h1,h2,h3⟩,h4⟩
   | false=>exact ⟨_,.inr ⟨hgd,rfl⟩,hff rfl⟩
  obtain ⟨e,hy,hK⟩:=step;refine BX h0 l.length listed s hdc ?_ hr' hy ?_
  ·intro j oj hj hji hun hno;unfold BW at hf;rw [h0] at hf;dsimp only at hf;have hlt:j<ops.size:=(Array.getElem?_eq_some_iff.1 hj).1;have h5:=List.all_eq_true.1 hf j (by simpa using hlt);rw [hj] at h5;simp only [hun,hno,Bool.or_false,Bool.or_eq_true,qBa,beq_iff_eq] at h5;rcases h5 with h5|h5
   ·exact absurd h5 hji
   ·exact h5
  ·exact xY l (k+1) _ _ gps' (fun j=>by have:=hl (j+1);simpa [Nat.add_assoc,Nat.add_comm 1 j] using this) (fun j hj=>by have:=hg (j+1) (by simpa using hj);simpa [Nat.add_assoc,Nat.add_comm 1 j] using this) (hdc.set hr') hB' hK
theorem lL {fps:List (List Nat×List Nat)} {K:Mst->Prop} {Q:Exit->Act->World->Prop} (c:Ctx) (hnt:jv c.nt ops.toList=true) (hQ:∀s' ρ' a' w',K s'->Rp c s' ρ' a' w'->Q .normal a' w') :
  ∀(fuel:Nat) (listed:Array Bool) (s:Mst) (ρ:Nat->Value) (a:Act) (w:World),Rp c s ρ a w->xX P ops fps K fuel listed s->wpAny P .any ops Q fuel listed a w
 | 0,_,s,ρ,a,w,hr,h=>⟨h.1,hQ _ _ _ _ h.2 hr⟩
 | fuel+1,listed,s,ρ,a,w,hr,h=>by
  refine ⟨fun h0=>hQ _ _ _ _ (h.1 h0) hr,fun i hi=>?_⟩;have h1:=h.2 i hi;unfold RU at h1;unfold wpOp;split
  ·rename_i ho
   rw [ho] at h1;exact lL c hnt hQ fuel _ s ρ a w hr h1
  ·rename_i o ho
   rw [ho] at h1;obtain ⟨e,he,hK⟩:=h1;have hmem:o∈ops.toList:=by
    have:=(Array.getElem?_eq_some_iff.1 ho).2;rw [<-this];simp
   rcases he with ⟨hg,hl,hk,hu⟩|⟨hg,rfl⟩
   ·rw [hr.gd hg,if_pos rfl];refine .inl (Oper.wp_post (hl c s ρ a w hr (fun _ _=>rfl) (fun _ _=>rfl) hu fun d hd=>AB hnt hmem hd) ?_);rintro a' w' ⟨ρ',hr'⟩;exact lL c hnt hQ fuel _ _ ρ' a' w' hr' hK
   ·rw [hr.gd hg,if_neg (by simp)];exact lL c hnt hQ fuel _ _ ρ _ w (hr.put_any o.dst) hK
theorem xZ {nt id:Nat} {Ks:List Nat} {l:List Oper} {fps:List (List Nat×List Nat)} {Q:Exit->Mst->Prop} {s:Mst} (hm:P.follows .mixedOrders=true) (hnt:jv nt l=true) (h:DW P l.toArray l fps s fun s'=>Q .normal s') (hB:pD l.toArray fps l.length 0 (Array.replicate l.length false)=true):AW P nt Ks (.region id l.toArray true) Q s:=by
 intro c ρ a w hc _ hr;subst hc;refine wp_region_any hm ?_;have h1:=xY (P:=P) (ops:=l.toArray) (fps:=fps) l 0 (Array.replicate l.length false) s fps (by simp) (fun j _=>by simp [oL]) (fun k o _ hk=>by
  exfalso;rw [Array.getD_eq_getD_getElem?,Array.getElem?_replicate] at hk;split at hk <;> simp at hk) hB h
 exact lL c (by simpa using hnt) (fun s' ρ' a' w' hq hr'=>⟨s',ρ',hq,hr'⟩) _ _ s ρ a _ hr.drew (by simpa using h1)
end
class TI (P:Program) (t:TypeId) (row:outParam Bool) (n:outParam Nat):Prop where
 u:∃d,P.underlying t=some d/\(match d with | .struct _ | .array _ _=>true|_=>false)=row
 s:(P.info? t).map (·.size)=some n
class FO (P:Program) (t:TypeId) (f:Nat) (off:outParam Nat) (ft:outParam TypeId):Prop where
 u:∃fs x i,P.underlying t=some (.struct fs)/\fs[f]? = some x/\x.offset=off/\x.type=ft/\P.info? ft=some i/\i.size≠0
class SE (P:Program) (t:TypeId) (e:outParam TypeId):Prop where
 u:P.underlying t=some (.slice e)
class TZ (P:Program) (t:TypeId) (zs:outParam (List Value)):Prop where
 z:∃i v,P.info? t=some i/\i.zero=some v/\v.cells=zs.toArray
 o:∀u∈zs,u.oneCell'=true
 n:(P.info? t).map (·.size)=some zs.length
class Dp {α:Type} (E:El α) where
 deep:α->List D
 get:∀{w:World} {F:Nat->Prop} {ρ:Nat->Value} {x:α} {cs:List Value},E.rep w F x cs->All2 (D.rep w F ρ) (deep x) cs
 put:∀{w:World} {F:Nat->Prop} {ρ:Nat->Value} {x:α} {cs:List Value},All2 (D.rep w F ρ) (deep x) cs->E.rep w F x cs
 nok:∀x k,(deep x).any (D.has k)=false
theorem dS (b off j:Nat):(Addr.mk b off none).add j=⟨b,off+j,none⟩:=gL b off j
section
variable {P:Program} {o:Oper} {s:Mst} {R:List Nat} {d:TV}
theorem Oper.wp_value {a:Act} {w w':World} {v:Value} {K:Act->World->Prop} {Q:Exit->Act->World->Prop} (h:(execOp a.eval o).run P w = .ok (.value v) w') (hK:K (a.put o.dst v) w'):o.wp P a w K Q:=by
 unfold Oper.wp;rw [h];exact hK
theorem Oper.wp_skip {a:Act} {w w':World} {K:Act->World->Prop} {Q:Exit->Act->World->Prop} (h:(execOp a.eval o).run P w = .ok .skip w') (hK:K (a.put o.dst undef) w'):o.wp P a w K Q:=by
 unfold Oper.wp;rw [h];exact hK
theorem NM {c:Ctx} {a:Act} {dst:Option Nat} {v:Value} (hs:a.tmps.size=c.nt) (hd:∀d,dst=some d->d<c.nt) (t:Nat) :
  (a.put dst v).tmps.getD t undef=if dst=some t then v else a.tmps.getD t undef:=by
 cases dst with
 | none=>simp [Act.put]
 | some d =>
  by_cases e:d=t
  ·subst e;have:d<a.tmps.size:=by rw [hs];exact hd d rfl
   simp [Act.put,Array.getD_eq_getD_getElem?,this]
  ·have h1:¬(some d=some t):=fun h=>e (by injection h);rw [if_neg h1];simp [Act.put,Array.getD_eq_getD_getElem?,Array.getElem?_setIfInBounds_ne e]
theorem La {a:Act} {dst:Option Nat} {v:Value}:(a.put dst v).tmps.size=a.tmps.size:=by cases dst <;> simp [Act.put]
theorem FZ {a:Act} {dst:Option Nat} {v:Value}:(a.put dst v).defers=a.defers:=by cases dst <;> rfl
theorem Hn (dst:Option Nat) (d:TV) (t:Nat->TV) (n:Nat):mw dst d t n=if dst=some n then d else t n:=by
 by_cases h:dst=some n
 ·subst h;simp [mw]
 ·rw [if_neg h,BV h]
theorem BY {l:List (Nat×Option Box)} {h:Nat->Option Box} {k:Nat} (h1:h k=none) (h2:aL l k=false):hput l h k=none:=by rw [cz h2,h1]
theorem Rp.app {c:Ctx} {st:Mst} {ρ ρ':Nat->Value} {a:Act} {w w':World} {dst:Option Nat} {e:Mef} {v:Value} (hr:Rp c st ρ a w) (hdst:∀d,dst=some d->d<c.nt)
  (hu:∀k,aX e.us k=true->st.f k=true/\aL e.hs k=true)
  (hpl:∀k,aX e.us k=false->ρ' k=ρ k)
  (hex:∀k,aL e.hs k=true->aX e.us k=true\/st.f k=false)
  (hfw:Frx w w' fun b=>∃k bx,aL e.hs k=true/\st.h k=some bx/\kb (ρ k)=some b)
  (hnb:∀k bx g,aL e.hs k=true->hput e.hs st.h k=some bx->kb (ρ' k)=some g->g<w'.heap.size/\(w.heap.size<=g\/∃k0 b0,aL e.hs k0=true/\st.h k0=some b0/\kb (ρ k0)=some g))
  (hds:∀k k' b b' g,aL e.hs k=true->aL e.hs k'=true->hput e.hs st.h k=some b->hput e.hs st.h k'=some b'->kb (ρ' k)=some g->kb (ρ' k')=some g->k=k')
  (hkd:∀k,e.d.has k=true->aX e.us k=true\/st.f k=false)
  (hkb:∀k k' bx,aL e.hs k'=true->hput e.hs st.h k'=some bx->bx.has k=true->aX e.us k=true\/st.f k=false)
  (hnew:∀k bx,aL e.hs k=true->hput e.hs st.h k=some bx->bx.rep w' (Fz c (hput e.hs st.h) ρ' w') ρ' (ρ' k))
  (hv:e.d.rep w' (Fz c (hput e.hs st.h) ρ' w') ρ' v):Rp c (st.app dst e) ρ' (a.put dst v) w':=by
 have hst:Stp c st (st.app dst e) ρ ρ' w w' fun k=>aL e.hs k=true:=by
  refine ⟨fun k hk=>cz (by simpa using hk),fun k hk=>hpl k ?_,fun k hk=>?_,hfw,hnb,hds⟩
  ·cases h:aX e.us k with
   | false=>rfl
   | true=>rw [(hu k h).1] at hk;cases hk
  ·simp only [Mst.app,qBa] at hk;exact hk.1
 have ff:∀k,(st.app dst e).f k=true->st.f k=true/\aX e.us k=false:=fun k hk=>by simpa [Mst.app] using hk
 refine hr.step hst ?_ ?_ ⟨fun k hk=>?_,fun k t hk=>?_,fun k k' b hk hb=>?_⟩ (fun k hk=>?_) hnew fun t=>?_
 ·rw [FZ];exact hr.dfr
 ·rw [La];exact hr.siz
 ·obtain ⟨h1,h2⟩:=ff k hk;refine BY (hr.wf.h k h1) ?_;cases h:aL e.hs k with
  | false=>rfl
  | true=>rcases hex k h with h3|h3 <;> simp_all
 ·obtain ⟨h1,h2⟩:=ff k hk;show (mw dst e.d st.t t).has k=false;rw [Hn];split
  ·cases h:e.d.has k with
   | false=>rfl
   | true=>rcases hkd k h with h3|h3 <;> simp_all
  ·exact hr.wf.t k t h1
 ·obtain ⟨h1,h2⟩:=ff k hk;have hb:hput e.hs st.h k'=some b:=hb;cases h:aL e.hs k' with
  | false=>rw [cz h] at hb;exact hr.wf.b k k' b h1 hb
  | true =>
   cases h4:b.has k with
   | false=>rfl
   | true=>rcases hkb k k' b h hb h4 with h3|h3 <;> simp_all
 ·simp [Mst.app,(hr.ent k hk).2]
 ·show (mw dst e.d st.t t).rep _ _ _ _;rw [Hn,NM hr.siz hdst];by_cases h:dst=some t
  ·rw [if_pos h,if_pos h];exact hv
  ·rw [if_neg h,if_neg h];exact hr.old hst (hr.tmp t) fun k hk=>hr.wf.t k t hk
theorem bY (h:∀(c:Ctx) (st:Mst) (ρ:Nat->Value) (a:Act) (w:World),Rp c st ρ a w->(∀x,x∈o.op.operands->st.ev x=s.ev x)->(∀k,aX R k=true->st.h k=s.h k)->
  ∃v,(execOp a.eval o).run P w = .ok (.value v) w/\d.rep w (Fz c st.h ρ w) ρ v/\∀k,d.has k=true->st.f k=false):LOp P o s R ⟨d,[],[]⟩:=by
 intro c st ρ a w hr h1 h2 _ h4;obtain ⟨v,hv,hd,hk⟩:=h c st ρ a w hr h1 h2;refine Oper.wp_value hv ⟨ρ,hr.app (e:=⟨d,[],[]⟩) h4 (fun k hk=>by simp [aX] at hk) (fun _ _=>rfl) (fun k hk=>by simp [aL] at hk) (Frx.refl _ _) (fun k bx g hk=>by simp [aL] at hk) (fun k k' b b' g hk=>by simp [aL] at hk) (fun k h=>.inr (hk k h)) (fun k k' bx hk=>by simp [aL] at hk) (fun k bx hk=>by simp [aL] at hk) hd⟩
theorem Rp.nf {c:Ctx} {st:Mst} {ρ:Nat->Value} {a:Act} {w:World} (hr:Rp c st ρ a w) {x:Operand} {d:TV} (hx:st.ev x=d) {k:Nat} (hk:d.has k=true):st.f k=false:=by
 subst hx;cases hf:st.f k with
 | false=>rfl
 | true =>
  exfalso;cases x with
  | tmp t=>have:=hr.wf.t k t hf;simp only [Mst.ev] at hk;rw [this] at hk;cases hk
  | const v =>
   have:(BT v).has k=false:=by
    unfold BT;split
    ·simp [TV.has,V0.has,D.has]
    ·rfl
   simp only [Mst.ev] at hk;rw [this] at hk;cases hk
  | global g=>simp [Mst.ev,TV.has,V0.has,D.has] at hk
  | func f=>simp [Mst.ev,TV.has,V0.has,D.has] at hk
theorem Rp.nfb {c:Ctx} {st:Mst} {ρ:Nat->Value} {a:Act} {w:World} (hr:Rp c st ρ a w) {k':Nat} {b:Box} (hx:st.h k'=some b) {k:Nat} (hk:b.has k=true):st.f k=false:=by
 cases hf:st.f k with
 | false=>rfl
 | true=>rw [hr.wf.b k k' b hf hx] at hk;cases hk
theorem Rp.nfh {c:Ctx} {st:Mst} {ρ:Nat->Value} {a:Act} {w:World} (hr:Rp c st ρ a w) {k:Nat} {b:Box} (hx:st.h k=some b):st.f k=false:=by
 cases hf:st.f k with
 | false=>rfl
 | true=>rw [hr.wf.h k hf] at hx;cases hx
theorem uT {l:List D} {d:D} {i k:Nat} (h:l[i]? = some d) (hk:d.has k=true):l.any (D.has k)=true:=List.any_eq_true.2 ⟨d,List.mem_of_getElem? h,hk⟩
theorem uU {l m:List D} {k:Nat} (h:∀d∈l,d∈m) (hk:l.any (D.has k)=true):m.any (D.has k)=true:=by
 obtain ⟨d,hd,h1⟩:=List.any_eq_true.1 hk;exact List.any_eq_true.2 ⟨d,h d hd,h1⟩
theorem BZ {x:Operand} (ho:o.op = .move x\/o.op = .assign x) (hx:s.ev x=d):LOp P o s [] ⟨d,[],[]⟩ :=
 bY fun c st ρ a w hr h1 _=>by
  have he:=h1 x (by rcases ho with ho|ho <;> simp [ho,Op.operands]);rw [hx] at he;exact ⟨a.eval x,by unfold execOp;rcases ho with ho|ho <;> rw [ho] <;> rfl,by have:=hr.ev x;rwa [he] at this,fun k hk=>hr.nf he hk⟩
theorem Lb {x:Operand} {y:V0} (ho:o.op = .move x) (hx:s.ev x = .v y):LOp P o s [] ⟨.v y,[],[]⟩:=BZ (.inl ho) hx
theorem F0 {x:Operand} {y:V0} (ho:o.op = .assign x) (hx:s.ev x = .v y):LOp P o s [] ⟨.v y,[],[]⟩:=BZ (.inr ho) hx
theorem F1 {x:Operand} {y:List V0} (ho:o.op = .move x) (hx:s.ev x = .tup y):LOp P o s [] ⟨.tup y,[],[]⟩:=BZ (.inl ho) hx
theorem Hp {x:Operand} {u r:Value} (hop:o.op.operands = #[x]) (hx:s.ev x = .c (.sc u)) (h:∀(ev:Operand->Value) (w:World),ev x=u->(execOp ev o).run P w = .ok (.value r) w):LOp P o s [] ⟨.c (.sc r),[],[]⟩ :=
 bY fun c st ρ a w hr h1 _=>by
  have he:=h1 x (by simp [hop]);rw [hx] at he;have hu:a.eval x=u:=by have:=hr.ev x;rwa [he] at this
  exact ⟨r,h _ _ hu,rfl,fun k hk=>by simp [TV.has,V0.has,D.has] at hk⟩
theorem iz {x y:Operand} {u u' r:Value} (hop:o.op.operands = #[x,y]) (hx:s.ev x = .c (.sc u)) (hy:s.ev y = .c (.sc u')) (h:∀(ev:Operand->Value) (w:World),ev x=u->ev y=u'->(execOp ev o).run P w = .ok (.value r) w):LOp P o s [] ⟨.c (.sc r),[],[]⟩ :=
 bY fun c st ρ a w hr h1 _=>by
  have he:=h1 x (by simp [hop]);have he2:=h1 y (by simp [hop]);rw [hx] at he;rw [hy] at he2;have hu:a.eval x=u:=by have:=hr.ev x;rwa [he] at this
  have hu2:a.eval y=u':=by have:=hr.ev y;rwa [he2] at this
  exact ⟨r,h _ _ hu hu2,rfl,fun k hk=>by simp [TV.has,V0.has,D.has] at hk⟩
theorem mR {s':TypeId} {f off g p:Nat} {ft:TypeId} [I:FO P s' f off ft] (w:World):(Instr.fieldAt s' (.pointer (some ⟨g,p,none⟩)) f).run P w = .ok (.pointer (some ⟨g,p+off,none⟩)) w:=by
 obtain ⟨fs,x,i,h1,h2,h3,h4,h5,h6⟩:=I.u;subst h3;subst h4;simp [Instr.fieldAt,run_underlying h1,h2,Instr.sureAddr,fieldPlace,sizeOf,typeInfo,h5,h6,dS]
theorem Jr {s':TypeId} {x:Operand} {f k p off:Nat} {ft:TypeId} (ho:o.op = .fieldAddr s' x f) (hx:s.ev x = .c (.ptr k p)) [FO P s' f off ft]:LOp P o s [] ⟨.c (.ptr k (p+off)),[],[]⟩ :=
 bY fun c st ρ a w hr h1 _=>by
  have he:=h1 x (by simp [ho,Op.operands]);rw [hx] at he;have hv:=hr.ev x;rw [he] at hv;obtain ⟨g,hg,hv⟩:=hv;refine ⟨_,by unfold execOp;rw [ho];simp only [hv,Sem.run_bind,mR,Result.andThen_ok,Sem.run_pure],⟨g,hg,rfl⟩,fun k' hk=>hr.nf (x:=x) he hk⟩
theorem Dw {s':TypeId} {x:Operand} {f p off i:Nat} {ft:TypeId} {α:Type} {E:El α} {l:List α} (ho:o.op = .fieldAddr s' x f) (hx:s.ev x = .c (.eptr E l i p)) [FO P s' f off ft]:LOp P o s [] ⟨.c (.eptr E l i (p+off)),[],[]⟩ :=
 bY fun c st ρ a w hr h1 _=>by
  have he:=h1 x (by simp [ho,Op.operands]);rw [hx] at he;have hv:=hr.ev x;rw [he] at hv;obtain ⟨b,q,hv,h3,h4⟩:=hv;exact ⟨.pointer (some ⟨b,q+i*E.n+(p+off),none⟩),by unfold execOp;rw [ho];simp only [hv,Sem.run_bind,mR,Result.andThen_ok,Sem.run_pure,Nat.add_assoc],⟨b,q,rfl,h3,h4⟩,fun k' hk=>hr.nf (x:=x) he hk⟩
theorem Dx {s':TypeId} {x:Operand} {f p off i k m:Nat} {ft:TypeId} (ho:o.op = .fieldAddr s' x f) (hx:s.ev x = .c (.optr k m i p)) [FO P s' f off ft]:LOp P o s [] ⟨.c (.optr k m i (p+off)),[],[]⟩ :=
 bY fun c st ρ a w hr h1 _=>by
  have he:=h1 x (by simp [ho,Op.operands]);rw [hx] at he;have hv:=hr.ev x;rw [he] at hv;obtain ⟨g,n,cap,h3,hv⟩:=hv;exact ⟨.pointer (some ⟨g,i*m+(p+off),none⟩),by unfold execOp;rw [ho];simp only [hv,Sem.run_bind,mR,Result.andThen_ok,Sem.run_pure,Nat.add_assoc],⟨g,n,cap,h3,rfl⟩,fun k' hk=>hr.nf (x:=x) he hk⟩
theorem jL {t e:TypeId} {row:Bool} {n g p:Nat} {kd:IntKind} [I:SE P t e] [J:TI P e row n] (w:World) (len cap i:Nat) (hi:i<len) :
  (Instr.indexAt t (.slice (some ⟨g,p,none⟩) len cap) (.int kd (i:Int))).run P w = .ok (.pointer (some ⟨g,p+i*n,none⟩)) w:=by
 obtain ⟨j,hj,hn⟩:∃j,P.info? e=some j/\j.size=n:=by
  have:=J.s;cases h:P.info? e with
  | none=>simp [h] at this
  | some j=>exact ⟨j,rfl,by simpa [h] using this⟩
 subst hn;simp [Instr.indexAt,asIntOf,run_underlying I.u,sizeOf,typeInfo,hj,hi,dS]
theorem AC {t e:TypeId} {x y:Operand} {row:Bool} {n i:Nat} {kd:IntKind} {z:Int} {α:Type} {E:El α} {l:List α} (ho:o.op = .indexAddr t x y) (hx:s.ev x = .c (.sl E l)) (hy:s.ev y = .c (.sc (.int kd z))) [SE P t e] [TI P e row n] (hn:E.n=n) (hz:z=(i:Int)) (hi:i<l.length) :
  LOp P o s [] ⟨.c (.eptr E l i 0),[],[]⟩ :=
 bY fun c st ρ a w hr h1 _=>by
  have he:=h1 x (by simp [ho,Op.operands]);have he2:=h1 y (by simp [ho,Op.operands]);rw [hx] at he;rw [hy] at he2;have hv:=hr.ev x;rw [he] at hv;have hv2:=hr.ev y;rw [he2] at hv2;obtain ⟨A,cap,hv,hc,hR⟩:=hv;have hv2:a.eval y = .int kd z:=hv2;obtain ⟨xs,h3,h4⟩:=hR;obtain ⟨b,off,hA,hb,hcl⟩:=h4 (by omega);subst hA;subst hz;subst hn;refine ⟨.pointer (some ⟨b,off+i*E.n,none⟩),by unfold execOp;rw [ho];simp only [hv,hv2,Sem.run_bind,jL w l.length cap i hi,Result.andThen_ok,Sem.run_pure],⟨b,off,rfl,⟨xs,h3,h4⟩,hi⟩,fun k' hk=>by simp [TV.has,V0.has,D.has] at hk⟩
theorem fA {w:World} {F:Nat->Prop} {α:Type} {e:TypeId} {E:El α} {l:List α} {ρ:Nat->Value} {v:Value} (h:(Box.arr e E l).rep w F ρ v) :
  ∃A cap,v = .slice A l.length cap/\(l.length<=cap/\cap<=maxLen)/\(0<l.length->∃g xs,A=some ⟨g,0,none⟩/\g<w.heap.size/\Reps E w F l xs/\(∀j u,xs[j]? = some u->w.cell? ⟨g,j,none⟩=some u)/\∀j,j<xs.length->w.frozen? ⟨g,j,none⟩=false):=by
 obtain ⟨xs,h1,h2⟩:=h;rcases h1.2 with ⟨hv,hn⟩|⟨g,cap,cur,hv,_,hh,hnc,hcm,hcs,ht⟩
 ·exact ⟨none,0,by rw [hv,hn],by rw [hn];simp [maxLen],fun h=>by omega⟩
 ·refine ⟨_,cap,hv,⟨hnc,hcm⟩,fun _=>⟨g,xs,rfl,(Array.getElem?_eq_some_iff.1 hh).1,h2,fun j u hu=>?_,fun j _=>by simp [World.frozen?,hh]⟩⟩;rw [cell_of_row w g j cur e (0,0) hh,<-Array.getElem?_toList];rw [<-ht,List.getElem?_take] at hu;split at hu
  ·exact hu
  ·cases hu
theorem uV {t e:TypeId} {x y:Operand} {row:Bool} {n i k:Nat} {kd:IntKind} {z:Int} {α:Type} {e':TypeId} {E:El α} {l:List α} (ho:o.op = .indexAddr t x y) (hx:s.ev x = .c (.own k)) (hk:s.h k=some (.arr e' E l)) (hy:s.ev y = .c (.sc (.int kd z))) [SE P t e] [TI P e row n] (hn:E.n=n) (hz:z=(i:Int)) (hi:i<l.length) :
  LOp P o s [k] ⟨.c (.optr k n i 0),[],[]⟩ :=
 bY fun c st ρ a w hr h1 h2=>by
  have he:=h1 x (by simp [ho,Op.operands]);have he2:=h1 y (by simp [ho,Op.operands]);rw [hx] at he;rw [hy] at he2;have hv:=hr.ev x;rw [he] at hv;have hv2:=hr.ev y;rw [he2] at hv2;have hv:a.eval x=ρ k:=hv;have hv2:a.eval y = .int kd z:=hv2;have hb:=hr.hp k _ ((h2 k (by simp [aX])).trans hk);obtain ⟨A,cap,hA,hc,hp⟩:=fA hb;obtain ⟨g,xs,rfl,_⟩:=hp (by omega);subst hz;subst hn;rw [hA] at hv;refine ⟨.pointer (some ⟨g,0+i*E.n,none⟩),by unfold execOp;rw [ho];simp only [hv,hv2,Sem.run_bind,jL w l.length cap i hi,Result.andThen_ok,Sem.run_pure],⟨g,_,_,hA,by simp⟩,fun k' hk'=>hr.nf (x:=x) he (by simpa [TV.has,V0.has,D.has] using hk')⟩
theorem pE {t:TypeId} {n g p:Nat} [I:TI P t true n] (w:World) (cs:List Value) (hc:∀j u,cs[j]? = some u->w.cell? ⟨g,p+j,none⟩=some u) (hn:cs.length=n) :
  (Instr.loadAt t (.pointer (some ⟨g,p,none⟩))).run P w = .ok (.agg cs.toArray) w:=by
 obtain ⟨d,hu,hd⟩:=I.u;simp only [Instr.loadAt,Instr.sureAddr,Sem.run_bind,Sem.run_pure,Result.andThen_ok];exact run_loadVar_mid w g p t cs d hc hu (by cases d <;> simp_all [TypeDesc.isRow]) (by rw [I.s,hn])
theorem pF {t:TypeId} {n g p:Nat} [I:TI P t false n] (w:World) (u:Value) (hc:w.cell? ⟨g,p,none⟩=some u):(Instr.loadAt t (.pointer (some ⟨g,p,none⟩))).run P w = .ok u w:=by
 obtain ⟨d,hu,hd⟩:=I.u;simp only [Instr.loadAt,Instr.sureAddr,Sem.run_bind,Sem.run_pure,Result.andThen_ok,loadVar,isAgg,run_underlying hu];cases d <;> simp_all [load,Sem.run]
theorem mS {t:TypeId} {x:Operand} {row:Bool} {n off:Nat} {ds:List D} {d:TV} (ho:o.op = .load t x) [I:TI P t row n]
  (hd:(row=true/\d = .v (.ag ((ds.drop off).take n))/\off+n<=ds.length)\/(row=false/\∃y,ds[off]? = some y/\d = .c y))
  (h:∀(c:Ctx) (st:Mst) (ρ:Nat->Value) (a:Act) (w:World),Rp c st ρ a w->(∀x,x∈o.op.operands->st.ev x=s.ev x)->(∀k,aX R k=true->st.h k=s.h k)->
   ∃g p vs,a.eval x = .pointer (some ⟨g,p+off,none⟩)/\All2 (D.rep w (Fz c st.h ρ w) ρ) ds vs/\(∀j u,vs[j]? = some u->w.cell? ⟨g,p+j,none⟩=some u)/\∀k,ds.any (D.has k)=true->st.f k=false):LOp P o s R ⟨d,[],[]⟩ :=
 bY fun c st ρ a w hr h1 h2=>by
  obtain ⟨g,p,vs,hv,h3,h4,h5⟩:=h c st ρ a w hr h1 h2;rcases hd with ⟨rfl,rfl,hle⟩|⟨rfl,y,hy,rfl⟩
  ·refine ⟨.agg ((vs.drop off).take n).toArray,?_,⟨_,rfl,(h3.drop off).take n⟩,fun k hk=>h5 k ?_⟩
   ·unfold execOp;rw [ho];simp only [hv,Sem.run_bind];rw [pE w ((vs.drop off).take n) (fun j u hu=>?_) (by rw [List.length_take,List.length_drop,<-h3.length];omega)]
    ·rfl
    ·rw [Nat.add_assoc];refine h4 _ u ?_;rw [List.getElem?_take] at hu;split at hu
     ·rwa [List.getElem?_drop] at hu
     ·cases hu
   ·exact uU (fun d hd=>List.mem_of_mem_drop (List.mem_of_mem_take hd)) hk
  ·obtain ⟨u,hu,hrep⟩:=h3.get hy;refine ⟨u,?_,hrep,fun k hk=>h5 k (uT hy hk)⟩;unfold execOp;rw [ho];simp only [hv,Sem.run_bind];rw [pF w u (h4 off u hu)];rfl
theorem Lc {t ty:TypeId} {x:Operand} {row:Bool} {n k off:Nat} {cs:List D} {d:TV} [I:TI P t row n] (ho:o.op = .load t x) (hx:s.ev x = .c (.ptr k off)) (hk:s.h k=some (.box ty cs))
  (hd:(row=true/\d = .v (.ag ((cs.drop off).take n))/\off+n<=cs.length)\/(row=false/\∃y,cs[off]? = some y/\d = .c y)):LOp P o s [k] ⟨d,[],[]⟩ :=
 mS ho hd fun c st ρ a w hr h1 h2=>by
  have he:=h1 x (by simp [ho,Op.operands]);rw [hx] at he;have hv:=hr.ev x;rw [he] at hv;obtain ⟨g,hg,hv⟩:=hv;have hk':=(h2 k (by simp [aX])).trans hk;obtain ⟨g',vs,e1,h3,h4,_⟩:=hr.hp k _ hk';rw [hg] at e1;injection e1 with e1;injection e1 with e1;injection e1 with e1;subst e1;exact ⟨g,0,vs,by rw [Nat.zero_add];exact hv,h4,fun j u hu=>by rw [Nat.zero_add];exact h3.cellx j (by simpa using hu),fun k' hh=>hr.nfb hk' (by simpa [Box.has] using hh)⟩
theorem Lf {t ty:TypeId} {x:Operand} {n k off:Nat} {cs:List D} {y:D} [TI P t false n] (ho:o.op = .load t x) (hx:s.ev x = .c (.ptr k off)) (hk:s.h k=some (.box ty cs)) (hy:cs[off]? = some y):LOp P o s [k] ⟨.c y,[],[]⟩:=Lc ho hx hk (.inr ⟨rfl,y,hy,rfl⟩)
theorem B0 {t ty:TypeId} {x:Operand} {n k off:Nat} {cs ds:List D} [TI P t true n] (ho:o.op = .load t x) (hx:s.ev x = .c (.ptr k off)) (hk:s.h k=some (.box ty cs)) (hd:(cs.drop off).take n=ds) (hl:off+n<=cs.length):LOp P o s [k] ⟨.v (.ag ds),[],[]⟩:=Lc ho hx hk (.inl ⟨rfl,by rw [hd],hl⟩)
theorem Lh {t:TypeId} {x:Operand} {row:Bool} {n i off:Nat} {α:Type} {E:El α} {l:List α} {y:α} {d:TV} [I:TI P t row n] [J:Dp E] (ho:o.op = .load t x) (hx:s.ev x = .c (.eptr E l i off)) (hy:l[i]? = some y)
  (hd:(row=true/\d = .v (.ag (((J.deep y).drop off).take n))/\off+n<=(J.deep y).length)\/(row=false/\∃z,(J.deep y)[off]? = some z/\d = .c z)):LOp P o s [] ⟨d,[],[]⟩ :=
 mS ho hd fun c st ρ a w hr h1 h2=>by
  have he:=h1 x (by simp [ho,Op.operands]);rw [hx] at he;have hv:=hr.ev x;rw [he] at hv;obtain ⟨b,q,hv,h3,h4⟩:=hv;have hyx:l[i]=y:=by rw [qGg h4] at hy;exact Option.some.inj hy
  obtain ⟨b',q',cs,e1,_,h5,h6⟩:=h3.getx h4 hyx;injection e1 with e1;injection e1 with e1 e2;subst e1;subst e2;refine ⟨b,q+i*E.n,cs,hv,J.get h5,fun j u hu=>?_,fun k' hh=>by rw [J.nok] at hh;cases hh⟩;rw [h6 j (by rw [<-E.len h5];exact (List.getElem?_eq_some_iff.1 hu).1),hu]
theorem F2 {t:TypeId} {x:Operand} {n i off:Nat} {α:Type} {E:El α} {l:List α} {y:α} {z:D} [TI P t false n] [J:Dp E] (ho:o.op = .load t x) (hx:s.ev x = .c (.eptr E l i off)) (hy:l[i]? = some y) (hz:(J.deep y)[off]? = some z):LOp P o s [] ⟨.c z,[],[]⟩:=Lh ho hx hy (.inr ⟨rfl,z,hz,rfl⟩)
theorem x7 {t:TypeId} {x:Operand} {n i off:Nat} {α:Type} {E:El α} {l:List α} {y:α} {ds:List D} [TI P t true n] [J:Dp E] (ho:o.op = .load t x) (hx:s.ev x = .c (.eptr E l i off)) (hy:l[i]? = some y) (hd:((J.deep y).drop off).take n=ds) (hl:off+n<=(J.deep y).length):LOp P o s [] ⟨.v (.ag ds),[],[]⟩:=Lh ho hx hy (.inl ⟨rfl,by rw [hd],hl⟩)
theorem Li {t e:TypeId} {x:Operand} {row:Bool} {n m i k off:Nat} {α:Type} {E:El α} {l:List α} {y:α} {d:TV} [I:TI P t row n] [J:Dp E] (ho:o.op = .load t x) (hx:s.ev x = .c (.optr k m i off)) (hk:s.h k=some (.arr e E l)) (hm:E.n=m) (hy:l[i]? = some y)
  (hd:(row=true/\d = .v (.ag (((J.deep y).drop off).take n))/\off+n<=(J.deep y).length)\/(row=false/\∃z,(J.deep y)[off]? = some z/\d = .c z)):LOp P o s [k] ⟨d,[],[]⟩ :=
 mS ho hd fun c st ρ a w hr h1 h2=>by
  have he:=h1 x (by simp [ho,Op.operands]);rw [hx] at he;have hv:=hr.ev x;rw [he] at hv;obtain ⟨g,nn,cap,hg,hv⟩:=hv;have hk':=(h2 k (by simp [aX])).trans hk;have hil:i<l.length:=(List.getElem?_eq_some_iff.1 hy).1;obtain ⟨A,cap',hA,_,hp⟩:=fA (hr.hp k _ hk');obtain ⟨g',xs,rfl,_,h3,h4,_⟩:=hp (by omega);rw [hg] at hA;injection hA with e1 _ _;injection e1 with e1;injection e1 with e1;subst e1;obtain ⟨cs,h5,h6⟩:=h3.get i hil;rw [qGg hil] at hy;rw [Option.some.inj hy] at h5;subst hm;refine ⟨g,i*E.n,cs,hv,J.get h5,fun j u hu=>?_,fun k' hh=>by rw [J.nok] at hh;cases hh⟩;exact h4 _ u (by rw [h6 j (by rw [<-E.len h5];exact (List.getElem?_eq_some_iff.1 hu).1),hu])
theorem F3 {t e:TypeId} {x:Operand} {n m i k off:Nat} {α:Type} {E:El α} {l:List α} {y:α} {z:D} [TI P t false n] [J:Dp E] (ho:o.op = .load t x) (hx:s.ev x = .c (.optr k m i off)) (hk:s.h k=some (.arr e E l)) (hm:E.n=m) (hy:l[i]? = some y) (hz:(J.deep y)[off]? = some z):LOp P o s [k] ⟨.c z,[],[]⟩:=Li ho hx hk hm hy (.inr ⟨rfl,z,hz,rfl⟩)
theorem x8 {t e:TypeId} {x:Operand} {n m i k off:Nat} {α:Type} {E:El α} {l:List α} {y:α} {ds:List D} [TI P t true n] [J:Dp E] (ho:o.op = .load t x) (hx:s.ev x = .c (.optr k m i off)) (hk:s.h k=some (.arr e E l)) (hm:E.n=m) (hy:l[i]? = some y) (hd:((J.deep y).drop off).take n=ds) (hl:off+n<=(J.deep y).length):LOp P o s [k] ⟨.v (.ag ds),[],[]⟩:=Li ho hx hk hm hy (.inl ⟨rfl,by rw [hd],hl⟩)
end
def Gr (S:Nat->Prop) (base:Nat) (w:World) (b:Nat):Prop:=b<w.heap.size/\(S b\/base<=b)
def In (w:World) (S:Nat->Prop):Prop:=∀b,S b->b<w.heap.size
section
variable {α:Type} {E:El α} {w w' w'':World} {S T:Nat->Prop} {A:Option Addr} {l:List α} {base base':Nat} {e:TypeId} {v:Value}
theorem RowsAt.lo (h:RowsAt E w S A l) (hS:In w S):RowsAt E w (Lo w.heap.size) A l:=h.mono hS
theorem RowsAt.grNew (h:RowsAt E w (Tt base w) A l):RowsAt E w (Gr S base w) A l:=h.mono fun _ hs=>⟨hs.2,.inr hs.1⟩
def El.inn {α:Type} (E:El α) (T:Nat->Prop):El α where
 n:=E.n
 pos:=E.pos
 rep:=fun w S x cs=>E.rep w (fun b=>S b/\T b) x cs
 len:=fun h=>E.len h
 one:=fun h=>E.one h
 same:=fun h hk hS=>E.same h (fun b hb=>hk b hb.1) fun b hb=>⟨hS b hb.1,hb.2⟩
theorem Reps.inn:∀{l:List α} {xs:List Value},Reps (E.inn T) w S l xs->Reps E w (fun b=>S b/\T b) l xs
 | [],_,h=>h
 | _ :: _,_,h=>by
  obtain ⟨cs,rest,rfl,h1,h2⟩:=h;exact ⟨cs,rest,rfl,h1,Reps.inn h2⟩
theorem Reps.toInn:∀{l:List α} {xs:List Value},Reps E w (fun b=>S b/\T b) l xs->Reps (E.inn T) w S l xs
 | [],_,h=>h
 | _ :: _,_,h=>by
  obtain ⟨cs,rest,rfl,h1,h2⟩:=h;exact ⟨cs,rest,rfl,h1,Reps.toInn h2⟩
theorem ElTB.inn {P:Program} {t:TypeId} {by_:Nat} (Q:ElTB P E t e by_) (T:Nat->Prop):ElTB P (E.inn T) t e by_:=⟨Q.under,Q.info⟩
theorem oM {xs cs vs:List Value} {n k j:Nat} (hk:k+n<=xs.length) (hcs:cs=(xs.drop k).take n) (hj:j+vs.length<=n) :
  xs.take (k+j)++vs++xs.drop (k+j+vs.length)=xs.take k++(cs.take j++vs++cs.drop (j+vs.length))++xs.drop (k+n):=by
 subst hcs;have e1:xs.take (k+j)=xs.take k++((xs.drop k).take n).take j:=by
  rw [List.take_take,Nat.min_eq_left (by omega),List.take_add]
 have e2:xs.drop (k+j+vs.length)=((xs.drop k).take n).drop (j+vs.length)++xs.drop (k+n):=by
  have h:(xs.drop k).drop (j+vs.length)=((xs.drop k).take n).drop (j+vs.length)++(xs.drop k).drop n:=by
   have h0:(xs.drop k).drop (j+vs.length)=((xs.drop k).take n++(xs.drop k).drop n).drop (j+vs.length):=by rw [List.take_append_drop]
   rw [h0,List.drop_append,List.length_take,List.length_drop,Nat.min_eq_left (by omega),Nat.sub_eq_zero_of_le hj,List.drop_zero]
  rw [List.drop_drop,List.drop_drop] at h;rw [<-h];congr 1
  omega
 rw [e1,e2];simp
end
section
variable {α:Type} {E:El α} {S:Nat->Prop} {l:List α} {e:TypeId}
end
section
variable {α:Type} {E:El α} {w:World} {S T:Nat->Prop} {l:List α} {e:TypeId} {v:Value} {base:Nat}
end
section
variable {α:Type} {E:El α} {e:TypeId} {S:Nat->Prop}
section
variable {n:Nat} {pos:0<n} {f:α->List Value} {len:∀x,(f x).length=n} {one:∀x,∀u∈f x,u.oneCell'=true}
theorem OwnRows.nw {w:World} {base:Nat} {v:Value} {l:List α} (h:OwnRows (El.plain n pos f len one) e w base v l):∃A cap,v = .slice A l.length cap/\RowsAt (El.plain n pos f len one) w (Tt base w) A l/\l.length<=cap/\cap<=maxLen:=by
 obtain ⟨A,cap,rfl,h1,h2⟩:=h.newP;obtain ⟨_,_,e,_,_,h3⟩:=h.form;injection e with _ _ e;subst e;exact ⟨A,cap,rfl,h1,h2,h3⟩
end
end
section
open Go.WideShapes Go.ChangeShapes Go.Deep Go.Joins
section
variable {H:Type} {enc:TypeId×Value->H} {w:World} {base:Nat} {spare:Nat->Bool} {held:Bool}
theorem dZ {r:Reach} {b0:Nat} {v:Value} {d:DataW H} {p:List MemPlace} (hv:Value.okWide prog w r b0 22 v) (h:DataW.Trod enc prog w base spare held 22 v d p):∃l:List Int,∀ρ,(V0.one (.sl km l)).rep w (Lo w.heap.size) ρ v:=by
 obtain ⟨a0,len,cap0,rfl⟩:=okWide_slice underlying22 hv;obtain ⟨fuel,hf⟩:=h;obtain ⟨l,⟨A,cap,hc,h1,h2,h3⟩,_⟩:=(Opens.sl (E:=km) (fits:=T9) (I7 underlying3) underlying22 (by kernel_rfl)) hf;have hc':[Value.slice a0 len cap0]=[.slice A l.length cap]:=by simpa [Value.cells] using hc
 injection hc' with hc';exact ⟨l,fun ρ=>⟨A,cap,hc',⟨h1,h2⟩,h3⟩⟩
end
end
end Go.Proofs.YthpgjkjgkhjjlaaGreatDoor
