/- Part A01 of a proof of statements of chapter 15 (no condition). -/
import Derived.Test.YtkkbopkbjacfmaaGreatDoorK40
import Derived.Test.YtkkbopkbjacfmaaGreatDoorK41
import Derived.Test.YtkkbopkbjacfmaaGreatDoorK42
set_option linter.unusedVariables false
set_option linter.unusedSimpArgs false
set_option maxRecDepth 100000
set_option maxHeartbeats 64000000
namespace Go.Proofs.YtkkbopkbjacfmaaGreatDoor
open Go.RowKit Go.Proofs.Tryz
section
open Go.WideShapes Go.ChangeShapes Go.Deep
section
variable {α:Type} {E:El α} {w w':World} {S S':Nat->Prop} {A:Option Addr} {l l':List α} {xs ys:List Value} {v:Value} {base B:Nat} {e:TypeId}
end
theorem opens_str {P:Program} {t:TypeId} (ht:P.underlying t=some .string):Opens P eJ t (fun s=>s.size<=maxLen):=by
 intro H enc w base spare held fuel cs x h;obtain ⟨n,e,_,hw⟩:=DataW.trod_string ht h;exact ⟨n,e,hw⟩
end
def Rs.Fit (r:Rs):Prop:=r.name.size<=maxLen/\QB r.kind/\QB r.units/\QB r.home
def Pr.Fit (p:Pr):Prop:=QB p.site/\QB p.inc/\QB p.num
section
open Go.WideShapes Go.ChangeShapes Go.Deep Go.Joins
theorem opens_pr:Opens prog eh 42 Pr.Fit:=by
 intro H enc w base spare held fuel cs x h;obtain ⟨y0,y1,y2,n,_,hl,h0,h1,h2⟩:=trod_struct3 underlying42 h;have hl3:cs.length=3:=hl.trans (by kernel_rfl)
 match cs,hl3 with
 | [c0,c1,c2],_ =>
  have e1:prog.cellsOf 3=1:=by kernel_rfl
  obtain ⟨a,g0,w0⟩:=E5 underlying3 h0;obtain ⟨b,g1,w1⟩:=E5 underlying3 h1;obtain ⟨c,g2,w2⟩:=E5 underlying3 h2;refine ⟨⟨a,b,c⟩,?_,w0,w1,w2⟩;have g0':([c0,c1,c2].drop 0).take (prog.cellsOf 3)=[.int .i64 a]:=g0;have g1':([c0,c1,c2].drop 1).take (prog.cellsOf 3)=[.int .i64 b]:=g1;have g2':([c0,c1,c2].drop 2).take (prog.cellsOf 3)=[.int .i64 c]:=g2;rw [e1] at g0' g1' g2';simp at g0' g1' g2';show [c0,c1,c2]=[.int .i64 a,.int .i64 b,.int .i64 c];rw [g0',g1',g2']
section
variable {H:Type} {enc:TypeId×Value->H} {w:World} {base:Nat} {spare:Nat->Bool} {held:Bool}
end
end
section
open Go.WideShapes Go.ChangeShapes Go.Deep Go.Joins
theorem opens_res:Opens prog f9 74 Rs.Fit:=by
 intro H enc w base spare held fuel cs x h;obtain ⟨y0,y1,y2,y3,n,_,hl,h0,h1,h2,h3⟩:=trod_struct4 underlying74 h;have hl4:cs.length=4:=hl.trans (by kernel_rfl)
 match cs,hl4 with
 | [c0,c1,c2,c3],_ =>
  have e0:prog.cellsOf 9=1:=by kernel_rfl
  have e1:prog.cellsOf 3=1:=by kernel_rfl
  obtain ⟨s,g0,w0⟩:=opens_str underlying9 h0;obtain ⟨k,g1,w1⟩:=E5 underlying3 h1;obtain ⟨u,g2,w2⟩:=E5 underlying3 h2;obtain ⟨hm,g3,w3⟩:=E5 underlying3 h3;refine ⟨⟨s,k,u,hm⟩,?_,w0,w1,w2,w3⟩;have g0':([c0,c1,c2,c3].drop 0).take (prog.cellsOf 9)=[.string s]:=g0;have g1':([c0,c1,c2,c3].drop 1).take (prog.cellsOf 3)=[.int .i64 k]:=g1;have g2':([c0,c1,c2,c3].drop 2).take (prog.cellsOf 3)=[.int .i64 u]:=g2;have g3':([c0,c1,c2,c3].drop 3).take (prog.cellsOf 3)=[.int .i64 hm]:=g3;rw [e0] at g0';rw [e1] at g1' g2' g3';simp at g0' g1' g2' g3';show [c0,c1,c2,c3]=[.string s,.int .i64 k,.int .i64 u,.int .i64 hm];rw [g0',g1',g2',g3']
section
variable {H:Type} {enc:TypeId×Value->H} {w:World} {base:Nat} {spare:Nat->Bool} {held:Bool}
end
end
section
namespace Ex
end Ex
theorem exE_n (d:Nat):(qF d).n=5:=by cases d <;> rfl
section
variable {w:World} {S:Nat->Prop} {A:Option Addr} {i d:Nat}
end
end
section
open Go.WideShapes Go.ChangeShapes Go.Deep Go.Joins
def OpensN {α:Type} (P:Program) (N:Nat) (E:El α) (t:TypeId) (fits:α->Prop):Prop :=
 ∀{H:Type} {enc:TypeId×Value->H} {w:World} {base:Nat} {spare:Nat->Bool} {held:Bool} {cs:List Value} {x:DataW H×List MemPlace},DataW.trod enc P w base spare held N t cs=some x->∃y,E.rep w (Lo w.heap.size) y cs/\fits y
theorem OpensN.sl {α:Type} {P:Program} {N:Nat} {E:El α} {t e:TypeId} {fits:α->Prop} (ho:OpensN P N E e fits) (ht:P.underlying t=some (.slice e)) (hC:P.cellsOf e=E.n):OpensN P (N+1) E.sl t (fun l=>l.length<=maxLen/\∀y∈l,fits y):=by
 intro H enc w base spare held cs x h;rcases DataW.trod_slice ht h with ⟨rfl,_⟩|⟨a,len,cap,elems,rest,n,hn,rfl,_,hb,hl,hm,hlen,hi,_,_⟩
 ·exact ⟨[],⟨none,0,rfl,by simp,by simp [maxLen],RowsAt.nil _ _ _ _⟩,by simp [maxLen],by simp⟩
 ·obtain rfl:N=n:=by omega
  rcases Nat.eq_zero_or_pos len with h0|h0
  ·subst h0;exact ⟨[],⟨some a,cap,rfl,by simp,hm,RowsAt.nil _ _ _ _⟩,by simp [maxLen],by simp⟩
  ·have hi2:∀i,i<len->∃cs' y,w.cells? base (a.add (i*P.cellsOf e)) (P.cellsOf e)=some cs'/\DataW.trod enc P w base spare held N e cs'=some y:=by
    intro i hil;have h1:=hi i hil;rw [List.getElem?_eq_getElem (by omega)] at h1;obtain ⟨cs',h2,h3⟩:=Option.bind_eq_some_iff.1 h1;exact ⟨cs',_,h2,h3⟩
   have hplain:∃b off,a=⟨b,off,none⟩:=by
    obtain ⟨cs',_,hc,_⟩:=hi2 0 (by omega);obtain ⟨_,hcl,hat⟩:=World.cells?_some hc;have hp:=E.pos;have h1:=hat 0 (by omega);rw [Nat.zero_mul,List.getElem?_eq_getElem (by omega)] at h1;have e0:(a.add 0).add 0=a.add 0:=by rw [Go.Deep.add_add]
    rw [e0] at h1;exact Cb h1
   obtain ⟨b,off,rfl⟩:=hplain;have hel:∀i,i<len->∃y cs,E.rep w (Lo w.heap.size) y cs/\fits y/\∀j u,cs[j]? = some u->w.cell? ⟨b,off+i*E.n+j,none⟩=some u:=by
    intro i hil;obtain ⟨cs',_,hc,hd⟩:=hi2 i hil;obtain ⟨y,hy,hf⟩:=ho hd;obtain ⟨_,hcl,hat⟩:=World.cells?_some hc;refine ⟨y,cs',hy,hf,fun j u hu=>?_⟩;have hj:j<cs'.length:=(List.getElem?_eq_some_iff.1 hu).1;have h1:=hat j (by omega);rw [hu,fy,fy,hC] at h1;exact h1
   obtain ⟨l,xs,k1,k2,k3,k4⟩:=DF len off hel;subst k1;refine ⟨l,⟨_,cap,rfl,hl,hm,xs,k2,fun _=>⟨b,off,rfl,?_,k4⟩⟩,by omega,k3⟩;have hxl:=k2.length;have hp:=E.pos;have:0<xs.length:=by rw [hxl];exact Nat.mul_pos h0 hp
   exact World.block_lt_of_cell? w _ (k4 0 _ (List.getElem?_eq_getElem this))
theorem opens_am:Opens prog E8 61 (fun _=>True):=by
 intro H enc w base spare held fuel cs x h;obtain ⟨y0,y1,n,_,hl,h0,h1⟩:=trod_struct2 underlying61 h;have hl2:cs.length=2:=hl.trans (by kernel_rfl)
 match cs,hl2 with
 | [c0,c1],_ =>
  have e1:prog.cellsOf 3=1:=by kernel_rfl
  obtain ⟨a,g0,w0⟩:=E5 underlying3 h0;obtain ⟨b,g1,w1⟩:=E5 underlying3 h1;refine ⟨⟨a,b⟩,?_,trivial⟩;have g0':([c0,c1].drop 0).take (prog.cellsOf 3)=[.int .i64 a]:=g0;have g1':([c0,c1].drop 1).take (prog.cellsOf 3)=[.int .i64 b]:=g1;rw [e1] at g0' g1';simp at g0' g1';show [c0,c1]=[.int .i64 a,.int .i64 b];rw [g0',g1']
theorem opens_tm:Opens prog da 63 (fun _=>True):=by
 intro H enc w base spare held fuel cs x h;obtain ⟨y0,y1,n,_,hl,h0,h1⟩:=trod_struct2 underlying63 h;have hl2:cs.length=3:=hl.trans (by kernel_rfl)
 match cs,hl2 with
 | [c0,c1,c2],_ =>
  have e1:prog.cellsOf 9=1:=by kernel_rfl
  have e2:prog.cellsOf 61=2:=by kernel_rfl
  obtain ⟨a,g0,w0⟩:=opens_str underlying9 h0;obtain ⟨⟨m,u⟩,g1,w1⟩:=opens_am h1;refine ⟨⟨a,⟨m,u⟩⟩,?_,trivial⟩;have g0':([c0,c1,c2].drop 0).take (prog.cellsOf 9)=[.string a]:=g0;have g1':([c0,c1,c2].drop 1).take (prog.cellsOf 61)=[.int .i64 m,.int .i64 u]:=g1;rw [e1] at g0';rw [e2] at g1';simp at g0' g1';show [c0,c1,c2]=[.string a,.int .i64 m,.int .i64 u];rw [g0',g1'.1,g1'.2]
theorem opens_ho:Opens prog g8 223 (fun _=>True):=by
 intro H enc w base spare held fuel cs x h;obtain ⟨y0,y1,n,_,hl,h0,h1⟩:=trod_struct2 underlying223 h;have hl2:cs.length=5:=hl.trans (by kernel_rfl)
 match cs,hl2 with
 | [c0,c1,c2,c3,c4],_ =>
  have e1:prog.cellsOf 42=3:=by kernel_rfl
  have e2:prog.cellsOf 61=2:=by kernel_rfl
  obtain ⟨⟨a,b,c⟩,g0,_⟩:=opens_pr h0;obtain ⟨⟨m,u⟩,g1,_⟩:=opens_am h1;refine ⟨⟨⟨a,b,c⟩,⟨m,u⟩⟩,?_,trivial⟩;have g0':([c0,c1,c2,c3,c4].drop 0).take (prog.cellsOf 42)=[.int .i64 a,.int .i64 b,.int .i64 c]:=g0;have g1':([c0,c1,c2,c3,c4].drop 3).take (prog.cellsOf 61)=[.int .i64 m,.int .i64 u]:=g1;rw [e1] at g0';rw [e2] at g1';simp at g0' g1';show [c0,c1,c2,c3,c4]=[.int .i64 a,.int .i64 b,.int .i64 c,.int .i64 m,.int .i64 u];rw [g0'.1,g0'.2.1,g0'.2.2,g1'.1,g1'.2]
theorem opens_wt:Opens prog gc 154 (fun _=>True):=by
 intro H enc w base spare held fuel cs x h;obtain ⟨y0,y1,y2,y3,n,_,hl,h0,h1,h2,h3⟩:=trod_struct4 underlying154 h;have hl2:cs.length=7:=hl.trans (by kernel_rfl)
 match cs,hl2 with
 | [c0,c1,c2,c3,c4,c5,c6],_ =>
  have e1:prog.cellsOf 42=3:=by kernel_rfl
  have e2:prog.cellsOf 61=2:=by kernel_rfl
  have e3:prog.cellsOf 3=1:=by kernel_rfl
  obtain ⟨⟨a,b,c⟩,g0,_⟩:=opens_pr h0;obtain ⟨⟨m,u⟩,g1,_⟩:=opens_am h1;obtain ⟨p,g2,_⟩:=E5 underlying3 h2;obtain ⟨q,g3,_⟩:=E5 underlying3 h3;refine ⟨⟨⟨a,b,c⟩,⟨m,u⟩,p,q⟩,?_,trivial⟩;have g0':([c0,c1,c2,c3,c4,c5,c6].drop 0).take (prog.cellsOf 42)=[.int .i64 a,.int .i64 b,.int .i64 c]:=g0;have g1':([c0,c1,c2,c3,c4,c5,c6].drop 3).take (prog.cellsOf 61)=[.int .i64 m,.int .i64 u]:=g1;have g2':([c0,c1,c2,c3,c4,c5,c6].drop 5).take (prog.cellsOf 3)=[.int .i64 p]:=g2;have g3':([c0,c1,c2,c3,c4,c5,c6].drop 6).take (prog.cellsOf 3)=[.int .i64 q]:=g3;rw [e1] at g0';rw [e2] at g1';rw [e3] at g2' g3';simp at g0' g1' g2' g3';show [c0,c1,c2,c3,c4,c5,c6]=[.int .i64 a,.int .i64 b,.int .i64 c,.int .i64 m,.int .i64 u,.int .i64 p,.int .i64 q];rw [g0'.1,g0'.2.1,g0'.2.2,g1'.1,g1'.2,g2',g3']
theorem opens_ex:∀N:Nat,OpensN prog N (qF N) 66 (fun _=>True):=by
 intro N;induction N using Nat.strongRecOn with
 | ind N ih =>
  intro H enc w base spare held cs x h;obtain ⟨xs,n,hN,_,hl,hlen,hf⟩:=DataW.trod_struct Tryz.underlying66 h;have hl2:cs.length=5:=hl.trans (by kernel_rfl);have hg:∀(i:Nat) (f:Field),_=some f->∃y,DataW.trod enc prog w base spare held n f.type ((cs.drop f.offset).take (prog.cellsOf f.type))=some y:=fun i f hi=>by
   have h1:=hf i f hi;have h2:i<xs.length:=by rw [hlen];exact (Array.getElem?_eq_some_iff.1 hi).1
   rw [List.getElem?_eq_getElem h2] at h1;exact ⟨_,h1⟩
  subst hN
  match cs,hl2 with
  | [c0,c1,c2,c3,c4],_ =>
   obtain ⟨_,h0⟩:=hg 0 _ rfl;obtain ⟨_,h1⟩:=hg 1 _ rfl;obtain ⟨_,h2⟩:=hg 2 _ rfl;have e1:prog.cellsOf 3=1:=by kernel_rfl
   have e2:prog.cellsOf 63=3:=by kernel_rfl
   have e3:prog.cellsOf 64=1:=by kernel_rfl
   obtain ⟨k,g0,_⟩:=E5 underlying3 h0;obtain ⟨⟨nm,⟨m,u⟩⟩,g1,_⟩:=opens_tm h1;cases n with
   | zero=>simp [DataW.trod] at h2
   | succ n =>
    obtain ⟨ks,⟨A,cap,g2,a2,b2,r2⟩,_⟩:=(OpensN.sl (ih n (by omega)) underlying64 ((by kernel_rfl:prog.cellsOf 66=5).trans (exE_n n).symm)) h2;refine ⟨.mk k ⟨nm,⟨m,u⟩⟩ ks,⟨A,cap,?_,a2,b2,r2.map fun _ _ hx=>Hj (by omega) hx⟩,trivial⟩;have g0':([c0,c1,c2,c3,c4].drop 0).take (prog.cellsOf 3)=[.int .i64 k]:=g0;have g1':([c0,c1,c2,c3,c4].drop 1).take (prog.cellsOf 63)=[.string nm,.int .i64 m,.int .i64 u]:=g1;have g2':([c0,c1,c2,c3,c4].drop 4).take (prog.cellsOf 64)=[.slice A ks.length cap]:=g2;rw [e1] at g0';rw [e2] at g1';rw [e3] at g2';simp at g0' g1' g2';show [c0,c1,c2,c3,c4]=[.int .i64 k,.string nm,.int .i64 m,.int .i64 u,.slice A ks.length cap];rw [g0',g1'.1,g1'.2.1,g1'.2.2,g2']
theorem opens_nd (N:Nat):OpensN prog N (B9 N) 68 (fun _=>True):=by
 intro H enc w base spare held cs x h;obtain ⟨xs,n,hN,_,hl,hlen,hf⟩:=DataW.trod_struct Tryz.underlying68 h;have hl2:cs.length=9:=hl.trans (by kernel_rfl);have hg:∀(i:Nat) (f:Field),_=some f->∃y,DataW.trod enc prog w base spare held n f.type ((cs.drop f.offset).take (prog.cellsOf f.type))=some y:=fun i f hi=>by
  have h1:=hf i f hi;have h2:i<xs.length:=by rw [hlen];exact (Array.getElem?_eq_some_iff.1 hi).1
  rw [List.getElem?_eq_getElem h2] at h1;exact ⟨_,h1⟩
 subst hN
 match cs,hl2 with
 | [c0,c1,c2,c3,c4,c5,c6,c7,c8],_ =>
  obtain ⟨_,h0⟩:=hg 0 _ rfl;obtain ⟨_,h1⟩:=hg 1 _ rfl;obtain ⟨_,h2⟩:=hg 2 _ rfl;have e1:prog.cellsOf 42=3:=by kernel_rfl
  have e2:prog.cellsOf 66=5:=by kernel_rfl
  have e3:prog.cellsOf 3=1:=by kernel_rfl
  obtain ⟨⟨a,b,c⟩,g0,_⟩:=opens_pr h0;obtain ⟨⟨k,⟨nm,⟨m,u⟩⟩,ks⟩,g1,_⟩:=opens_ex n h1;obtain ⟨gen,g2,_⟩:=E5 underlying3 h2;cases n with
  | zero=>exact g1.elim
  | succ n =>
   obtain ⟨A,cap,g1,a1,b1,r1⟩:=g1;refine ⟨⟨⟨a,b,c⟩,.mk k ⟨nm,⟨m,u⟩⟩ ks,gen⟩,⟨A,cap,?_,⟨a1,b1⟩,r1.map fun _ _ hx=>Hj (by omega) hx⟩,trivial⟩;have g0':([c0,c1,c2,c3,c4,c5,c6,c7,c8].drop 0).take (prog.cellsOf 42)=[.int .i64 a,.int .i64 b,.int .i64 c]:=g0;have g1':([c0,c1,c2,c3,c4,c5,c6,c7,c8].drop 3).take (prog.cellsOf 66)=[.int .i64 k,.string nm,.int .i64 m,.int .i64 u,.slice A ks.length cap]:=g1;have g2':([c0,c1,c2,c3,c4,c5,c6,c7,c8].drop 8).take (prog.cellsOf 3)=[.int .i64 gen]:=g2;rw [e1] at g0';rw [e2] at g1';rw [e3] at g2';simp at g0' g1' g2';show [c0,c1,c2,c3,c4,c5,c6,c7,c8]=[.int .i64 a,.int .i64 b,.int .i64 c,.int .i64 k,.string nm,.int .i64 m,.int .i64 u,.slice A ks.length cap,.int .i64 gen];rw [g0'.1,g0'.2.1,g0'.2.2,g1'.1,g1'.2.1,g1'.2.2.1,g1'.2.2.2.1,g1'.2.2.2.2,g2']
section
variable {H:Type} {enc:TypeId×Value->H} {w:World} {base:Nat} {spare:Nat->Bool} {held:Bool}
end
end
def flatB:Nat->Ex->Bool
 | 0,_=>false
 | n+1,x=>decide (x.kids.length<=10) && x.kids.all (flatB n)
theorem ex0_nil {w:World} {S:Nat->Prop} {A:Option Addr} {l:List Ex} (h:RowsAt (qF 0) w S A l):l=[]:=by
 cases l with
 | nil=>rfl
 | cons x l =>
  obtain ⟨b,off,cs,_,_,hc,_⟩:=h.getx (i:=0) (by simp) rfl;exact hc.elim
theorem kFlatE:∀(n:Nat) (hn:n≤100) (d:Nat) (x:Ex) {b:Bool} (_:flatB n x=b),FSpec prog 59 [x.a d,.one (.sc (.int .i64 (n:Int)))] [] [] (.b b) []
 | 0,_,d,x,b,hB=>by
  obtain rfl:b=false:=hB.symm;refine aS Tryz.func59 ?_;exact QY
 | n+1,hn,d,x,b,hB=>by
  have ih:=fun y=>@kFlatE n (by omega) (d-1) y;have hB:(decide (x.kids.length<=10) && x.kids.all (flatB n))=b:=hB;refine aS Tryz.func59 ?_;refine aP (φ:=d=0->x.kids=[]) (fun c ρ a w hr h0=>?_) (fun hk0=>?_)
  ·have h:=hr.tmp 0;obtain ⟨cs,e,hA⟩:=h
   match cs,hA with
   | [_,_,_,_,_],⟨_,_,_,_,⟨A,cap,_,_,h9⟩,_⟩=>subst h0;exact ex0_nil h9
  by_cases h10:x.kids.length<=10
  case neg =>
   obtain rfl:b=false:=by rw [<-hB,decide_eq_false h10];rfl
   exact QY
  rw [decide_eq_true h10,Bool.true_and] at hB;cases d with
  | zero =>
   have hk0:=hk0 rfl;obtain rfl:b=true:=by rw [<-hB,hk0];rfl
   obtain ⟨k,at_,ks⟩:=x;obtain rfl:ks=[]:=hk0;refine ao ?_;refine ab (fun _:Unit=>True) (fun _=>bC [2] [(1,.c (.sc (.int .i64 ((n+1:Nat):Int)))),(2,.c (.ptr 2 0)),(5,.i (0:Nat))] [(2,.box 66 (Ex.d 0 (.mk k at_ [])))]) (fun _=>0) () trivial aL ?_;intro _ _;exact QY
  | succ d =>
   refine ao ?_;refine ab (fun i=>i<=x.kids.length/\(x.kids.drop i).all (flatB n)=b) (fun i=>bC [2] [(1,.c (.sc (.int .i64 ((n+1:Nat):Int)))),(2,.c (.ptr 2 0)),(5,.i i)] [(2,.box 66 (x.d (d+1)))]) (fun i=>x.kids.length-i) 0 ⟨Nat.zero_le _,hB⟩ aL ?_;rintro i ⟨hi,hs⟩;by_cases hlt:i<x.kids.length
   ·obtain ⟨y,hy⟩:∃y,x.kids[i]? = some y:=⟨_,List.getElem?_eq_getElem hlt⟩;have ey:x.kids[i]=y:=(List.getElem?_eq_some_iff.1 hy).2;rw [List.drop_eq_getElem_cons hlt,ey,List.all_cons] at hs;obtain ⟨f,hf⟩:∃f,flatB n y=f:=⟨_,rfl⟩;have kY:=ih y hf;rw [hf] at hs;have en1:(((n+1:Nat):Int)-1)=(n:Int):=by omega
    cases f with
    | true =>
     rw [Bool.true_and] at hs;repeat' (first|refine az ?_ ?_|refine aa 9 rfl (cB [] (kY) ?_)|(refine aa 10 rfl ?_;refine sx (KA rfl rfl rfl ((IntWalk.i64_in _ (by omega)).trans en1)) ?_)|refine ay ?_|exact aA|refine ax fun hb=>?_)
     refine ⟨i+1,⟨hlt,hs⟩,by omega,?_⟩;exact aL
    | false =>
     obtain rfl:b=false:=hs.symm;repeat' (first|refine az ?_ ?_|refine aa 9 rfl (cB [] (kY) ?_)|(refine aa 10 rfl ?_;refine sx (KA rfl rfl rfl ((IntWalk.i64_in _ (by omega)).trans en1)) ?_)|refine ay ?_|exact aA|refine ax fun hb=>?_|exact aT|fail)
   ·rw [List.drop_eq_nil_of_le (by omega)] at hs;obtain rfl:b=true:=hs.symm;exact QY
theorem lowA_doc (p:Pr) (q:Qu) (a:Am):(bif !decide (af q.holds p=a) && (aJ a || bc q.res (af q.holds p) a) then (bif decide ((aY q p a).2.2=0) then (aY q p a).1 else q) else q)=tw p q a:=by
 unfold tw;by_cases he:(aY q p a).2.2=0
 ·have hc:=(ko he).2.2.2.1;rw [decide_eq_true he,hc,Bool.or_true];cases decide (af q.holds p=a) <;> rfl
 ·rw [decide_eq_false he,Bool.and_false,cond_false];cases !decide (af q.holds p=a) && (aJ a || bc q.res (af q.holds p) a) <;> rfl
def lG {α:Type}:List α->Tp->List α×Tp
 | [],t=>([],t)
 | x :: l,t=>(bif !decide (t.v 5=1) then x :: (lG l t.s).1 else (lG l t.s).1,(lG l t.s).2)
def Md (s:Ws) (n:List Int):Ws:=⟨(lG s.queues ⟨n,0⟩).1,(lG s.needs (lG s.queues ⟨n,0⟩).2).1⟩
theorem yi {α:Type} (x:α) (l:List α) (t:Tp) (acc:List α):acc++(lG (x :: l) t).1=(bif !decide (t.v 5=1) then acc++[x] else acc)++(lG l t.s).1:=by
 show acc++(bif !decide (t.v 5=1) then x :: (lG l t.s).1 else (lG l t.s).1)=_;cases !decide (t.v 5=1) with
 | true=>rw [qCt,qCt,List.append_assoc];rfl
 | false=>rfl
section
variable {P:Program} {o:Oper} {s:Mst}
theorem lop_nesr {t t':TypeId} {x y:Operand} {la:List D} {a:List Value} {sh:List Nat} [I:EQR P t sh] (ho:o.op = .binOp .neq t x y t') (hx:s.ev x = .v (.ag la)) (hy:s.ev y = .v (.ag la)) (ha:scs la=some a) (h1:a.map shp=sh):LOp P o s [] ⟨.b false,[],[]⟩ :=
 bq fun cx st ρ ac w hr hc _=>by
  have he:=hc x (by simp [ho,Op.operands]);have he2:=hc y (by simp [ho,Op.operands]);rw [hx] at he;rw [hy] at he2;have hv:=hr.ev x;rw [he] at hv;have hv2:=hr.ev y;rw [he2] at hv2;obtain ⟨vs,hv,hA⟩:=hv;obtain ⟨us,hv2,hB⟩:=hv2;have e1:=jE ha hA;have e2:=jE ha hB;subst e1;subst e2;refine ⟨.bool false,?_,rfl,fun k hk=>by simp [TV.has,V0.has,D.has] at hk⟩;unfold execOp;rw [ho];simp [hv,hv2,eqGuard,binOp,I.e w us h1,I.g]
theorem lop_eqsr {t t':TypeId} {x y:Operand} {la:List D} {a:List Value} {sh:List Nat} [I:EQR P t sh] (ho:o.op = .binOp .eql t x y t') (hx:s.ev x = .v (.ag la)) (hy:s.ev y = .v (.ag la)) (ha:scs la=some a) (h1:a.map shp=sh):LOp P o s [] ⟨.b true,[],[]⟩ :=
 bq fun cx st ρ ac w hr hc _=>by
  have he:=hc x (by simp [ho,Op.operands]);have he2:=hc y (by simp [ho,Op.operands]);rw [hx] at he;rw [hy] at he2;have hv:=hr.ev x;rw [he] at hv;have hv2:=hr.ev y;rw [he2] at hv2;obtain ⟨vs,hv,hA⟩:=hv;obtain ⟨us,hv2,hB⟩:=hv2;have e1:=jE ha hA;have e2:=jE ha hB;subst e1;subst e2;refine ⟨.bool true,?_,rfl,fun k hk=>by simp [TV.has,V0.has,D.has] at hk⟩;unfold execOp;rw [ho];simp [hv,hv2,eqGuard,binOp,I.e w us h1,I.g]
end
theorem kSameHo (L:List Ho):FSpec prog 262 [.one (.sl g8 L),.one (.sl g8 L)] [] [] (.b true) []:=by
 refine aS Tryz.func262 ?_;refine aP (fun c ρ a w hr=>ck (t:=0) hr rfl) (fun hl0=>?_);repeat' (first|refine az ?_ ?_|(refine aa 10 rfl ?_;first|refine sx (lop_nesr rfl rfl rfl rfl rfl) ?_|refine sx (lop_eqsr rfl rfl rfl rfl rfl) ?_)|refine ay ?_|exact aA|(refine ax fun hb=>?_;first|(exact absurd rfl hb)|skip))
 refine ab (fun i=>i<=L.length) (fun i=>bC [] [(0,.c (.sl g8 L)),(1,.c (.sl g8 L)),(5,.i i)] []) (fun i=>L.length-i) 0 (Nat.zero_le _) aL ?_;intro i hi;by_cases hlt:i<L.length
 ·obtain ⟨o,ho⟩:∃o,L[i]? = some o:=⟨_,List.getElem?_eq_getElem hlt⟩;repeat' (first|refine az ?_ ?_|(refine aa 10 rfl ?_;first|refine sx (lop_nesr rfl rfl rfl rfl rfl) ?_|refine sx (lop_eqsr rfl rfl rfl rfl rfl) ?_)|refine ay ?_|exact aA|(refine ax fun hb=>?_;first|(exact absurd rfl hb)|skip))
  refine ⟨i+1,hlt,by omega,?_⟩;exact aL
 ·exact QY
theorem kSameWt (L:List Wt):FSpec prog 263 [.one (.sl gc L),.one (.sl gc L)] [] [] (.b true) []:=by
 refine aS Tryz.func263 ?_;refine aP (fun c ρ a w hr=>ck (t:=0) hr rfl) (fun hl0=>?_);repeat' (first|refine az ?_ ?_|(refine aa 10 rfl ?_;first|refine sx (lop_nesr rfl rfl rfl rfl rfl) ?_|refine sx (lop_eqsr rfl rfl rfl rfl rfl) ?_)|refine ay ?_|exact aA|(refine ax fun hb=>?_;first|(exact absurd rfl hb)|skip))
 refine ab (fun i=>i<=L.length) (fun i=>bC [] [(0,.c (.sl gc L)),(1,.c (.sl gc L)),(5,.i i)] []) (fun i=>L.length-i) 0 (Nat.zero_le _) aL ?_;intro i hi;by_cases hlt:i<L.length
 ·obtain ⟨o,ho⟩:∃o,L[i]? = some o:=⟨_,List.getElem?_eq_getElem hlt⟩;repeat' (first|refine az ?_ ?_|(refine aa 10 rfl ?_;first|refine sx (lop_nesr rfl rfl rfl rfl rfl) ?_|refine sx (lop_eqsr rfl rfl rfl rfl rfl) ?_)|refine ay ?_|exact aA|(refine ax fun hb=>?_;first|(exact absurd rfl hb)|skip))
  refine ⟨i+1,hlt,by omega,?_⟩;exact aL
 ·exact QY
theorem kSameQ (q:Qu):FSpec prog 171 [q.a,q.a] [] [] (.b true) []:=by
 refine aS Tryz.func171 ?_;have k1:=kSameHo q.holds;have k2:=kSameWt q.convs;have k3:=kSameWt q.waits;repeat' (first|refine az ?_ ?_|(refine aa 9 rfl ?_;first|(refine cB [] (k1) ?_)|(refine cB [] (k2) ?_)|(refine cB [] (k3) ?_))|(refine aa 10 rfl ?_;first|refine sx (lop_nesr rfl rfl rfl rfl rfl) ?_|refine sx (lop_eqsr rfl rfl rfl rfl rfl) ?_)|refine ay ?_|exact aA|(refine ax fun hb=>?_;first|(exact absurd rfl hb)|skip)|exact aT|fail)
theorem kSameT (L:List Qu):FSpec prog 80 [.one (.sl ic L),.one (.sl ic L)] [] [] (.b true) []:=by
 refine aS Tryz.func80 ?_;refine aP (fun c ρ a w hr=>ck (t:=0) hr rfl) (fun hl0=>?_);repeat' (first|refine az ?_ ?_|(refine aa 10 rfl ?_;first|refine sx (lop_nesr rfl rfl rfl rfl rfl) ?_|refine sx (lop_eqsr rfl rfl rfl rfl rfl) ?_)|refine ay ?_|exact aA|(refine ax fun hb=>?_;first|(exact absurd rfl hb)|skip))
 refine ab (fun i=>i<=L.length) (fun i=>bC [] [(0,.c (.sl ic L)),(1,.c (.sl ic L)),(5,.i i)] []) (fun i=>L.length-i) 0 (Nat.zero_le _) aL ?_;intro i hi;by_cases hlt:i<L.length
 ·obtain ⟨o,ho⟩:∃o,L[i]? = some o:=⟨_,List.getElem?_eq_getElem hlt⟩;have kQ:=kSameQ o;repeat' (first|refine az ?_ ?_|refine aa 9 rfl (cB [] (kQ) ?_)|(refine aa 10 rfl ?_;first|refine sx (lop_nesr rfl rfl rfl rfl rfl) ?_|refine sx (lop_eqsr rfl rfl rfl rfl rfl) ?_)|refine ay ?_|exact aA|(refine ax fun hb=>?_;first|(exact absurd rfl hb)|skip))
  refine ⟨i+1,hlt,by omega,?_⟩;exact aL
 ·exact QY
theorem kSameEx:∀(x:Ex) (d:Nat),FSpec prog 172 [x.a d,x.a d] [] [] (.b true) []:=by
 refine Ex.ind (fun k a l ih=>?_);intro d;show FSpec prog 172 [.ag (CR d k a l),.ag (CR d k a l)] [] [] (.b true) [];refine aS func172 ?_;refine aP (fun c ρ a w hr=>ky (t:=0) (i:=4) hr rfl rfl) (fun hx=>?_);obtain ⟨hlen,hne⟩:=hx;rcases Nat.eq_zero_or_pos l.length with h0|h0
 ·obtain rfl:l=[]:=List.length_eq_zero_iff.1 h0;repeat' (first|refine az ?_ ?_|(refine aa 10 rfl ?_;first|refine sx (lop_nesr rfl rfl rfl rfl rfl) ?_|refine sx (lop_eqsr rfl rfl rfl rfl rfl) ?_)|refine ay ?_|exact aA|(refine ax fun hb=>?_;first|(exact absurd rfl hb)|skip))
  refine ab (fun _:Unit=>True) (fun _=>bC [2,3] [(2,.c (.ptr 2 0)),(3,.c (.ptr 3 0)),(5,.i (0:Nat))] [(2,.box 66 (CR d k a [])),(3,.box 66 (CR d k a []))]) (fun _=>0) () trivial aL ?_;rintro _ -
  exact QY
 ·obtain ⟨e,rfl⟩:=hne h0;clear hne;repeat' (first|refine az ?_ ?_|(refine aa 10 rfl ?_;first|refine sx (lop_nesr rfl rfl rfl rfl rfl) ?_|refine sx (lop_eqsr rfl rfl rfl rfl rfl) ?_)|refine ay ?_|exact aA|(refine ax fun hb=>?_;first|(exact absurd rfl hb)|skip))
  refine ab (fun i=>i<=l.length) (fun i=>bC [2,3] [(2,.c (.ptr 2 0)),(3,.c (.ptr 3 0)),(5,.i i)] [(2,.box 66 (CR (e+1) k a l)),(3,.box 66 (CR (e+1) k a l))]) (fun i=>l.length-i) 0 (Nat.zero_le _) aL ?_;intro i hi;by_cases hlt:i<l.length
  ·have kS:=ih l[i] (List.getElem_mem hlt) e;clear ih;repeat' (first|refine az ?_ ?_|refine aa 9 rfl (cB [] (kS) ?_)|(refine aa 10 rfl ?_;first|refine sx (lop_nesr rfl rfl rfl rfl rfl) ?_|refine sx (lop_eqsr rfl rfl rfl rfl rfl) ?_)|refine ay ?_|exact aA|(refine ax fun hb=>?_;first|(exact absurd rfl hb)|skip))
   refine ⟨i+1,by omega,by omega,?_⟩;exact aL
  ·exact QY
theorem kSameNd (d:Nat) (x:Nd):FSpec prog 81 [x.a d,x.a d] [] [] (.b true) []:=by
 refine aS Tryz.func81 ?_;have kE:=kSameEx x.expr d;exact QY
theorem kSameWs (d:Nat) (s:Ws):FSpec prog 26 [s.a d,s.a d] [] [] (.b true) []:=by
 refine aS Tryz.func26 ?_;refine aP (fun c ρ a w hr=>cG (t:=0) (i:=1) hr rfl rfl) (fun hl0_1=>?_);have kT:=kSameT s.queues;refine ao ?_;refine ab (fun i=>i<=s.needs.length) (fun i=>bC [2,3] [(2,.c (.ptr 2 0)),(3,.c (.ptr 3 0)),(5,.i i)] [(2,.box 28 (s.d d)),(3,.box 28 (s.d d))]) (fun i=>s.needs.length-i) 0 (Nat.zero_le _) aL ?_;intro i hi;by_cases hlt:i<s.needs.length
 ·obtain ⟨x,hx⟩:∃x,s.needs[i]? = some x:=⟨_,List.getElem?_eq_getElem hlt⟩;have kN:=kSameNd d x;refine ao ?_;refine ⟨i+1,hlt,by omega,?_⟩;exact aL
 ·exact QY
def smallQ (q:Qu):Bool:=decide (q.holds.length<=10) && decide (q.convs.length<=10) && decide (q.waits.length<=10)
def smallS (s:Ws):Bool:=decide (s.queues.length<=10) && decide (s.needs.length<=10) && s.queues.all smallQ && s.needs.all fun n=>flatB 5 n.expr
theorem kPSmall (d:Nat) (s:Ws) {b:Bool} (hb0:smallS s=b):FSpec prog 18 [s.a d] [] [] (.b b) []:=by
 refine aS Tryz.func18 ?_;unfold smallS at hb0;by_cases h1:10<s.queues.length
 ·obtain rfl:false=b:=by rw [<-hb0,decide_eq_false (by omega)];rfl
  exact QY
 by_cases h2:10<s.needs.length
 ·obtain rfl:false=b:=by rw [<-hb0,decide_eq_false (show ¬s.needs.length<=10 by omega)];simp
  exact QY
 rw [decide_eq_true (show s.queues.length<=10 by omega),decide_eq_true (show s.needs.length<=10 by omega),Bool.true_and,Bool.true_and] at hb0;obtain ⟨VN,hVN⟩:∃b,(s.needs.all fun n=>flatB 5 n.expr)=b:=⟨_,rfl⟩;rw [hVN] at hb0;refine ao ?_;refine ab (fun i=>i<=s.queues.length/\((s.queues.drop i).all smallQ && VN)=b) (fun i=>bC [1] [(1,.c (.ptr 1 0)),(3,.i i)] [(1,.box 28 (s.d d))]) (fun i=>s.queues.length-i) 0 ⟨Nat.zero_le _,hb0⟩ aL ?_;clear hb0;rintro i ⟨hi,hs⟩;by_cases hlt:i<s.queues.length
 ·obtain ⟨x,hx⟩:∃x,s.queues[i]? = some x:=⟨_,List.getElem?_eq_getElem hlt⟩;have ex:s.queues[i]=x:=(List.getElem?_eq_some_iff.1 hx).2;rw [List.drop_eq_getElem_cons hlt,ex,List.all_cons] at hs;unfold smallQ at hs;by_cases h3:x.holds.length<=10/\x.convs.length<=10/\x.waits.length<=10
  ·obtain ⟨c1,c2,c3⟩:=h3;rw [decide_eq_true c1,decide_eq_true c2,decide_eq_true c3] at hs;refine ao ?_;refine ⟨i+1,⟨hlt,hs⟩,by omega,?_⟩;exact aL
  ·obtain rfl:false=b:=by
    rw [<-hs];cases hh:(decide (x.holds.length<=10) && decide (x.convs.length<=10) && decide (x.waits.length<=10)) with
    | false=>rfl
    | true=>simp only [Bool.and_eq_true,decide_eq_true_eq] at hh;exact absurd ⟨hh.1.1,hh.1.2,hh.2⟩ h3
   have h3':x.holds.length<=10->x.convs.length<=10->x.waits.length<=10->False:=fun a b c=>h3 ⟨a,b,c⟩;clear h3;repeat' (first|refine az ?_ ?_|refine ay ?_|exact aA|(refine ax fun hb=>?_;first|(exact (h3' (by omega) (by omega) (by omega)).elim)|skip)|exact aT|fail)
 rw [List.drop_eq_nil_of_le (by omega)] at hs;obtain rfl:VN=b:=hs;refine ao ?_;refine ab (fun i=>i<=s.needs.length/\((s.needs.drop i).all fun n=>flatB 5 n.expr)=VN) (fun i=>bC [1] [(1,.c (.ptr 1 0)),(4,.i i)] [(1,.box 28 (s.d d))]) (fun i=>s.needs.length-i) 0 ⟨Nat.zero_le _,hVN⟩ aL ?_;clear hVN hi hlt;rintro i ⟨hi,hs⟩;by_cases hlt:i<s.needs.length
 ·obtain ⟨x,hx⟩:∃x,s.needs[i]? = some x:=⟨_,List.getElem?_eq_getElem hlt⟩;have ex:s.needs[i]=x:=(List.getElem?_eq_some_iff.1 hx).2;rw [List.drop_eq_getElem_cons hlt,ex,List.all_cons] at hs;obtain ⟨f,hf⟩:∃f,flatB 5 x.expr=f:=⟨_,rfl⟩;have kF:=kFlatE 5 (by decide) d x.expr hf;rw [hf] at hs;cases f with
  | true =>
   refine ao ?_;refine ⟨i+1,⟨hlt,hs⟩,by omega,?_⟩;exact aL
  | false =>
   obtain rfl:false=VN:=hs;exact QY
 ·rw [List.drop_eq_nil_of_le (by omega)] at hs;obtain rfl:true=VN:=hs;exact QY
theorem QA (d:Nat) (s:Ws) (by_:List Int) (hn:by_.length<=1000) (h1:s.queues.length<=1000) (h2:s.needs.length<=1000) {R:Ws} (hR:Md s by_=R):FSpec prog 21 [s.a d,.one (.sl fo by_)] [] [] (.v (R.a d)) []:=by
 refine aS func21 ?_;unfold Md at hR;obtain ⟨⟨Q,u⟩,hQ⟩:∃Q,lG s.queues ⟨by_,0⟩=Q:=⟨_,rfl⟩;rw [hQ] at hR;dsimp only at hR;obtain ⟨⟨N,u2⟩,hN⟩:∃N,lG s.needs u=N:=⟨_,rfl⟩;rw [hN] at hR;subst hR;have t0:TOk ⟨by_,0⟩:=⟨Nat.zero_le _,by show by_.length<=_;omega⟩;refine ao ?_;refine eG 6 0 1000 78 ic rfl rfl rfl rfl ?_;refine eG 6 1 1001 68 (B9 d) rfl rfl rfl rfl ?_;refine ab (fun y:Nat×List Qu×Tp=>y.1<=s.queues.length/\y.2.1.length<=y.1/\TOk y.2.2/\y.2.1++(lG (s.queues.drop y.1) y.2.2).1=Q/\(lG (s.queues.drop y.1) y.2.2).2=u) (fun y=>bC [2,4,6,11,1000,1001] [(2,.c (.ptr 2 0)),(4,.c (.ptr 4 0)),(5,.c (.ptr 11 0)),(6,.c (.ptr 6 0)),(7,.i y.1)] [(2,.box 28 (s.d d)),(4,.box 28 [.sc (.slice none 0 0),.sc (.slice none 0 0)]),(11,.box 138 (Ll y.2.2)),(6,.box 28 [.own 1000,.own 1001]),(1000,.arr 78 ic y.2.1),(1001,.arr 68 (B9 d) [])]) (fun y=>s.queues.length-y.1) (0,[],⟨by_,0⟩) ⟨Nat.zero_le _,Nat.le_refl _,t0,congrArg Prod.fst hQ,congrArg Prod.snd hQ⟩ aL ?_;clear hQ t0;rintro ⟨i,T,t⟩ ⟨hi,hTl,ht,hs,hu⟩;dsimp only at *
 by_cases hlt:i<s.queues.length
 ·obtain ⟨x,hx⟩:∃x,s.queues[i]? = some x:=⟨_,qGg hlt⟩;have ex:=qGs hx;rw [qDc hlt,ex] at hs hu;rw [yi] at hs;have hu:(lG (s.queues.drop (i+1)) t.s).2=u:=hu;obtain ⟨v,hv⟩:=qGe (t.v 5);have kN:=iS t 5 ht (by omega);have ht':=ht.s;rw [hv] at kN hs;generalize t.s=t' at *
  by_cases h5:v=1
  ·rw [qDt h5] at hs;repeat' (first|refine az ?_ ?_|refine aa 9 rfl (cH (qf [(0,11)]) kN ?_)|refine ay ?_|exact aA|(refine ax fun hb=>?_;first|(exact absurd h5 hb)|skip))
   refine ⟨(i+1,T,t'),⟨hlt,by dsimp only;omega,ht',hs,hu⟩,by dsimp only;omega,?_⟩;exact aL
  ·rw [qDf h5] at hs;repeat' (first|refine az ?_ ?_|(refine aa 8 rfl ?_;refine aK (ae rfl rfl (av rfl rfl) (aB [x] rfl rfl rfl rfl) rfl aE aE) rfl rfl rfl ?_)|refine aa 9 rfl (cH (qf [(0,11)]) kN ?_)|refine ay ?_|exact aA|(refine ax fun hb=>?_;first|(exact absurd hb h5)|skip))
   refine ⟨(i+1,T++[x],t'),⟨hlt,by simp;omega,ht',hs,hu⟩,by dsimp only;omega,?_⟩;exact a8 (qf [(1000,30)])
 rw [qDn (by omega)] at hs hu;obtain rfl:T=Q:=by rw [<-hs];exact (List.append_nil _).symm
 obtain rfl:t=u:=hu;clear hs hi;refine ao ?_;refine ab (fun y:Nat×List Nd×Tp=>y.1<=s.needs.length/\y.2.1.length<=y.1/\TOk y.2.2/\y.2.1++(lG (s.needs.drop y.1) y.2.2).1=N) (fun y=>bC [2,4,6,11,1000,1001] [(2,.c (.ptr 2 0)),(4,.c (.ptr 4 0)),(5,.c (.ptr 11 0)),(6,.c (.ptr 6 0)),(8,.i y.1)] [(2,.box 28 (s.d d)),(4,.box 28 [.sc (.slice none 0 0),.sc (.slice none 0 0)]),(11,.box 138 (Ll y.2.2)),(6,.box 28 [.own 1000,.own 1001]),(1000,.arr 78 ic T),(1001,.arr 68 (B9 d) y.2.1)]) (fun y=>s.needs.length-y.1) (0,[],t) ⟨Nat.zero_le _,Nat.le_refl _,ht,congrArg Prod.fst hN⟩ aL ?_;clear hN ht;rintro ⟨i,M,t⟩ ⟨hi,hMl,ht,hs⟩;dsimp only at *
 by_cases hlt:i<s.needs.length
 ·obtain ⟨x,hx⟩:∃x,s.needs[i]? = some x:=⟨_,qGg hlt⟩;have ex:=qGs hx;rw [qDc hlt,ex,yi] at hs;obtain ⟨v,hv⟩:=qGe (t.v 5);have kN:=iS t 5 ht (by omega);have ht':=ht.s;rw [hv] at kN hs;generalize t.s=t' at *
  by_cases h5:v=1
  ·rw [qDt h5] at hs;repeat' (first|refine az ?_ ?_|refine aa 9 rfl (cH (qf [(0,11)]) kN ?_)|refine ay ?_|exact aA|(refine ax fun hb=>?_;first|(exact absurd h5 hb)|skip))
   refine ⟨(i+1,M,t'),⟨hlt,by dsimp only;omega,ht',hs⟩,by dsimp only;omega,?_⟩;exact aL
  ·rw [qDf h5] at hs;repeat' (first|refine az ?_ ?_|(refine aa 8 rfl ?_;refine aK (ae rfl rfl (av rfl rfl) (aB [x] rfl rfl rfl rfl) rfl aE aE) rfl rfl rfl ?_)|refine aa 9 rfl (cH (qf [(0,11)]) kN ?_)|refine ay ?_|exact aA|(refine ax fun hb=>?_;first|(exact absurd hb h5)|skip))
   refine ⟨(i+1,M++[x],t'),⟨hlt,by simp;omega,ht',hs⟩,by dsimp only;omega,?_⟩;exact a8 (qf [(1001,50)])
 ·rw [qDn (by omega)] at hs;obtain rfl:M=N:=by rw [<-hs];exact (List.append_nil _).symm
  exact QY
inductive LowD (p:Pr) (q:Qu) (a:Tm):Qu->Prop
 | nm:aV a.name q.res.name=false->LowD p q a q
 | same:aV a.name q.res.name=true->af q.holds p=a.am->LowD p q a q
 | bare:aV a.name q.res.name=true->af q.holds p≠a.am->aJ a.am=false->bc q.res (af q.holds p) a.am=false->LowD p q a q
 | zfail {x:Qu} {l:List Ho} {e:Int}:aV a.name q.res.name=true->af q.holds p≠a.am->aJ a.am=true->aY q p a.am=(x,l,e)->e≠0->LowD p q a q
 | zok {x:Qu} {l:List Ho}:aV a.name q.res.name=true->af q.holds p≠a.am->aJ a.am=true->aY q p a.am=(x,l,0)->LowD p q a x
 | cfail {x:Qu} {l:List Ho} {e:Int}:aV a.name q.res.name=true->af q.holds p≠a.am->aJ a.am=false->bc q.res (af q.holds p) a.am=true->aY q p a.am=(x,l,e)->e≠0->LowD p q a q
 | cok {x:Qu} {l:List Ho}:aV a.name q.res.name=true->af q.holds p≠a.am->aJ a.am=false->bc q.res (af q.holds p) a.am=true->aY q p a.am=(x,l,0)->LowD p q a x
theorem lowD_way (p:Pr) (q:Qu) (a:Tm):LowD p q a (bif aV a.name q.res.name then tw p q a.am else q):=by
 cases h1:aV a.name q.res.name with
 | false=>exact .nm h1
 | true =>
  rw [cond_true,<-lowA_doc];by_cases h2:af q.holds p=a.am
  ·rw [decide_eq_true h2];exact .same h1 h2
  rw [decide_eq_false h2];obtain ⟨⟨x,l,e⟩,hR⟩:∃R,aY q p a.am=R:=⟨_,rfl⟩;rw [hR];cases h3:aJ a.am with
  | true =>
   by_cases h4:e=0
   ·subst h4;exact .zok h1 h2 h3 hR
   ·dsimp only;rw [decide_eq_false h4];exact .zfail h1 h2 h3 hR h4
  | false =>
   cases h5:bc q.res (af q.holds p) a.am with
   | false=>exact .bare h1 h2 h3 h5
   | true =>
    by_cases h4:e=0
    ·subst h4;exact .cok h1 h2 h3 h5 hR
    ·dsimp only;rw [decide_eq_false h4];exact .cfail h1 h2 h3 h5 hR h4
theorem LowD.sum {p:Pr} {q:Qu} {a:Tm} {Q2:Qu} (h:LowD p q a Q2) {H:Am} {zrB Fg:Bool} {x:Qu} {l:List Ho} {e:Int} (hH:af q.holds p=H) (hz:aJ a.am=zrB) (hc:bc q.res H a.am=Fg) (hR:aY q p a.am=(x,l,e)) :
  (¬a.name.toList=q.res.name.toList->Q2=q)/\(H=a.am->Q2=q)/\(zrB=false->Fg=false->Q2=q)/\(¬e=0->Q2=q)/\(a.name.toList=q.res.name.toList->¬H=a.am->(zrB=true\/Fg=true)->e=0->Q2=x):=by
 subst hH;cases h with
 | nm h1=>exact ⟨fun _=>rfl,fun _=>rfl,fun _ _=>rfl,fun _=>rfl,fun hn=>absurd (toList_inj hn) (cb.1 h1)⟩
 | same h1 h2=>exact ⟨fun _=>rfl,fun _=>rfl,fun _ _=>rfl,fun _=>rfl,fun _ h=>absurd h2 h⟩
 | bare h1 h2 h3 h4=>exact ⟨fun _=>rfl,fun _=>rfl,fun _ _=>rfl,fun _=>rfl,fun _ _ h=>by rw [<-hz,h3,<-hc,h4] at h;simp at h⟩
 | zfail h1 h2 h3 h4 h5=>exact ⟨fun _=>rfl,fun _=>rfl,fun _ _=>rfl,fun _=>rfl,fun _ _ _ he=>absurd (by rw [h4] at hR;injection hR with _ hR;injection hR with _ hR;rw [hR,he]) h5⟩
 | zok h1 h2 h3 h4=>exact ⟨fun hn=>absurd (congrArg ByteArray.toList (aZ.1 h1)) hn,fun h=>absurd h h2,fun h=>(by rw [<-hz,h3] at h;cases h),fun he=>absurd (by rw [h4] at hR;injection hR with _ hR;injection hR with _ hR;exact hR.symm) he,fun _ _ _ _=>by rw [h4] at hR;injection hR⟩
 | cfail h1 h2 h3 h4 h5 h6=>exact ⟨fun _=>rfl,fun _=>rfl,fun _ _=>rfl,fun _=>rfl,fun _ _ _ he=>absurd (by rw [h5] at hR;injection hR with _ hR;injection hR with _ hR;rw [hR,he]) h6⟩
 | cok h1 h2 h3 h4 h5=>exact ⟨fun hn=>absurd (congrArg ByteArray.toList (aZ.1 h1)) hn,fun h=>absurd h h2,fun _ h=>(by rw [<-hc,h4] at h;cases h),fun he=>absurd (by rw [h5] at hR;injection hR with _ hR;injection hR with _ hR;exact hR.symm) he,fun _ _ _ _=>by rw [h5] at hR;injection hR⟩
theorem kApply (d:Nat) (s:Ws) (o:Opn) {R:Ws×Int} (hR:Dz s o=R):FSpec prog 25 [s.a d,o.a] [] [] (.tup [R.1.a d,.one (.sc (.int .i64 R.2))]) []:=by
  refine aS Tryz.func25 ?_;unfold Dz at hR;have k1:=mV d s;obtain ⟨v,hv⟩:∃v,bb s=v:=⟨_,rfl⟩;rw [hv] at hR k1;cases v with
  | false =>
    obtain rfl:R=(Oq,2):=hR.symm;repeat' (first|refine az ?_ ?_|refine aa 9 rfl (cB [] (k1) ?_)|refine ay ?_|exact aA|refine ax fun hb=>?_|(refine gG (qf []) ?_;exact ak))
  | true =>
  have k2:=Lr o rfl;obtain ⟨v,ho⟩:∃v,iT o=v:=⟨_,rfl⟩;rw [ho] at hR k2;cases v with
  | false =>
    obtain rfl:R=(Oq,1):=hR.symm;repeat' (first|refine az ?_ ?_|(refine aa 9 rfl ?_;first|(refine cB [] (k1) ?_)|(refine cB [] (k2) ?_))|refine ay ?_|exact aA|refine ax fun hb=>?_|(refine gG (qf []) ?_;exact ak))
  | true =>
  have h4:o.lower.length<=8:=by
    have h:=ho;unfold iT at h;simp only [Bool.and_eq_true,decide_eq_true_eq] at h;exact h.1.2
  obtain ⟨b1,b2,b3,b4⟩:=dU hv;have k3:=tU d s (by omega) (by omega) b3;obtain ⟨W,hW⟩:∃W,aR s=W:=⟨_,rfl⟩;rw [hW] at k3 hR b4;have k4:=AI W o.proc;by_cases hin:o.proc∈W
  case neg =>
    rw [decide_eq_false hin] at hR k4;obtain rfl:R=(Oq,10):=hR.symm;clear hW b3;repeat' (first|refine az ?_ ?_|(refine aa 9 rfl ?_;first|(refine cB [] (k1) ?_)|(refine cB [] (k2) ?_)|(refine cC [] (k3) ?_)|(refine cB [] (k4) ?_))|refine ay ?_|exact aA|refine ax fun hb=>?_|(refine gG (qf []) ?_;exact ak))
  rw [decide_eq_true hin] at hR k4;have hsq:∀q∈s.queues,ai q=true:=fun q hq=>dc (mC hv) hq;obtain ⟨F,hF⟩:∃F,(s.needs.filter fun n=>!decide (n.proc=o.proc))=F:=⟨_,rfl⟩;obtain rfl:R=(⟨s.queues.map (iZ o),F⟩,0):=by rw [<-hR,<-hF];rfl
  clear hR hW b3;repeat' (first|refine az ?_ ?_|(refine aa 9 rfl ?_;first|(refine cB [] (k1) ?_)|(refine cB [] (k2) ?_)|(refine cC [] (k3) ?_)|(refine cB [] (k4) ?_))|refine ay ?_|exact aA|refine ax fun hb=>?_)
  refine eG 6 0 1000 78 ic rfl rfl rfl rfl ?_;refine eG 6 1 1001 68 (B9 d) rfl rfl rfl rfl ?_;refine ab (fun y:Nat×List Nd=>y.1<=s.needs.length/\y.2.length<=y.1/\y.2++((s.needs.drop y.1).filter fun n=>!decide (n.proc=o.proc))=F) (fun y=>bC [2,3,4,6,1000,1001] [(2,.c (.ptr 2 0)),(3,.c (.ptr 3 0)),(4,.c (.ptr 4 0)),(6,.c (.ptr 6 0)),(39,.c (.sl (B9 d) s.needs)),(40,.i s.needs.length),(41,.i y.1)] [(2,.box 28 (s.d d)),(3,.box 46 o.d),(4,.box 28 [.sc (.slice none 0 0),.sc (.slice none 0 0)]),(6,.box 28 [.own 1000,.own 1001]),(1000,.arr 78 ic []),(1001,.arr 68 (B9 d) y.2)]) (fun y=>s.needs.length-y.1) (0,[]) ⟨Nat.zero_le _,Nat.le_refl _,hF⟩ aL ?_;clear hF k1 k2 k3 k4;rintro ⟨i,T⟩ ⟨hi,hTl,hs⟩;dsimp only at *
  by_cases hlt:i<s.needs.length
  · obtain ⟨x,hx⟩:∃x,s.needs[i]? = some x:=⟨_,List.getElem?_eq_getElem hlt⟩
    have ex:s.needs[i]=x:=(List.getElem?_eq_some_iff.1 hx).2;rw [List.drop_eq_getElem_cons hlt,ex,List.filter_cons] at hs;clear hsq;by_cases hp:x.proc=o.proc
    · rw [if_neg (by simp [hp])] at hs
      repeat' (first|refine az ?_ ?_|refine ay ?_|exact aA|(refine ax fun hb=>?_;first|(exact absurd hp hb)|skip))
      refine ⟨(i+1,T),⟨hlt,by dsimp only;omega,hs⟩,by dsimp only;omega,?_⟩;exact aL
    · rw [if_pos (by simp [hp])] at hs
      repeat' (first|refine az ?_ ?_|(refine aa 8 rfl ?_;refine aK (ae rfl rfl (av rfl rfl) (aB [x] rfl rfl rfl rfl) rfl aE aE) rfl rfl rfl ?_)|refine ay ?_|exact aA|(refine ax fun hb=>?_;first|(exact absurd hb hp)|skip))
      refine ⟨(i+1,T++[x]),⟨hlt,by simp;omega,by dsimp only;rw [<-hs];simp⟩,by dsimp only;omega,?_⟩;exact a8 (qf [(1001,54)])
  rw [List.drop_eq_nil_of_le (by omega)] at hs;obtain rfl:T=F:=by rw [<-hs];exact (List.append_nil _).symm
  clear hs hi hin hv;repeat' (first|refine az ?_ ?_|refine ay ?_|exact aA|refine ax fun hb=>?_)
  refine ab (fun i=>i<=s.queues.length) (fun i=>bC [2,3,4,6,1000,1001] [(2,.c (.ptr 2 0)),(3,.c (.ptr 3 0)),(4,.c (.ptr 4 0)),(6,.c (.ptr 6 0)),(58,.c (.sl ic s.queues)),(59,.i s.queues.length),(60,.i i)] [(2,.box 28 (s.d d)),(3,.box 46 o.d),(4,.box 28 [.sc (.slice none 0 0),.sc (.slice none 0 0)]),(6,.box 28 [.own 1000,.own 1001]),(1000,.arr 78 ic ((s.queues.take i).map (iZ o))),(1001,.arr 68 (B9 d) T)]) (fun i=>s.queues.length-i) 0 (Nat.zero_le _) aL ?_;clear hlt;intro i hi;have hti:((s.queues.take i).map (iZ o)).length=i:=by simp;omega
  by_cases hlt:i<s.queues.length
  case neg =>
    have e2:s.queues.take i=s.queues:=List.take_of_length_le (by omega);rw [e2];clear hti e2 hsq;repeat' (first|refine az ?_ ?_|refine ay ?_|exact aA|refine ax fun hb=>?_|(refine gG (qf []) ?_;exact ak))
  obtain ⟨q,hq⟩:∃q,s.queues[i]? = some q:=⟨_,List.getElem?_eq_getElem hlt⟩;have eq:s.queues[i]=q:=(List.getElem?_eq_some_iff.1 hq).2;have hqs:=hsq q (List.mem_of_getElem? hq);have hok:=aG (jV ho hqs).ok;have e2:(s.queues.take (i+1)).map (iZ o)=(s.queues.take i).map (iZ o)++[iZ o q]:=by rw [List.take_succ_eq_append_getElem hlt,eq,List.map_append];rfl
  obtain ⟨Z,hZ⟩:∃Z,wZ o.proc o.lower (iY o.proc q)=Z:=⟨_,rfl⟩;have eA:iZ o q = { Z with gen:=q.gen }:=by unfold iZ;rw [hZ]
  rw [eA] at hok e2;have h1:=hok.hv.len;have h2:=hok.clen;have h3:=hok.wlen;have kYc:=ol Z (by dsimp only at h1;omega) (by dsimp only at h2;omega) (by dsimp only at h3;omega);obtain ⟨A,hA⟩:∃A,(s.queues.take i).map (iZ o)=A:=⟨_,rfl⟩;rw [hA] at e2 hti ⊢;obtain ⟨Q1,hQ1⟩:∃Q1,iY o.proc q=Q1:=⟨_,rfl⟩;have hce:=Oo hqs o.proc;rw [hQ1] at hZ;unfold iY at hQ1;rw [hce] at hQ1;have kW:=ce q o.proc rfl;obtain ⟨⟨R1,R2,R3⟩,hR⟩:∃R,bd q o.proc=R:=⟨_,rfl⟩;have kC:=AL q o.proc hR;rw [hR] at hQ1;dsimp only at hQ1;obtain ⟨wo,hwo⟩:∃wo,ah q o.proc=wo:=⟨_,rfl⟩;rw [hwo] at hQ1 kW;clear eA hA hok hce hR hwo hqs hsq eq h1 h2 h3;have hw2:wo=none/\Q1=q\/(∃a,wo=some a)/\Q1=R1:=by
    cases wo with
    | none=>exact .inl ⟨rfl,hQ1.symm⟩
    | some a=>exact .inr ⟨⟨a,rfl⟩,hQ1.symm⟩
  clear hQ1;rcases hw2 with ⟨rfl,hQ1⟩|⟨⟨a0,rfl⟩,hQ1⟩
  case' inl =>
    repeat' (first|refine az ?_ ?_|refine aa 9 rfl (cC [] (kW) ?_)|refine ay ?_|exact aA|refine ax fun hb=>?_)
    refine ab (fun y:Nat×Qu=>y.1<=o.lower.length/\wZ o.proc (o.lower.drop y.1) y.2=Z) (fun y=>bC [2,3,4,6,10,1000,1001] [(2,.c (.ptr 2 0)),(3,.c (.ptr 3 0)),(4,.c (.ptr 4 0)),(6,.c (.ptr 6 0)),(10,.c (.ptr 10 0)),(11,.i q.gen),(58,.c (.sl ic s.queues)),(59,.i s.queues.length),(60,.i i),(83,.c (.sl da o.lower)),(84,.i o.lower.length),(85,.i y.1)] [(2,.box 28 (s.d d)),(3,.box 46 o.d),(4,.box 28 [.sc (.slice none 0 0),.sc (.slice none 0 0)]),(6,.box 28 [.own 1000,.own 1001]),(10,.box 78 y.2.d),(1000,.arr 78 ic A),(1001,.arr 68 (B9 d) T)]) (fun y=>o.lower.length-y.1) (0,q) ⟨Nat.zero_le _,by rw [<-hQ1];exact hZ⟩ aL ?_
  case' inr =>
    repeat' (first|refine az ?_ ?_|(refine aa 9 rfl ?_;first|(refine cC [] (kW) ?_)|(refine cC [] (kC) ?_))|refine ay ?_|exact aA|refine ax fun hb=>?_)
    refine ab (fun y:Nat×Qu=>y.1<=o.lower.length/\wZ o.proc (o.lower.drop y.1) y.2=Z) (fun y=>bC [2,3,4,6,10,1000,1001] [(2,.c (.ptr 2 0)),(3,.c (.ptr 3 0)),(4,.c (.ptr 4 0)),(6,.c (.ptr 6 0)),(10,.c (.ptr 10 0)),(11,.i q.gen),(58,.c (.sl ic s.queues)),(59,.i s.queues.length),(60,.i i),(83,.c (.sl da o.lower)),(84,.i o.lower.length),(85,.i y.1)] [(2,.box 28 (s.d d)),(3,.box 46 o.d),(4,.box 28 [.sc (.slice none 0 0),.sc (.slice none 0 0)]),(6,.box 28 [.own 1000,.own 1001]),(10,.box 78 y.2.d),(1000,.arr 78 ic A),(1001,.arr 68 (B9 d) T)]) (fun y=>o.lower.length-y.1) (0,R1) ⟨Nat.zero_le _,by rw [<-hQ1];exact hZ⟩ aL ?_
  all_goals
    clear hZ hQ1 kW kC;rintro ⟨k,Q⟩ ⟨hk,ht⟩;dsimp only at *
    by_cases hlk:k<o.lower.length
    case neg =>
      rw [List.drop_eq_nil_of_le (by omega)] at ht;obtain rfl:Q=Z:=ht;repeat' (first|refine az ?_ ?_|(refine aa 8 rfl ?_;refine aK (ae rfl rfl (av rfl rfl) (aB [{ Q with gen:=q.gen }] rfl rfl rfl rfl) rfl aE aE) rfl rfl rfl ?_)|refine aa 9 rfl (cC [] (kYc) ?_)|refine ay ?_|exact aA|refine ax fun hb=>?_)
      refine ⟨i+1,hlt,by omega,?_⟩;rw [e2];exact a8 (qf [(1000,140)])
    clear kYc e2;obtain ⟨a,ha⟩:∃a,o.lower[k]? = some a:=⟨_,List.getElem?_eq_getElem hlk⟩;have ea:o.lower[k]=a:=(List.getElem?_eq_some_iff.1 ha).2;rw [List.drop_eq_getElem_cons hlk,ea] at ht;have hw:=lowD_way o.proc Q a;obtain ⟨Q2,hQ2⟩:∃Q2,(bif aV a.name Q.res.name then tw o.proc Q a.am else Q)=Q2:=⟨_,rfl⟩;have ht:wZ o.proc (o.lower.drop (k+1)) Q2=Z:=by rw [<-hQ2];exact ht
    rw [hQ2] at hw;have hw:LowD o.proc Q a Q2:=hw;obtain ⟨H,hH⟩:∃H,af Q.holds o.proc=H:=⟨_,rfl⟩;obtain ⟨zrB,hzb⟩:∃zrB,aJ a.am=zrB:=⟨_,rfl⟩;obtain ⟨Fg,hcb⟩:∃Fg,bc Q.res H a.am=Fg:=⟨_,rfl⟩;obtain ⟨⟨x,l,e⟩,hR⟩:∃R,aY Q o.proc a.am=R:=⟨_,rfl⟩;have kH:=eT Q o.proc;rw [hH] at kH;have kV:=dt Q.res H a.am;rw [hcb] at kV;have kZ:=eH a.am;rw [hzb] at kZ;have kL:=y6 Q o.proc a.am hR;obtain ⟨hq1,hq2,hq3,hq4,hqx⟩:=hw.sum hH hzb hcb hR;clear hQ2 ea hw hH hzb hcb hR;repeat' (first|refine az ?_ ?_|(refine aa 9 rfl ?_;first|(refine cB [] (kH) ?_)|(refine cB [] (kZ) ?_)|(refine cB [] (kV) ?_)|(refine cC [] (kL) ?_))|refine ay ?_|exact aA|refine ax fun hb=>?_)
    all_goals first
      | (have e9:Q2=Q:=by first
          | (refine hq1 ?_;assumption)
          | (refine hq2 ?_;assumption)
          | (refine hq4 ?_;assumption)
          | (refine hq3 ?_ ?_ <;> assumption)
         rw [e9] at ht;refine ⟨(k+1,Q),⟨hlk,ht⟩,by dsimp only;omega,?_⟩;exact aL)
      | (have e9:Q2=x:=by first
          | (refine hqx ?_ ?_ (.inl ?_) ?_ <;> assumption)
          | (refine hqx ?_ ?_ (.inr ?_) ?_ <;> assumption)
         rw [e9] at ht;refine ⟨(k+1,x),⟨hlk,ht⟩,by dsimp only;omega,?_⟩;exact aL)
theorem kLawApplies (d:Nat) (hd:2<=d) (s:Ws) (o:Opn) (l by_:List Int):FSpec prog 4 [s.a d,o.a,.one (.sl fo l),.one (.sl fo by_)] [] [] (.b true) []:=by
 refine aS Tryz.func4 ?_;refine aP (fun c ρ a w hr=>ck (t:=3) hr rfl) (fun hl3=>?_);have kA:=BM;obtain ⟨bl,hbl⟩:∃b,decide (l.length<=300)=b:=⟨_,rfl⟩;have kL:=IJ l hbl;obtain ⟨bs,hbs⟩:∃b,smallS s=b:=⟨_,rfl⟩;have kS:=kPSmall d s hbs;cases bl with
 | false =>
  repeat' (first|refine az ?_ ?_|(refine aa 9 rfl ?_;first|(refine cB [] (kL) ?_)|(refine cB [] (kA) ?_))|refine ay ?_|exact aA|refine ax fun hb=>?_|exact aT|fail)
 | true =>
 have hl:=of_decide_eq_true hbl;by_cases hby:20<by_.length
 ·repeat' (first|refine az ?_ ?_|(refine aa 9 rfl ?_;first|(refine cB [] (kL) ?_)|(refine cB [] (kA) ?_))|refine ay ?_|exact aA|refine ax fun hb=>?_|exact aT|fail)
 cases bs with
 | false =>
  repeat' (first|refine az ?_ ?_|(refine aa 9 rfl ?_;first|(refine cB [] (kL) ?_)|(refine cB [] (kS) ?_)|(refine cB [] (kA) ?_))|refine ay ?_|exact aA|refine ax fun hb=>?_|exact aT|fail)
 | true =>
 have kC:=Bd d hd l hl;have hcl:=Be l;have hcv:dA (s8 l)=true:=pG (gJ l).2 _ (mv (tX l));generalize s8 l=C at kC hcl hcv;have hw:=rv hcv;obtain ⟨O,hO⟩:∃O,wG C=O:=⟨_,rfl⟩;have kO:=Oh d C hO;rw [hO] at hw;obtain ⟨w1,w2,_,_⟩:=dU hw;obtain ⟨W,hW⟩:∃W,Md O by_=W:=⟨_,rfl⟩;have kR:=QA d O by_ (by omega) (by omega) (by omega) hW;obtain ⟨L,hL⟩:∃L,nT C 12=L:=⟨_,rfl⟩;have kP:=JN d C 12 (by decide) hcl hL;have hLl:L.length<=12:=by rw [<-hL];unfold nT;simp;omega
 clear hL hW hO hw w1 w2 hcv hcl hbs hbl;repeat' (first|refine az ?_ ?_|(refine aa 8 rfl ?_;refine aK (ae rfl rfl (av rfl rfl) (aB [o] rfl rfl rfl rfl) rfl aE aE) rfl rfl rfl ?_)|(refine aa 9 rfl ?_;first|(refine cB [] (kL) ?_)|(refine cB [] (kS) ?_)|(refine cB [] (kA) ?_)|(refine cC [] (kC) ?_)|(refine cC [] (kO) ?_)|(refine cC [] (kR) ?_)|(refine cH (qf [(0,1000)]) (kP) ?_))|refine ay ?_|exact aA|(refine ax fun hb=>?_;first|(exfalso;omega)|skip)|exact aT|fail)
 refine kx 51 rfl ?_;obtain ⟨LPx,hLPx⟩:∃LPx,L++[o]=LPx:=⟨_,rfl⟩;have hLl:LPx.length<=13:=by rw [<-hLPx];simp;omega
 rw [hLPx];clear hLPx kC kO kR kP kL kS hby;refine ab (fun i:Nat=>i<=LPx.length) (fun i=>bC [4,10] [(4,.c (.ptr 4 0)),(10,.c (.ptr 10 0)),(11,.c (.sl vS LPx)),(12,.i i)] [(4,.box 28 (s.d d)),(10,.box 28 (W.d d))]) (fun i=>LPx.length-i) 0 (Nat.zero_le _) aL ?_;intro i hi;by_cases hlt:i<LPx.length
 case neg =>
  repeat' (first|refine az ?_ ?_|refine aa 9 rfl (cB [] (kA) ?_)|refine ay ?_|exact aA|refine ax fun hb=>?_|exact aT|fail)
 obtain ⟨x,hx⟩:∃x,LPx[i]? = some x:=⟨_,List.getElem?_eq_getElem hlt⟩;obtain ⟨⟨A1,e1⟩,h1⟩:∃R,Dz W x=R:=⟨_,rfl⟩;obtain ⟨⟨A2,e2⟩,h2⟩:∃R,Dz s x=R:=⟨_,rfl⟩;have p1:=zB d W x h1;have q1:=kApply d W x h1;have p2:=zB d s x h2;have q2:=kApply d s x h2;have s1:=kSameWs d A1;have s2:=kSameWs d A2;clear h1 h2 kA;repeat' (first|refine az ?_ ?_|(refine aa 9 rfl ?_;first|(refine cC [] (p1) ?_)|(refine cC [] (q1) ?_)|(refine cC [] (p2) ?_)|(refine cC [] (q2) ?_)|(refine cB [] (s1) ?_)|(refine cB [] (s2) ?_))|refine ay ?_|exact aA|(refine ax fun hb=>?_;first|(exact absurd rfl hb)|skip))
 refine ⟨i+1,hlt,by omega,?_⟩;exact aL
section
open Go.WideShapes Go.ChangeShapes Go.Deep Go.Joins
theorem opens_quD:Opens prog ic 78 (fun _=>True):=by
 intro H enc w base spare held fuel cs x h;obtain ⟨xs,n,_,_,hl,hlen,hf⟩:=DataW.trod_struct Tryz.underlying78 h;have hl2:cs.length=8:=hl.trans (by kernel_rfl);have hg:∀(i:Nat) (f:Field),_=some f->∃y,DataW.trod enc prog w base spare held n f.type ((cs.drop f.offset).take (prog.cellsOf f.type))=some y:=fun i f hi=>by
  have h1:=hf i f hi;have h2:i<xs.length:=by rw [hlen];exact (Array.getElem?_eq_some_iff.1 hi).1
  rw [List.getElem?_eq_getElem h2] at h1;exact ⟨_,h1⟩
 match cs,hl2 with
 | [c0,c1,c2,c3,c4,c5,c6,c7],_ =>
  obtain ⟨_,h0⟩:=hg 0 _ rfl;obtain ⟨_,h1⟩:=hg 1 _ rfl;obtain ⟨_,h2⟩:=hg 2 _ rfl;obtain ⟨_,h3⟩:=hg 3 _ rfl;obtain ⟨_,h4⟩:=hg 4 _ rfl;have e1:prog.cellsOf 74=4:=by kernel_rfl
  have e2:prog.cellsOf 75=1:=by kernel_rfl
  have e3:prog.cellsOf 76=1:=by kernel_rfl
  have e4:prog.cellsOf 3=1:=by kernel_rfl
  obtain ⟨⟨rn,rk,ru,rh⟩,g0,_⟩:=opens_res h0;obtain ⟨hs,⟨A1,k1,g1,a1,b1,r1⟩,_⟩:=(opens_ho.sl underlying75 (by kernel_rfl)) h1;obtain ⟨vs,⟨A2,k2,g2,a2,b2,r2⟩,_⟩:=(opens_wt.sl underlying76 (by kernel_rfl)) h2;obtain ⟨ws,⟨A3,k3,g3,a3,b3,r3⟩,_⟩:=(opens_wt.sl underlying76 (by kernel_rfl)) h3;obtain ⟨gen,g4,_⟩:=E5 underlying3 h4;have g0':([c0,c1,c2,c3,c4,c5,c6,c7].drop 0).take (prog.cellsOf 74)=[.string rn,.int .i64 rk,.int .i64 ru,.int .i64 rh]:=g0;have g1':([c0,c1,c2,c3,c4,c5,c6,c7].drop 4).take (prog.cellsOf 75)=[.slice A1 hs.length k1]:=g1;have g2':([c0,c1,c2,c3,c4,c5,c6,c7].drop 5).take (prog.cellsOf 76)=[.slice A2 vs.length k2]:=g2;have g3':([c0,c1,c2,c3,c4,c5,c6,c7].drop 6).take (prog.cellsOf 76)=[.slice A3 ws.length k3]:=g3;have g4':([c0,c1,c2,c3,c4,c5,c6,c7].drop 7).take (prog.cellsOf 3)=[.int .i64 gen]:=g4;rw [e1] at g0';rw [e2] at g1';rw [e3] at g2' g3';rw [e4] at g4';simp at g0' g1' g2' g3' g4';exact ⟨⟨⟨rn,rk,ru,rh⟩,hs,vs,ws,gen⟩,⟨g0'.1,g0'.2.1,g0'.2.2.1,g0'.2.2.2,⟨A1,k1,g1',⟨a1,b1⟩,r1⟩,⟨A2,k2,g2',⟨a2,b2⟩,r2⟩,⟨A3,k3,g3',⟨a3,b3⟩,r3⟩,g4',trivial⟩,trivial⟩
section
variable {H:Type} {enc:TypeId×Value->H} {w:World} {base:Nat} {spare:Nat->Bool} {held:Bool}
end
end
section
open Go.WideShapes Go.ChangeShapes Go.Deep Go.Joins
section
variable {H:Type} {enc:TypeId×Value->H} {w:World} {base:Nat} {spare:Nat->Bool} {held:Bool}
theorem open_wsV {r:Reach} {b0:Nat} {v:Value} {d:DataW H} {p:List MemPlace} (hv:Value.okWide prog w r b0 28 v) (h:DataW.Trod enc prog w base spare held 28 v d p):∃(s:Ws) (D:Nat),∀ρ,(s.a D).rep w (Lo w.heap.size) ρ v:=by
 obtain ⟨cs,rfl,hsz⟩:=okWide_struct Tryz.underlying28 hv;obtain ⟨fuel,hf⟩:=h;have hs2:cs.toList.length=2:=by rw [Array.length_toList,hsz];kernel_rfl
 obtain ⟨y0,y1,n,_,hl,h0,h1⟩:=trod_struct2 Tryz.underlying28 hf;have hc2:(Value.agg cs).cells.toList=cs.toList:=by simp [Value.cells]
 rw [hc2] at h0 h1;obtain ⟨c⟩:=cs
 match c,hs2 with
 | [c0,c1],_ =>
  have e0:prog.cellsOf 25=1:=by kernel_rfl
  have e1:prog.cellsOf 26=1:=by kernel_rfl
  obtain ⟨qs,⟨A1,k1,g1,a1,b1,r1⟩,_⟩:=(opens_quD.sl underlying25 (by kernel_rfl)) h0;cases n with
  | zero=>simp [DataW.trod] at h1
  | succ n =>
   obtain ⟨ns,⟨A2,k2,g2,a2,b2,r2⟩,_⟩:=(OpensN.sl (opens_nd n) underlying26 (by kernel_rfl)) h1;have g1':([c0,c1].drop 0).take (prog.cellsOf 25)=[.slice A1 qs.length k1]:=g1;have g2':([c0,c1].drop 1).take (prog.cellsOf 26)=[.slice A2 ns.length k2]:=g2;rw [e0] at g1';rw [e1] at g2';simp at g1' g2';exact ⟨⟨qs,ns⟩,n,fun ρ=>⟨[c0,c1],rfl,⟨A1,k1,g1',⟨a1,b1⟩,r1⟩,⟨A2,k2,g2',⟨a2,b2⟩,r2⟩,trivial⟩⟩
end
theorem Ws.up {d d':Nat} (hd:d<=d') {w:World} {S:Nat->Prop} {ρ:Nat->Value} {s:Ws} {v:Value} (h:(s.a d).rep w S ρ v):(s.a d').rep w S ρ v:=by
 obtain ⟨cs,e,hA⟩:=h
 match cs,hA with
 | [_,_],⟨k0,⟨A,cap,e1,e2,h3⟩,_⟩ =>
  exact ⟨_,e,k0,⟨A,cap,e1,e2,h3.map fun _ _ hx=>by
   obtain ⟨A',c',e',l',r'⟩:=hx;exact ⟨A',c',e',l',r'.map fun _ _ hy=>Hj hd hy⟩⟩,trivial⟩
end
section
open Go.WideShapes Go.ChangeShapes Go.Deep Go.Joins
section
variable {H:Type} {enc:TypeId×Value->H} {w:World} {base:Nat} {spare:Nat->Bool} {held:Bool}
theorem open_opV {r:Reach} {b0:Nat} {v:Value} {d:DataW H} {p:List MemPlace} (hv:Value.okWide prog w r b0 46 v) (h:DataW.Trod enc prog w base spare held 46 v d p):∃x:Opn,∀ρ,x.a.rep w (Lo w.heap.size) ρ v:=by
 obtain ⟨cs0,rfl,hsz⟩:=okWide_struct Tryz.underlying46 hv;obtain ⟨fuel,hf⟩:=h;have hc2:(Value.agg cs0).cells.toList=cs0.toList:=by simp [Value.cells]
 rw [hc2] at hf;obtain ⟨cs⟩:=cs0;obtain ⟨y0,y1,y2,y3,n,_,hl,h0,h1,h2,h3⟩:=trod_struct4 Tryz.underlying46 hf;have hl2:cs.length=6:=hl.trans (by kernel_rfl)
 match cs,hl2 with
 | [c0,c1,c2,c3,c4,c5],_ =>
  have e1:prog.cellsOf 42=3:=by kernel_rfl
  have e2:prog.cellsOf 3=1:=by kernel_rfl
  have e3:prog.cellsOf 44=1:=by kernel_rfl
  obtain ⟨⟨pa,pb,pc⟩,g0,_⟩:=opens_pr h0;obtain ⟨la,g1,_⟩:=E5 underlying3 h1;obtain ⟨co,g2,_⟩:=E5 underlying3 h2;obtain ⟨lo,⟨A,k,g3,l1,l2,r1⟩,_⟩:=(opens_tm.sl underlying44 (by kernel_rfl)) h3;have g0':([c0,c1,c2,c3,c4,c5].drop 0).take (prog.cellsOf 42)=[.int .i64 pa,.int .i64 pb,.int .i64 pc]:=g0;have g1':([c0,c1,c2,c3,c4,c5].drop 3).take (prog.cellsOf 3)=[.int .i64 la]:=g1;have g2':([c0,c1,c2,c3,c4,c5].drop 4).take (prog.cellsOf 3)=[.int .i64 co]:=g2;have g3':([c0,c1,c2,c3,c4,c5].drop 5).take (prog.cellsOf 44)=[.slice A lo.length k]:=g3;rw [e1] at g0';rw [e2] at g1' g2';rw [e3] at g3';simp at g0' g1' g2' g3';exact ⟨⟨⟨pa,pb,pc⟩,la,co,lo⟩,fun ρ=>⟨[c0,c1,c2,c3,c4,c5],rfl,g0'.1,g0'.2.1,g0'.2.2,g1',g2',⟨A,k,g3',⟨l1,l2⟩,r1⟩,trivial⟩⟩
end
end
end Go.Proofs.YtkkbopkbjacfmaaGreatDoor
