/- Part 10 of 35 of the proof of centralNew_holds (no condition). -/
import Derived.Test.YtjndcdcbjidocaaGreatDoorK09
set_option linter.unusedVariables false
set_option linter.unusedSimpArgs false
set_option maxRecDepth 100000
set_option maxHeartbeats 64000000
namespace Go.Proofs.YtjndcdcbjidocaaGreatDoor
open Go.RowKit Go.Proofs.Tryz
structure En where
 name:ByteArray
 before:Am
 after:Am
deriving DecidableEq
structure Sv where
 label:Int
 at_:Int
deriving DecidableEq
def aY (a b:ByteArray):Bool:=a.toList == b.toList
theorem aZ {a b:ByteArray}:aY a b=true↔a=b:=pY
theorem bR {a b:ByteArray}:aY a b=false↔a≠b:=by
 rw [←Bool.not_eq_true,aZ]
def c8 (n:ByteArray):Am→List En→Am
 | a,[]=>a
 | a,e :: l=>c8 n (bif aY e.name n then e.after else a) l
def az (l:List En) (n:ByteArray):Am:=c8 n ⟨0,0⟩ l
theorem lP (n:ByteArray):∀(l m:List En) (a:Am),c8 n a (l++m)=c8 n (c8 n a l) m
 | [],_,_=>rfl
 | e :: l,m,a=>lP n l m _
theorem i5 (l:List En) (e:En) (n:ByteArray):az (l++[e]) n=bif aY e.name n then e.after else az l n:=by
 unfold az
 rw [lP]
 rfl
def cO (a b:Am):Bool:=bI b && !decide (a=b) && (aG a || bI a && (bif !decide (a.mode=0) then cZ b.mode a.mode else decide (a.units<b.units)))
def fx (pre:List En):List En→Bool
 | []=>true
 | e :: l=>co e.name.toList && decide (e.before=az pre e.name) && cO e.before e.after && fx (pre++[e]) l
def dB (n:ByteArray):List ByteArray→Bool
 | []=>false
 | m :: l=>aY m n || dB n l
theorem fS {n:ByteArray}:∀{l:List ByteArray},dB n l=true↔n∈l
 | []=>by simp [dB]
 | m :: l=>by
  show (aY m n || dB n l)=true↔_
  rw [Bool.or_eq_true,aZ,fS,List.mem_cons]
  exact or_congr_left ⟨Eq.symm,Eq.symm⟩
def gl (n:ByteArray):List ByteArray→List ByteArray
 | []=>[n]
 | m :: l=>bif iM n m then n :: m :: l else m :: gl n l
theorem mv {n x:ByteArray}:∀{l:List ByteArray},x∈gl n l↔x=n∨x∈l
 | []=>by simp [gl]
 | m :: l=>by
  show x∈(bif iM n m then n :: m :: l else m :: gl n l)↔_
  cases iM n m with
  | true=>simp
  | false =>
   rw [cond_false,List.mem_cons,mv,List.mem_cons]
   constructor
   ·rintro (h|h|h) <;> simp [h]
   ·rintro (h|h|h) <;> simp [h]
def c5:List ByteArray→List En→List ByteArray
 | acc,[]=>acc
 | acc,e :: l=>c5 (bif dB e.name acc then acc else gl e.name acc) l
def bE (l:List En):List ByteArray:=c5 [] l
theorem oe {x:ByteArray}:∀{l:List En} {acc:List ByteArray},x∈c5 acc l↔x∈acc∨∃e∈l,e.name=x
 | [],acc=>by simp [c5]
 | e :: l,acc=>by
  show x∈c5 _ l↔_
  rw [oe]
  have h:x∈(bif dB e.name acc then acc else gl e.name acc)↔x∈acc∨e.name=x:=by
   cases hh:dB e.name acc with
   | true =>
    rw [cond_true]
    constructor
    ·exact .inl
    ·rintro (h|h)
     ·exact h
     ·exact h▸fS.1 hh
   | false =>
    rw [cond_false,mv]
    constructor
    ·rintro (h|h)
     ·exact .inr h.symm
     ·exact .inl h
    ·rintro (h|h)
     ·exact .inr h
     ·exact .inl h.symm
  rw [h]
  constructor
  ·rintro ((h|h)|⟨f,h1,h2⟩)
   ·exact .inl h
   ·exact .inr ⟨e,by simp,h⟩
   ·exact .inr ⟨f,by simp [h1],h2⟩
  ·rintro (h|⟨f,h1,h2⟩)
   ·exact .inl (.inl h)
   ·rcases List.mem_cons.1 h1 with rfl|h1
    ·exact .inl (.inr h2)
    ·exact .inr ⟨f,h1,h2⟩
theorem dC {l:List En} {x:ByteArray}:x∈bE l↔∃e∈l,e.name=x:=by unfold bE;rw [oe];simp
def lQ (l:List ByteArray):Prop:=l.Pairwise fun a b=>iM a b=true
theorem mw {a b:ByteArray} (h1:iM a b=false) (h2:a≠b):iM b a=true:=by
 unfold iM at *
 rw [bytesLess_eq,decide_eq_false_iff_not] at h1
 rw [bytesLess_eq,decide_eq_true_eq]
 rcases Std.lt_trichotomy a.toList b.toList with h|h|h
 ·exact absurd h h1
 ·exact absurd (toList_inj h) h2
 ·exact h
theorem mx {n:ByteArray}:∀{l:List ByteArray},lQ l→n ∉ l→lQ (gl n l)
 | [],_,_=>by simp [gl,lQ]
 | m :: l,h,hn=>by
  obtain ⟨h1,h2⟩:=List.pairwise_cons.1 h
  show lQ (bif iM n m then n :: m :: l else m :: gl n l)
  cases hc:iM n m with
  | true =>
   refine List.pairwise_cons.2 ⟨fun x hx=>?_,h⟩
   rcases List.mem_cons.1 hx with rfl|hx
   ·exact hc
   ·exact fC hc (h1 x hx)
  | false =>
   have hm:iM m n=true:=mw hc (fun e=>hn (by simp [e]))
   refine List.pairwise_cons.2 ⟨fun x hx=>?_,mx h2 (fun hx=>hn (by simp [hx]))⟩
   rcases mv.1 hx with rfl|hx
   ·exact hm
   ·exact h1 x hx
theorem og:∀{l:List En} {acc:List ByteArray},lQ acc→lQ (c5 acc l)
 | [],_,h=>h
 | e :: l,acc,h=>by
  refine og (l:=l) ?_
  cases hh:dB e.name acc with
  | true=>exact h
  | false=>exact mx h fun hm=>by rw [fS.2 hm] at hh;cases hh
theorem fD (l:List En):lQ (bE l):=og (by simp [lQ])
def aT (n:Int):Nat→List Sv→Int
 | _,[]=>-1
 | k,s :: l=>bif decide (s.label=n) then (k:Int) else aT n (k+1) l
def li (all:List Sv) (n:Int):Nat→Int→List Sv→Bool
 | _,_,[]=>true
 | k,at_,s :: l=>decide (1≤s.label) && decide (s.label≤99) && decide (0≤s.at_) && decide (s.at_≤n) && decide (at_≤s.at_) && decide (aT s.label 0 all=(k:Int)) && li all n (k+1) s.at_ l
def jk (l:List En) (s:List Sv):Bool:=decide (l.length≤72) && decide (s.length≤4) && fx [] l && decide ((bE l).length≤8) && li s l.length 0 0 s
structure EntOk (pre:List En) (e:En):Prop where
 nm:co e.name.toList=true
 bef:e.before=az pre e.name
 gr:cO e.before e.after=true
def Ents (l:List En):Prop:=∀k (h:k<l.length),EntOk (l.take k) l[k]
theorem su:∀(l pre:List En),fx pre l=true↔∀k (h:k<l.length),EntOk (pre++l.take k) l[k]
 | [],_=>by simp [fx]
 | e :: l,pre=>by
  show (co e.name.toList && decide (e.before=az pre e.name) && cO e.before e.after && fx (pre++[e]) l)=true↔_
  simp only [Bool.and_eq_true,decide_eq_true_eq,su l]
  constructor
  ·rintro ⟨⟨⟨h1,h2⟩,h3⟩,h4⟩ k hk
   cases k with
   | zero=>simpa using ⟨h1,h2,h3⟩
   | succ k =>
    have:=h4 k (by simpa using hk)
    simpa [List.append_assoc] using this
  ·intro h
   have h0:=h 0 (by simp)
   simp only [List.take_zero,List.append_nil,List.getElem_cons_zero] at h0
   refine ⟨⟨⟨h0.nm,h0.bef⟩,h0.gr⟩,fun k hk=>?_⟩
   have:=h (k+1) (by simpa using hk)
   simpa [List.append_assoc] using this
theorem vY {l:List En}:fx [] l=true↔Ents l:=by
 rw [su]
 unfold Ents
 simp
theorem Ents.snoc {l:List En} {e:En}:Ents (l++[e])↔Ents l∧EntOk l e:=by
 constructor
 ·intro h
  refine ⟨fun k hk=>?_,?_⟩
  ·have h1:=h k (by simp;omega)
   rw [List.take_append_of_le_length (by omega),List.getElem_append_left hk] at h1
   exact h1
  ·have h1:=h l.length (by simp)
   simpa using h1
 ·rintro ⟨h1,h2⟩ k hk
  by_cases hl:k<l.length
  ·rw [List.take_append_of_le_length (by omega),List.getElem_append_left hl]
   exact h1 k hl
  ·have:k=l.length:=by simp at hk;omega
   subst this
   simpa using h2
theorem Ents.take {l:List En} (h:Ents l) (n:Nat):Ents (l.take n):=by
 intro k hk
 have h1:k<l.length:=by rw [List.length_take] at hk;omega
 have h2:=h k h1
 have h3:(l.take n).take k=l.take k:=by rw [List.take_take];congr 1;rw [List.length_take] at hk;omega
 rw [h3,List.getElem_take]
 exact h2
theorem my {P:List En→Prop} (h0:P []) (hs:∀l e,Ents l→EntOk l e→P l→P (l++[e])):∀l,Ents l→P l:=by
 intro l
 have:∀n (l:List En),l.length=n→Ents l→P l:=by
  intro n
  induction n with
  | zero=>intro l hl _;rw [List.eq_nil_of_length_eq_zero hl];exact h0
  | succ n ih =>
   intro l hl h
   have hne:l≠[]:=by rintro rfl;simp at hl
   have e:=List.dropLast_concat_getLast hne
   rw [←e] at h
   obtain ⟨h1,h2⟩:=Ents.snoc.1 h
   rw [←e]
   exact hs _ _ h1 h2 (ih _ (by rw [List.length_dropLast];omega) h1)
 exact this _ l rfl
def F9 (b a:Am):Prop:=a=b∨(bI a=true∧bI b=true∧((a.mode≠0∧cZ b.mode a.mode=true)∨(a.mode=0∧b.mode=0∧a.units<b.units)))
theorem c6 {a:Am} (h:bI a=true):(bQ a.mode=true∧a.units=0)∨(a.mode=0∧1≤a.units∧a.units≤8):=by
 unfold bI at h
 simp only [Bool.or_eq_true,Bool.and_eq_true,decide_eq_true_eq] at h
 rcases h with h|h
 ·exact .inl h
 ·exact .inr ⟨h.1.1,h.1.2,h.2⟩
theorem fE {m:Int}:bQ m=true↔1≤m∧m≤5:=by unfold bQ;simp
theorem mz {a b:Int}:cZ a b=true↔(1≤a∧a≤5)∧(1≤b∧b≤5)∧(a=b∨a=5∨b=1∨(a=4∧b≠5)):=by
 unfold cZ
 simp only [Bool.and_eq_true,Bool.or_eq_true,decide_eq_true_eq,Bool.not_eq_true',decide_eq_false_iff_not,fE]
 constructor
 ·rintro ⟨⟨h1,h2⟩,h3⟩;exact ⟨h1,h2,by rcases h3 with ((h|h)|h)|h <;> simp [h]⟩
 ·rintro ⟨h1,h2,h3⟩;exact ⟨⟨h1,h2⟩,by rcases h3 with h|h|h|h <;> simp [h]⟩
theorem mA {a b:Am} (h:cO a b=true):bI b=true∧a≠b∧(a=⟨0,0⟩∨(bI a=true∧F9 b a)):=by
 unfold cO at h
 simp only [Bool.and_eq_true,Bool.not_eq_true',decide_eq_false_iff_not,Bool.or_eq_true] at h
 obtain ⟨⟨h1,h2⟩,h3⟩:=h
 refine ⟨h1,h2,?_⟩
 rcases h3 with h3|⟨h3,h4⟩
 ·exact .inl (of_decide_eq_true h3)
 ·refine .inr ⟨h3,.inr ⟨h3,h1,?_⟩⟩
  by_cases hm:a.mode=0
  ·rw [decide_eq_true hm,Bool.not_true,cond_false,decide_eq_true_eq] at h4
   refine .inr ⟨hm,?_,h4⟩
   rcases c6 h1 with ⟨h5,h6⟩|⟨h5,_⟩
   ·rcases c6 h3 with ⟨h7,_⟩|⟨_,h7,_⟩
    ·rw [hm] at h7;exact absurd h7 (by decide)
    ·omega
   ·exact h5
  ·rw [decide_eq_false hm,Bool.not_false,cond_true] at h4
   exact .inl ⟨hm,h4⟩
theorem Az {a b c:Am} (h1:F9 c b) (h2:F9 b a):F9 c a:=by
 rcases h1 with rfl|⟨u1,u2,h1⟩
 ·exact h2
 ·rcases h2 with rfl|⟨u3,_,h2⟩
  ·exact .inr ⟨u1,u2,h1⟩
  ·refine .inr ⟨u3,u2,?_⟩
   rcases h2 with ⟨h3,h4⟩|⟨h3,h4,h5⟩
   ·rcases h1 with ⟨h6,h7⟩|⟨h6,_,_⟩
    ·refine .inl ⟨h3,?_⟩
     rw [mz] at h4 h7 ⊢
     omega
    ·rw [mz] at h4
     omega
   ·rcases h1 with ⟨h6,_⟩|⟨_,h6,h7⟩
    ·exact absurd h4 h6
    ·exact .inr ⟨h3,h6,by omega⟩
def Cd (a:Am):Int:=a.mode+a.units
theorem Ce {a b:Am} (h:cO a b=true):Cd a<Cd b∧Cd b≤8:=by
 obtain ⟨h1,h2,h3⟩:=mA h
 obtain ⟨am,au⟩:=a
 obtain ⟨bm,bu⟩:=b
 unfold Cd
 have hb:=c6 h1
 simp only [fE] at hb
 dsimp only at *
 rcases h3 with h3|⟨h3,h4⟩
 ·injection h3 with e1 e2
  subst e1
  subst e2
  omega
 ·have ha:=c6 h3
  simp only [fE] at ha
  rcases h4 with h4|⟨_,_,h4⟩
  ·exact absurd h4 h2
  ·dsimp only at h4
   rcases h4 with ⟨h5,h6⟩|⟨h5,h6,h7⟩
   ·rw [mz] at h6
    have:¬(am=bm∧au=bu):=fun e=>h2 (by rw [e.1,e.2])
    omega
   ·omega
theorem sw {l:List En} (h:Ents l) (n:ByteArray):∀k,az (l.take k) n=⟨0,0⟩∨F9 (az l n) (az (l.take k) n):=by
 refine my (P:=fun l=>∀k,az (l.take k) n=⟨0,0⟩∨F9 (az l n) (az (l.take k) n)) (fun k=>.inl (by simp [az,c8])) ?_ l h
 intro l e _ he ih k
 by_cases hk:k≤l.length
 ·rw [List.take_append_of_le_length hk,i5]
  rcases ih k with h1|h1
  ·exact .inl h1
  ·cases hn:aY e.name n with
   | false=>exact .inr h1
   | true =>
    have hnn:=aZ.1 hn
    subst hnn
    rw [cond_true]
    obtain ⟨_,_,h2⟩:=mA he.gr
    rw [he.bef] at h2
    rcases h2 with h2|⟨_,h2⟩
    ·rw [h2] at h1
     rcases h1 with h1|⟨h1,h3,_⟩
     ·exact .inl h1
     ·exact absurd h3 (by decide)
    ·exact .inr (Az h2 h1)
 ·rw [List.take_of_length_le (by simp;omega)]
  exact .inr (.inl rfl)
theorem vZ {l:List En} (h:Ents l) (n:ByteArray):((l.filter fun e=>aY e.name n).length:Int)≤Cd (az l n)∧Cd (az l n)≤8:=by
 refine my (P:=fun l=>((l.filter fun e=>aY e.name n).length:Int)≤Cd (az l n)∧Cd (az l n)≤8) ⟨by simp [az,c8,Cd],by simp [az,c8,Cd]⟩ ?_ l h
 intro l e _ he ih
 rw [i5,List.filter_append,List.length_append]
 cases hn:aY e.name n with
 | false =>
  have:[e].filter (fun e=>aY e.name n)=[]:=by simp [hn]
  rw [this]
  simpa using ih
 | true =>
  have hnn:=aZ.1 hn
  subst hnn
  have:[e].filter (fun x=>aY x.name e.name)=[e]:=by simp [aY]
  rw [this,cond_true]
  have h1:=Ce he.gr
  rw [he.bef] at h1
  simp only [List.length_singleton]
  omega
theorem p5 {α:Type} (p:α→Bool):∀l:List α,l.length=(l.filter p).length+(l.filter fun x=>!p x).length
 | []=>rfl
 | x :: l=>by
  have:=p5 p l
  rw [List.filter_cons,List.filter_cons,List.length_cons]
  cases p x with
  | true=>simp;omega
  | false=>simp;omega
theorem sy:∀(ns:List ByteArray) (l:List En),(∀e∈l,e.name∈ns)→(∀n∈ns,(l.filter fun e=>aY e.name n).length≤8)→l.length≤8*ns.length
 | [],l,h,_=>by
  cases l with
  | nil=>simp
  | cons e l=>exact absurd (h e (by simp)) (by simp)
 | n :: ns,l,h,hc=>by
  have h1:=sy ns (l.filter fun e=>!aY e.name n) (fun e he=>by
   have h2:=(List.mem_filter.1 he)
   rcases List.mem_cons.1 (h e h2.1) with h3|h3
   ·have:=h2.2
    rw [Bool.not_eq_true',bR] at this
    exact absurd h3 this
   ·exact h3) (fun m hm=>Nat.le_trans (((List.filter_sublist (p:=fun e:En=>!aY e.name n) (l:=l)).filter fun e=>aY e.name m).length_le) (hc m (by simp [hm])))
  have h2:=hc n (by simp)
  have h3:=p5 (fun e:En=>aY e.name n) l
  rw [List.length_cons]
  omega
theorem wa {l:List En} (h:Ents l) (hn:(bE l).length≤8):l.length≤64:=by
 have:=sy (bE l) l (fun e he=>dC.2 ⟨e,he,rfl⟩) (fun n _=>by have:=vZ h n;omega)
 omega
structure Lg where
 entries:List En
 saves:List Sv
deriving DecidableEq
def qY (g:Lg):Bool:=jk g.entries g.saves
def Lg.zero:Lg:=⟨[],[]⟩
structure Svs (s:List Sv) (n:Int):Prop where
 lab:∀x∈s,(1≤x.label∧x.label≤99)∧0≤x.at_∧x.at_≤n
 ord:s.Pairwise fun a b=>a.at_≤b.at_
 nd:(s.map (·.label)).Nodup
theorem oh {n:Int}:∀{l:List Sv} {k:Nat},(∀x∈l,x.label≠n)→aT n k l = -1
 | [],_,_=>rfl
 | x :: l,k,h=>by
  show (bif decide (x.label=n) then (k:Int) else aT n (k+1) l) = -1
  rw [decide_eq_false (h x (by simp)),cond_false]
  exact oh fun y hy=>h y (by simp [hy])
theorem jN {n:Int}:∀{l:List Sv} {k:Nat},0≤aT n k l→∃i,∃h:i<l.length,aT n k l=((k+i:Nat):Int)∧l[i].label=n
 | [],k,h=>by simp [aT] at h
 | x :: l,k,h=>by
  have e:aT n k (x :: l)=bif decide (x.label=n) then (k:Int) else aT n (k+1) l:=rfl
  rw [e] at h ⊢
  by_cases hx:x.label=n
  ·exact ⟨0,by simp,by rw [decide_eq_true hx];simp,hx⟩
  ·rw [decide_eq_false hx,cond_false] at h ⊢
   obtain ⟨i,hi,h1,h2⟩:=jN h
   exact ⟨i+1,by simpa using hi,by rw [h1];omega,by simpa using h2⟩
theorem xH {n:Int} {l:List Sv} {k:Nat}:aT n k l<0↔∀x∈l,x.label≠n:=by
 constructor
 ·intro h x hx e
  have gen:∀(l:List Sv) (k:Nat),x∈l→0≤aT n k l:=by
   intro l
   induction l with
   | nil=>intro _ h;cases h
   | cons y l ih =>
    intro k h
    show 0≤(bif decide (y.label=n) then (k:Int) else aT n (k+1) l)
    rcases List.mem_cons.1 h with rfl|h
    ·rw [decide_eq_true e,cond_true];omega
    ·cases decide (y.label=n) with
     | true=>rw [cond_true];omega
     | false=>exact ih (k+1) h
  have:=gen l k hx
  omega
 ·intro h
  rw [oh h]
  omega
theorem p6 {n:Int}:∀(pre:List Sv) (k:Nat) (x:Sv) (l:List Sv),x.label=n→(aT n k (pre++x :: l)=((k+pre.length:Nat):Int)↔∀y∈pre,y.label≠n)
 | [],k,x,l,h=>by
  have:aT n k (x :: l)=bif decide (x.label=n) then (k:Int) else aT n (k+1) l:=rfl
  simp [this,h]
 | y :: pre,k,x,l,h=>by
  have e:aT n k ((y :: pre)++x :: l)=bif decide (y.label=n) then (k:Int) else aT n (k+1) (pre++x :: l):=rfl
  rw [e,List.length_cons]
  by_cases hy:y.label=n
  ·rw [decide_eq_true hy,cond_true]
   constructor
   ·intro h;omega
   ·intro h2;exact absurd hy (h2 y (by simp))
  ·rw [decide_eq_false hy,cond_false]
   have ih:=p6 pre (k+1) x l h
   have e1:((k+(pre.length+1):Nat):Int)=((k+1+pre.length:Nat):Int):=by omega
   rw [e1,ih]
   constructor
   ·intro h2 z hz
    rcases List.mem_cons.1 hz with rfl|hz
    ·exact hy
    ·exact h2 z hz
   ·intro h2 z hz;exact h2 z (by simp [hz])
theorem p7 (n:Int):∀(l pre:List Sv) (a:Int),0≤a→(pre.map (·.label)).Nodup→(li (pre++l) n pre.length a l=true↔(∀x∈l,(1≤x.label∧x.label≤99)∧0≤x.at_∧x.at_≤n)∧(l.Pairwise fun x y=>x.at_≤y.at_)∧(∀x∈l,a≤x.at_)∧((pre++l).map (·.label)).Nodup)
 | [],pre,a,_,hp=>by
  simpa [li] using hp
 | x :: l,pre,a,ha,hp=>by
  show (decide (1≤x.label) && decide (x.label≤99) && decide (0≤x.at_) && decide (x.at_≤n) && decide (a≤x.at_) && decide (aT x.label 0 (pre++x :: l)=(pre.length:Int)) && li (pre++x :: l) n (pre.length+1) x.at_ l)=true↔_
  simp only [Bool.and_eq_true,decide_eq_true_eq]
  have hf:aT x.label 0 (pre++x :: l)=(pre.length:Int)↔∀y∈pre,y.label≠x.label:=by
   have:=p6 pre 0 x l rfl
   rwa [Nat.zero_add] at this
  have hpx:((pre++[x]).map (·.label)).Nodup↔∀y∈pre,y.label≠x.label:=by
   rw [List.map_append,List.nodup_append]
   constructor
   ·rintro ⟨_,_,h⟩ y hy
    exact h y.label (List.mem_map.2 ⟨y,hy,rfl⟩) x.label (by simp)
   ·intro h
    refine ⟨hp,by simp,?_⟩
    intro u hu v hv
    obtain ⟨y,hy,rfl⟩:=List.mem_map.1 hu
    simp at hv
    subst hv
    exact h y hy
  have e1:pre++x :: l=(pre++[x])++l:=by simp
  have e2:pre.length+1=(pre++[x]).length:=by simp
  rw [hf]
  constructor
  ·rintro ⟨⟨⟨⟨⟨⟨h1,h2⟩,h3⟩,h4⟩,h5⟩,h6⟩,h7⟩
   rw [e1,e2,p7 n l (pre++[x]) x.at_ h3 (hpx.2 h6)] at h7
   obtain ⟨k1,k2,k3,k4⟩:=h7
   refine ⟨?_,List.pairwise_cons.2 ⟨k3,k2⟩,?_,by rw [e1];exact k4⟩
   ·intro y hy
    rcases List.mem_cons.1 hy with rfl|hy
    ·exact ⟨⟨h1,h2⟩,h3,h4⟩
    ·exact k1 y hy
   ·intro y hy
    rcases List.mem_cons.1 hy with rfl|hy
    ·exact h5
    ·have:=k3 y hy;omega
  ·rintro ⟨h1,h2,h3,h4⟩
   obtain ⟨k1,k2⟩:=List.pairwise_cons.1 h2
   have hx:=h1 x (by simp)
   rw [e1] at h4
   have h6:∀y∈pre,y.label≠x.label:=hpx.1 (by rw [List.map_append] at h4;exact (List.nodup_append.1 h4).1)
   refine ⟨⟨⟨⟨⟨⟨hx.1.1,hx.1.2⟩,hx.2.1⟩,hx.2.2⟩,h3 x (by simp)⟩,h6⟩,?_⟩
   rw [e1,e2,p7 n l (pre++[x]) x.at_ hx.2.1 (hpx.2 h6)]
   exact ⟨fun y hy=>h1 y (by simp [hy]),k2,k1,h4⟩
structure Ld (g:Lg):Prop where
 slen:g.saves.length≤4
 ents:Ents g.entries
 nms:(bE g.entries).length≤8
 svs:Svs g.saves g.entries.length
theorem fc {g:Lg}:qY g=true↔Ld g:=by
 unfold qY jk
 simp only [Bool.and_eq_true,decide_eq_true_eq,vY]
 have h:=p7 (g.entries.length:Int) g.saves [] 0 (Int.le_refl _) (by simp)
 simp only [List.nil_append,List.length_nil] at h
 rw [h]
 constructor
 ·rintro ⟨⟨⟨⟨h1,h2⟩,h3⟩,h4⟩,h5,h6,h7,h8⟩
  exact ⟨h2,h3,h4,h5,h6,h8⟩
 ·rintro ⟨h2,h3,h4,h5,h6,h8⟩
  exact ⟨⟨⟨⟨by have:=wa h3 h4;omega,h2⟩,h3⟩,h4⟩,h5,h6,fun x hx=>(h5 x hx).2.1,h8⟩
def fd (g:Lg) (e:En):Lg×Int:=bif !qY g then (.zero,2) else bif !qY ⟨g.entries++[e],g.saves⟩ then (.zero,1) else (⟨g.entries++[e],g.saves⟩,0)
def el (g:Lg) (n:Int):Lg×Int :=
 bif !qY g then (.zero,2) else bif !(decide (1≤n) && decide (n≤99)) then (.zero,1) else bif decide (0≤aT n 0 g.saves) then (.zero,11) else bif decide (g.saves.length=4) then (.zero,4) else (⟨g.entries,g.saves++[⟨n,g.entries.length⟩]⟩,0)
def cc (g:Lg) (n:Int):Lg:=bif decide (n=0) then ⟨[],[]⟩ else ⟨g.entries.take ((g.saves.getD (aT n 0 g.saves).toNat ⟨0,0⟩).at_).toNat,g.saves.take ((aT n 0 g.saves).toNat+1)⟩
def dF (g:Lg) (n:Int):Lg×List Tm×Int :=
 bif !qY g then (.zero,[],2) else bif !decide (n=0) && decide (aT n 0 g.saves<0) then (.zero,[],10) else
 (cc g n,(bE (g.entries.drop (cc g n).entries.length)).map fun m=>⟨m,az (cc g n).entries m⟩,0)
def oth (n:ByteArray) (e:En):Bool:=!aY e.name n
def fT (g:Lg) (n:ByteArray):Lg:=⟨g.entries.filter (oth n),g.saves.map fun s=>⟨s.label,((g.entries.take s.at_.toNat).filter (oth n)).length⟩⟩
def ip (g:Lg) (n:ByteArray):Lg×Bool:=bif !qY g then (.zero,false) else bif decide ((fT g n).entries.length=g.entries.length) then (.zero,false) else (fT g n,true)
def dX (g:Lg):List Tm:=((bE g.entries).map fun m=>(⟨m,az g.entries m⟩:Tm)).filter fun a=>!aG a.am
theorem lR {l:List ByteArray} (h:lQ l):l.Nodup:=h.imp fun {a b} (hab:iM a b=true) (e:a=b)=>by rw [e,dW] at hab;cases hab
theorem sA {α:Type} [DecidableEq α] {l m:List α} (hn:l.Nodup) (hs:∀x∈l,x∈m):l.length≤m.length:=by
 induction l generalizing m with
 | nil=>exact Nat.zero_le _
 | cons x l ih =>
  rw [List.nodup_cons] at hn
  have hx:=hs x (by simp)
  have h1:=ih (m:=m.erase x) hn.2 fun y hy=>(List.mem_erase_of_ne (fun (e:y=x)=>hn.1 (e▸hy))).2 (hs y (by simp [hy]))
  have h2:=List.length_erase_of_mem hx
  have h3:=List.length_pos_of_mem hx
  rw [List.length_cons]
  omega
theorem sB {l m:List En} (h:∀e∈l,e∈m):(bE l).length≤(bE m).length :=
 sA (lR (fD l)) fun x hx=>by
  obtain ⟨e,he,hn⟩:=dC.1 hx
  exact dC.2 ⟨e,h e he,hn⟩
theorem Svs.mono {s:List Sv} {n m:Int} (h:Svs s n) (hm:n≤m):Svs s m:=⟨fun x hx=>⟨(h.lab x hx).1,(h.lab x hx).2.1,by have:=(h.lab x hx).2.2;omega⟩,h.ord,h.nd⟩
theorem sC {g:Lg} (h:Ld g) {e:En} (hn:co e.name.toList=true) (hb:e.before=az g.entries e.name) (hg:cO e.before e.after=true) {ns:List ByteArray} (hns:ns.length≤8) (h1:∀x∈g.entries,x.name∈ns) (h2:e.name∈ns) :
  fd g e=(⟨g.entries++[e],g.saves⟩,0)∧Ld ⟨g.entries++[e],g.saves⟩:=by
 have hl:Ld ⟨g.entries++[e],g.saves⟩:=by
  refine ⟨h.slen,Ents.snoc.2 ⟨h.ents,hn,hb,hg⟩,?_,h.svs.mono (by show (g.entries.length:Int)≤((g.entries++[e]).length:Nat);rw [List.length_append];omega)⟩
  have:=sA (m:=ns) (lR (fD (g.entries++[e]))) fun x hx=>by
   obtain ⟨f,hf,hfx⟩:=dC.1 hx
   rcases List.mem_append.1 hf with hf|hf
   ·exact hfx▸h1 f hf
   ·rw [List.mem_singleton] at hf
    subst hf
    exact hfx▸h2
  show (bE (g.entries++[e])).length≤8
  omega
 refine ⟨?_,hl⟩
 unfold fd
 rw [fc.2 h,fc.2 hl]
 rfl
theorem ER {g:Lg} {n:Int} (h:(el g n).2=0):Ld g∧el g n=(⟨g.entries,g.saves++[⟨n,g.entries.length⟩]⟩,0)∧Ld ⟨g.entries,g.saves++[⟨n,g.entries.length⟩]⟩:=by
 unfold el at h ⊢
 cases hV:qY g with
 | false=>rw [hV] at h;simp at h
 | true =>
  have hl:=fc.1 hV
  rw [hV] at h
  simp only [Bool.not_true,cond_false] at h ⊢
  cases hA:decide (1≤n) && decide (n≤99) with
  | false=>rw [hA] at h;simp at h
  | true =>
   rw [hA] at h
   simp only [Bool.not_true,cond_false] at h ⊢
   simp only [Bool.and_eq_true,decide_eq_true_eq] at hA
   by_cases hF:0≤aT n 0 g.saves
   ·rw [decide_eq_true hF] at h;simp at h
   ·rw [decide_eq_false hF] at h ⊢
    simp only [cond_false] at h ⊢
    by_cases h4:g.saves.length=4
    ·rw [decide_eq_true h4] at h;simp at h
    ·rw [decide_eq_false h4]
     refine ⟨hl,rfl,by have:=hl.slen;simp;omega,hl.ents,hl.nms,?_,?_,?_⟩
     ·intro x hx
      rcases List.mem_append.1 hx with hx|hx
      ·exact hl.svs.lab x hx
      ·rw [List.mem_singleton] at hx
       subst hx
       exact ⟨hA,by simp,by simp⟩
     ·rw [List.pairwise_append]
      refine ⟨hl.svs.ord,by simp,?_⟩
      intro x hx y hy
      rw [List.mem_singleton] at hy
      subst hy
      exact (hl.svs.lab x hx).2.2
     ·rw [List.map_append,List.nodup_append]
      refine ⟨hl.svs.nd,by simp,?_⟩
      intro u hu v hv
      obtain ⟨y,hy,rfl⟩:=List.mem_map.1 hu
      simp at hv
      subst hv
      exact (xH (k:=0)).1 (by omega) y hy
theorem ES {g:Lg} {n:Int} (h:(dF g n).2.2=0):Ld g∧Ld (cc g n)∧dF g n=(cc g n,(bE (g.entries.drop (cc g n).entries.length)).map fun m=>⟨m,az (cc g n).entries m⟩,0)∧(cc g n).entries=g.entries.take (cc g n).entries.length:=by
 unfold dF at h ⊢
 cases hV:qY g with
 | false=>rw [hV] at h;simp at h
 | true =>
  have hl:=fc.1 hV
  rw [hV] at h
  simp only [Bool.not_true,cond_false] at h ⊢
  cases hA : !decide (n=0) && decide (aT n 0 g.saves<0) with
  | true=>rw [hA] at h;simp at h
  | false =>
   refine ⟨hl,?_,rfl,?_⟩
   ·unfold cc
    by_cases h0:n=0
    ·rw [decide_eq_true h0,cond_true]
     exact ⟨by simp,fun k hk=>absurd hk (by simp),by simp [bE,c5],fun x hx=>absurd hx (by simp),by simp,by simp⟩
    ·rw [decide_eq_false h0] at hA ⊢
     simp only [Bool.not_false,Bool.true_and,decide_eq_false_iff_not] at hA
     obtain ⟨i,hi,e1,e2⟩:=jN (n:=n) (l:=g.saves) (k:=0) (by omega)
     have e3:(aT n 0 g.saves).toNat=i:=by rw [e1];omega
     rw [e3,cond_false]
     have e4:g.saves.getD i ⟨0,0⟩=g.saves[i]:=by simp [hi]
     rw [e4]
     have hsi:=hl.svs.lab g.saves[i] (List.getElem_mem hi)
     refine ⟨by have:=hl.slen;simp;omega,hl.ents.take _,Nat.le_trans (sB fun e he=>List.mem_of_mem_take he) hl.nms,?_,?_,?_⟩
     ·intro x hx
      have h1:=hl.svs.lab x (List.mem_of_mem_take hx)
      refine ⟨h1.1,h1.2.1,?_⟩
      obtain ⟨j,hj,e⟩:=List.mem_iff_getElem.1 hx
      rw [List.getElem_take] at e
      have hj2:j<g.saves.length:=by rw [List.length_take] at hj;omega
      have hji:j≤i:=by rw [List.length_take] at hj;omega
      have h2:g.saves[j].at_≤g.saves[i].at_:=by
       rcases Nat.lt_or_eq_of_le hji with hlt|rfl
       ·exact List.pairwise_iff_getElem.1 hl.svs.ord j i hj2 hi hlt
       ·exact Int.le_refl _
      rw [e] at h2
      show x.at_≤((g.entries.take g.saves[i].at_.toNat).length:Nat)
      rw [List.length_take]
      omega
     ·exact hl.svs.ord.sublist (List.take_sublist _ _)
     ·exact hl.svs.nd.sublist ((List.take_sublist _ _).map _)
   ·unfold cc
    cases decide (n=0) with
    | true=>simp
    | false =>
     simp only [cond_false]
     rw [List.length_take]
     rcases Nat.le_total (g.saves.getD (aT n 0 g.saves).toNat ⟨0,0⟩).at_.toNat g.entries.length with h|h
     ·rw [Nat.min_eq_left h]
     ·rw [Nat.min_eq_right h,List.take_of_length_le h,List.take_length]
theorem jO (n m:ByteArray):∀(l:List En) (a:Am),(m=n→a=⟨0,0⟩)→c8 m a (l.filter (oth n))=if m=n then ⟨0,0⟩ else c8 m a l
 | [],a,ha=>by
  by_cases h:m=n
  ·simp [c8,h,ha h]
  ·simp [c8,h]
 | e :: l,a,ha=>by
  rw [List.filter_cons]
  unfold oth
  cases he:aY e.name n with
  | true =>
   have hen:=aZ.1 he
   simp only [Bool.not_true,Bool.false_eq_true,if_false]
   rw [show (List.filter (fun e=>!aY e.name n) l)=l.filter (oth n) from rfl,jO n m l a ha]
   by_cases h:m=n
   ·rw [if_pos h,if_pos h]
   ·rw [if_neg h,if_neg h]
    have:aY e.name m=false:=bR.2 fun h2=>h (h2.symm.trans hen)
    show c8 m a l=c8 m (bif aY e.name m then e.after else a) l
    rw [this]
    rfl
  | false =>
   have hen:=bR.1 he
   simp only [Bool.not_false,if_true]
   show c8 m (bif aY e.name m then e.after else a) (l.filter (oth n))=_
   rw [jO n m l _ (fun h=>by
    have:aY e.name m=false:=bR.2 fun h2=>hen (h2.trans h)
    rw [this]
    exact ha h)]
   rfl
theorem gm (n m:ByteArray) (l:List En):az (l.filter (oth n)) m=if m=n then ⟨0,0⟩ else az l m:=jO n m l _ fun _=>rfl
theorem wb {l:List En} (h:Ents l) (n:ByteArray):Ents (l.filter (oth n)):=by
 refine my (P:=fun l=>Ents (l.filter (oth n))) (fun k hk=>absurd hk (by simp)) ?_ l h
 intro l e _ he ih
 rw [List.filter_append]
 cases ho:oth n e with
 | false =>
  have:[e].filter (oth n)=[]:=by simp [ho]
  rw [this,List.append_nil]
  exact ih
 | true =>
  have:[e].filter (oth n)=[e]:=by simp [ho]
  rw [this]
  have hne:e.name≠n:=by unfold oth at ho;rw [Bool.not_eq_true',bR] at ho;exact ho
  exact Ents.snoc.2 ⟨ih,he.nm,by rw [gm,if_neg hne];exact he.bef,he.gr⟩
theorem nv {α:Type} (p:α→Bool) (l:List α) {i j:Nat} (h:i≤j):((l.take i).filter p).length≤((l.take j).filter p).length:=by
 have:l.take i=(l.take j).take i:=by rw [List.take_take];congr 1;omega
 rw [this]
 exact ((List.take_sublist i (l.take j)).filter p).length_le
theorem EU {g:Lg} (h:Ld g) (n:ByteArray):Ld (fT g n):=by
 unfold fT
 refine ⟨by have:=h.slen;simpa using this,wb h.ents n,Nat.le_trans (sB fun e he=>(List.mem_filter.1 he).1) h.nms,?_,?_,?_⟩
 ·intro x hx
  obtain ⟨s,hs,rfl⟩:=List.mem_map.1 hx
  have h1:=h.svs.lab s hs
  refine ⟨h1.1,Int.natCast_nonneg _,?_⟩
  have:=((List.take_sublist s.at_.toNat g.entries).filter (oth n)).length_le
  show (((g.entries.take s.at_.toNat).filter (oth n)).length:Int)≤((g.entries.filter (oth n)).length:Nat)
  omega
 ·rw [List.pairwise_map]
  exact h.svs.ord.imp fun {a b} (hab:a.at_≤b.at_)=>by
   have:=nv (oth n) g.entries (i:=a.at_.toNat) (j:=b.at_.toNat) (by omega)
   show ((_:Nat):Int)≤((_:Nat):Int)
   omega
 ·rw [List.map_map]
  exact h.svs.nd
structure Rq where
 expr:Ex
 prio:Int
 limit:Int
def Rq.zero:Rq:=⟨Ex.zero,0,0⟩
structure Pc where
 proc:Pr
 cost:Int
 led:Lg
 waiting:Bool
 req:Rq
 since:Int
 gen:Int
def EV:Pc:=⟨⟨0,0,0⟩,0,Lg.zero,false,Rq.zero,0,0⟩
structure Cs where
 now:Int
 queues:List Qu
 procs:List Pc
def Jr:Cs:=⟨0,[],[]⟩
structure Cm where
 kind:Int
 proc:Pr
 req:Rq
 name:ByteArray
 n:Int
def aO (t:List Qu) (n:ByteArray):Bool:=decide (0≤bi n 0 t)
def aX (t:List Qu) (n:ByteArray):Qu:=t.getD (ic t n) jh
def bd (t:List Qu) (p:Pr) (x:Ex):List Bool:=(cj x).map fun a=>aO t a.name && bb (aX t a.name).res (aq (aX t a.name).holds p) a.am
def eG (t:List Qu):List Tm→Int
 | []=>0
 | a :: l=>bif !aO t a.name then 10 else bif !aD (aX t a.name).res a.am then 12 else eG t l
def go (t:List Qu) (x:Ex):Int:=bif !ib x then 1 else eG t (cj x)
def oM (r:Rq):Bool:=ib r.expr && decide (0≤r.prio) && decide (r.prio≤7) && decide (0≤r.limit) && decide (r.limit≤1000)
def D4 (x:Ex):Bool:=decide (x.k=0) && decide (x.atom=fO) && x.kids.isEmpty
def D5 (r:Rq):Bool:=D4 r.expr && decide (r.prio=0) && decide (r.limit=0)
theorem EW {x:Ex}:D4 x=true↔x=Ex.zero:=by
 obtain ⟨k,a,l⟩:=x
 unfold D4 Ex.zero
 simp only [Bool.and_eq_true,decide_eq_true_eq,List.isEmpty_iff]
 show (k=0∧a=fO)∧l=[]↔_
 constructor
 ·rintro ⟨⟨rfl,rfl⟩,rfl⟩;rfl
 ·intro h
  injection h with h1 h2 h3
  exact ⟨⟨h1,h2⟩,h3⟩
theorem EX {r:Rq}:D5 r=true↔r=Rq.zero:=by
 obtain ⟨x,p,l⟩:=r
 unfold D5 Rq.zero
 simp only [Bool.and_eq_true,decide_eq_true_eq,EW]
 constructor
 ·rintro ⟨⟨rfl,rfl⟩,rfl⟩;rfl
 ·intro h
  injection h with h1 h2 h3
  exact ⟨⟨h1,h2⟩,h3⟩
def db (t:List Qu) (p:Pr):List Tm:=(t.map fun q=>(⟨q.res.name,aq q.holds p⟩:Tm)).filter fun a=>!aG a.am
def bl (p:Pr):List Qu→List Tm
 | []=>[]
 | q :: l=>match ap q p with
  | some a=>⟨q.res.name,a⟩ :: bl p l
  | none=>bl p l
def bS (q:Qu) (x:Pc):List Tm→Bool
 | []=>decide (aq q.holds x.proc=az x.led.entries q.res.name) && !(ap q x.proc).isSome
 | a :: l=>bif !aY a.name q.res.name || bb q.res (az x.led.entries q.res.name) a.am then bS q x l else
  bif !(ap q x.proc).isSome then decide (aq q.holds x.proc=bB q.res (az x.led.entries q.res.name) a.am) else
  bif q.waits.any (fun y=>decide (y.proc=x.proc) && !decide (y.prio=x.req.prio)) then false else
  decide (aq q.holds x.proc=az x.led.entries q.res.name) && decide (ap q x.proc=some (bB q.res (az x.led.entries q.res.name) a.am))
def lr (c:Cs) (x:Pc):Bool :=
 js x.proc && decide (1≤x.cost) && decide (x.cost≤1000) && qY x.led && decide (0≤x.gen) && decide (x.gen≤1073741824) &&
 (dX x.led).all (fun a=>aO c.queues a.name && aD (aX c.queues a.name).res a.am) &&
 bif !x.waiting then D5 x.req && decide (x.since=0) && decide (dX x.led=db c.queues x.proc) && decide (bl x.proc c.queues=[]) else
 oM x.req && decide (go c.queues x.req.expr=0) && decide (0≤x.since) && decide (x.since≤c.now) && (decide (x.req.limit=0) || decide (c.now<x.since+x.req.limit)) &&
 !dw x.req.expr (bd c.queues x.proc x.req.expr) && c.queues.all (fun q=>bS q x (cj x.req.expr))
def cK (p:Pr):Nat→List Pc→Int
 | _,[]=>-1
 | k,x :: l=>bif decide (x.proc=p) then (k:Int) else cK p (k+1) l
def tV (c:Cs):Option Pr→List Pc→Bool
 | _,[]=>true
 | o,x :: l=>lr c x && D3 o x.proc && tV c (some x.proc) l
def eH (c:Cs):Bool:=decide (0≤c.now) && decide (c.now≤1073741824) && df c.queues && decide (c.procs.length≤8) && (aF c.queues).all (fun p=>decide (0≤cK p 0 c.procs)) && tV c none c.procs
structure Wk where
 c:Cs
 ev:List Ev
def Wk.take (w:Wk) (t:List Qu) (ev:List Ev):Wk:=⟨{ w.c with queues:=t },w.ev++ev⟩
def Wk.note (w:Wk) (k:Int) (p:Pr):Wk:=⟨w.c,w.ev++[⟨k,p,⟨#[]⟩,⟨0,0⟩⟩]⟩
def Wk.pc (w:Wk) (i:Nat):Pc:=w.c.procs.getD i EV
def Wk.setP (w:Wk) (i:Nat) (x:Pc):Wk:=⟨{ w.c with procs:=w.c.procs.set i x },w.ev⟩
def gW (w:Wk) (p:Pr) (n:ByteArray):Wk:=w.take (bM w.c.queues p n).1 (bM w.c.queues p n).2.1
def fe (w:Wk) (p:Pr) (a:Tm):Wk:=w.take (cy w.c.queues p a).1 (cy w.c.queues p a).2.1
def fg (w:Wk) (p:Pr) (n:ByteArray):Wk:=bif (ap (aX w.c.queues n) p).isSome then gW w p n else w
def cd (w:Wk) (p:Pr) (n:ByteArray) (l:Am):Wk:=bif decide (aq (aX w.c.queues n).holds p=l) then w else fe w p ⟨n,l⟩
def bw (w:Wk) (x:Pc) (n:ByteArray):Wk:=cd (fg w x.proc n) x.proc n (az x.led.entries n)
def gI (w:Wk) (i:Nat):Wk:=w.setP i { w.pc i with waiting:=false,req:=Rq.zero,since:=0 }
def bf (w:Wk) (i:Nat):Wk:=w.setP i { w.pc i with gen:=aQ (w.pc i).gen }
def c9 (x:Pc):List Tm→Wk→Wk
 | [],w=>w
 | a :: l,w=>c9 x l (bw w x a.name)
def aC (w:Wk) (i:Nat):Wk:=gI (c9 (w.pc i) (cj (w.pc i).req.expr) w) i
def eu (t:List Qu) (x:Pc):Bool:=x.waiting && dw x.req.expr (bd t x.proc x.req.expr)
def fU (t:List Qu):Nat→List Pc→Option Nat
 | _,[]=>none
 | k,x :: l=>bif eu t x then some k else fU t (k+1) l
def i6 (x:Ex) (L:List Tm):Nat→List Bool→List Bool
 | 0,out=>out
 | i+1,out=>i6 x L i (bif out.getD i false then out.set i (!rj (ck L (out.set i false)) x) else out)
def cW (x:Ex) (set:List Bool):List Bool :=
 bif dw x set then i6 x (cj x) (cj x).length ((List.range (cj x).length).map fun i=>set.getD i false) else List.replicate (cj x).length false
def gS (w:Wk) (i:Nat) (p:Pr) (n:ByteArray):Wk :=
 bif decide (aq (aX w.c.queues n).holds p=az (w.pc i).led.entries n) then w else
 w.setP i { w.pc i with led:=(fd (w.pc i).led ⟨n,az (w.pc i).led.entries n,aq (aX w.c.queues n).holds p⟩).1 }
def dm (x:Pc) (i:Nat):List Tm→List Bool→Wk→Wk
 | a :: l,b :: bs,w=>dm x i l bs (bif b then gS w i x.proc a.name else bw w x a.name)
 | _,_,w=>w
def g8 (w:Wk) (i:Nat):Wk :=
 bf (gI (dm (w.pc i) i (cj (w.pc i).req.expr) (cW (w.pc i).req.expr (bd w.c.queues (w.pc i).proc (w.pc i).req.expr)) (w.note 2 (w.pc i).proc)) i) i
def a8:Nat→Wk→Wk
 | 0,w=>w
 | n+1,w=>match fU w.c.queues 0 w.c.procs with
  | none=>w
  | some i=>a8 n (g8 w i)
def br (w:Wk):Wk:=a8 w.c.procs.length w
def iq (w:Wk) (i:Nat):Wk :=
 br (Wk.note ⟨{ w.c with queues:=(cf w.c.queues (w.pc i).proc).1,procs:=w.c.procs.eraseIdx i },w.ev++(cf w.c.queues (w.pc i).proc).2⟩ 5 (w.pc i).proc)
def ir (now:Int):Nat→List Pc→Int×Int→Int×Int
 | _,[],b=>b
 | k,x :: l,b=>ir now (k+1) l (bif x.waiting && !decide (x.req.limit=0) && decide (x.since+x.req.limit≤now) && (decide (b.1<0) || decide (x.since+x.req.limit<b.2)) then ((k:Int),x.since+x.req.limit) else b)
def du (w:Wk):Int:=(ir w.c.now 0 w.c.procs (-1,0)).1
def lj (x:Pc):List Pc→List Pc
 | []=>[x]
 | y :: l=>bif decide (0<bt y.proc x.proc) then x :: y :: l else y :: lj x l
def ls (w:Wk) (p:Pr) (cost:Int):Wk×Int :=
 bif !(js p && decide (1≤cost) && decide (cost≤1000)) then (w,1) else bif decide (0≤cK p 0 w.c.procs) then (w,11) else bif decide (w.c.procs.length=8) then (w,4) else
 (⟨{ w.c with procs:=lj { EV with proc:=p,cost:=cost } w.c.procs },w.ev⟩,0)
def cE (p:Pr) (prio:Int):List Tm→Wk→Wk
 | [],w=>w
 | a :: l,w=>cE p prio l (w.take (bJ w.c.queues p a prio).1 (bJ w.c.queues p a prio).2.1)
def cP (w:Wk) (i:Nat) (r:Rq):Wk×Int :=
 bif (w.pc i).waiting then (w,14) else bif !oM r then (w,1) else bif !decide (go w.c.queues r.expr=0) then (w,go w.c.queues r.expr) else
 (br (cE (w.pc i).proc r.prio (cj r.expr) (bf (w.setP i { w.pc i with waiting:=true,req:=r,since:=w.c.now }) i)),0)
def dY (w:Wk) (i:Nat) (n:ByteArray):Wk×Int :=
 bif (w.pc i).waiting then (w,14) else bif decide (az (w.pc i).led.entries n=⟨0,0⟩) then (w,10) else
 let w1:=fe w (w.pc i).proc ⟨n,⟨0,0⟩⟩
 (br (bf (w1.setP i { w1.pc i with led:=(ip (w1.pc i).led n).1 }) i),0)
def bP (p:Pr):List Tm→Wk→Wk
 | [],w=>w
 | a :: l,w=>bP p l (cd w p a.name a.am)
def cX (w:Wk) (i:Nat) (n:Int):Wk×Int :=
 bif !decide ((dF (w.pc i).led n).2.2=0) then (w,(dF (w.pc i).led n).2.2) else
 let w1:=bif (w.pc i).waiting then aC w i else w
 let w2:=w1.setP i { w1.pc i with led:=(dF (w.pc i).led n).1 }
 (br (bf (bP (w.pc i).proc (dF (w.pc i).led n).2.1 w2) i),0)
def fV:Nat→Wk→Wk
 | 0,w=>w
 | n+1,w=>bif decide (du w<0) then w else
  fV n (br (bf (aC (w.note 4 (w.pc (du w).toNat).proc) (du w).toNat) (du w).toNat))
def iu (w:Wk) (n:Int):Wk×Int :=
 bif !(decide (0≤n) && decide (n≤1000)) then (w,1) else bif decide (1073741824-n<w.c.now) then (w,16) else (fV w.c.procs.length ⟨{ w.c with now:=w.c.now+n },w.ev⟩,0)
def tW (w:Wk) (k:Cm):Wk×Int :=
 bif !(decide (1≤k.kind) && decide (k.kind≤9)) then (w,1) else bif decide (k.kind=1) then ls w k.proc k.n else bif decide (k.kind=9) then iu w k.n else
 bif decide (cK k.proc 0 w.c.procs<0) then (w,10) else
 let i:=(cK k.proc 0 w.c.procs).toNat
 bif decide (k.kind=2) then cP w i k.req else
 bif decide (k.kind=3) then (bif !(w.pc i).waiting then (w,14) else (br (bf (aC w i) i),0)) else
 bif decide (k.kind=4) then dY w i k.name else
 bif decide (k.kind=5) then (bif (w.pc i).waiting then (w,14) else bif !decide ((el (w.pc i).led k.n).2=0) then (w,(el (w.pc i).led k.n).2) else (bf (w.setP i { w.pc i with led:=(el (w.pc i).led k.n).1 }) i,0)) else
 bif decide (k.kind=6) then cX w i k.n else
 bif decide (k.kind=8) && (w.pc i).waiting then (w,14) else (iq w i,0)
def lv (c:Cs) (k:Cm):Cs×List Ev×Int :=
 bif !eH c then (Jr,[],2) else bif !decide ((tW ⟨c,[]⟩ k).2=0) then (Jr,[],(tW ⟨c,[]⟩ k).2) else ((tW ⟨c,[]⟩ k).1.c,(tW ⟨c,[]⟩ k).1.ev,0)
section
variable {w:World} {g:Nat} {t:TypeId}
theorem Blk.c1 {a0:Value} (h:Blk w g t #[a0]):w.cell? ⟨g,0,none⟩=some a0∧g<w.heap.size:=⟨h.cellx 0 rfl,h.lt⟩
theorem Blk.c2 {a0 a1:Value} (h:Blk w g t #[a0,a1]):w.cell? ⟨g,0,none⟩=some a0∧w.cell? ⟨g,1,none⟩=some a1∧g<w.heap.size:=⟨h.cellx 0 rfl,h.cellx 1 rfl,h.lt⟩
theorem Blk.c3 {a0 a1 a2:Value} (h:Blk w g t #[a0,a1,a2]):w.cell? ⟨g,0,none⟩=some a0∧w.cell? ⟨g,1,none⟩=some a1∧w.cell? ⟨g,2,none⟩=some a2∧g<w.heap.size:=⟨h.cellx 0 rfl,h.cellx 1 rfl,h.cellx 2 rfl,h.lt⟩
theorem Blk.c4 {a0 a1 a2 a3:Value} (h:Blk w g t #[a0,a1,a2,a3]):w.cell? ⟨g,0,none⟩=some a0∧w.cell? ⟨g,1,none⟩=some a1∧w.cell? ⟨g,2,none⟩=some a2∧w.cell? ⟨g,3,none⟩=some a3∧g<w.heap.size:=⟨h.cellx 0 rfl,h.cellx 1 rfl,h.cellx 2 rfl,h.cellx 3 rfl,h.lt⟩
end
section
variable {P:Program} {fn:Func} {p u u':Tmp} {ty:TypeId} {R:Ending→World→Prop} {a:Act} {w:World} {v v':Value}
end
def En.cells (x:En):List Value:=[.string x.name,.int .i64 x.before.mode,.int .i64 x.before.units,.int .i64 x.after.mode,.int .i64 x.after.units]
def En.val (x:En):Value:=.agg #[.string x.name,.int .i64 x.before.mode,.int .i64 x.before.units,.int .i64 x.after.mode,.int .i64 x.after.units]
def Sv.cells (x:Sv):List Value:=[.int .i64 x.label,.int .i64 x.at_]
def Sv.val (x:Sv):Value:=.agg #[.int .i64 x.label,.int .i64 x.at_]
def Ev.cells (x:Ev):List Value:=[.int .i64 x.kind,.int .i64 x.proc.site,.int .i64 x.proc.inc,.int .i64 x.proc.num,.string x.name,.int .i64 x.am.mode,.int .i64 x.am.units]
def Ev.val (x:Ev):Value:=.agg #[.int .i64 x.kind,.int .i64 x.proc.site,.int .i64 x.proc.inc,.int .i64 x.proc.num,.string x.name,.int .i64 x.am.mode,.int .i64 x.am.units]
def jP:El En:=El.plain 5 (by decide) En.cells (fun _=>rfl) (by intro x u hu;simp [En.cells] at hu;rcases hu with rfl|rfl|rfl|rfl|rfl <;> rfl)
def lw:El Sv:=El.plain 2 (by decide) Sv.cells (fun _=>rfl) (by intro x u hu;simp [Sv.cells] at hu;rcases hu with rfl|rfl <;> rfl)
def i7:El Ev:=El.plain 7 (by decide) Ev.cells (fun _=>rfl) (by intro x u hu;simp [Ev.cells] at hu;rcases hu with rfl|rfl|rfl|rfl|rfl|rfl|rfl <;> rfl)
theorem JG:ElTB prog jP 58 141 48:=ElTB.mk' underlying58 (.agg #[.string { data:=#[] },.int .i64 0,.int .i64 0,.int .i64 0,.int .i64 0]) 5 48 (by kernel_rfl) rfl rfl
theorem JH:ElTB prog lw 59 143 16:=ElTB.mk' underlying59 (.agg #[.int .i64 0,.int .i64 0]) 2 16 (by kernel_rfl) rfl rfl
theorem JI:ElTB prog i7 47 67 64:=ElTB.mk' underlying47 (.agg #[.int .i64 0,.int .i64 0,.int .i64 0,.int .i64 0,.string { data:=#[] },.int .i64 0,.int .i64 0]) 7 64 (by kernel_rfl) rfl rfl
section
variable {w:World} {S:Nat→Prop} {A:Option Addr} {i:Nat}
end
structure QS (w:World) (S:Nat→Prop) (A1 A2 A3:Option Addr) (q:Qu):Prop where
 r1:RowsAt ga w S A1 q.holds
 r2:RowsAt eZ w S A2 q.convs
 r3:RowsAt eZ w S A3 q.waits
 m1:q.holds.length≤maxLen
 m2:q.convs.length≤maxLen
 m3:q.waits.length≤maxLen
section
variable {w w':World} {S S':Nat→Prop} {A1 A2 A3:Option Addr} {q:Qu}
theorem QS.qf (h:QS w S A1 A2 A3 q) (hS:In w S):QF w w.heap.size A1 A2 A3 q:=⟨h.r1.lo hS,h.r2.lo hS,h.r3.lo hS,h.m1,h.m2,h.m3,Nat.le_refl _⟩
theorem QS.grow (h:QS w S A1 A2 A3 q) (hS:In w S) (hb:Below w.heap.size w w'):QS w' S A1 A2 A3 q:=⟨h.r1.grow hS hb,h.r2.grow hS hb,h.r3.grow hS hb,h.m1,h.m2,h.m3⟩
theorem QS.mono (h:QS w S A1 A2 A3 q) (hS:∀b,S b→S' b):QS w S' A1 A2 A3 q:=⟨h.r1.mono hS,h.r2.mono hS,h.r3.mono hS,h.m1,h.m2,h.m3⟩
theorem QS.of {cs:List Value} (h:Jz.rep w S q cs):∃A1 A2 A3 c1 c2 c3,.agg cs.toArray=q.val A1 A2 A3 c1 c2 c3∧QS w S A1 A2 A3 q:=by
 obtain ⟨A1,A2,A3,c1,c2,c3,rfl,m1,m2,m3,r1,r2,r3⟩:=h
 exact ⟨A1,A2,A3,c1,c2,c3,rfl,r1,r2,r3,m1,m2,m3⟩
theorem QS.rep (h:QS w S A1 A2 A3 q) (c1 c2 c3:Nat):Jz.rep w S q [.string q.res.name,.int .i64 q.res.kind,.int .i64 q.res.units,.int .i64 q.res.home,.slice A1 q.holds.length c1,.slice A2 q.convs.length c2,.slice A3 q.waits.length c3,.int .i64 q.gen] :=
 ⟨A1,A2,A3,c1,c2,c3,rfl,h.m1,h.m2,h.m3,h.r1,h.r2,h.r3⟩
end
def fh (d:Nat):El Pc where
 n:=16
 pos:=by decide
 rep:=fun w S x cs=>∃A1 c1 A2 c2 A3 c3,cs=[.int .i64 x.proc.site,.int .i64 x.proc.inc,.int .i64 x.proc.num,.int .i64 x.cost,.slice A1 x.led.entries.length c1,.slice A2 x.led.saves.length c2,.bool x.waiting,.int .i64 x.req.expr.k,.string x.req.expr.atom.name,.int .i64 x.req.expr.atom.am.mode,.int .i64 x.req.expr.atom.am.units,.slice A3 x.req.expr.kids.length c3,.int .i64 x.req.prio,.int .i64 x.req.limit,.int .i64 x.since,.int .i64 x.gen]∧
  RowsAt jP w S A1 x.led.entries∧(x.led.entries.length≤c1∧c1≤maxLen)∧RowsAt lw w S A2 x.led.saves∧(x.led.saves.length≤c2∧c2≤maxLen)∧RowsAt (mY d) w S A3 x.req.expr.kids∧(x.req.expr.kids.length≤c3∧c3≤maxLen)
 len:=fun h=>by obtain ⟨A1,c1,A2,c2,A3,c3,rfl,_⟩:=h;rfl
 one:=fun h=>by obtain ⟨A1,c1,A2,c2,A3,c3,rfl,_⟩:=h;intro u hu;simp at hu;rcases hu with rfl|rfl|rfl|rfl|rfl|rfl|rfl|rfl|rfl|rfl|rfl|rfl|rfl|rfl|rfl|rfl <;> rfl
 same:=fun h hk hS=>by
  obtain ⟨A1,c1,A2,c2,A3,c3,e,h1,h2,h3,h4,h5,h6⟩:=h
  exact ⟨A1,c1,A2,c2,A3,c3,e,h1.same hk hS,h2,h3.same hk hS,h4,h5.same hk hS,h6⟩
theorem GY (l:List Value) (k:Nat):(l.map D.sc).any (D.has k)=false:=by
 induction l with
 | nil=>rfl
 | cons x l ih=>simp only [List.map_cons,List.any_cons,ih,D.has,Bool.or_self]
theorem Cf {w:World} {F:Nat→Prop} {ρ:Nat→Value}:∀{l vs:List Value},All2 (D.rep w F ρ) (l.map .sc) vs→vs=l
 | [],[],_=>rfl
 | _ :: _,_ :: _,h=>by rw [show _=_ from h.1,Cf h.2]
 | [],_ :: _,h=>h.elim
 | _ :: _,[],h=>h.elim
@[reducible] def eJ {α:Type} (n:Nat) (pos:0<n) (f:α→List Value) (len:∀x,(f x).length=n) (one:∀x,∀u∈f x,u.oneCell'=true):Dp (El.plain n pos f len one) where
 deep:=fun x=>(f x).map .sc
 get:=fun h=>by rw [show _=_ from h];exact All2.scs _
 put:=fun h=>Cf h
 nok:=fun x k=>GY (f x) k
instance:Dp eY:=eJ _ _ _ _ _
instance:Dp zK:=eJ _ _ _ _ _
instance:Dp bV:=eJ _ _ _ _ _
instance:Dp ga:=eJ _ _ _ _ _
instance:Dp eZ:=eJ _ _ _ _ _
instance:Dp jP:=eJ _ _ _ _ _
instance:Dp lw:=eJ _ _ _ _ _
instance:Dp i7:=eJ _ _ _ _ _
instance:ST prog ga 78 197 40:=⟨Jy⟩
instance:ST prog eZ 79 171 56:=⟨Gx⟩
instance:ST prog jP 58 141 48:=⟨JG⟩
instance:ST prog lw 59 143 16:=⟨JH⟩
instance:ST prog i7 47 67 64:=⟨JI⟩
instance:ST prog bV 103 39 32:=⟨Gw⟩
def Pc.d (d:Nat) (x:Pc):List D:=[.sc (.int .i64 x.proc.site),.sc (.int .i64 x.proc.inc),.sc (.int .i64 x.proc.num),.sc (.int .i64 x.cost),.sl jP x.led.entries,.sl lw x.led.saves,.sc (.bool x.waiting),.sc (.int .i64 x.req.expr.k),.sc (.string x.req.expr.atom.name),.sc (.int .i64 x.req.expr.atom.am.mode),.sc (.int .i64 x.req.expr.atom.am.units),.sl (mY d) x.req.expr.kids,.sc (.int .i64 x.req.prio),.sc (.int .i64 x.req.limit),.sc (.int .i64 x.since),.sc (.int .i64 x.gen)]
instance (d:Nat):Dp (fh d) where
 deep:=Pc.d d
 get:=by
  rintro w F ρ x cs ⟨A1,c1,A2,c2,A3,c3,rfl,h1,h2,h3,h4,h5,h6⟩
  exact ⟨rfl,rfl,rfl,rfl,⟨A1,c1,rfl,h2,h1⟩,⟨A2,c2,rfl,h4,h3⟩,rfl,rfl,rfl,rfl,rfl,⟨A3,c3,rfl,h6,h5⟩,rfl,rfl,rfl,rfl,trivial⟩
 put:=by
  intro w F ρ x cs h
  match cs,h with
  | [_,_,_,_,_,_,_,_,_,_,_,_,_,_,_,_],⟨rfl,rfl,rfl,rfl,⟨A1,c1,rfl,h2,h1⟩,⟨A2,c2,rfl,h4,h3⟩,rfl,rfl,rfl,rfl,rfl,⟨A3,c3,rfl,h6,h5⟩,rfl,rfl,rfl,rfl,_⟩=>exact ⟨A1,c1,A2,c2,A3,c3,rfl,h1,h2,h3,h4,h5,h6⟩
 nok:=fun _ _=>rfl
section
variable {α:Type} {E:El α} {e:TypeId} {S:Nat→Prop}
section
variable {n:Nat} {pos:0<n} {f:α→List Value} {len:∀x,(f x).length=n} {one:∀x,∀u∈f x,u.oneCell'=true}
theorem OwnRows.nw {w:World} {base:Nat} {v:Value} {l:List α} (h:OwnRows (El.plain n pos f len one) e w base v l):∃A cap,v = .slice A l.length cap∧RowsAt (El.plain n pos f len one) w (New base w) A l∧l.length≤cap∧cap≤maxLen:=by
 obtain ⟨A,cap,rfl,h1,h2⟩:=h.newP
 obtain ⟨_,_,e,_,_,h3⟩:=h.form
 injection e with _ _ e
 subst e
 exact ⟨A,cap,rfl,h1,h2,h3⟩
end
end
theorem ol {P:Program} {f:FuncId} {args:List V0} {res:TV} (hen:∀(vs:Array Value) (w:World),(callFunc f vs).run P w = .ok (.enter f vs) w) (hok:Ag args [] [] res []=true)
  (h:∀(w:World) (S:Nat→Prop) (ρ:Nat→Value) (vs:List Value),PinW w (fun _=>False)→In w S→All2 (V0.rep w S ρ) args vs→Calls P f vs.toArray w fun e w'=>∃v,e = .returned v∧Below w.heap.size w w'∧res.rep w' (Gr S w.heap.size w') ρ v):FSpec P f args [] [] res []:=by
 refine ⟨hen,fun q c st ρ a w vs hr _ hargs _ _=>?_⟩
 simp only [Ag,Bool.and_eq_true] at hok
 obtain ⟨⟨⟨⟨⟨⟨o1,_⟩,_⟩,_⟩,_⟩,o6⟩,_⟩:=hok
 have hnok:∀d∈args,∀k,d.has k=true→False:=fun d hd k hk=>by have:=V0.in_has (List.all_eq_true.1 o1 d hd) hk;simp [av,aI] at this
 have hnor:∀k,res.has k=true→False:=fun k hk=>by have:=TV.in_has o6 hk;simp [av,aI] at this
 have hargs':All2 (V0.rep w (Fz c st.h ρ w) ρ) args vs:=hargs.imp fun d v hd h1=>(V0.rep_ren (ρ':=ρ) fun k hk=>(hnok d hd k hk).elim).1 h1
 refine (h w (Fz c st.h ρ w) ρ vs hr.pin (fun b hb=>hb.2.1) hargs').mono ?_
 rintro e w' ⟨v,rfl,hb,hv⟩
 refine ⟨v,rfl,fun dst hdst=>⟨ρ,hr.app (e:=⟨res.ren q,dJ q [],[].map q⟩) hdst (fun k hk=>by simp [aI] at hk) (fun _ _=>rfl) (fun k hk=>by simp [dJ,aA] at hk) (Frx.below hb) (fun k bx g hk=>by simp [dJ,aA] at hk) (fun k k' b b' g hk=>by simp [dJ,aA] at hk) (fun k hk=>?_) (fun k k' bx hk=>by simp [dJ,aA] at hk) (fun k bx hk=>by simp [dJ,aA] at hk) ?_⟩⟩
 ·obtain ⟨k',hk',_⟩:=TV.has_ren hk
  exact (hnor k' hk').elim
 ·refine ((TV.rep_ren (ρ':=ρ) fun k hk=>(hnor k hk).elim).2 hv).mono (fun b hb2=>⟨⟨?_,hb2.1,fun k bx hk he=>?_⟩,rfl⟩) fun _ _=>rfl
  ·rcases hb2.2 with h1|h1
   ·exact h1.1
   ·exact .inr (Nat.le_trans hr.frm.size h1)
  ·have hk:st.h k=some bx:=hk
   rcases hb2.2 with h1|h1
   ·exact h1.2.2 k bx hk he
   ·have:=hr.ltb hk he
    omega
theorem tX {w:World} {F:Nat→Prop} {ρ:Nat→Value} {ds:List D} {l:List Value} {v:Value} (hs:scs ds=some l) (h:(V0.ag ds).rep w F ρ v):v = .agg l.toArray:=by
 obtain ⟨vs,rfl,h1⟩:=h
 rw [eA hs h1]
theorem fK {w w':World} {S:Nat→Prop} {ρ:Nat→Value} {v:Value} {e:Ending} (h:lC w v e w'):∃u,e = .returned u∧Below w.heap.size w w'∧(TV.c (.sc v)).rep w' (Gr S w.heap.size w') ρ u:=⟨v,h.1,h.2,rfl⟩
theorem wc {w w':World} {S:Nat→Prop} {ρ:Nat→Value} {α:Type} {t:TypeId} {l:List α} {e:Ending} {n:Nat} {pos:0<n} {f:α→List Value} {len:∀x,(f x).length=n} {one:∀x,∀u∈f x,u.oneCell'=true} (h:o9 (El.plain n pos f len one) t w l e w') :
  ∃u,e = .returned u∧Below w.heap.size w w'∧(TV.c (.sl (El.plain n pos f len one) l)).rep w' (Gr S w.heap.size w') ρ u:=by
 obtain ⟨v,rfl,hown,hb⟩:=h
 obtain ⟨A,cap,rfl,hr,h1,h2⟩:=OwnRows.nw hown
 exact ⟨_,rfl,hb,A,cap,rfl,⟨h1,h2⟩,hr.grNew⟩
def D.okb:D→Bool
 | .sc x=>x.oneCell'
 | .sl ..=>true
 | _=>false
theorem D.okb_has {d:D} (h:d.okb=true) (k:Nat):d.has k=false:=by cases d <;> first|rfl|cases h
theorem D.okb_one {w:World} {F:Nat→Prop} {ρ:Nat→Value} {d:D} {v:Value} (h:d.okb=true) (hd:d.rep w F ρ v):v.oneCell'=true:=by
 cases d with
 | sc x=>have hd:v=x:=hd;rw [hd];exact h
 | sl E l=>obtain ⟨A,cap,rfl,_⟩:=hd;rfl
 | _=>cases h
def El.ofD {α:Type} (n:Nat) (pos:0<n) (f:α→List D) (len:∀x,(f x).length=n) (ok:∀x,(f x).all D.okb=true):El α where
 n:=n
 pos:=pos
 rep:=fun w S x cs=>All2 (D.rep w S fun _=>undef) (f x) cs
 len:=fun h=>by rw [←h.length,len]
 one:=fun {w S x cs} h=>pM h fun d hd u hu=>D.okb_one (List.all_eq_true.1 (ok x) d hd) hu
 same:=fun {w w' S S' x cs} h hk hS=>h.imp fun d v hd h1=>D.rep.mono h1 (fun b hb=>⟨hS b hb,hk b hb⟩) fun _ _=>rfl
@[reducible] def KF {α:Type} (n:Nat) (pos:0<n) (f:α→List D) (len:∀x,(f x).length=n) (ok:∀x,(f x).all D.okb=true):Dp (El.ofD n pos f len ok) where
 deep:=f
 get:=fun {w F ρ x cs} h=>All2.imp (R:=D.rep w F fun _=>undef) h fun d v hd h1=>D.rep.mono h1 (fun b hb=>⟨hb,rfl⟩) fun k hk=>by rw [D.okb_has (List.all_eq_true.1 (ok x) d hd) k] at hk;cases hk
 put:=fun {w F ρ x cs} h=>h.imp fun d v hd h1=>D.rep.mono h1 (fun b hb=>⟨hb,rfl⟩) fun k hk=>by rw [D.okb_has (List.all_eq_true.1 (ok x) d hd) k] at hk;cases hk
 nok:=fun x k=>by
  rw [Bool.eq_false_iff]
  intro h
  obtain ⟨d,hd,h1⟩:=List.any_eq_true.1 h
  rw [D.okb_has (List.all_eq_true.1 (ok x) d hd) k] at h1
  cases h1
theorem bY {P:Program} {f:FuncId} {args:List V0} {res:TV} (hen:∀(vs:Array Value) (w:World),(callFunc f vs).run P w = .ok (.enter f vs) w) (hok:Ag args [] [] res []=true)
  (h:∀(w:World) (S:Nat→Prop) (ρ:Nat→Value) (vs:List Value),In w S→All2 (V0.rep w S ρ) args vs→Calls P f vs.toArray w fun e w'=>∃v,e = .returned v∧Below w.heap.size w w'∧res.rep w' (Gr S w.heap.size w') ρ v):FSpec P f args [] [] res [] :=
 ol hen hok fun w S ρ vs _ hS ha=>h w S ρ vs hS ha
def Pr.a (p:Pr):V0:=.ag [.sc (.int .i64 p.site),.sc (.int .i64 p.inc),.sc (.int .i64 p.num)]
def Am.a (x:Am):V0:=.ag [.sc (.int .i64 x.mode),.sc (.int .i64 x.units)]
def Tm.a (x:Tm):V0:=.ag [.sc (.string x.name),.sc (.int .i64 x.am.mode),.sc (.int .i64 x.am.units)]
def Rs.a (r:Rs):V0:=.ag [.sc (.string r.name),.sc (.int .i64 r.kind),.sc (.int .i64 r.units),.sc (.int .i64 r.home)]
def Qu.d (q:Qu):List D:=[.sc (.string q.res.name),.sc (.int .i64 q.res.kind),.sc (.int .i64 q.res.units),.sc (.int .i64 q.res.home),.sl ga q.holds,.sl eZ q.convs,.sl eZ q.waits,.sc (.int .i64 q.gen)]
def Qu.a (q:Qu):V0:=.ag q.d
def dt:El Qu:=El.ofD 8 (by decide) Qu.d (fun _=>rfl) fun _=>rfl
instance:Dp dt:=KF _ _ _ _ _
def Ex.d (d:Nat) (x:Ex):List D:=[.sc (.int .i64 x.k),.sc (.string x.atom.name),.sc (.int .i64 x.atom.am.mode),.sc (.int .i64 x.atom.am.units),.sl (mY d) x.kids]
def Ex.a (d:Nat) (x:Ex):V0:=.ag (x.d d)
def Lg.a (l:Lg):V0:=.ag [.sl jP l.entries,.sl lw l.saves]
def Pc.a (d:Nat) (x:Pc):V0:=.ag (x.d d)
def En.a (x:En):V0:=.ag [.sc (.string x.name),.sc (.int .i64 x.before.mode),.sc (.int .i64 x.before.units),.sc (.int .i64 x.after.mode),.sc (.int .i64 x.after.units)]
def Rq.d (d:Nat) (r:Rq):List D:=[.sc (.int .i64 r.expr.k),.sc (.string r.expr.atom.name),.sc (.int .i64 r.expr.atom.am.mode),.sc (.int .i64 r.expr.atom.am.units),.sl (mY d) r.expr.kids,.sc (.int .i64 r.prio),.sc (.int .i64 r.limit)]
def Rq.a (d:Nat) (r:Rq):V0:=.ag (r.d d)
section
variable {w:World} {S:Nat→Prop} {ρ:Nat→Value} {v:Value}
theorem Pr.open {p:Pr} (h:p.a.rep w S ρ v):v=p.val:=tX rfl h
theorem Am.open {p:Am} (h:p.a.rep w S ρ v):v=p.val:=tX rfl h
theorem Rs.open {p:Rs} (h:p.a.rep w S ρ v):v=p.val:=tX rfl h
theorem Qu.open {q:Qu} (h:q.a.rep w S ρ v):∃A1 A2 A3 c1 c2 c3,v=q.val A1 A2 A3 c1 c2 c3∧QS w S A1 A2 A3 q∧(q.holds.length≤c1∧c1≤maxLen)∧(q.convs.length≤c2∧c2≤maxLen)∧(q.waits.length≤c3∧c3≤maxLen):=by
 obtain ⟨cs,rfl,h⟩:=h
 match cs,h with
 | [_,_,_,_,_,_,_,_],⟨rfl,rfl,rfl,rfl,⟨A1,c1,rfl,h1,r1⟩,⟨A2,c2,rfl,h2,r2⟩,⟨A3,c3,rfl,h3,r3⟩,rfl,_⟩ =>
  exact ⟨A1,A2,A3,c1,c2,c3,rfl,⟨r1,r2,r3,Nat.le_trans h1.1 h1.2,Nat.le_trans h2.1 h2.2,Nat.le_trans h3.1 h3.2⟩,h1,h2,h3⟩
theorem Ex.open {d:Nat} {x:Ex} (h:(x.a d).rep w S ρ v):∃A c,v=x.val A c∧RowsAt (mY d) w S A x.kids∧(x.kids.length≤c∧c≤maxLen):=by
 obtain ⟨cs,rfl,h⟩:=h
 match cs,h with
 | [_,_,_,_,_],⟨rfl,rfl,rfl,rfl,⟨A,c,rfl,h1,r1⟩,_⟩=>exact ⟨A,c,rfl,r1,h1⟩
end
end Go.Proofs.YtjndcdcbjidocaaGreatDoor
