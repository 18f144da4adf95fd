/- Part 5 of 24 of the proof of rollbackOptions_holds (no condition). -/
import Derived.Test.YtdaajdflefnjfaaGreatK04
import Derived.Deep.MidRow
import Derived.Laws.CopyRow
set_option linter.unusedVariables false
set_option linter.unusedSimpArgs false
set_option maxRecDepth 100000
set_option maxHeartbeats 64000000
namespace Go.Proofs.YtdaajdflefnjfaaGreat
open Go.RowKit Go.Proofs.Tryz
section
inductive Ex where
 | mk (k:Int) (atom:Tm) (kids:List Ex)
namespace Ex
def k:Ex→Int | .mk k _ _=>k
def atom:Ex→Tm | .mk _ a _=>a
def kids:Ex→List Ex | .mk _ _ l=>l
theorem ind {P:Ex→Prop} (h:∀k a l,(∀x∈l,P x)→P (.mk k a l)):∀x,P x:=by
 intro x
 refine Ex.rec (motive_1:=P) (motive_2:=fun l=>∀x∈l,P x) h (fun x hx=>absurd hx (by simp)) (fun x l h1 h2 y hy=>?_) x
 rcases List.mem_cons.1 hy with rfl|hy
 ·exact h1
 ·exact h2 _ hy
end Ex
def Ex.val (x:Ex) (A:Option Addr) (cap:Nat):Value:=.agg #[.int .i64 x.k,.string x.atom.name,.int .i64 x.atom.am.mode,.int .i64 x.atom.am.units,.slice A x.kids.length cap]
def Ex.zero:Ex:=.mk 0 ⟨⟨#[]⟩,Am.zero⟩ []
def oN:Nat→El Ex
 | 0=>{ n:=5,pos:=by decide,rep:=fun _ _ _ _=>False,len:=fun h=>h.elim,one:=fun h=>h.elim,same:=fun h _ _=>h.elim }
 | d+1=>{
  n:=5
  pos:=by decide
  rep:=fun w S x cs=>∃A cap,cs=[.int .i64 x.k,.string x.atom.name,.int .i64 x.atom.am.mode,.int .i64 x.atom.am.units,.slice A x.kids.length cap]∧x.kids.length≤cap∧cap≤maxLen∧RowsAt (oN d) w S A x.kids
  len:=fun h=>by obtain ⟨A,cap,rfl,_⟩:=h;rfl
  one:=fun h=>by obtain ⟨A,cap,rfl,_⟩:=h;intro u hu;simp at hu;rcases hu with rfl|rfl|rfl|rfl|rfl <;> rfl
  same:=fun h hk hS=>by
   obtain ⟨A,cap,e,h1,h2,h3⟩:=h
   exact ⟨A,cap,e,h1,h2,h3.same hk hS⟩ }
theorem KA (d:Nat):(oN d).n=5:=by cases d <;> rfl
section
variable {w:World} {S:Nat→Prop} {A:Option Addr} {i d:Nat}
end
mutual
def Ex.cnt:Ex→Nat
 | .mk _ _ l=>1+jx l
def jx:List Ex→Nat
 | []=>0
 | x :: l=>x.cnt+jx l
end
mutual
def Ex.dep:Ex→Nat
 | .mk _ _ l=>1+mM l
def mM:List Ex→Nat
 | []=>0
 | x :: l=>max x.dep (mM l)
end
theorem Ex.dep_mk (k:Int) (a:Tm) (l:List Ex):(Ex.mk k a l).dep=1+mM l:=rfl
theorem Ex.cnt_mk (k:Int) (a:Tm) (l:List Ex):(Ex.mk k a l).cnt=1+jx l:=rfl
theorem tP (x:Ex) (l:List Ex):mM (x :: l)=max x.dep (mM l):=rfl
theorem gY (x:Ex) (l:List Ex):jx (x :: l)=x.cnt+jx l:=rfl
theorem Ex.dep_pos (x:Ex):0<x.dep:=by cases x;rw [Ex.dep_mk];omega
theorem Ex.cnt_pos (x:Ex):0<x.cnt:=by cases x;rw [Ex.cnt_mk];omega
theorem pZ:∀l:List Ex,l.length≤jx l
 | []=>Nat.zero_le _
 | x :: l=>by have:=pZ l;have:=x.cnt_pos;rw [gY,List.length_cons];omega
def AE (x:Ex):Bool:=decide (x.dep≤4) && decide (x.cnt≤24)
mutual
def ja:Ex→Nat→Nat→Nat×Nat
 | .mk _ _ l,lev,n=>if 4<lev∨24<n+1 then (0,n+1) else my l lev (n+1) 0
def my:List Ex→Nat→Nat→Nat→Nat×Nat
 | [],_,n,d=>(d+1,n)
 | x :: l,lev,n,d=>if (ja x (lev+1) n).1=0 then (0,(ja x (lev+1) n).2) else my l lev (ja x (lev+1) n).2 (max d (ja x (lev+1) n).1)
end
theorem AF (k:Int) (a:Tm) (l:List Ex) (lev n:Nat):ja (.mk k a l) lev n=if 4<lev∨24<n+1 then (0,n+1) else my l lev (n+1) 0:=rfl
theorem BU (lev n d:Nat):my [] lev n d=(d+1,n):=rfl
theorem rm (x:Ex) (l:List Ex) (lev n d:Nat):my (x :: l) lev n d=if (ja x (lev+1) n).1=0 then (0,(ja x (lev+1) n).2) else my l lev (ja x (lev+1) n).2 (max d (ja x (lev+1) n).1):=rfl
theorem AG:∀(x:Ex) (lev n:Nat),(x.dep+lev≤5∧n+x.cnt≤24∧ja x lev n=(x.dep,n+x.cnt))∨(¬(x.dep+lev≤5∧n+x.cnt≤24)∧(ja x lev n).1=0∧((ja x lev n).2≤25∨(ja x lev n).2≤n+1)):=by
 refine Ex.ind (fun k a l ih=>?_)
 have hl:∀(m:List Ex) (lev n d:Nat),(∀x∈m,x∈l)→lev≤4→n≤24→(mM m+lev≤4∧n+jx m≤24∧my m lev n d=(max d (mM m)+1,n+jx m))∨(¬(mM m+lev≤4∧n+jx m≤24)∧(my m lev n d).1=0∧(my m lev n d).2≤25):=by
  intro m
  induction m with
  | nil=>intro lev n d _ h1 h2;exact .inl ⟨by simpa [mM] using h1,by simpa [jx] using h2,by rw [BU];simp [mM,jx]⟩
  | cons x m ihm =>
   intro lev n d hm h1 h2
   rw [rm,tP,gY]
   have hx0:=x.dep_pos
   rcases ih x (hm x (by simp)) (lev+1) n with ⟨a1,a2,a3⟩|⟨a1,a2,a3⟩
   ·rw [a3]
    rw [if_neg (by show ¬x.dep=0;omega)]
    rcases ihm lev (n+x.cnt) (max d x.dep) (fun y hy=>hm y (by simp [hy])) h1 a2 with ⟨b1,b2,b3⟩|⟨b1,b2,b3⟩
    ·exact .inl ⟨by omega,by omega,by rw [b3];congr 1 <;> omega⟩
    ·exact .inr ⟨by omega,b2,b3⟩
   ·rw [if_pos a2]
    exact .inr ⟨by omega,rfl,by show (ja x (lev+1) n).2≤25;omega⟩
 intro lev n
 rw [AF,Ex.dep_mk,Ex.cnt_mk]
 by_cases hc:4<lev∨24<n+1
 ·rw [if_pos hc]
  exact .inr ⟨by omega,rfl,.inr (Nat.le_refl _)⟩
 ·rw [if_neg hc]
  rcases hl l lev (n+1) 0 (fun _ h=>h) (by omega) (by omega) with ⟨b1,b2,b3⟩|⟨b1,b2,b3⟩
  ·exact .inl ⟨by omega,by omega,by rw [b3];congr 1 <;> omega⟩
  ·exact .inr ⟨by omega,b2,.inl b3⟩
theorem Gc (x:Ex):(ja x 1 0).1=if AE x then x.dep else 0:=by
 unfold AE
 rcases AG x 1 0 with ⟨a1,a2,a3⟩|⟨a1,a2,_⟩
 ·rw [a3];simp;omega
 ·rw [a2,if_neg];simp;omega
mutual
def gt:Ex→Nat→Nat×Nat
 | .mk _ _ l,dp=>if 4<dp∨24<l.length then (25,0) else jy l dp 1 0
def jy:List Ex→Nat→Nat→Nat→Nat×Nat
 | [],_,n,d=>(n,d+1)
 | x :: l,dp,n,d=>if 24<n+(gt x (dp+1)).1 then (25,0) else jy l dp (n+(gt x (dp+1)).1) (if d<(gt x (dp+1)).2 then (gt x (dp+1)).2 else d)
end
theorem wU (k:Int) (a:Tm) (l:List Ex) (dp:Nat):gt (.mk k a l) dp=if 4<dp∨24<l.length then (25,0) else jy l dp 1 0:=rfl
theorem zi (dp n d:Nat):jy [] dp n d=(n,d+1):=rfl
theorem p6 (x:Ex) (l:List Ex) (dp n d:Nat):jy (x :: l) dp n d=if 24<n+(gt x (dp+1)).1 then (25,0) else jy l dp (n+(gt x (dp+1)).1) (if d<(gt x (dp+1)).2 then (gt x (dp+1)).2 else d):=rfl
theorem rn:∀(x:Ex) (dp:Nat),(x.dep+dp≤5∧x.cnt≤24∧gt x dp=(x.cnt,x.dep))∨(¬(x.dep+dp≤5∧x.cnt≤24)∧gt x dp=(25,0)):=by
 refine Ex.ind (fun k a l ih=>?_)
 have hl:∀(m:List Ex) (dp n d:Nat),(∀x∈m,x∈l)→dp≤4→n≤24→(mM m+dp≤4∧n+jx m≤24∧jy m dp n d=(n+jx m,max d (mM m)+1))∨(¬(mM m+dp≤4∧n+jx m≤24)∧jy m dp n d=(25,0)):=by
  intro m
  induction m with
  | nil=>intro dp n d _ h1 h2;exact .inl ⟨by simpa [mM] using h1,by simpa [jx] using h2,by rw [zi];simp [mM,jx]⟩
  | cons x m ihm =>
   intro dp n d hm h1 h2
   rw [p6,tP,gY]
   have hx0:=x.dep_pos
   rcases ih x (hm x (by simp)) (dp+1) with ⟨a1,a2,a3⟩|⟨a1,a3⟩
   ·rw [a3]
    by_cases hn:24<n+x.cnt
    ·rw [if_pos hn]
     exact .inr ⟨by omega,rfl⟩
    ·rw [if_neg hn]
     rcases ihm dp (n+x.cnt) (if d<x.dep then x.dep else d) (fun y hy=>hm y (by simp [hy])) h1 (by omega) with ⟨b1,b2,b3⟩|⟨b1,b2⟩
     ·refine .inl ⟨by omega,by omega,?_⟩
      rw [b3]
      congr 1
      ·omega
      ·split <;> omega
     ·exact .inr ⟨by omega,b2⟩
   ·rw [a3,if_pos (by show 24<n+25;omega)]
    exact .inr ⟨by omega,rfl⟩
 intro dp
 rw [wU,Ex.dep_mk,Ex.cnt_mk]
 have hlen:=pZ l
 by_cases hc:4<dp∨24<l.length
 ·rw [if_pos hc]
  exact .inr ⟨by omega,rfl⟩
 ·rw [if_neg hc]
  rcases hl l dp 1 0 (fun _ h=>h) (by omega) (by omega) with ⟨b1,b2,b3⟩|⟨b1,b3⟩
  ·exact .inl ⟨by omega,by omega,by rw [b3];congr 1;omega⟩
  ·exact .inr ⟨by omega,b3⟩
theorem Dn (x:Ex):(24<(gt x 1).1) = ¬AE x=true:=by
 unfold AE
 rcases rn x 1 with ⟨a1,a2,a3⟩|⟨a1,a3⟩ <;> rw [a3] <;> simp <;> omega
end
structure But (g:Nat) (w w':World):Prop where
 os:w'.os=w.os
 tape:w'.tape=w.tape
 output:w'.output=w.output
 size:w.heap.size≤w'.heap.size
 block:∀k,k<w.heap.size→k≠g→w'.heap[k]? = w.heap[k]?
section
variable {g:Nat} {a b c w w':World}
theorem But.refl (g:Nat) (w:World):But g w w:=⟨rfl,rfl,rfl,Nat.le_refl _,fun _ _ _=>rfl⟩
theorem But.trans (h:But g a b) (k:But g b c):But g a c :=
 ⟨k.os.trans h.os,k.tape.trans h.tape,k.output.trans h.output,Nat.le_trans h.size k.size,fun i hi hg=>(k.block i (Nat.lt_of_lt_of_le hi h.size) hg).trans (h.block i hi hg)⟩
theorem But.of (h:Below a.heap.size a b):But g a b:=⟨h.os,h.tape,h.output,h.size,fun i hi _=>h.block i hi⟩
theorem But.grow (h:But g a b) (k:Below b.heap.size b c):But g a c:=h.trans (But.of k)
theorem But.al (h:But g a w) (o:Obj):But g a (w.alloc o):=h.grow (Below.al (Below.refl _ _) o)
theorem But.drewN (h:But g a w) (n:Nat):But g a (w.drewN n):=⟨h.os,h.tape,h.output,h.size,h.block⟩
theorem But.drew (h:But g a w):But g a w.drew:=⟨h.os,h.tape,h.output,h.size,h.block⟩
theorem But.st {p:Addr} {u:Value} (h:But g a w) (hp:p.block=g∨a.heap.size≤p.block):But g a (w.setCell p u) :=
 ⟨h.os,h.tape,h.output,by simpa using h.size,fun i hi hg=>(Below.heap_setCell w p u i (by omega)).trans (h.block i hi hg)⟩
theorem But.below {B:Nat} (h:But g a b) (hB:B≤g) (hB2:B≤a.heap.size):Below B a b:=⟨h.os,h.tape,h.output,h.size,fun i hi=>h.block i (by omega) (by omega)⟩
theorem But.cell (h:But g a b) {k o:Nat} (hk:k<a.heap.size) (hg:k≠g):b.cell? ⟨k,o,none⟩=a.cell? ⟨k,o,none⟩:=World.cell?_of_block (a:=⟨k,o,none⟩) (h.block k hk hg)
theorem But.frozen (h:But g a b) {k o:Nat} (hk:k<a.heap.size) (hg:k≠g):b.frozen? ⟨k,o,none⟩=a.frozen? ⟨k,o,none⟩:=by
 unfold World.frozen?
 rw [show b.heap[k]? = a.heap[k]? from h.block k hk hg]
theorem But.cells (h:But g a b):(∀k o,k<a.heap.size→k≠g→b.cell? ⟨k,o,none⟩=a.cell? ⟨k,o,none⟩)∧(∀k o,k<a.heap.size→k≠g→b.frozen? ⟨k,o,none⟩=a.frozen? ⟨k,o,none⟩):=⟨fun _ _ hk hg=>h.cell hk hg,fun _ _ hk hg=>h.frozen hk hg⟩
theorem RowsAt.but {α:Type} {E:El α} {A:Option Addr} {l:List α} {B B':Nat} (h:RowsAt E w (Lo B) A l) (hb:But g w w') (hB:B≤w.heap.size) (hg:B≤g) (hB2:B≤B'):RowsAt E w' (Lo B') A l :=
 h.below (hb.below hg hB) (Nat.le_refl _) hB2
theorem OwnRows.but {α:Type} {E:El α} {e:TypeId} {v:Value} {l:List α} {base:Nat} (h:OwnRows E e w base v l) (hb:But g w w') (hg:v.ownBlock≠some g) (hr:∀xs,Reps E w (oL w v) l xs→Reps E w' (oL w' v) l xs):OwnRows E e w' base v l:=by
 obtain ⟨h0,xs,⟨h1,h2⟩,h3⟩:=h
 refine ⟨Nat.le_trans h0 hb.size,xs,⟨h1,?_⟩,hr xs h3⟩
 rcases h2 with hn|⟨b,cap,cur,hv,hb2,hh,rest⟩
 ·exact .inl hn
 ·refine .inr ⟨b,cap,cur,hv,hb2,?_,rest⟩
  rw [hb.block b (Array.getElem?_eq_some_iff.1 hh).1 (fun e=>hg (by rw [hv,←e];rfl))]
  exact hh
end
structure PS (X:Nat→Prop) (w w':World) (v v':Value):Prop where
 os:w'.os=w.os
 tape:w'.tape=w.tape
 output:w'.output=w.output
 size:w.heap.size≤w'.heap.size
 block:∀k,k<w.heap.size→¬X k→v.ownBlock≠some k→w'.heap[k]? = w.heap[k]?∧v'.ownBlock≠some k
section
variable {X:Nat→Prop} {a b c w w':World} {u v v':Value} {base:Nat}
theorem PS.refl (X:Nat→Prop) (w:World) (v:Value):PS X w w v v:=⟨rfl,rfl,rfl,Nat.le_refl _,fun _ _ _ h=>⟨rfl,h⟩⟩
theorem PS.trans (h:PS X a b u v) (k:PS X b c v v'):PS X a c u v' :=
 ⟨k.os.trans h.os,k.tape.trans h.tape,k.output.trans h.output,Nat.le_trans h.size k.size,fun i hi hx hu =>
  have h1:=h.block i hi hx hu
  have h2:=k.block i (Nat.lt_of_lt_of_le hi h.size) hx h1.2
  ⟨h2.1.trans h1.1,h2.2⟩⟩
theorem PS.of (v:Value) (h:Below w.heap.size w w'):PS X w w' v v:=⟨h.os,h.tape,h.output,h.size,fun i hi _ hu=>⟨h.block i hi,hu⟩⟩
theorem PS.grow (h:PS X a b u v) (k:Below b.heap.size b c):PS X a c u v:=h.trans (PS.of v k)
theorem PS.push (h:Below base w w') (hs:mH w w' v v'):PS X w w' v v':=⟨h.os,h.tape,h.output,h.size,fun i hi _ hu=>hs i ⟨hi,hu⟩⟩
theorem PS.st {p:Addr} {z:Value} (h:PS X a b u v) (hp:X p.block):PS X a (b.setCell p z) u v :=
 ⟨h.os,h.tape,h.output,by simpa using h.size,fun i hi hx hu=>⟨(Below.heap_setCell b p z i (fun e=>hx (by rw [e];exact hp))).trans (h.block i hi hx hu).1,(h.block i hi hx hu).2⟩⟩
theorem PS.below {B:Nat} (h:PS X a b u v) (hu:∀k,u.ownBlock=some k→B≤k) (hX:∀k,X k→B≤k) (hB:B≤a.heap.size):Below B a b :=
 ⟨h.os,h.tape,h.output,h.size,fun k hk=>(h.block k (Nat.lt_of_lt_of_le hk hB) (fun hx=>Nat.not_le_of_lt hk (hX k hx)) (fun e=>Nat.not_le_of_lt hk (hu k e))).1⟩
theorem PS.none (h:PS X a b (.slice none 0 0) v) (hX:∀k,k<a.heap.size→¬X k):Below a.heap.size a b :=
 ⟨h.os,h.tape,h.output,h.size,fun k hk=>(h.block k hk (hX k hk) (fun e=>by cases e)).1⟩
theorem PS.mono {Y:Nat→Prop} (h:PS X a b u v) (hXY:∀k,X k→Y k):PS Y a b u v:=⟨h.os,h.tape,h.output,h.size,fun k hk hy hu=>h.block k hk (fun hx=>hy (hXY k hx)) hu⟩
end
theorem Gd (w:World) (a p:Addr) (v:Value):(w.setCell a v).frozen? p=w.frozen? p:=World.frozen?_setCell _ _ _ _
theorem Do {w:World} {g o:Nat} {u v:Value} (h:w.cell? ⟨g,o,none⟩=some u):(w.setCell ⟨g,o,none⟩ v).cell? ⟨g,o,none⟩=some v:=by
 unfold World.cell? at h ⊢
 simp only [World.setCell,Array.getElem?_modify] at h ⊢
 cases hh:w.heap[g]? with
 | none=>rw [hh] at h;cases h
 | some ob =>
  rw [hh] at h
  cases ob with
  | cells cs t fr =>
   have ho:o<cs.size:=by
    simp at h
    exact (Array.getElem?_eq_some_iff.1 h).1
   simp [ho]
  | _=>simp at h
theorem OwnRows.far {α:Type} {E:El α} {e:TypeId} {w:World} {base p:Nat} {v u:Value} {l:List α} (h:OwnRows E e w base v l) (hp:v.ownBlock≠some p) (hr:∀xs,Reps E w (oL w v) l xs→Reps E (w.setCell ⟨p,0,none⟩ u) (oL w v) l xs):OwnRows E e (w.setCell ⟨p,0,none⟩ u) base v l:=by
 refine OwnRows.but (g:=p) h (But.st (But.refl _ _) (.inl rfl)) hp fun xs hx=>?_
 have:=hr xs hx
 exact this.same (fun _ _=>rfl) fun b hb=>⟨by simpa using hb.1,hb.2⟩
structure AtP {α:Type} (E:El α) (e:TypeId) (w:World) (p base:Nat) (v:Value) (l:List α):Prop where
 cell:w.cell? ⟨p,0,none⟩=some v
 froz:w.frozen? ⟨p,0,none⟩=false
 own:OwnRows E e w base v l
 ne:v.ownBlock≠some p
section
variable {α:Type} {e:TypeId} {n:Nat} {pos:0<n} {f:α→List Value} {len:∀x,(f x).length=n} {one:∀x,∀u∈f x,u.oneCell'=true}
theorem AH {w w':World} {S S':Nat→Prop}:∀{l:List α} {xs:List Value},Reps (El.plain n pos f len one) w S l xs→Reps (El.plain n pos f len one) w' S' l xs
 | [],_,h=>h
 | _ :: _,_,h=>by
  obtain ⟨cs,rest,rfl,h1,h2⟩:=h
  exact ⟨cs,rest,rfl,h1,AH h2⟩
theorem OwnRows.ps {X:Nat→Prop} {w w':World} {base:Nat} {v u u':Value} {l:List α} (h:OwnRows (El.plain n pos f len one) e w base v l) (hp:PS X w w' u u') (hv:∀k,v.ownBlock=some k→¬X k∧u.ownBlock≠some k):OwnRows (El.plain n pos f len one) e w' base v l:=by
 obtain ⟨h0,xs,⟨h1,h2⟩,h3⟩:=h
 refine ⟨Nat.le_trans h0 hp.size,xs,⟨h1,?_⟩,AH h3⟩
 rcases h2 with hn|⟨b,cap,cur,hv2,hb2,hh,rest⟩
 ·exact .inl hn
 ·refine .inr ⟨b,cap,cur,hv2,hb2,?_,rest⟩
  have hq:=hv b (by rw [hv2];rfl)
  rw [(hp.block b (Array.getElem?_eq_some_iff.1 hh).1 hq.1 hq.2).1]
  exact hh
theorem AtP.store {w:World} {p base:Nat} {v u:Value} {l:List α} (h:OwnRows (El.plain n pos f len one) e w base v l) (ne:v.ownBlock≠some p) (hc:w.cell? ⟨p,0,none⟩=some u) (hf:w.frozen? ⟨p,0,none⟩=false):AtP (El.plain n pos f len one) e (w.setCell ⟨p,0,none⟩ v) p base v l :=
 ⟨Do hc,(Gd _ _ _ _).trans hf,h.far ne fun _ hx=>AH hx,ne⟩
theorem AtP.below {w w':World} {p base:Nat} {v:Value} {l:List α} (h:AtP (El.plain n pos f len one) e w p base v l) (hb:Below w.heap.size w w') (hp:p<w.heap.size):AtP (El.plain n pos f len one) e w' p base v l :=
 ⟨(hb.cell (p:=⟨p,0,none⟩) hp).trans h.cell,(hb.frozen (p:=⟨p,0,none⟩) hp).trans h.froz,h.own.below hb (Nat.le_refl _),h.ne⟩
end
theorem ro {P:Program} {ops:Array Oper} {rest:List Oper} {o:Oper} {a:Act} {w:World} {Q:Exit→Act→World→Prop} (hgd:o.guard=none) (ty:TypeId) (x y:Operand) (ho:o.op = .store ty x y) (g off:Nat) (t:TypeId) (old vs new:Array Value)
  (hx:a.eval x = .pointer (some ⟨g,off,none⟩)) (hy:a.eval y = .agg vs) (hb:Blk w g t old) (hi:(P.info? ty).map (·.size)=some vs.size) (hl:off+vs.size≤old.size) (h1:vs.all (·.oneCell')=true)
  (hn:(old.toList.take off++vs.toList++old.toList.drop (off+vs.size)).toArray=new) (h:∀w',Blk w' g t new→But g w w'→wpList P ops Q rest (a.put o.dst undef) w'):wpList P ops Q (o :: rest) a w:=by
 refine wpList_plain hgd fun K hK=>?_
 have h2:=run_storeCells_at (P:=P) g off t vs.toList 0 old w hb (by simpa using hl) (fun v hv=>(Array.all_eq_true_iff_forall_mem.1 h1) v (by simpa using hv))
 simp only [Nat.add_zero,Array.length_toList] at h2
 rw [hn] at h2
 unfold Oper.wp execOp
 cases hq:P.info? ty with
 | none=>simp [hq] at hi
 | some i =>
  have hs:vs.size=i.size:=by simp [hq] at hi;omega
  simp only [ho,hx,hy,Instr.storeAt,Instr.sureAddr,Sem.run_bind,Sem.run_pure,Result.andThen_ok]
  have h3:(storeVar ty ⟨g,off,none⟩ (.agg vs)).run P w = .ok () (w.setRow g new):=by
   simp [storeVar,sizeOf,typeInfo,hq,Value.cells,hs,h2]
  rw [h3]
  exact hK _ _ (h _ (setRow_heap w g old new t (0,0) hb) ⟨rfl,rfl,rfl,by simp,fun k hk hg=>setRow_other w g k new hg⟩)
theorem Ge {P:Program} {ops:Array Oper} {rest:List Oper} {o:Oper} {a:Act} {w:World} {Q:Exit→Act→World→Prop} (hgd:o.guard=none) (ty:TypeId) (x:Operand) (ho:o.op = .load ty x) (g off:Nat) (t:TypeId) (cs:Array Value) (vs:List Value) (d:TypeDesc)
  (hx:a.eval x = .pointer (some ⟨g,off,none⟩)) (hb:Blk w g t cs) (hv:(cs.extract off (off+vs.length)).toList=vs) (hu:P.underlying ty=some d) (hd:d.isRow=true) (hi:(P.info? ty).map (·.size)=some vs.length)
  (h:wpList P ops Q rest (a.put o.dst (.agg vs.toArray)) w):wpList P ops Q (o :: rest) a w:=by
 have hr:w.rangeAt g off vs:=by
  have:=World.rangeAt_of_block hb off vs.length
  rwa [hv] at this
 exact wpList_load_mid hgd ty x ho g off hx vs d hr hu hd hi h
structure ExF (w:World) (B d:Nat) (A:Option Addr) (x:Ex):Prop where
 hm:x.kids.length≤maxLen
 hB:B≤w.heap.size
 hr:RowsAt (oN d) w (Lo B) A x.kids
theorem ExF.below {w w':World} {B d:Nat} {A:Option Addr} {x:Ex} (h:ExF w B d A x) (hb:Below w.heap.size w w'):ExF w' B d A x:=⟨h.hm,Nat.le_trans h.hB hb.size,h.hr.below hb h.hB (Nat.le_refl _)⟩
theorem ExF.but {w w':World} {B d g:Nat} {A:Option Addr} {x:Ex} (h:ExF w B d A x) (hb:But g w w') (hg:B≤g):ExF w' B d A x:=⟨h.hm,Nat.le_trans h.hB hb.size,h.hr.but hb h.hB hg (Nat.le_refl _)⟩
def jX:Tm:=⟨⟨#[]⟩,Am.zero⟩
def jY (a:Tm):Bool:=bE a.name.toList && aR a.am
def ke (a:Tm):List Tm→Bool
 | []=>false
 | b :: l=>bif decide (b=a) then true else ke a l
theorem oY (a b:Tm) (l:List Tm):ke a (b :: l)=bif decide (b=a) then true else ke a l:=rfl
theorem nI (a:Tm) (l:List Tm):ke a l=true↔a∈l:=by
 induction l with
 | nil=>simp [ke]
 | cons b l ih =>
  rw [oY,List.mem_cons]
  by_cases h:b=a
  ·simp [h]
  ·simp [h,ih,Ne.symm h]
def ik (l:List Tm) (a:Tm):List Tm:=bif ke a l then l else l++[a]
def wV (k:Int) (a:Tm) (l:List Ex):Bool:=bif l.isEmpty then decide (k=0) && jY a else decide (1≤k) && decide (k≤(l.length:Int)) && decide (a=jX)
mutual
def wW:Ex→Bool
 | .mk k a l=>wV k a l && Dq l
def Dq:List Ex→Bool
 | []=>true
 | x :: l=>wW x && Dq l
end
mutual
def fM:Ex→List Tm→List Tm
 | .mk _ a l,acc=>bif l.isEmpty then ik acc a else gO l acc
def gO:List Ex→List Tm→List Tm
 | [],acc=>acc
 | x :: l,acc=>gO l (fM x acc)
end
theorem uU (k:Int) (a:Tm) (l:List Ex):wW (.mk k a l)=(wV k a l && Dq l):=rfl
theorem nJ (x:Ex) (l:List Ex):Dq (x :: l)=(wW x && Dq l):=rfl
theorem lM (k:Int) (a:Tm) (l:List Ex) (acc:List Tm):fM (.mk k a l) acc=bif l.isEmpty then ik acc a else gO l acc:=rfl
theorem fS (x:Ex) (l:List Ex) (acc:List Tm):gO (x :: l) acc=gO l (fM x acc):=rfl
def AI (k:Int) (a:Tm) (acc:List Tm):Option (List Tm):=bif decide (k=0) && jY a then some (ik acc a) else none
def oZ (k:Int) (a:Tm) (l:List Ex):Bool:=decide (1≤k) && decide (k≤(l.length:Int)) && decide (a=jX)
mutual
def uW:Ex→List Tm→Option (List Tm)
 | .mk k a l,acc=>bif l.isEmpty then AI k a acc else bif oZ k a l then zk l acc else none
def zk:List Ex→List Tm→Option (List Tm)
 | [],acc=>some acc
 | x :: l,acc=>(uW x acc).bind fun r=>zk l r
end
theorem AJ (k:Int) (a:Tm) (l:List Ex) (acc:List Tm):uW (.mk k a l) acc=bif l.isEmpty then AI k a acc else bif oZ k a l then zk l acc else none:=rfl
theorem tQ (x:Ex) (l:List Ex) (acc:List Tm):zk (x :: l) acc=(uW x acc).bind fun r=>zk l r:=rfl
theorem AK:∀(x:Ex) (acc:List Tm),uW x acc=if wW x then some (fM x acc) else none:=by
 refine Ex.ind (fun k a l ih=>?_)
 have hl:∀(m:List Ex) (acc:List Tm),(∀x∈m,x∈l)→zk m acc=if Dq m then some (gO m acc) else none:=by
  intro m
  induction m with
  | nil=>intro acc _;rfl
  | cons x m ihm =>
   intro acc hm
   rw [tQ,nJ,fS,ih x (hm x (by simp))]
   cases h:wW x with
   | false=>simp
   | true=>simpa using ihm (fM x acc) fun y hy=>hm y (by simp [hy])
 intro acc
 rw [AJ,uU,lM,hl l acc fun _ h=>h]
 unfold wV AI oZ
 cases hE:l.isEmpty with
 | true =>
  obtain rfl:=List.isEmpty_iff.1 hE
  simp [Dq,Bool.cond_eq_ite]
 | false =>
  simp only [cond_false]
  cases decide (1≤k) && decide (k≤(l.length:Int)) && decide (a=jX) <;> simp
theorem Dr (l:List Tm) (a:Tm):(ik l a).length≤l.length+1:=by
 unfold ik
 cases ke a l <;> simp
theorem rp:∀(x:Ex) (acc:List Tm),(fM x acc).length≤acc.length+x.cnt:=by
 refine Ex.ind (fun k a l ih=>?_)
 have hl:∀(m:List Ex) (acc:List Tm),(∀x∈m,x∈l)→(gO m acc).length≤acc.length+jx m:=by
  intro m
  induction m with
  | nil=>intro acc _;exact Nat.le_refl _
  | cons x m ihm =>
   intro acc hm
   rw [fS,gY]
   have h1:=ihm (fM x acc) fun y hy=>hm y (by simp [hy])
   have h2:=ih x (hm x (by simp)) acc
   omega
 intro acc
 rw [lM,Ex.cnt_mk]
 cases l.isEmpty with
 | true=>have:=Dr acc a;simp only [cond_true];omega
 | false=>have:=hl l acc (fun _ h=>h);simp only [cond_false];omega
theorem Ds (x:Ex) (acc r:List Tm) (h:uW x acc=some r):r.length≤acc.length+x.cnt:=by
 rw [AK] at h
 split at h
 ·injection h with h
  rw [←h]
  exact rp x acc
 ·cases h
def gv:List Tm→List Tm→Tm→Option (List Tm)
 | [],acc,a=>if acc.length=8 then none else some (acc++[a])
 | b :: l,acc,a=>bif decide (a=b) then some acc else bif decide (a.name=b.name) then none else gv l acc a
theorem jz (b:Tm) (l acc:List Tm) (a:Tm):gv (b :: l) acc a=bif decide (a=b) then some acc else bif decide (a.name=b.name) then none else gv l acc a:=rfl
def wX (k:Int) (a:Tm) (acc:List Tm):Option (List Tm):=bif decide (k=0) && jY a then gv acc acc a else none
mutual
def BV:Ex→List Tm→Option (List Tm)
 | .mk k a l,acc=>bif l.isEmpty then wX k a acc else bif oZ k a l then Gf l acc else none
def Gf:List Ex→List Tm→Option (List Tm)
 | [],acc=>some acc
 | x :: l,acc=>(BV x acc).bind fun r=>Gf l r
end
theorem zm (k:Int) (a:Tm) (l:List Ex) (acc:List Tm):BV (.mk k a l) acc=bif l.isEmpty then wX k a acc else bif oZ k a l then Gf l acc else none:=rfl
theorem rr (x:Ex) (l:List Ex) (acc:List Tm):Gf (x :: l) acc=(BV x acc).bind fun r=>Gf l r:=rfl
def p7 (l:List Tm):Prop:=l.length≤8∧l.Pairwise fun a b=>a.name≠b.name
theorem Dt (acc:List Tm) (a:Tm) (hacc:p7 acc):(p7 (ik acc a)→gv acc acc a=some (ik acc a))∧(¬p7 (ik acc a)→gv acc acc a=none):=by
 have h:∀(l p:List Tm),acc=p++l→(∀b∈p,a≠b∧a.name≠b.name)→(p7 (ik acc a)→gv l acc a=some (ik acc a))∧(¬p7 (ik acc a)→gv l acc a=none):=by
  intro l
  induction l with
  | nil =>
   intro p hp hn
   have hno:ke a acc=false:=by
    rw [Bool.eq_false_iff]
    intro h
    rw [nI,hp,List.append_nil] at h
    exact (hn a h).1 rfl
   have he:ik acc a=acc++[a]:=by unfold ik;rw [hno];rfl
   rw [he]
   unfold p7 gv
   rw [List.length_append,List.pairwise_append]
   have hp2:∀b∈acc,∀c∈[a],b.name≠c.name:=by
    intro b hb c hc
    rw [List.mem_singleton.1 hc]
    rw [hp,List.append_nil] at hb
    exact fun e=>(hn b hb).2 e.symm
   constructor
   ·intro h
    rw [if_neg]
    have:=h.1
    simp at this
    omega
   ·intro h
    rw [if_pos]
    have h8:=hacc.1
    refine Classical.byContradiction fun h9=>h ⟨by simp;omega,hacc.2,by simp,hp2⟩
  | cons b l ih =>
   intro p hp hn
   rw [jz]
   by_cases h1:a=b
   ·have hi:ke a acc=true:=by rw [nI,hp,h1];simp
    have he:ik acc a=acc:=by unfold ik;rw [hi];rfl
    rw [he]
    simp [h1,hacc]
   ·by_cases h2:a.name=b.name
    ·have hb:b∈acc:=by rw [hp];simp
     have hno:ke a acc=false:=by
      rw [Bool.eq_false_iff]
      intro h
      rw [nI] at h
      have hpw:=hacc.2
      rcases List.mem_iff_getElem.1 h with ⟨i,hi,ei⟩
      rcases List.mem_iff_getElem.1 hb with ⟨j,hj,ej⟩
      rw [List.pairwise_iff_getElem] at hpw
      rcases Nat.lt_trichotomy i j with hij|hij|hij
      ·exact hpw i j hi hj hij (by rw [ei,ej];exact h2)
      ·subst hij;exact h1 (ei.symm.trans ej)
      ·exact hpw j i hj hi hij (by rw [ei,ej];exact h2.symm)
     have he:ik acc a=acc++[a]:=by unfold ik;rw [hno];rfl
     have hbad:¬p7 (ik acc a):=by
      rw [he]
      intro h
      have:=(List.pairwise_append.1 h.2).2.2 b hb a (by simp)
      exact this h2.symm
     simp [h1,h2,hbad]
    ·simp only [h1,h2,decide_false,cond_false]
     exact ih (p++[b]) (by rw [hp];simp) (by
      intro c hc
      rcases List.mem_append.1 hc with hc|hc
      ·exact hn c hc
      ·rw [List.mem_singleton.1 hc]
       exact ⟨h1,h2⟩)
 exact h acc [] rfl (by simp)
theorem Du:∀(x:Ex) (acc:List Tm),∃t,fM x acc=acc++t:=by
 refine Ex.ind (fun k a l ih=>?_)
 have hl:∀(m:List Ex) (acc:List Tm),(∀x∈m,x∈l)→∃t,gO m acc=acc++t:=by
  intro m
  induction m with
  | nil=>intro acc _;exact ⟨[],by simp [gO]⟩
  | cons x m ihm =>
   intro acc hm
   obtain ⟨t,ht⟩:=ih x (hm x (by simp)) acc
   obtain ⟨t',ht'⟩:=ihm (fM x acc) fun y hy=>hm y (by simp [hy])
   exact ⟨t++t',by rw [fS,ht',ht,List.append_assoc]⟩
 intro acc
 rw [lM]
 cases l.isEmpty with
 | true =>
  unfold ik
  cases ke a acc with
  | true=>exact ⟨[],by simp⟩
  | false=>exact ⟨[a],rfl⟩
 | false=>exact hl l acc fun _ h=>h
theorem o0:∀(m:List Ex) (acc:List Tm),∃t,gO m acc=acc++t
 | [],acc=>⟨[],by simp [gO]⟩
 | x :: m,acc=>by
  obtain ⟨t,ht⟩:=Du x acc
  obtain ⟨t',ht'⟩:=o0 m (fM x acc)
  exact ⟨t++t',by rw [fS,ht',ht,List.append_assoc]⟩
theorem Gg {l t:List Tm} (h:p7 (l++t)):p7 l:=⟨by have:=h.1;simp at this;omega,(List.pairwise_append.1 h.2).1⟩
theorem Jc:∀(x:Ex) (acc:List Tm),p7 acc→(wW x=true∧p7 (fM x acc)→BV x acc=some (fM x acc))∧(¬(wW x=true∧p7 (fM x acc))→BV x acc=none):=by
 refine Ex.ind (fun k a l ih=>?_)
 have hl:∀(m:List Ex) (acc:List Tm),(∀x∈m,x∈l)→p7 acc→(Dq m=true∧p7 (gO m acc)→Gf m acc=some (gO m acc))∧(¬(Dq m=true∧p7 (gO m acc))→Gf m acc=none):=by
  intro m
  induction m with
  | nil=>intro acc _ h;exact ⟨fun _=>rfl,fun h2=>absurd ⟨rfl,h⟩ h2⟩
  | cons x m ihm =>
   intro acc hm h
   rw [rr,nJ,fS]
   have hx:=ih x (hm x (by simp)) acc h
   by_cases h1:wW x=true∧p7 (fM x acc)
   ·rw [hx.1 h1,Option.bind_some]
    have h2:=ihm (fM x acc) (fun y hy=>hm y (by simp [hy])) h1.2
    rw [h1.1,Bool.true_and]
    exact h2
   ·rw [hx.2 h1,Option.bind_none]
    refine ⟨fun h2=>absurd ⟨?_,?_⟩ h1,fun _=>rfl⟩
    ·have:=h2.1
     simp at this
     exact this.1
    ·obtain ⟨t,ht⟩:=o0 m (fM x acc)
     have:=h2.2
     rw [ht] at this
     exact Gg this
 intro acc h
 rw [zm,uU,lM]
 unfold wX wV
 cases hE:l.isEmpty with
 | true =>
  obtain rfl:=List.isEmpty_iff.1 hE
  simp only [cond_true,Dq,Bool.and_true]
  have hn:=Dt acc a h
  cases hk:decide (k=0) && jY a with
  | true=>simpa using hn
  | false=>simp
 | false =>
  simp only [cond_false]
  have h2:=hl l acc (fun _ h=>h) h
  unfold oZ
  cases decide (1≤k) && decide (k≤(l.length:Int)) && decide (a=jX) with
  | true=>simpa using h2
  | false=>simp
theorem tR:∀(l acc:List Tm) (a:Tm) (r:List Tm),acc.length≤8→gv l acc a=some r→r.length≤8
 | [],acc,a,r,h,e=>by
  unfold gv at e
  split at e
  ·cases e
  ·injection e with e
   rw [←e,List.length_append]
   simp
   omega
 | b :: l,acc,a,r,h,e=>by
  rw [jz] at e
  cases h1:decide (a=b) with
  | true=>rw [h1] at e;injection e with e;rw [←e];exact h
  | false =>
   cases h2:decide (a.name=b.name) with
   | true=>rw [h1,h2] at e;cases e
   | false=>rw [h1,h2] at e;exact tR l acc a r h e
theorem Gh:∀(x:Ex) (acc r:List Tm),acc.length≤8→BV x acc=some r→r.length≤8:=by
 refine Ex.ind (fun k a l ih=>?_)
 have hl:∀(m:List Ex) (acc r:List Tm),(∀x∈m,x∈l)→acc.length≤8→Gf m acc=some r→r.length≤8:=by
  intro m
  induction m with
  | nil=>intro acc r _ h e;injection e with e;rw [←e];exact h
  | cons x m ihm =>
   intro acc r hm h e
   rw [rr] at e
   cases h1:BV x acc with
   | none=>rw [h1] at e;cases e
   | some r1 =>
    rw [h1] at e
    exact ihm r1 r (fun y hy=>hm y (by simp [hy])) (ih x (hm x (by simp)) acc r1 h h1) e
 intro acc r h e
 rw [zm] at e
 unfold wX at e
 cases hE:l.isEmpty with
 | true =>
  rw [hE] at e
  cases hk:decide (k=0) && jY a with
  | true=>rw [hk] at e;exact tR acc acc a r h e
  | false=>rw [hk] at e;cases e
 | false =>
  rw [hE] at e
  cases hg:oZ k a l with
  | true=>rw [hg] at e;exact hl l acc r (fun _ h=>h) h e
  | false=>rw [hg] at e;cases e
instance (l:List Tm):Decidable (p7 l):=by unfold p7;infer_instance
def oO (x:Ex):Bool:=AE x && (wW x && decide (p7 (fM x [])))
def cY (x:Ex):List Tm:=bif oO x then fM x [] else []
theorem Gi:p7 []:=⟨by simp,List.Pairwise.nil⟩
theorem Jd (x:Ex):oO x=(AE x && (BV x []).isSome):=by
 have h:=Jc x [] Gi
 unfold oO
 congr 1
 by_cases h1:wW x=true∧p7 (fM x [])
 ·rw [h.1 h1,h1.1];simp [h1.2]
 ·rw [h.2 h1]
  cases hs:wW x with
  | false=>simp
  | true=>simp only [hs,true_and] at h1;simp [h1]
theorem Gj (a b:Tm) (w:World):(Op.equalIn 10000 31 a.val b.val).run prog w = .ok (decide (a=b)) w:=by
 have hS:prog.underlying 31=some (.struct (prog.fieldsOf 31)):=by kernel_rfl
 have hp:prog.stoodInHeld 31=false:=by kernel_rfl
 unfold Tm.val
 rw [show (10000:Nat)=9999+1 from rfl,run_equalIn_agg w 9999 31 _ _ hS hp]
 have u3:=underlying3
 simp only [Program.fieldsOf,underlying31]
 go_simp
 obtain ⟨an,a1,a2⟩:=a
 obtain ⟨bn,b1,b2⟩:=b
 have hn:an.toList=bn.toList↔an=bn:=⟨toList_inj,fun e=>by rw [e]⟩
 simp only [hn]
 by_cases h0:an=bn <;> by_cases h1:a1=b1 <;> by_cases h2:a2=b2 <;> simp [h0,h1,h2]
def Dist (l:List Tm) (i k:Nat):Prop:=∀(a b:Nat) (ha:a<l.length) (hb:b<a),a<i∨(a=i∧b<k)→l[a].name≠l[b].name
theorem Dist.start (l:List Tm):Dist l 0 0:=fun a b ha hb h=>by omega
theorem Dist.step {l:List Tm} {i k:Nat} (h:Dist l i k) (hi:i<l.length) (hk:k<i) (hne:l[i].name≠l[k].name):Dist l i (k+1):=fun a b ha hb hab=>by
 by_cases h2:a=i∧b=k
 ·obtain ⟨rfl,rfl⟩:=h2
  exact hne
 ·exact h a b ha hb (by omega)
theorem Dist.row {l:List Tm} {i k:Nat} (h:Dist l i k) (hk:¬k<i):Dist l (i+1) 0:=fun a b ha hb hab=>h a b ha hb (by omega)
theorem Dist.all {l:List Tm} {i:Nat} (h:Dist l i 0) (hi:¬i<l.length):l.Pairwise fun a b=>a.name≠b.name:=by
 rw [List.pairwise_iff_getElem]
 intro a b ha hb hab e
 exact h b a hb hab (by omega) e.symm
theorem Dist.not {l:List Tm} {i k:Nat} (hi:i<l.length) (hk:k<i) (he:l[i].name=l[k].name):¬p7 l:=fun h=>by
 have h2:=h.2
 rw [List.pairwise_iff_getElem] at h2
 exact h2 k i (by omega) hi hk he.symm
def fe:List Tm→List Bool→Tm→Bool
 | [],_,_=>false
 | b :: L,set,a=>bif decide (b=a) then set.headD false else fe L set.tail a
theorem rt (b:Tm) (L:List Tm) (set:List Bool) (a:Tm):fe (b :: L) set a=bif decide (b=a) then set.headD false else fe L set.tail a:=rfl
mutual
def zn (h:Tm→Bool):Ex→Bool
 | .mk k a l=>bif l.isEmpty then h a else decide (k≤(Je h l:Int))
def Je (h:Tm→Bool):List Ex→Nat
 | []=>0
 | x :: l=>(bif zn h x then 1 else 0)+Je h l
end
theorem Jf (h:Tm→Bool) (k:Int) (a:Tm) (l:List Ex):zn h (.mk k a l)=bif l.isEmpty then h a else decide (k≤(Je h l:Int)):=rfl
theorem Dv (h:Tm→Bool) (x:Ex) (l:List Ex):Je h (x :: l)=(bif zn h x then 1 else 0)+Je h l:=rfl
theorem ExF.up {w:World} {B B' d:Nat} {A:Option Addr} {x:Ex} (h:ExF w B d A x) (hB:B≤B') (hw:B'≤w.heap.size):ExF w B' d A x:=⟨h.hm,hw,h.hr.mono fun _ hb=>Nat.lt_of_lt_of_le hb hB⟩
theorem Gk:∀(x:Ex) (acc:List Tm),wW x=true→0<(fM x acc).length:=by
 refine Ex.ind (fun k a l ih=>?_)
 intro acc h
 rw [lM]
 rw [uU] at h
 cases l with
 | nil =>
  unfold ik
  cases hh:ke a acc with
  | true =>
   have:=(nI a acc).1 hh
   exact List.length_pos_of_mem this
  | false=>simp
 | cons y m =>
  rw [nJ] at h
  simp at h
  have h1:=ih y (by simp) acc h.2.1
  obtain ⟨t,ht⟩:=o0 m (fM y acc)
  show 0<(gO m (fM y acc)).length
  rw [ht,List.length_append]
  omega
theorem uX {x:Ex} (h:oO x=true):wW x=true∧cY x=fM x []∧(cY x).length≤8∧0<(cY x).length∧p7 (cY x):=by
 have h2:cY x=fM x []:=by unfold cY;rw [h];rfl
 unfold oO at h
 simp at h
 rw [h2]
 exact ⟨h.2.1,rfl,h.2.2.1,Gk x [] h.2.1,h.2.2⟩
theorem zo {x:Ex} (h:oO x=false):cY x=[]:=by unfold cY;rw [h];rfl
def eV (x:Ex) (set:List Bool):Bool:=oO x && zn (fe (cY x) set) x
def wY (a:Tm):Nat→List Tm→Int
 | _,[]=>-1
 | k,b :: l=>bif decide (a=b) then (k:Int) else wY a (k+1) l
theorem tS (a b:Tm) (k:Nat) (l:List Tm):wY a k (b :: l)=bif decide (a=b) then (k:Int) else wY a (k+1) l:=rfl
theorem tT (a:Tm):∀(l:List Tm) (k:Nat) (set:List Bool),(wY a k l = -1∧ke a l=false∧fe l set a=false)∨∃i,i<l.length∧wY a k l=((k+i:Nat):Int)∧ke a l=true∧fe l set a=(set.drop i).headD false
 | [],k,set=>.inl ⟨rfl,rfl,rfl⟩
 | b :: l,k,set=>by
  rw [tS,oY,rt]
  by_cases h:a=b
  ·refine .inr ⟨0,by simp,?_,?_,?_⟩
   ·rw [decide_eq_true h];rfl
   ·rw [decide_eq_true h.symm];rfl
   ·rw [decide_eq_true h.symm];rfl
  ·rw [decide_eq_false h,decide_eq_false (Ne.symm h)]
   rcases tT a l (k+1) set.tail with ⟨h1,h2,h3⟩|⟨i,hi,h1,h2,h3⟩
   ·exact .inl ⟨h1,h2,h3⟩
   ·refine .inr ⟨i+1,by simp;omega,?_,h2,?_⟩
    ·rw [cond_false,h1];congr 1;omega
    ·rw [cond_false,h3,List.drop_tail]
structure Nd where
 proc:Pr
 expr:Ex
 gen:Int
def L1 (d:Nat):El Nd where
 n:=9
 pos:=by decide
 rep:=fun w S x cs=>∃A cap,cs=[.int .i64 x.proc.site,.int .i64 x.proc.inc,.int .i64 x.proc.num,.int .i64 x.expr.k,.string x.expr.atom.name,.int .i64 x.expr.atom.am.mode,.int .i64 x.expr.atom.am.units,.slice A x.expr.kids.length cap,.int .i64 x.gen]∧(x.expr.kids.length≤cap∧cap≤maxLen)∧RowsAt (oN d) w S A x.expr.kids
 len:=fun h=>by obtain ⟨A,cap,rfl,_⟩:=h;rfl
 one:=fun h=>by obtain ⟨A,cap,rfl,_⟩:=h;intro u hu;simp at hu;rcases hu with rfl|rfl|rfl|rfl|rfl|rfl|rfl|rfl|rfl <;> rfl
 same:=fun h hk hS=>by
  obtain ⟨A,cap,e,h1,h2⟩:=h
  exact ⟨A,cap,e,h1,h2.same hk hS⟩
structure Ws where
 queues:List Qu
 needs:List Nd
structure WF (w:World) (B d:Nat) (A1 A2:Option Addr) (s:Ws):Prop where
 r1:RowsAt F5 w (Lo B) A1 s.queues
 r2:RowsAt (L1 d) w (Lo B) A2 s.needs
 m1:s.queues.length≤maxLen
 m2:s.needs.length≤maxLen
 hB:B≤w.heap.size
theorem WF.below {w w':World} {B d:Nat} {A1 A2:Option Addr} {s:Ws} (f:WF w B d A1 A2 s) (hb:Below w.heap.size w w'):WF w' B d A1 A2 s :=
 ⟨f.r1.below hb f.hB (Nat.le_refl _),f.r2.below hb f.hB (Nat.le_refl _),f.m1,f.m2,Nat.le_trans f.hB hb.size⟩
def Ws.val (s:Ws) (A1 A2:Option Addr) (c1 c2:Nat):Value:=.agg #[.slice A1 s.queues.length c1,.slice A2 s.needs.length c2]
def L8 (l:List Nd):List Pr:=l.map (·.proc)
def Dw (s:Ws):List Pr:=ce (aD s.queues++L8 s.needs)
section
open Go.WideShapes Go.ChangeShapes Go.Deep Go.Joins
theorem Reps.map {α:Type} {E E':El α} {w:World} {S:Nat→Prop} (hf:∀x cs,E.rep w S x cs→E'.rep w S x cs):∀{l:List α} {xs:List Value},Reps E w S l xs→Reps E' w S l xs
 | [],_,h=>h
 | _ :: _,_,h=>by
  obtain ⟨cs,rest,rfl,h1,h2⟩:=h
  exact ⟨cs,rest,rfl,hf _ _ h1,Reps.map hf h2⟩
theorem RowsAt.map {α:Type} {E E':El α} {w:World} {S:Nat→Prop} {A:Option Addr} {l:List α} (hf:∀x cs,E.rep w S x cs→E'.rep w S x cs) (h:RowsAt E w S A l):RowsAt E' w S A l:=by
 obtain ⟨xs,h1,h2⟩:=h
 exact ⟨xs,h1.map hf,h2⟩
theorem uY:∀{d d':Nat} {w:World} {S:Nat→Prop} {x:Ex} {cs:List Value},d≤d'→(oN d).rep w S x cs→(oN d').rep w S x cs
 | 0,_,_,_,_,_,_,h=>h.elim
 | d+1,0,_,_,_,_,hd,_=>absurd hd (by omega)
 | d+1,d'+1,_,_,_,_,hd,h=>by
  obtain ⟨A,cap,rfl,h1,h2,h3⟩:=h
  exact ⟨A,cap,rfl,h1,h2,h3.map fun _ _ hx=>uY (by omega) hx⟩
def OpensN {α:Type} (P:Program) (N:Nat) (E:El α) (t:TypeId) (fits:α→Prop):Prop :=
 ∀{H:Type} {enc:TypeId×Value→H} {w:World} {base:Nat} {spare:Nat→Bool} {held:Bool} {cs:List Value} {x:DataW H×List MemPlace},DataW.trod enc P w base spare held N t cs=some x→∃y,E.rep w (Lo w.heap.size) y cs∧fits y
theorem Opens.n {α:Type} {P:Program} {E:El α} {t:TypeId} {fits:α→Prop} (h:Opens P E t fits) (N:Nat):OpensN P N E t fits:=fun hx=>h hx
theorem OpensN.sl {α:Type} {P:Program} {N:Nat} {E:El α} {t e:TypeId} {fits:α→Prop} (ho:OpensN P N E e fits) (ht:P.underlying t=some (.slice e)) (hC:P.cellsOf e=E.n):OpensN P (N+1) E.sl t (fun l=>l.length≤maxLen∧∀y∈l,fits y):=by
 intro H enc w base spare held cs x h
 rcases DataW.trod_slice ht h with ⟨rfl,_⟩|⟨a,len,cap,elems,rest,n,hn,rfl,_,hb,hl,hm,hlen,hi,_,_⟩
 ·exact ⟨[],⟨none,0,rfl,by simp,by simp [maxLen],RowsAt.nil _ _ _ _⟩,by simp [maxLen],by simp⟩
 ·obtain rfl:N=n:=by omega
  rcases Nat.eq_zero_or_pos len with h0|h0
  ·subst h0
   exact ⟨[],⟨some a,cap,rfl,by simp,hm,RowsAt.nil _ _ _ _⟩,by simp [maxLen],by simp⟩
  ·have hi2:∀i,i<len→∃cs' y,w.cells? base (a.add (i*P.cellsOf e)) (P.cellsOf e)=some cs'∧DataW.trod enc P w base spare held N e cs'=some y:=by
    intro i hil
    have h1:=hi i hil
    rw [List.getElem?_eq_getElem (by omega)] at h1
    obtain ⟨cs',h2,h3⟩:=Option.bind_eq_some_iff.1 h1
    exact ⟨cs',_,h2,h3⟩
   have hplain:∃b off,a=⟨b,off,none⟩:=by
    obtain ⟨cs',_,hc,_⟩:=hi2 0 (by omega)
    obtain ⟨_,hcl,hat⟩:=World.cells?_some hc
    have hp:=E.pos
    have h1:=hat 0 (by omega)
    rw [Nat.zero_mul,List.getElem?_eq_getElem (by omega)] at h1
    have e0:(a.add 0).add 0=a.add 0:=by rw [Go.Deep.add_add]
    rw [e0] at h1
    exact rd h1
   obtain ⟨b,off,rfl⟩:=hplain
   have hel:∀i,i<len→∃y cs,E.rep w (Lo w.heap.size) y cs∧fits y∧∀j u,cs[j]? = some u→w.cell? ⟨b,off+i*E.n+j,none⟩=some u:=by
    intro i hil
    obtain ⟨cs',_,hc,hd⟩:=hi2 i hil
    obtain ⟨y,hy,hf⟩:=ho hd
    obtain ⟨_,hcl,hat⟩:=World.cells?_some hc
    refine ⟨y,cs',hy,hf,fun j u hu=>?_⟩
    have hj:j<cs'.length:=(List.getElem?_eq_some_iff.1 hu).1
    have h1:=hat j (by omega)
    rw [hu,dA,dA,hC] at h1
    exact h1
   obtain ⟨l,xs,k1,k2,k3,k4⟩:=uM len off hel
   subst k1
   refine ⟨l,⟨_,cap,rfl,hl,hm,xs,k2,fun _=>⟨b,off,rfl,?_,k4⟩⟩,by omega,k3⟩
   have hxl:=k2.length
   have hp:=E.pos
   have:0<xs.length:=by rw [hxl];exact Nat.mul_pos h0 hp
   exact World.block_lt_of_cell? w _ (k4 0 _ (List.getElem?_eq_getElem this))
theorem ru:Opens prog I8 29 (fun _=>True):=by
 intro H enc w base spare held fuel cs x h
 obtain ⟨y0,y1,n,_,hl,h0,h1⟩:=trod_struct2 underlying29 h
 have hl2:cs.length=2:=hl.trans (by kernel_rfl)
 match cs,hl2 with
 | [c0,c1],_ =>
  have e1:prog.cellsOf 3=1:=by kernel_rfl
  obtain ⟨a,g0,w0⟩:=bR underlying3 h0
  obtain ⟨b,g1,w1⟩:=bR underlying3 h1
  refine ⟨⟨a,b⟩,?_,trivial⟩
  have g0':([c0,c1].drop 0).take (prog.cellsOf 3)=[.int .i64 a]:=g0
  have g1':([c0,c1].drop 1).take (prog.cellsOf 3)=[.int .i64 b]:=g1
  rw [e1] at g0' g1'
  simp at g0' g1'
  show [c0,c1]=[.int .i64 a,.int .i64 b]
  rw [g0',g1']
theorem wZ:Opens prog cL 31 (fun _=>True):=by
 intro H enc w base spare held fuel cs x h
 obtain ⟨y0,y1,n,_,hl,h0,h1⟩:=trod_struct2 underlying31 h
 have hl2:cs.length=3:=hl.trans (by kernel_rfl)
 match cs,hl2 with
 | [c0,c1,c2],_ =>
  have e1:prog.cellsOf 9=1:=by kernel_rfl
  have e2:prog.cellsOf 29=2:=by kernel_rfl
  obtain ⟨a,g0,w0⟩:=tH underlying9 h0
  obtain ⟨⟨m,u⟩,g1,w1⟩:=ru h1
  refine ⟨⟨a,⟨m,u⟩⟩,?_,trivial⟩
  have g0':([c0,c1,c2].drop 0).take (prog.cellsOf 9)=[.string a]:=g0
  have g1':([c0,c1,c2].drop 1).take (prog.cellsOf 29)=[.int .i64 m,.int .i64 u]:=g1
  rw [e1] at g0'
  rw [e2] at g1'
  simp at g0' g1'
  show [c0,c1,c2]=[.string a,.int .i64 m,.int .i64 u]
  rw [g0',g1'.1,g1'.2]
theorem Dx:∀N:Nat,OpensN prog N (oN N) 34 (fun _=>True):=by
 intro N
 induction N using Nat.strongRecOn with
 | ind N ih =>
  intro H enc w base spare held cs x h
  obtain ⟨xs,n,hN,_,hl,hlen,hf⟩:=DataW.trod_struct underlying34 h
  have hl2:cs.length=5:=hl.trans (by kernel_rfl)
  have hg:∀(i:Nat) (f:Field),_=some f→∃y,DataW.trod enc prog w base spare held n f.type ((cs.drop f.offset).take (prog.cellsOf f.type))=some y:=fun i f hi=>by
   have h1:=hf i f hi
   have h2:i<xs.length:=by rw [hlen];exact (Array.getElem?_eq_some_iff.1 hi).1
   rw [List.getElem?_eq_getElem h2] at h1
   exact ⟨_,h1⟩
  subst hN
  match cs,hl2 with
  | [c0,c1,c2,c3,c4],_ =>
   obtain ⟨_,h0⟩:=hg 0 _ rfl
   obtain ⟨_,h1⟩:=hg 1 _ rfl
   obtain ⟨_,h2⟩:=hg 2 _ rfl
   have e1:prog.cellsOf 3=1:=by kernel_rfl
   have e2:prog.cellsOf 31=3:=by kernel_rfl
   have e3:prog.cellsOf 32=1:=by kernel_rfl
   obtain ⟨k,g0,_⟩:=bR underlying3 h0
   obtain ⟨⟨nm,⟨m,u⟩⟩,g1,_⟩:=wZ h1
   cases n with
   | zero=>simp [DataW.trod] at h2
   | succ n =>
    obtain ⟨ks,⟨A,cap,g2,a2,b2,r2⟩,_⟩:=(OpensN.sl (ih n (by omega)) underlying32 ((by kernel_rfl:prog.cellsOf 34=5).trans (KA n).symm)) h2
    refine ⟨.mk k ⟨nm,⟨m,u⟩⟩ ks,⟨A,cap,?_,a2,b2,r2.map fun _ _ hx=>uY (by omega) hx⟩,trivial⟩
    have g0':([c0,c1,c2,c3,c4].drop 0).take (prog.cellsOf 3)=[.int .i64 k]:=g0
    have g1':([c0,c1,c2,c3,c4].drop 1).take (prog.cellsOf 31)=[.string nm,.int .i64 m,.int .i64 u]:=g1
    have g2':([c0,c1,c2,c3,c4].drop 4).take (prog.cellsOf 32)=[.slice A ks.length cap]:=g2
    rw [e1] at g0'
    rw [e2] at g1'
    rw [e3] at g2'
    simp at g0' g1' g2'
    show [c0,c1,c2,c3,c4]=[.int .i64 k,.string nm,.int .i64 m,.int .i64 u,.slice A ks.length cap]
    rw [g0',g1'.1,g1'.2.1,g1'.2.2,g2']
section
variable {H:Type} {enc:TypeId×Value→H} {w:World} {base:Nat} {spare:Nat→Bool} {held:Bool}
end
end
def New (base:Nat) (w:World) (b:Nat):Prop:=base≤b∧b<w.heap.size
def El.from {α:Type} (E:El α) (base:Nat):El α where
 n:=E.n
 pos:=E.pos
 rep:=fun w S x cs=>E.rep w (fun b=>S b∧base≤b) x cs
 len:=fun h=>E.len h
 one:=fun h=>E.one h
 same:=fun h hk hS=>E.same h (fun b hb=>hk b hb.1) fun b hb=>⟨hS b hb.1,hb.2⟩
section
variable {α:Type} {E:El α} {base:Nat} {w:World} {S:Nat→Prop} {e t:TypeId}
theorem Reps.from:∀{l:List α} {xs:List Value},Reps (E.from base) w S l xs→Reps E w (fun b=>S b∧base≤b) l xs
 | [],_,h=>h
 | _ :: _,_,h=>by
  obtain ⟨cs,rest,rfl,h1,h2⟩:=h
  exact ⟨cs,rest,rfl,h1,Reps.from h2⟩
theorem OwnRows.from {v:Value} {l:List α} (h:OwnRows (E.from base) e w base v l):∃A cap,v = .slice A l.length cap∧RowsAt E w (New base w) A l∧l.length≤cap∧cap≤maxLen:=by
 obtain ⟨h0,xs,h1,h3⟩:=h
 have hc:∀g,v.ownBlock=some g→∀j u,xs[j]? = some u→w.cell? ((⟨g,0,none⟩:Addr).add j)=some u:=fun g hg=>h1.cells hg
 rcases h1.2 with ⟨hv,hn⟩|⟨g,cap,cur,hv,hg,hh,hnc,hcm,hcs,ht⟩
 ·have hl:l=[]:=List.eq_nil_of_length_eq_zero hn
  subst hl
  exact ⟨none,0,hv,RowsAt.nil _ _ _ _,by simp,by simp [maxLen]⟩
 ·refine ⟨_,cap,hv,⟨xs,h3.from.same (fun _ _=>rfl) (fun b hb=>⟨hb.2,hb.1.1⟩),fun _=>⟨g,0,rfl,⟨hg,(Array.getElem?_eq_some_iff.1 hh).1⟩,fun j u hu=>?_⟩⟩,hnc,hcm⟩
  have:=hc g (by rw [hv];rfl) j u hu
  rwa [dA] at this
theorem ElTB.from {P:Program} {by_:Nat} (T:ElTB P E t e by_) (base:Nat):ElTB P (E.from base) t e by_:=⟨T.under,T.info⟩
end
section
variable {α:Type} {e:TypeId} {n:Nat} {pos:0<n} {f:α→List Value} {len:∀x,(f x).length=n} {one:∀x,∀u∈f x,u.oneCell'=true}
theorem OwnRows.newP {w:World} {base:Nat} {v:Value} {l:List α} (h:OwnRows (El.plain n pos f len one) e w base v l):∃A cap,v = .slice A l.length cap∧RowsAt (El.plain n pos f len one) w (New base w) A l∧l.length≤cap:=by
 rcases Nat.eq_zero_or_pos l.length with hl|hl
 ·obtain ⟨A,cap,hv,_,hc,_⟩:=h.form
  obtain rfl:l=[]:=List.eq_nil_of_length_eq_zero hl
  exact ⟨A,cap,hv,RowsAt.nil _ _ _ _,hc⟩
 ·obtain ⟨g,cap,hv,hg,hg2,hc,_,_,hr⟩:=h.addr hl
  obtain ⟨xs,h1,h2⟩:=hr
  refine ⟨_,cap,hv,⟨xs,AH h1,fun hp=>?_⟩,hc⟩
  obtain ⟨b,off,hA,_,hcells⟩:=h2 hp
  injection hA with hA
  injection hA with e1 e2
  subst e1
  subst e2
  exact ⟨_,_,rfl,⟨hg,hg2⟩,hcells⟩
end
theorem New.grow {base B:Nat} {w w':World} (hb:Below B w w') (hB:w.heap.size≤B) {α:Type} {E:El α} {A:Option Addr} {l:List α} (h:RowsAt E w (New base w) A l):RowsAt E w' (New base w') A l :=
 h.same (fun b hb2=>hb.block b (Nat.lt_of_lt_of_le hb2.2 hB)) fun b hb2=>⟨hb2.1,Nat.lt_of_lt_of_le hb2.2 hb.size⟩
theorem New.lo {base:Nat} {w:World} {α:Type} {E:El α} {A:Option Addr} {l:List α} (h:RowsAt E w (New base w) A l):RowsAt E w (Lo w.heap.size) A l:=h.mono fun _ hb=>hb.2
theorem New.older {base base':Nat} {w:World} {α:Type} {E:El α} {A:Option Addr} {l:List α} (h:RowsAt E w (New base w) A l) (hb:base'≤base):RowsAt E w (New base' w) A l:=h.mono fun _ hb2=>⟨Nat.le_trans hb hb2.1,hb2.2⟩
def All2 {α:Type _} {β:Type _} (R:α→β→Prop):List α→List β→Prop
 | [],[]=>True
 | a :: l,b :: m=>R a b∧All2 R l m
 | _,_=>False
section
variable {α:Type _} {β:Type _} {R R':α→β→Prop}
theorem All2.length:∀{l:List α} {m:List β},All2 R l m→l.length=m.length
 | [],[],_=>rfl
 | _ :: _,_ :: _,h=>by simp [All2.length h.2]
 | [],_ :: _,h=>h.elim
 | _ :: _,[],h=>h.elim
theorem All2.imp:∀{l:List α} {m:List β},All2 R l m→(∀a b,a∈l→R a b→R' a b)→All2 R' l m
 | [],[],_,_=>trivial
 | _ :: _,_ :: _,h,f=>⟨f _ _ (by simp) h.1,All2.imp h.2 fun a b ha=>f a b (by simp [ha])⟩
 | [],_ :: _,h,_=>h.elim
 | _ :: _,[],h,_=>h.elim
theorem All2.get:∀{l:List α} {m:List β},All2 R l m→∀{i:Nat} {a:α},l[i]? = some a→∃b,m[i]? = some b∧R a b
 | [],[],_,_,_,h=>by simp at h
 | _ :: _,_ :: _,h,0,_,e=>by simp at e;subst e;exact ⟨_,by simp,h.1⟩
 | _ :: _,_ :: _,h,i+1,_,e=>by simpa using All2.get h.2 (by simpa using e)
 | [],_ :: _,h,_,_,_=>h.elim
 | _ :: _,[],h,_,_,_=>h.elim
theorem All2.append:∀{l l':List α} {m m':List β},All2 R l m→All2 R l' m'→All2 R (l++l') (m++m')
 | [],_,[],_,_,k=>k
 | _ :: _,_,_ :: _,_,h,k=>⟨h.1,All2.append h.2 k⟩
 | [],_,_ :: _,_,h,_=>h.elim
 | _ :: _,_,[],_,h,_=>h.elim
theorem All2.drop:∀(k:Nat) {l:List α} {m:List β},All2 R l m→All2 R (l.drop k) (m.drop k)
 | 0,_,_,h=>by simpa using h
 | _+1,[],[],_=>trivial
 | k+1,_ :: _,_ :: _,h=>by simpa using All2.drop k h.2
 | _+1,[],_ :: _,h=>h.elim
 | _+1,_ :: _,[],h=>h.elim
theorem All2.take:∀(k:Nat) {l:List α} {m:List β},All2 R l m→All2 R (l.take k) (m.take k)
 | 0,_,_,h=>by simp [All2]
 | _+1,[],[],_=>trivial
 | k+1,_ :: _,_ :: _,h=>by simpa using ⟨h.1,All2.take k h.2⟩
 | _+1,[],_ :: _,h=>h.elim
 | _+1,_ :: _,[],h=>h.elim
theorem All2.mapL {γ:Type _} {f:γ→α}:∀{l:List γ} {m:List β},All2 R (l.map f) m↔All2 (fun c b=>R (f c) b) l m
 | [],[]=>Iff.rfl
 | _ :: _,_ :: _=>and_congr Iff.rfl All2.mapL
 | [],_ :: _=>Iff.rfl
 | _ :: _,[]=>Iff.rfl
end
inductive D:Type 1 where
 | any
 | sc (v:Value)
 | sl {α:Type} (E:El α) (l:List α)
 | full {α:Type} (E:El α) (l:List α)
 | own (k:Nat)
 | slb (k n:Nat)
 | ptr (k off:Nat)
 | eptr {α:Type} (E:El α) (l:List α) (i off:Nat)
 | optr (k m i off:Nat)
 | ocut (k:Nat)
 | osl (k m lo hi:Nat) (fl:Bool)
 | clo (f:FuncId) (ks:List Nat)
inductive V0:Type 1 where
 | one (d:D)
 | ag (l:List D)
inductive TV:Type 1 where
 | v (x:V0)
 | tup (l:List V0)
inductive Box:Type 1 where
 | box (t:TypeId) (cs:List D)
 | arr {α:Type} (e:TypeId) (E:El α) (l:List α)
 | mp (l:List (Value×Value))
 | it (k n:Nat) (seen:List Nat)
structure Mst:Type 1 where
 t:Nat→TV
 h:Nat→Option Box
 f:Nat→Bool
def kb:Value→Option Nat
 | .pointer (some a)=>some a.block
 | .slice (some a) _ _=>some a.block
 | .map (some b)=>some b
 | _=>none
def ef:Nat→List (Value×Value)→List MapEntry
 | _,[]=>[]
 | i,x :: l=>⟨x.1,x.2,i⟩ :: ef (i+1) l
def lf (l:List (Value×Value)):Obj:=.map (ef 0 l).toArray l.length
def D.rep (w:World) (F:Nat→Prop) (ρ:Nat→Value):D→Value→Prop
 | .any,_=>True
 | .sc x,v=>v=x
 | .sl E l,v=>∃A cap,v = .slice A l.length cap∧(l.length≤cap∧cap≤maxLen)∧RowsAt E w F A l
 | .full E l,v=>∃A,v = .slice A l.length l.length∧l.length≤maxLen∧RowsAt E w F A l
 | .own k,v=>v=ρ k
 | .slb k n,v=>∃g,ρ k = .pointer (some ⟨g,0,none⟩)∧v = .slice (some ⟨g,0,none⟩) n n
 | .ptr k off,v=>∃g,ρ k = .pointer (some ⟨g,0,none⟩)∧v = .pointer (some ⟨g,off,none⟩)
 | .eptr E l i off,v=>∃b o,v = .pointer (some ⟨b,o+i*E.n+off,none⟩)∧RowsAt E w F (some ⟨b,o,none⟩) l∧i<l.length
 | .optr k m i off,v=>∃g n cap,ρ k = .slice (some ⟨g,0,none⟩) n cap∧v = .pointer (some ⟨g,i*m+off,none⟩)
 | .ocut k,v=>∃A n cap c,ρ k = .slice A n cap∧(n≤c∧c≤cap)∧v = .slice A n c
 | .osl k m lo hi fl,v=>∃g n cap c A,ρ k = .slice (some ⟨g,0,none⟩) n cap∧(lo≤hi∧hi≤n∧hi≤lo+c∧lo+c≤cap)∧(fl=true→lo+c=hi)∧v = .slice (some A) (hi-lo) c∧(lo=0∨0<c→A=⟨g,lo*m,none⟩)
 | .clo f ks,v=>∃vs:List Value,v = .func (.func f) #[] vs.toArray∧All2 (fun k u=>u=ρ k) ks vs
def V0.rep (w:World) (F:Nat→Prop) (ρ:Nat→Value):V0→Value→Prop
 | .one d,v=>d.rep w F ρ v
 | .ag l,v=>∃cs:List Value,v = .agg cs.toArray∧All2 (D.rep w F ρ) l cs
def TV.rep (w:World) (F:Nat→Prop) (ρ:Nat→Value):TV→Value→Prop
 | .v x,u=>x.rep w F ρ u
 | .tup l,u=>∃vs:List Value,u = .tuple vs.toArray∧All2 (V0.rep w F ρ) l vs
def Box.rep (w:World) (F:Nat→Prop) (ρ:Nat→Value):Box→Value→Prop
 | .box t cs,v=>∃(g:Nat) (vs:List Value),v = .pointer (some ⟨g,0,none⟩)∧Blk w g t vs.toArray∧All2 (D.rep w F ρ) cs vs∧∀u∈vs,u.oneCell'=true
 | .arr e E l,v=>∃xs,w.ownsRow 0 e E.n v l.length xs∧Reps E w F l xs
 | .mp l,v=>∃g,v = .map (some g)∧w.heap[g]? = some (lf l)
 | .it k n seen,v=>∃g m,v = .pointer (some ⟨g,0,none⟩)∧ρ k = .map (some m)∧w.heap[g]? = some (.mapIter (some m) n seen.toArray n)
def D.has (k:Nat):D→Bool
 | .own j | .slb j _ | .ptr j _ | .optr j _ _ _ | .ocut j | .osl j _ _ _ _=>j.beq k
 | .clo _ ks=>ks.any fun j=>j.beq k
 | _=>false
def V0.has (k:Nat):V0→Bool
 | .one d=>d.has k
 | .ag l=>l.any (D.has k)
def TV.has (k:Nat):TV→Bool
 | .v x=>x.has k
 | .tup l=>l.any (V0.has k)
def Box.has (k:Nat):Box→Bool
 | .box _ cs=>cs.any (D.has k)
 | .arr ..=>false
 | .mp _=>false
 | .it j _ _=>j.beq k
section
variable {w w':World} {F F':Nat→Prop} {ρ ρ':Nat→Value}
theorem D.rep.mono {d:D} {v:Value} (h:d.rep w F ρ v) (hF:∀b,F b→F' b∧w'.heap[b]? = w.heap[b]?) (hρ:∀k,d.has k=true→ρ' k=ρ k):d.rep w' F' ρ' v:=by
 have h1:∀b,F b→w'.heap[b]? = w.heap[b]?:=fun b hb=>(hF b hb).2
 have h2:∀b,F b→F' b:=fun b hb=>(hF b hb).1
 cases d with
 | any=>trivial
 | sc x=>exact h
 | sl E l=>obtain ⟨A,cap,e,h3,h4⟩:=h;exact ⟨A,cap,e,h3,h4.same h1 h2⟩
 | full E l=>obtain ⟨A,e,h3,h4⟩:=h;exact ⟨A,e,h3,h4.same h1 h2⟩
 | own k=>exact h.trans (hρ k (by simp [D.has])).symm
 | slb k n=>obtain ⟨g,h3,h4⟩:=h;exact ⟨g,(hρ k (by simp [D.has])).trans h3,h4⟩
 | ptr k off=>obtain ⟨g,h3,h4⟩:=h;exact ⟨g,(hρ k (by simp [D.has])).trans h3,h4⟩
 | eptr E l i off=>obtain ⟨b,o,e,h3,h4⟩:=h;exact ⟨b,o,e,h3.same h1 h2,h4⟩
 | optr k m i off=>obtain ⟨g,n,cap,h3,h4⟩:=h;exact ⟨g,n,cap,(hρ k (by simp [D.has])).trans h3,h4⟩
 | ocut k=>obtain ⟨A,n,cap,c,h3,h4⟩:=h;exact ⟨A,n,cap,c,(hρ k (by simp [D.has])).trans h3,h4⟩
 | osl k m lo hi fl=>obtain ⟨g,n,cap,c,A,h3,h4⟩:=h;exact ⟨g,n,cap,c,A,(hρ k (by simp [D.has])).trans h3,h4⟩
 | clo f ks=>obtain ⟨vs,e,h3⟩:=h;exact ⟨vs,e,h3.imp fun j u hj (hu:u=ρ j)=>hu.trans (hρ j (by simp only [D.has];exact List.any_eq_true.2 ⟨j,hj,Nat.beq_refl j⟩)).symm⟩
theorem V0.rep.mono {d:V0} {v:Value} (h:d.rep w F ρ v) (hF:∀b,F b→F' b∧w'.heap[b]? = w.heap[b]?) (hρ:∀k,d.has k=true→ρ' k=ρ k):d.rep w' F' ρ' v:=by
 cases d with
 | one d=>exact D.rep.mono (d:=d) h hF hρ
 | ag l =>
  obtain ⟨cs,e,h1⟩:=h
  exact ⟨cs,e,h1.imp fun a b ha (h2:D.rep w F ρ a b)=>D.rep.mono h2 hF fun k hk=>hρ k (by simp only [V0.has,List.any_eq_true];exact ⟨a,ha,hk⟩)⟩
theorem TV.rep.mono {d:TV} {v:Value} (h:d.rep w F ρ v) (hF:∀b,F b→F' b∧w'.heap[b]? = w.heap[b]?) (hρ:∀k,d.has k=true→ρ' k=ρ k):d.rep w' F' ρ' v:=by
 cases d with
 | v d=>exact V0.rep.mono (d:=d) h hF hρ
 | tup l =>
  obtain ⟨cs,e,h1⟩:=h
  exact ⟨cs,e,h1.imp fun a b ha (h2:V0.rep w F ρ a b)=>V0.rep.mono h2 hF fun k hk=>hρ k (by simp only [TV.has,List.any_eq_true];exact ⟨a,ha,hk⟩)⟩
theorem uZ {e:TypeId} {n m:Nat} {v:Value} {xs:List Value} (h:w.ownsRow 0 e n v m xs) (hb:∀g,kb v=some g→w'.heap[g]? = w.heap[g]?):w'.ownsRow 0 e n v m xs:=by
 refine ⟨h.1,?_⟩
 rcases h.2 with hn|⟨g,cap,cur,hv,hg,hh,rest⟩
 ·exact .inl hn
 ·exact .inr ⟨g,cap,cur,hv,hg,by rw [hb g (by rw [hv];rfl)];exact hh,rest⟩
theorem Box.rep.mono {d:Box} {v:Value} (h:d.rep w F ρ v) (hb:∀g,kb v=some g→w'.heap[g]? = w.heap[g]?) (hF:∀b,F b→F' b∧w'.heap[b]? = w.heap[b]?) (hρ:∀k,d.has k=true→ρ' k=ρ k):d.rep w' F' ρ' v:=by
 cases d with
 | box t cs =>
  obtain ⟨g,vs,e,h1,h2,h3⟩:=h
  exact ⟨g,vs,e,(hb g (by rw [e];rfl)).trans h1,h2.imp fun a b ha (h4:D.rep w F ρ a b)=>D.rep.mono h4 hF fun k hk=>hρ k (by simp only [Box.has,List.any_eq_true];exact ⟨a,ha,hk⟩),h3⟩
 | arr e E l =>
  obtain ⟨xs,h1,h2⟩:=h
  exact ⟨xs,uZ h1 hb,h2.same (fun b hb2=>(hF b hb2).2) fun b hb2=>(hF b hb2).1⟩
 | mp l =>
  obtain ⟨g,e,h1⟩:=h
  exact ⟨g,e,(hb g (by rw [e];rfl)).trans h1⟩
 | it k n seen =>
  obtain ⟨g,m,e,h1,h2⟩:=h
  exact ⟨g,m,e,(hρ k (by simp [Box.has])).trans h1,(hb g (by rw [e];rfl)).trans h2⟩
theorem Box.lt {d:Box} {v:Value} {g:Nat} (h:d.rep w F ρ v) (hg:kb v=some g):g<w.heap.size:=by
 cases d with
 | box t cs =>
  obtain ⟨g',vs,e,h1,_⟩:=h
  subst e
  injection hg with hg
  subst hg
  exact h1.lt
 | arr e E l =>
  obtain ⟨xs,h1,h2⟩:=h
  rcases h1.2 with ⟨hv,hn⟩|⟨g',cap,cur,hv,_,hh,_⟩
  ·subst hv;cases hg
  ·subst hv
   injection hg with hg
   subst hg
   exact (Array.getElem?_eq_some_iff.1 hh).1
 | mp l =>
  obtain ⟨g',e,h1⟩:=h
  subst e
  injection hg with hg
  subst hg
  exact (Array.getElem?_eq_some_iff.1 h1).1
 | it k n seen =>
  obtain ⟨g',m,e,_,h1⟩:=h
  subst e
  injection hg with hg
  subst hg
  exact (Array.getElem?_eq_some_iff.1 h1).1
end
structure Ctx where
 w0:World
 S:Nat→Prop
 X:Nat→Prop
 nt:Nat
 K:List Nat
 ρ0:Nat→Value
 hS:∀b,S b→b<w0.heap.size
 hX:∀b,X b→S b
 dfr:List Deferred:=[]
def Fz (c:Ctx) (h:Nat→Option Box) (ρ:Nat→Value) (w:World) (b:Nat):Prop :=
 (c.S b∨c.w0.heap.size≤b)∧b<w.heap.size∧∀k bx,h k=some bx→kb (ρ k)≠some b
structure Frx (w w':World) (M:Nat→Prop):Prop where
 os:w'.os=w.os
 tape:w'.tape=w.tape
 output:w'.output=w.output
 size:w.heap.size≤w'.heap.size
 keep:∀b,b<w.heap.size→¬M b→w'.heap[b]? = w.heap[b]?
theorem Frx.refl (w:World) (M:Nat→Prop):Frx w w M:=⟨rfl,rfl,rfl,Nat.le_refl _,fun _ _ _=>rfl⟩
theorem Frx.drew {w w':World} {M:Nat→Prop} (h:Frx w w' M):Frx w { w' with drawn:=w'.drawn+1 } M:=⟨h.os,h.tape,h.output,h.size,h.keep⟩
theorem Frx.alloc (w:World) (o:Obj) (M:Nat→Prop):Frx w (w.alloc o) M:=⟨rfl,rfl,rfl,by simp,fun b hb _=>Below.heap_alloc w o b hb⟩
theorem Frx.below {w w':World} {M:Nat→Prop} (h:Below w.heap.size w w'):Frx w w' M:=⟨h.os,h.tape,h.output,h.size,fun b hb _=>h.block b hb⟩
structure Mst.Wf (s:Mst):Prop where
 h:∀k,s.f k=true→s.h k=none
 t:∀k t,s.f k=true→(s.t t).has k=false
 b:∀k k' b,s.f k=true→s.h k'=some b→b.has k=false
structure Rp (c:Ctx) (s:Mst) (ρ:Nat→Value) (a:Act) (w:World):Prop where
 dfr:a.defers=c.dfr
 siz:a.tmps.size=c.nt
 frm:Frx c.w0 w c.X
 tmp:∀t,(s.t t).rep w (Fz c s.h ρ w) ρ (a.tmps.getD t undef)
 hp:∀k b,s.h k=some b→b.rep w (Fz c s.h ρ w) ρ (ρ k)
 inb:∀k b g,s.h k=some b→kb (ρ k)=some g→c.X g∨c.w0.heap.size≤g
 dis:∀k k' b b' g,s.h k=some b→s.h k'=some b'→kb (ρ k)=some g→kb (ρ k')=some g→k=k'
 ent:∀k,k∈c.K→ρ k=c.ρ0 k∧s.f k=false
 wf:s.Wf
section
variable {c:Ctx} {s s':Mst} {ρ ρ':Nat→Value} {a a':Act} {w w':World} {M:Nat→Prop}
theorem Rp.ltb (h:Rp c s ρ a w) {k:Nat} {b:Box} {g:Nat} (hk:s.h k=some b) (hg:kb (ρ k)=some g):g<w.heap.size:=Box.lt (h.hp k b hk) hg
structure Stp (c:Ctx) (s s':Mst) (ρ ρ':Nat→Value) (w w':World) (M:Nat→Prop):Prop where
 ch:∀k,¬M k→s'.h k=s.h k
 pl:∀k,s.f k=false→ρ' k=ρ k
 fr:∀k,s'.f k=true→s.f k=true
 fw:Frx w w' fun b=>∃k bx,M k∧s.h k=some bx∧kb (ρ k)=some b
 nb:∀k bx g,M k→s'.h k=some bx→kb (ρ' k)=some g→g<w'.heap.size∧(w.heap.size≤g∨∃k0 b0,M k0∧s.h k0=some b0∧kb (ρ k0)=some g)
 ds:∀k k' b b' g,M k→M k'→s'.h k=some b→s'.h k'=some b'→kb (ρ' k)=some g→kb (ρ' k')=some g→k=k'
theorem Rp.place (h:Rp c s ρ a w) (p:Stp c s s' ρ ρ' w w' M) {k:Nat} {b:Box} (hk:s.h k=some b):ρ' k=ρ k:=by
 refine p.pl k ?_
 cases hf:s.f k with
 | false=>rfl
 | true=>rw [h.wf.h k hf] at hk;cases hk
theorem Rp.fz (h:Rp c s ρ a w) (p:Stp c s s' ρ ρ' w w' M):∀b,Fz c s.h ρ w b→Fz c s'.h ρ' w' b∧w'.heap[b]? = w.heap[b]?:=by
 intro b ⟨h1,h2,h3⟩
 refine ⟨⟨h1,Nat.lt_of_lt_of_le h2 p.fw.size,fun k bx hk hg=>?_⟩,p.fw.keep b h2 fun ⟨k,bx,_,hk,hg⟩=>h3 k bx hk hg⟩
 by_cases hm:M k
 ·rcases (p.nb k bx b hm hk hg).2 with h4|⟨k0,b0,_,hk0,hg0⟩
  ·omega
  ·exact h3 k0 b0 hk0 hg0
 ·rw [p.ch k hm] at hk
  rw [h.place p hk] at hg
  exact h3 k bx hk hg
theorem Rp.old (h:Rp c s ρ a w) (p:Stp c s s' ρ ρ' w w' M) {d:TV} {v:Value} (hd:d.rep w (Fz c s.h ρ w) ρ v) (hk:∀k,s.f k=true→d.has k=false):d.rep w' (Fz c s'.h ρ' w') ρ' v :=
 hd.mono (h.fz p) fun k hh=>p.pl k (by
  cases hf:s.f k with
  | false=>rfl
  | true=>rw [hk k hf] at hh;cases hh)
theorem Rp.step (h:Rp c s ρ a w) (p:Stp c s s' ρ ρ' w w' M) (hd:a'.defers=c.dfr) (hsz:a'.tmps.size=c.nt) (hwf:s'.Wf) (hfr:∀k,k∈c.K→s'.f k=false)
  (hnew:∀k bx,M k→s'.h k=some bx→bx.rep w' (Fz c s'.h ρ' w') ρ' (ρ' k))
  (htmp:∀t,(s'.t t).rep w' (Fz c s'.h ρ' w') ρ' (a'.tmps.getD t undef)):Rp c s' ρ' a' w' where
 dfr:=hd
 siz:=hsz
 frm:=⟨p.fw.os.trans h.frm.os,p.fw.tape.trans h.frm.tape,p.fw.output.trans h.frm.output,Nat.le_trans h.frm.size p.fw.size,fun b hb hx=>by
  rw [p.fw.keep b (Nat.lt_of_lt_of_le hb h.frm.size) fun ⟨k,bx,_,hk,hg⟩=>?_,h.frm.keep b hb hx]
  rcases h.inb k bx b hk hg with h1|h1
  ·exact hx h1
  ·omega⟩
 tmp:=htmp
 hp:=fun k b hk=>by
  by_cases hm:M k
  ·exact hnew k b hm hk
  ·rw [p.ch k hm] at hk
   have hpl:=h.place p hk
   rw [hpl]
   refine (h.hp k b hk).mono (fun g hg=>p.fw.keep g (h.ltb hk hg) fun ⟨k',b',hm',hk',hg'⟩=>hm (by rw [h.dis k k' b b' g hk hk' hg hg'];exact hm')) (h.fz p) fun k' hh=>p.pl k' ?_
   cases hf:s.f k' with
   | false=>rfl
   | true=>rw [h.wf.b k' k b hf hk] at hh;cases hh
 inb:=fun k b g hk hg=>by
  by_cases hm:M k
  ·rcases (p.nb k b g hm hk hg).2 with h1|⟨k0,b0,_,hk0,hg0⟩
   ·exact .inr (Nat.le_trans h.frm.size h1)
   ·exact h.inb k0 b0 g hk0 hg0
  ·rw [p.ch k hm] at hk
   rw [h.place p hk] at hg
   exact h.inb k b g hk hg
 dis:=by
  have mix:∀k k' b b' g,M k→¬M k'→s'.h k=some b→s'.h k'=some b'→kb (ρ' k)=some g→kb (ρ' k')=some g→False:=fun k k' b b' g hm hm' hk hk' hg hg'=>by
   rw [p.ch k' hm'] at hk'
   rw [h.place p hk'] at hg'
   rcases (p.nb k b g hm hk hg).2 with h1|⟨k0,b0,hm0,hk0,hg0⟩
   ·have:=h.ltb hk' hg';omega
   ·exact hm' (by rw [←h.dis k0 k' b0 b' g hk0 hk' hg0 hg'];exact hm0)
  intro k k' b b' g hk hk' hg hg'
  by_cases hm:M k
  ·by_cases hm':M k'
   ·exact p.ds k k' b b' g hm hm' hk hk' hg hg'
   ·exact (mix k k' b b' g hm hm' hk hk' hg hg').elim
  ·by_cases hm':M k'
   ·exact (mix k' k b' b g hm' hm hk' hk hg' hg).elim
   ·rw [p.ch k hm] at hk
    rw [p.ch k' hm'] at hk'
    rw [h.place p hk] at hg
    rw [h.place p hk'] at hg'
    exact h.dis k k' b b' g hk hk' hg hg'
 ent:=fun k hk=>⟨(p.pl k (h.ent k hk).2).trans (h.ent k hk).1,hfr k hk⟩
 wf:=hwf
end
end Go.Proofs.YtdaajdflefnjfaaGreat
