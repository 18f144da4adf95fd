/- Part 11 of 24 of the proof of rollbackOptions_holds (no condition). -/
import Derived.Test.YtdaajdflefnjfaaGreatK10
set_option linter.unusedVariables false
set_option linter.unusedSimpArgs false
set_option maxRecDepth 100000
set_option maxHeartbeats 64000000
namespace Go.Proofs.YtdaajdflefnjfaaGreat
open Go.RowKit Go.Proofs.Tryz
def En.cells (x:En):List Value:=[.string x.name,.int .i64 x.before.mode,.int .i64 x.before.units,.int .i64 x.after.mode,.int .i64 x.after.units]
def En.val (x:En):Value:=.agg #[.string x.name,.int .i64 x.before.mode,.int .i64 x.before.units,.int .i64 x.after.mode,.int .i64 x.after.units]
def Sv.cells (x:Sv):List Value:=[.int .i64 x.label,.int .i64 x.at_]
def Sv.val (x:Sv):Value:=.agg #[.int .i64 x.label,.int .i64 x.at_]
def Ev.cells (x:Ev):List Value:=[.int .i64 x.kind,.int .i64 x.proc.site,.int .i64 x.proc.inc,.int .i64 x.proc.num,.string x.name,.int .i64 x.am.mode,.int .i64 x.am.units]
def Ev.val (x:Ev):Value:=.agg #[.int .i64 x.kind,.int .i64 x.proc.site,.int .i64 x.proc.inc,.int .i64 x.proc.num,.string x.name,.int .i64 x.am.mode,.int .i64 x.am.units]
def iI:El En:=El.plain 5 (by decide) En.cells (fun _=>rfl) (by intro x u hu;simp [En.cells] at hu;rcases hu with rfl|rfl|rfl|rfl|rfl <;> rfl)
def iF:El Sv:=El.plain 2 (by decide) Sv.cells (fun _=>rfl) (by intro x u hu;simp [Sv.cells] at hu;rcases hu with rfl|rfl <;> rfl)
def qq:El Ev:=El.plain 7 (by decide) Ev.cells (fun _=>rfl) (by intro x u hu;simp [Ev.cells] at hu;rcases hu with rfl|rfl|rfl|rfl|rfl|rfl|rfl <;> rfl)
theorem Md:ElTB prog iI 24 112 48:=ElTB.mk' underlying24 (.agg #[.string { data:=#[] },.int .i64 0,.int .i64 0,.int .i64 0,.int .i64 0]) 5 48 (by kernel_rfl) rfl rfl
theorem Me:ElTB prog iF 25 80 16:=ElTB.mk' underlying25 (.agg #[.int .i64 0,.int .i64 0]) 2 16 (by kernel_rfl) rfl rfl
theorem Mf:ElTB prog qq 123 296 64:=ElTB.mk' underlying123 (.agg #[.int .i64 0,.int .i64 0,.int .i64 0,.int .i64 0,.string { data:=#[] },.int .i64 0,.int .i64 0]) 7 64 (by kernel_rfl) rfl rfl
section
variable {w:World} {S:Nat→Prop} {A:Option Addr} {i:Nat}
theorem D2 {l:List En} {n:ByteArray} {m u m' u':Int} (h:RowsAt iI w S A l) (hi:i<l.length) (hx:l[i]=⟨n,⟨m,u⟩,⟨m',u'⟩⟩) :
  ∃k off,A=some ⟨k,off,none⟩∧S k∧w.cell? ⟨k,off+i*5,none⟩=some (.string n)∧w.cell? ⟨k,off+i*5+1,none⟩=some (.int .i64 m)∧w.cell? ⟨k,off+i*5+2,none⟩=some (.int .i64 u)∧w.cell? ⟨k,off+i*5+3,none⟩=some (.int .i64 m')∧w.cell? ⟨k,off+i*5+4,none⟩=some (.int .i64 u'):=by
 obtain ⟨k,off,cs,hA,hS,hc,hd⟩:=h.getx hi hx
 obtain rfl:cs=[.string n,.int .i64 m,.int .i64 u,.int .i64 m',.int .i64 u']:=hc
 exact ⟨k,off,hA,hS,hd 0 (show 0<5 by decide),hd 1 (show 1<5 by decide),hd 2 (show 2<5 by decide),hd 3 (show 3<5 by decide),hd 4 (show 4<5 by decide)⟩
theorem D3 {l:List Sv} {a b:Int} (h:RowsAt iF w S A l) (hi:i<l.length) (hx:l[i]=⟨a,b⟩) :
  ∃k off,A=some ⟨k,off,none⟩∧S k∧w.cell? ⟨k,off+i*2,none⟩=some (.int .i64 a)∧w.cell? ⟨k,off+i*2+1,none⟩=some (.int .i64 b):=by
 obtain ⟨k,off,cs,hA,hS,hc,hd⟩:=h.getx hi hx
 obtain rfl:cs=[.int .i64 a,.int .i64 b]:=hc
 exact ⟨k,off,hA,hS,hd 0 (show 0<2 by decide),hd 1 (show 1<2 by decide)⟩
end
structure QS (w:World) (S:Nat→Prop) (A1 A2 A3:Option Addr) (q:Qu):Prop where
 r1:RowsAt oM w S A1 q.holds
 r2:RowsAt nv w S A2 q.convs
 r3:RowsAt nv w S A3 q.waits
 m1:q.holds.length≤maxLen
 m2:q.convs.length≤maxLen
 m3:q.waits.length≤maxLen
section
variable {w w':World} {S S':Nat→Prop} {A1 A2 A3:Option Addr} {q:Qu}
theorem QS.qf (h:QS w S A1 A2 A3 q) (hS:In w S):QF w w.heap.size A1 A2 A3 q:=⟨h.r1.lo hS,h.r2.lo hS,h.r3.lo hS,h.m1,h.m2,h.m3,Nat.le_refl _⟩
theorem QS.grow (h:QS w S A1 A2 A3 q) (hS:In w S) (hb:Below w.heap.size w w'):QS w' S A1 A2 A3 q:=⟨h.r1.grow hS hb,h.r2.grow hS hb,h.r3.grow hS hb,h.m1,h.m2,h.m3⟩
theorem QS.mono (h:QS w S A1 A2 A3 q) (hS:∀b,S b→S' b):QS w S' A1 A2 A3 q:=⟨h.r1.mono hS,h.r2.mono hS,h.r3.mono hS,h.m1,h.m2,h.m3⟩
theorem QS.of {cs:List Value} (h:F5.rep w S q cs):∃A1 A2 A3 c1 c2 c3,.agg cs.toArray=q.val A1 A2 A3 c1 c2 c3∧QS w S A1 A2 A3 q:=by
 obtain ⟨A1,A2,A3,c1,c2,c3,rfl,m1,m2,m3,r1,r2,r3⟩:=h
 exact ⟨A1,A2,A3,c1,c2,c3,rfl,r1,r2,r3,m1,m2,m3⟩
theorem QS.rep (h:QS w S A1 A2 A3 q) (c1 c2 c3:Nat):F5.rep w S q [.string q.res.name,.int .i64 q.res.kind,.int .i64 q.res.units,.int .i64 q.res.home,.slice A1 q.holds.length c1,.slice A2 q.convs.length c2,.slice A3 q.waits.length c3,.int .i64 q.gen] :=
 ⟨A1,A2,A3,c1,c2,c3,rfl,h.m1,h.m2,h.m3,h.r1,h.r2,h.r3⟩
end
def sa (d:Nat):El Pc where
 n:=16
 pos:=by decide
 rep:=fun w S x cs=>∃A1 c1 A2 c2 A3 c3,cs=[.int .i64 x.proc.site,.int .i64 x.proc.inc,.int .i64 x.proc.num,.int .i64 x.cost,.slice A1 x.led.entries.length c1,.slice A2 x.led.saves.length c2,.bool x.waiting,.int .i64 x.req.expr.k,.string x.req.expr.atom.name,.int .i64 x.req.expr.atom.am.mode,.int .i64 x.req.expr.atom.am.units,.slice A3 x.req.expr.kids.length c3,.int .i64 x.req.prio,.int .i64 x.req.limit,.int .i64 x.since,.int .i64 x.gen]∧
  RowsAt iI w S A1 x.led.entries∧(x.led.entries.length≤c1∧c1≤maxLen)∧RowsAt iF w S A2 x.led.saves∧(x.led.saves.length≤c2∧c2≤maxLen)∧RowsAt (oN d) w S A3 x.req.expr.kids∧(x.req.expr.kids.length≤c3∧c3≤maxLen)
 len:=fun h=>by obtain ⟨A1,c1,A2,c2,A3,c3,rfl,_⟩:=h;rfl
 one:=fun h=>by obtain ⟨A1,c1,A2,c2,A3,c3,rfl,_⟩:=h;intro u hu;simp at hu;rcases hu with rfl|rfl|rfl|rfl|rfl|rfl|rfl|rfl|rfl|rfl|rfl|rfl|rfl|rfl|rfl|rfl <;> rfl
 same:=fun h hk hS=>by
  obtain ⟨A1,c1,A2,c2,A3,c3,e,h1,h2,h3,h4,h5,h6⟩:=h
  exact ⟨A1,c1,A2,c2,A3,c3,e,h1.same hk hS,h2,h3.same hk hS,h4,h5.same hk hS,h6⟩
theorem JC (l:List Value) (k:Nat):(l.map D.sc).any (D.has k)=false:=by
 induction l with
 | nil=>rfl
 | cons x l ih=>simp only [List.map_cons,List.any_cons,ih,D.has,Bool.or_self]
theorem D4 {w:World} {F:Nat→Prop} {ρ:Nat→Value}:∀{l vs:List Value},All2 (D.rep w F ρ) (l.map .sc) vs→vs=l
 | [],[],_=>rfl
 | _ :: _,_ :: _,h=>by rw [show _=_ from h.1,D4 h.2]
 | [],_ :: _,h=>h.elim
 | _ :: _,[],h=>h.elim
@[reducible] def et {α:Type} (n:Nat) (pos:0<n) (f:α→List Value) (len:∀x,(f x).length=n) (one:∀x,∀u∈f x,u.oneCell'=true):Dp (El.plain n pos f len one) where
 deep:=fun x=>(f x).map .sc
 get:=fun h=>by rw [show _=_ from h];exact All2.scs _
 put:=fun h=>D4 h
 nok:=fun x k=>JC (f x) k
instance:Dp nu:=et _ _ _ _ _
instance:Dp I8:=et _ _ _ _ _
instance:Dp cL:=et _ _ _ _ _
instance:Dp oM:=et _ _ _ _ _
instance:Dp nv:=et _ _ _ _ _
instance:Dp iI:=et _ _ _ _ _
instance:Dp iF:=et _ _ _ _ _
instance:Dp qq:=et _ _ _ _ _
instance:ST prog oM 162 287 40:=⟨za⟩
instance:ST prog nv 163 284 56:=⟨toZ⟩
instance:ST prog iI 24 112 48:=⟨Md⟩
instance:ST prog iF 25 80 16:=⟨Me⟩
instance:ST prog qq 123 296 64:=⟨Mf⟩
instance:ST prog cL 39 31 32:=⟨L7⟩
def Pc.d (d:Nat) (x:Pc):List D:=[.sc (.int .i64 x.proc.site),.sc (.int .i64 x.proc.inc),.sc (.int .i64 x.proc.num),.sc (.int .i64 x.cost),.sl iI x.led.entries,.sl iF x.led.saves,.sc (.bool x.waiting),.sc (.int .i64 x.req.expr.k),.sc (.string x.req.expr.atom.name),.sc (.int .i64 x.req.expr.atom.am.mode),.sc (.int .i64 x.req.expr.atom.am.units),.sl (oN d) x.req.expr.kids,.sc (.int .i64 x.req.prio),.sc (.int .i64 x.req.limit),.sc (.int .i64 x.since),.sc (.int .i64 x.gen)]
instance (d:Nat):Dp (sa d) where
 deep:=Pc.d d
 get:=by
  rintro w F ρ x cs ⟨A1,c1,A2,c2,A3,c3,rfl,h1,h2,h3,h4,h5,h6⟩
  exact ⟨rfl,rfl,rfl,rfl,⟨A1,c1,rfl,h2,h1⟩,⟨A2,c2,rfl,h4,h3⟩,rfl,rfl,rfl,rfl,rfl,⟨A3,c3,rfl,h6,h5⟩,rfl,rfl,rfl,rfl,trivial⟩
 put:=by
  intro w F ρ x cs h
  match cs,h with
  | [_,_,_,_,_,_,_,_,_,_,_,_,_,_,_,_],⟨rfl,rfl,rfl,rfl,⟨A1,c1,rfl,h2,h1⟩,⟨A2,c2,rfl,h4,h3⟩,rfl,rfl,rfl,rfl,rfl,⟨A3,c3,rfl,h6,h5⟩,rfl,rfl,rfl,rfl,_⟩=>exact ⟨A1,c1,A2,c2,A3,c3,rfl,h1,h2,h3,h4,h5,h6⟩
 nok:=fun _ _=>rfl
section
variable {α:Type} {E:El α} {e:TypeId}
theorem vF {P:Program} {t:TypeId} {by_:Nat} (T:ElTB P E t e by_) {ops:Array Oper} {o:Oper} {a:Act} {w:World} {K:Act→World→Prop} {Q:Exit→Act→World→Prop} {E':Prop} (hgd:o.guard=none) (s x:Operand)
  (ho:o.op = .call { callee:=.builtin .append,args:=#[s,x],argTypes:=#[t,t] })
  (base:Nat) (v:Value) (l:List α) (y:α) (cs:List Value) (ca:Array Value) (hca:ca=cs.toArray) (hs:a.eval s=v) (hown:OwnRows E e w base v l) (nb:Nat) (hx:a.eval x = .slice (some ⟨nb,0,none⟩) 1 1) (hnb:nb=w.heap.size) (hy:E.rep w (oL w v) y cs) (hl:l.length<maxLen) (hlb:(l.length+1)*by_≤140737488355328)
  (h:∀v' w',OwnRows E e w' base v' (l++[y])→Below base w w'→mH w w' v v'→K (a.put o.dst v') w') :
  if Region.wanted o (yielded ops a.tmps)=true then Oper.wp P o a (w.alloc (.cells ca e)) K Q else E':=by
 subst hnb
 subst hca
 have hsz:w.heap.size≤(w.alloc (.cells cs.toArray e)).heap.size:=by simp
 have hkeep:∀b,b<w.heap.size→(w.alloc (.cells cs.toArray e)).heap[b]? = w.heap[b]?:=fun b hb=>Below.heap_alloc w _ b hb
 have hy':E.rep (w.alloc (.cells cs.toArray e)) (oL (w.alloc (.cells cs.toArray e)) v) y cs:=E.same hy (fun b hb=>hkeep b hb.1) fun b hb=>⟨Nat.lt_of_lt_of_le hb.1 hsz,hb.2⟩
 have hnot:v.ownBlock≠some w.heap.size:=fun e=>by have:=(hown.block _ e).2;omega
 refine ij T hgd s x ho base v l [y] 1 rfl _ 1 hs (hown.alloc _) hx ⟨cs,Reps.single hy',fun _=>⟨w.heap.size,0,rfl,⟨by simp,hnot⟩,fun j u hu=>oQ w cs e j u hu⟩⟩ hl hlb ?_
 intro v' w' h1 h2 h3
 refine h v' w' h1 (((Below.refl base w).alloc hown.1 _).trans h2) fun b hb=>?_
 obtain ⟨e1,e2⟩:=h3 b ⟨Nat.lt_of_lt_of_le hb.1 hsz,hb.2⟩
 exact ⟨e1.trans (hkeep b hb.1),e2⟩
end
section
variable {α:Type} {E:El α} {e:TypeId} {S:Nat→Prop}
theorem OwnRows.ofBlk {w:World} {base nb:Nat} (hb:Blk w nb e #[]) (hn:base≤nb):OwnRows E e w base (.slice (some ⟨nb,0,none⟩) 0 0) [] :=
 ⟨Nat.le_trans hn (Nat.le_of_lt hb.lt),[],⟨by simp,.inr ⟨nb,0,#[],rfl,hn,hb,Nat.le_refl _,by simp [maxLen],by simp,by simp⟩⟩,rfl⟩
theorem RowsAt.ofBlk {w:World} {g:Nat} {y:α} {cs:Array Value} (hb:Blk w g e cs) (hg:S g) (hy:E.rep w S y cs.toList):RowsAt E w S (some ⟨g,0,none⟩) [y] :=
 ⟨cs.toList,Reps.single hy,fun _=>⟨g,0,rfl,hg,fun j u hu=>by rw [Nat.zero_add];exact hb.cellx j (by simpa using hu)⟩⟩
theorem xI {P:Program} {t:TypeId} {by_:Nat} (T:ElTB P E t e by_) {ops:Array Oper} {o:Oper} {a:Act} {w:World} {K:Act→World→Prop} {Q:Exit→Act→World→Prop} {E':Prop} (hgd:o.guard=none) (s x:Operand)
  (ho:o.op = .call { callee:=.builtin .append,args:=#[s,x],argTypes:=#[t,t] })
  (w0:World) (l:List α) (n:Nat) (A:Option Addr) (c nb:Nat) (hs:a.eval s = .slice (some ⟨nb,0,none⟩) 0 0) (hx:a.eval x = .slice A n c) (hb0:Below w0.heap.size w0 w) (hnb:w0.heap.size≤nb) (hblk:Blk w nb e #[]) (hn:l.length=n) (hr:RowsAt E w0 S A l) (hS:In w0 S) (hl:n≤1000000) (hby:by_≤1024)
  (h:∀v' w',OwnRows (E.inn S) e w' w0.heap.size v' l→Below w0.heap.size w0 w'→w.heap.size≤w'.heap.size→(∀b,b<w.heap.size→b≠nb→w'.heap[b]? = w.heap[b]?∧v'.ownBlock≠some b)→K (a.put o.dst v') w') :
  if Region.wanted o (yielded ops a.tmps)=true then Oper.wp P o a w K Q else E':=by
 refine ij (T.inn S) hgd s x ho w0.heap.size _ [] l n hn A c hs (OwnRows.ofBlk hblk hnb) hx
  ((hr.grow hS hb0).oth (hS.below hb0) (fun k hk hs=>by injection hk with hk;have h1:=hS k hs;have h2:nb=k:=hk;omega) fun _ h=>h) (by simp [maxLen];omega) (by simp;exact Nat.le_trans (Nat.mul_le_mul hl hby) (by decide)) ?_
 intro v' w' hown hb hsp
 rw [List.nil_append] at hown
 exact h v' w' hown (hb0.trans hb) hb.size fun b hlt hne=>hsp b ⟨hlt,fun e=>hne (by injection e with e;exact e.symm)⟩
section
variable {n:Nat} {pos:0<n} {f:α→List Value} {len:∀x,(f x).length=n} {one:∀x,∀u∈f x,u.oneCell'=true}
theorem OwnRows.nw {w:World} {base:Nat} {v:Value} {l:List α} (h:OwnRows (El.plain n pos f len one) e w base v l):∃A cap,v = .slice A l.length cap∧RowsAt (El.plain n pos f len one) w (New base w) A l∧l.length≤cap∧cap≤maxLen:=by
 obtain ⟨A,cap,rfl,h1,h2⟩:=h.newP
 obtain ⟨_,_,e,_,_,h3⟩:=h.form
 injection e with _ _ e
 subst e
 exact ⟨A,cap,rfl,h1,h2,h3⟩
end
end
theorem aA {P:Program} {f:FuncId} {args:List V0} {res:TV} (hen:∀(vs:Array Value) (w:World),(callFunc f vs).run P w = .ok (.enter f vs) w) (hok:AO args [] [] res []=true)
  (h:∀(w:World) (S:Nat→Prop) (ρ:Nat→Value) (vs:List Value),In w S→All2 (V0.rep w S ρ) args vs→Calls P f vs.toArray w fun e w'=>∃v,e = .returned v∧Below w.heap.size w w'∧res.rep w' (Gr S w.heap.size w') ρ v):FSpec P f args [] [] res []:=by
 refine ⟨hen,fun q c st ρ a w vs hr _ hargs _ _=>?_⟩
 simp only [AO,Bool.and_eq_true] at hok
 obtain ⟨⟨⟨⟨⟨⟨o1,_⟩,_⟩,_⟩,_⟩,o6⟩,_⟩:=hok
 have hnok:∀d∈args,∀k,d.has k=true→False:=fun d hd k hk=>by have:=V0.in_has (List.all_eq_true.1 o1 d hd) hk;simp [ar,aG] at this
 have hnor:∀k,res.has k=true→False:=fun k hk=>by have:=TV.in_has o6 hk;simp [ar,aG] at this
 have hargs':All2 (V0.rep w (Fz c st.h ρ w) ρ) args vs:=hargs.imp fun d v hd h1=>(V0.rep_ren (ρ':=ρ) fun k hk=>(hnok d hd k hk).elim).1 h1
 refine (h w (Fz c st.h ρ w) ρ vs (fun b hb=>hb.2.1) hargs').mono ?_
 rintro e w' ⟨v,rfl,hb,hv⟩
 refine ⟨v,rfl,fun dst hdst=>⟨ρ,hr.app (e:=⟨res.ren q,fA q [],[].map q⟩) hdst (fun k hk=>by simp [aG] at hk) (fun _ _=>rfl) (fun k hk=>by simp [fA,aB] at hk) (Frx.below hb) (fun k bx g hk=>by simp [fA,aB] at hk) (fun k k' b b' g hk=>by simp [fA,aB] at hk) (fun k hk=>?_) (fun k k' bx hk=>by simp [fA,aB] at hk) (fun k bx hk=>by simp [fA,aB] at hk) ?_⟩⟩
 ·obtain ⟨k',hk',_⟩:=TV.has_ren hk
  exact (hnor k' hk').elim
 ·refine ((TV.rep_ren (ρ':=ρ) fun k hk=>(hnor k hk).elim).2 hv).mono (fun b hb2=>⟨⟨?_,hb2.1,fun k bx hk he=>?_⟩,rfl⟩) fun _ _=>rfl
  ·rcases hb2.2 with h1|h1
   ·exact h1.1
   ·exact .inr (Nat.le_trans hr.frm.size h1)
  ·have hk:st.h k=some bx:=hk
   rcases hb2.2 with h1|h1
   ·exact h1.2.2 k bx hk he
   ·have:=hr.ltb hk he
    omega
theorem q8 {w:World} {F:Nat→Prop} {ρ:Nat→Value} {ds:List D} {l:List Value} {v:Value} (hs:scs ds=some l) (h:(V0.ag ds).rep w F ρ v):v = .agg l.toArray:=by
 obtain ⟨vs,rfl,h1⟩:=h
 rw [je hs h1]
theorem dk {w w':World} {S:Nat→Prop} {ρ:Nat→Value} {v:Value} {e:Ending} (h:gV w v e w'):∃u,e = .returned u∧Below w.heap.size w w'∧(TV.c (.sc v)).rep w' (Gr S w.heap.size w') ρ u:=⟨v,h.1,h.2,rfl⟩
theorem vG {w w':World} {S:Nat→Prop} {ρ:Nat→Value} {l:List Value} {ds:List D} {e:Ending} (hd:ds=l.map .sc) (h:gV w (.agg l.toArray) e w'):∃u,e = .returned u∧Below w.heap.size w w'∧(TV.v (.ag ds)).rep w' (Gr S w.heap.size w') ρ u:=⟨_,h.1,h.2,l,rfl,hd▸All2.scs l⟩
theorem jh {w w':World} {S:Nat→Prop} {ρ:Nat→Value} {α:Type} {t:TypeId} {l:List α} {e:Ending} {n:Nat} {pos:0<n} {f:α→List Value} {len:∀x,(f x).length=n} {one:∀x,∀u∈f x,u.oneCell'=true} (h:fP (El.plain n pos f len one) t w l e w') :
  ∃u,e = .returned u∧Below w.heap.size w w'∧(TV.c (.sl (El.plain n pos f len one) l)).rep w' (Gr S w.heap.size w') ρ u:=by
 obtain ⟨v,rfl,hown,hb⟩:=h
 obtain ⟨A,cap,rfl,hr,h1,h2⟩:=OwnRows.nw hown
 exact ⟨_,rfl,hb,A,cap,rfl,⟨h1,h2⟩,hr.grNew⟩
def D.okb:D→Bool
 | .sc x=>x.oneCell'
 | .sl ..=>true
 | _=>false
theorem D.okb_has {d:D} (h:d.okb=true) (k:Nat):d.has k=false:=by cases d <;> first|rfl|cases h
theorem D.okb_one {w:World} {F:Nat→Prop} {ρ:Nat→Value} {d:D} {v:Value} (h:d.okb=true) (hd:d.rep w F ρ v):v.oneCell'=true:=by
 cases d with
 | sc x=>have hd:v=x:=hd;rw [hd];exact h
 | sl E l=>obtain ⟨A,cap,rfl,_⟩:=hd;rfl
 | _=>cases h
def El.ofD {α:Type} (n:Nat) (pos:0<n) (f:α→List D) (len:∀x,(f x).length=n) (ok:∀x,(f x).all D.okb=true):El α where
 n:=n
 pos:=pos
 rep:=fun w S x cs=>All2 (D.rep w S fun _=>undef) (f x) cs
 len:=fun h=>by rw [←h.length,len]
 one:=fun {w S x cs} h=>rL h fun d hd u hu=>D.okb_one (List.all_eq_true.1 (ok x) d hd) hu
 same:=fun {w w' S S' x cs} h hk hS=>h.imp fun d v hd h1=>D.rep.mono h1 (fun b hb=>⟨hS b hb,hk b hb⟩) fun _ _=>rfl
@[reducible] def MX {α:Type} (n:Nat) (pos:0<n) (f:α→List D) (len:∀x,(f x).length=n) (ok:∀x,(f x).all D.okb=true):Dp (El.ofD n pos f len ok) where
 deep:=f
 get:=fun {w F ρ x cs} h=>All2.imp (R:=D.rep w F fun _=>undef) h fun d v hd h1=>D.rep.mono h1 (fun b hb=>⟨hb,rfl⟩) fun k hk=>by rw [D.okb_has (List.all_eq_true.1 (ok x) d hd) k] at hk;cases hk
 put:=fun {w F ρ x cs} h=>h.imp fun d v hd h1=>D.rep.mono h1 (fun b hb=>⟨hb,rfl⟩) fun k hk=>by rw [D.okb_has (List.all_eq_true.1 (ok x) d hd) k] at hk;cases hk
 nok:=fun x k=>by
  rw [Bool.eq_false_iff]
  intro h
  obtain ⟨d,hd,h1⟩:=List.any_eq_true.1 h
  rw [D.okb_has (List.all_eq_true.1 (ok x) d hd) k] at h1
  cases h1
theorem Cu {α:Type} {E E':El α} {w:World} {S:Nat→Prop} {A:Option Addr} {l:List α} (hn:E.n=E'.n) (h:∀x cs,E.rep w S x cs→E'.rep w S x cs) (hr:RowsAt E w S A l):RowsAt E' w S A l:=by
 obtain ⟨xs,h1,h2⟩:=hr
 refine ⟨xs,?_,h2⟩
 clear h2
 induction l generalizing xs with
 | nil=>exact h1
 | cons x l ih =>
  obtain ⟨cs,rest,rfl,h3,h4⟩:=h1
  exact ⟨cs,rest,rfl,h x cs h3,ih rest h4⟩
def Pr.a (p:Pr):V0:=.ag [.sc (.int .i64 p.site),.sc (.int .i64 p.inc),.sc (.int .i64 p.num)]
def Am.a (x:Am):V0:=.ag [.sc (.int .i64 x.mode),.sc (.int .i64 x.units)]
def Tm.a (x:Tm):V0:=.ag [.sc (.string x.name),.sc (.int .i64 x.am.mode),.sc (.int .i64 x.am.units)]
def Rs.a (r:Rs):V0:=.ag [.sc (.string r.name),.sc (.int .i64 r.kind),.sc (.int .i64 r.units),.sc (.int .i64 r.home)]
def Qu.d (q:Qu):List D:=[.sc (.string q.res.name),.sc (.int .i64 q.res.kind),.sc (.int .i64 q.res.units),.sc (.int .i64 q.res.home),.sl oM q.holds,.sl nv q.convs,.sl nv q.waits,.sc (.int .i64 q.gen)]
def Qu.a (q:Qu):V0:=.ag q.d
def lX:El Qu:=El.ofD 8 (by decide) Qu.d (fun _=>rfl) fun _=>rfl
instance:Dp lX:=MX _ _ _ _ _
def Ex.d (d:Nat) (x:Ex):List D:=[.sc (.int .i64 x.k),.sc (.string x.atom.name),.sc (.int .i64 x.atom.am.mode),.sc (.int .i64 x.atom.am.units),.sl (oN d) x.kids]
def Ex.a (d:Nat) (x:Ex):V0:=.ag (x.d d)
def Lg.a (l:Lg):V0:=.ag [.sl iI l.entries,.sl iF l.saves]
def Pc.a (d:Nat) (x:Pc):V0:=.ag (x.d d)
def En.a (x:En):V0:=.ag [.sc (.string x.name),.sc (.int .i64 x.before.mode),.sc (.int .i64 x.before.units),.sc (.int .i64 x.after.mode),.sc (.int .i64 x.after.units)]
def Rq.d (d:Nat) (r:Rq):List D:=[.sc (.int .i64 r.expr.k),.sc (.string r.expr.atom.name),.sc (.int .i64 r.expr.atom.am.mode),.sc (.int .i64 r.expr.atom.am.units),.sl (oN d) r.expr.kids,.sc (.int .i64 r.prio),.sc (.int .i64 r.limit)]
def Rq.a (d:Nat) (r:Rq):V0:=.ag (r.d d)
section
variable {w:World} {S:Nat→Prop} {ρ:Nat→Value} {v:Value}
theorem Pr.open {p:Pr} (h:p.a.rep w S ρ v):v=p.val:=q8 rfl h
theorem Am.open {p:Am} (h:p.a.rep w S ρ v):v=p.val:=q8 rfl h
theorem Rs.open {p:Rs} (h:p.a.rep w S ρ v):v=p.val:=q8 rfl h
theorem Qu.open {q:Qu} (h:q.a.rep w S ρ v):∃A1 A2 A3 c1 c2 c3,v=q.val A1 A2 A3 c1 c2 c3∧QS w S A1 A2 A3 q∧(q.holds.length≤c1∧c1≤maxLen)∧(q.convs.length≤c2∧c2≤maxLen)∧(q.waits.length≤c3∧c3≤maxLen):=by
 obtain ⟨cs,rfl,h⟩:=h
 match cs,h with
 | [_,_,_,_,_,_,_,_],⟨rfl,rfl,rfl,rfl,⟨A1,c1,rfl,h1,r1⟩,⟨A2,c2,rfl,h2,r2⟩,⟨A3,c3,rfl,h3,r3⟩,rfl,_⟩ =>
  exact ⟨A1,A2,A3,c1,c2,c3,rfl,⟨r1,r2,r3,Nat.le_trans h1.1 h1.2,Nat.le_trans h2.1 h2.2,Nat.le_trans h3.1 h3.2⟩,h1,h2,h3⟩
theorem Ex.open {d:Nat} {x:Ex} (h:(x.a d).rep w S ρ v):∃A c,v=x.val A c∧RowsAt (oN d) w S A x.kids∧(x.kids.length≤c∧c≤maxLen):=by
 obtain ⟨cs,rfl,h⟩:=h
 match cs,h with
 | [_,_,_,_,_],⟨rfl,rfl,rfl,rfl,⟨A,c,rfl,h1,r1⟩,_⟩=>exact ⟨A,c,rfl,r1,h1⟩
theorem vH {A:Option Addr} {l:List Qu} (h:RowsAt lX w S A l):RowsAt F5 w S A l:=Cu (E:=lX) (E':=F5) rfl (fun x cs h=>by
 obtain ⟨A1,A2,A3,c1,c2,c3,e,h1,_⟩:=Qu.open (v:=.agg cs.toArray) (ρ:=fun _=>undef) ⟨cs,rfl,h⟩
 injection e with e
 have:cs=[.string x.res.name,.int .i64 x.res.kind,.int .i64 x.res.units,.int .i64 x.res.home,.slice A1 x.holds.length c1,.slice A2 x.convs.length c2,.slice A3 x.waits.length c3,.int .i64 x.gen]:=by simpa using congrArg Array.toList e
 rw [this]
 exact h1.rep c1 c2 c3) h
end
section
variable {P:Program} {s:Mst} {o:Oper}
theorem V0.ren_id_rep {w:World} {F:Nat→Prop} {ρ:Nat→Value} {d:V0} {v:Value}:(V0.ren (fun k=>k) d).rep w F ρ v↔d.rep w F ρ v:=V0.rep_ren fun _ _=>rfl
theorem FSpec.calls {f:FuncId} {args:List V0} {res:TV} (hs:FSpec P f args [] [] res []) (hok:AO args [] [] res []=true) {w:World} {S:Nat→Prop} {ρ:Nat→Value} {vs:List Value} (hS:∀b,S b→b<w.heap.size) (ha:All2 (V0.rep w S ρ) args vs) :
  Calls P f vs.toArray w fun e w'=>∃v,e = .returned v∧Below w.heap.size w w'∧res.rep w' (Gr S w.heap.size w') ρ v:=by
 simp only [AO,Bool.and_eq_true] at hok
 obtain ⟨⟨⟨⟨⟨⟨o1,_⟩,_⟩,_⟩,_⟩,o6⟩,_⟩:=hok
 have hnor:∀k,res.has k=true→False:=fun k hk=>by have:=TV.in_has o6 hk;simp [ar,aG] at this
 let c:Ctx:={ w0:=w,S:=S,X:=fun _=>False,nt:=1,K:=[],ρ0:=ρ,hS:=hS,hX:=fun _ h=>h.elim }
 let st:Mst:={ t:=fun _=>.c .any,h:=fun _=>none,f:=fun _=>false }
 have hF:∀b,S b↔Fz c st.h ρ w b:=fun b=>⟨fun h=>⟨.inl h,hS b h,fun k bx hk=>by cases hk⟩,fun ⟨h,h2,_⟩=>h.elim id fun h3=>absurd h2 (Nat.not_lt.2 h3)⟩
 have hr:Rp c st ρ { tmps:=#[undef],defers:=[] } w :=
  ⟨rfl,rfl,Frx.refl _ _,fun _=>trivial,fun k b hk=>(by cases hk),fun k b g hk=>(by cases hk),fun k k' b b' g hk=>(by cases hk),fun k hk=>(by cases hk),⟨fun k hk=>(by cases hk),fun k t hk=>(by cases hk),fun k k' b hk=>(by cases hk)⟩⟩
 refine (hs.ca (fun k=>k) c st ρ { tmps:=#[undef],defers:=[] } w vs hr (fun k k' hk=>by simp [ar,aG] at hk) (ha.imp fun d v _ h=>V0.ren_id_rep.2 (h.mono (fun b hb=>⟨(hF b).1 hb,rfl⟩) fun _ _=>rfl)) (fun k b hk=>by cases hk) fun k hk=>by simp [aG] at hk).mono ?_
 rintro e w' ⟨v,rfl,h⟩
 obtain ⟨ρ',h2⟩:=h (some 0) fun d hd=>by injection hd with hd;subst hd;exact Nat.one_pos
 have h3:=h2.frm
 refine ⟨v,rfl,⟨h3.os,h3.tape,h3.output,h3.size,fun b hb=>h3.keep b hb fun h=>h⟩,?_⟩
 have h4:=h2.tmp 0
 have h5:((st.app (some 0) ⟨res.ren fun k=>k,fA (fun k=>k) [],[].map fun k=>k⟩).t 0)=res.ren fun k=>k:=rfl
 rw [h5] at h4
 have h6:(({ tmps:=#[undef],defers:=[] }:Act).put (some 0) v).tmps.getD 0 undef=v:=rfl
 rw [h6] at h4
 refine ((TV.rep_ren (ρ':=ρ) fun k hk=>(hnor k hk).elim).1 h4).mono (fun b hb=>⟨⟨hb.2.1,hb.1.imp (fun h=>h) fun h=>h⟩,rfl⟩) fun k hk=>(hnor k hk).elim
inductive DR (h:Nat→Option Box) (R:List Nat):D→D→Prop
 | same (d:D):DR h R d d
 | own {k:Nat} {α:Type} {e:TypeId} {E:El α} {l:List α} (hR:aG R k=true) (hk:h k=some (.arr e E l)):DR h R (.own k) (.sl E l)
 | ocut {k:Nat} {α:Type} {e:TypeId} {E:El α} {l:List α} (hR:aG R k=true) (hk:h k=some (.arr e E l)):DR h R (.ocut k) (.sl E l)
 | full {α:Type} {E:El α} {l:List α}:DR h R (.full E l) (.sl E l)
 | nil {α:Type} {E:El α}:DR h R (.sc (.slice none 0 0)) (.sl E [])
inductive VR (h:Nat→Option Box) (R:List Nat):V0→V0→Prop
 | same (d:V0):VR h R d d
 | one {d0 d:D} (x:DR h R d0 d):VR h R (.one d0) (.one d)
 | ag {l0 l:List D} (x:All2 (DR h R) l0 l):VR h R (.ag l0) (.ag l)
def AR (s:Mst) (R:List Nat) (x:TV) (d:V0):Prop:=∃y,x = .v y∧VR s.h R y d
theorem DR.rep {h:Nat→Option Box} {R:List Nat} {d0 d:D} (hd:DR h R d0 d) {c:Ctx} {st:Mst} {ρ:Nat→Value} {a:Act} {w:World} {F:Nat→Prop} {v:Value} (hr:Rp c st ρ a w) (hh:∀k,aG R k=true→st.h k=h k) (hF:∀b,Fz c st.h ρ w b→F b)
  (hO:∀k bx g,aG R k=true→st.h k=some bx→kb (ρ k)=some g→F g) (hv:d0.rep w (Fz c st.h ρ w) ρ v):d.rep w F ρ v:=by
 cases hd with
 | same=>exact hv.mono (fun b hb=>⟨hF b hb,rfl⟩) fun _ _=>rfl
 | @own k α e E l hR hk =>
  have hv:v=ρ k:=hv
  subst hv
  have hk':=(hh k hR).trans hk
  obtain ⟨A,cap,hA,hc,hp⟩:=dZ (hr.hp k _ hk')
  refine ⟨A,cap,hA,hc,?_⟩
  rcases Nat.eq_zero_or_pos l.length with h0|h0
  ·obtain rfl:l=[]:=List.eq_nil_of_length_eq_zero h0
   exact RowsAt.nil _ _ _ _
  ·obtain ⟨g,xs,rfl,_,h3,h4,_⟩:=hp h0
   exact ⟨xs,h3.same (fun _ _=>rfl) hF,fun _=>⟨g,0,rfl,hO k _ g hR hk' (by rw [hA];rfl),fun j u hu=>by rw [Nat.zero_add];exact h4 j u hu⟩⟩
 | @ocut k α e E l hR hk =>
  obtain ⟨A0,n0,cap0,c0,hρ0,hc0,rfl⟩:=hv
  have hk':=(hh k hR).trans hk
  obtain ⟨A,cap,hA,hc,hp⟩:=dZ (hr.hp k _ hk')
  have hA':=hA
  rw [hρ0] at hA'
  injection hA' with e1 e2 e3
  subst e1
  subst e2
  subst e3
  refine ⟨A0,c0,rfl,⟨hc0.1,Nat.le_trans hc0.2 hc.2⟩,?_⟩
  rcases Nat.eq_zero_or_pos l.length with h0|h0
  ·obtain rfl:l=[]:=List.eq_nil_of_length_eq_zero h0
   exact RowsAt.nil _ _ _ _
  ·obtain ⟨g,xs,rfl,_,h3,h4,_⟩:=hp h0
   exact ⟨xs,h3.same (fun _ _=>rfl) hF,fun _=>⟨g,0,rfl,hO k _ g hR hk' (by rw [hA];rfl),fun j u hu=>by rw [Nat.zero_add];exact h4 j u hu⟩⟩
 | full=>obtain ⟨A,h1,h2,h3⟩:=hv;exact ⟨A,_,h1,⟨Nat.le_refl _,h2⟩,h3.mono hF⟩
 | nil=>exact ⟨none,0,hv,by simp [maxLen],RowsAt.nil _ _ _ _⟩
theorem DR.reps {h:Nat→Option Box} {R:List Nat} {c:Ctx} {st:Mst} {ρ:Nat→Value} {a:Act} {w:World} {F:Nat→Prop} (hr:Rp c st ρ a w) (hh:∀k,aG R k=true→st.h k=h k) (hF:∀b,Fz c st.h ρ w b→F b)
  (hO:∀k bx g,aG R k=true→st.h k=some bx→kb (ρ k)=some g→F g):∀{l0 l:List D} {cs:List Value},All2 (DR h R) l0 l→All2 (D.rep w (Fz c st.h ρ w) ρ) l0 cs→All2 (D.rep w F ρ) l cs
 | [],[],[],_,_=>trivial
 | _ :: _,_ :: _,_ :: _,x,k=>⟨x.1.rep hr hh hF hO k.1,DR.reps hr hh hF hO x.2 k.2⟩
 | [],_ :: _,_,x,_=>x.elim
 | _ :: _,[],_,x,_=>x.elim
 | [],[],_ :: _,_,k=>k.elim
 | _ :: _,_ :: _,[],_,k=>k.elim
theorem VR.rep {h:Nat→Option Box} {R:List Nat} {d0 d:V0} (hd:VR h R d0 d) {c:Ctx} {st:Mst} {ρ:Nat→Value} {a:Act} {w:World} {F:Nat→Prop} {v:Value} (hr:Rp c st ρ a w) (hh:∀k,aG R k=true→st.h k=h k) (hF:∀b,Fz c st.h ρ w b→F b)
  (hO:∀k bx g,aG R k=true→st.h k=some bx→kb (ρ k)=some g→F g) (hv:d0.rep w (Fz c st.h ρ w) ρ v):d.rep w F ρ v:=by
 cases hd with
 | same=>exact hv.mono (fun b hb=>⟨hF b hb,rfl⟩) fun _ _=>rfl
 | one x=>exact x.rep hr hh hF hO hv
 | ag x=>obtain ⟨cs,e,h1⟩:=hv;exact ⟨cs,e,DR.reps hr hh hF hO x h1⟩
theorem sb {R:List Nat} {c:Ctx} {st:Mst} {ρ:Nat→Value} {a:Act} {w:World} {F:Nat→Prop} (hr:Rp c st ρ a w) (hh:∀k,aG R k=true→st.h k=s.h k) (hF:∀b,Fz c st.h ρ w b→F b)
  (hO:∀k bx g,aG R k=true→st.h k=some bx→kb (ρ k)=some g→F g):∀{l:List Operand} {m:List V0},(∀x∈l,st.ev x=s.ev x)→All2 (fun x d=>AR s R (s.ev x) d) l m→All2 (V0.rep w F ρ) m (l.map a.eval)
 | [],[],_,_=>trivial
 | x :: l,d :: m,he,h=>by
  refine ⟨?_,sb hr hh hF hO (fun y hy=>he y (by simp [hy])) h.2⟩
  obtain ⟨y,h1,h2⟩:=h.1
  have h3:=hr.ev x
  rw [he x (by simp),h1] at h3
  exact h2.rep hr hh hF hO h3
 | [],_ :: _,_,h=>h.elim
 | _ :: _,[],_,h=>h.elim
def D.isSc:D→Bool
 | .sc _=>true
 | _=>false
def V0.isSc:V0→Bool
 | .one d=>d.isSc
 | .ag l=>l.all D.isSc
def TV.isSc:TV→Bool
 | .v x=>x.isSc
 | .tup l=>l.all V0.isSc
theorem D.sc_any {w w':World} {F F':Nat→Prop} {ρ ρ':Nat→Value} {d:D} (h:d.isSc=true) {v:Value} (hv:d.rep w F ρ v):d.rep w' F' ρ' v:=by
 cases d <;> first|exact hv|cases h
theorem D.scs_any {w w':World} {F F':Nat→Prop} {ρ ρ':Nat→Value}:∀{l:List D} {vs:List Value},l.all D.isSc=true→All2 (D.rep w F ρ) l vs→All2 (D.rep w' F' ρ') l vs
 | [],[],_,_=>trivial
 | d :: l,v :: vs,h,k=>by
  simp only [List.all_cons,Bool.and_eq_true] at h
  exact ⟨D.sc_any h.1 k.1,D.scs_any h.2 k.2⟩
 | [],_ :: _,_,k=>k.elim
 | _ :: _,[],_,k=>k.elim
theorem V0.sc_any {w w':World} {F F':Nat→Prop} {ρ ρ':Nat→Value} {d:V0} (h:d.isSc=true) {v:Value} (hv:d.rep w F ρ v):d.rep w' F' ρ' v:=by
 cases d with
 | one d=>exact D.sc_any (d:=d) h hv
 | ag l=>obtain ⟨cs,e,h1⟩:=hv;exact ⟨cs,e,D.scs_any h h1⟩
theorem TV.sc_any {w w':World} {F F':Nat→Prop} {ρ ρ':Nat→Value} {d:TV} (h:d.isSc=true) {v:Value} (hv:d.rep w F ρ v):d.rep w' F' ρ' v:=by
 cases d with
 | v d=>exact V0.sc_any (d:=d) h hv
 | tup l =>
  obtain ⟨vs,e,h1⟩:=hv
  refine ⟨vs,e,?_⟩
  clear e
  induction l generalizing vs with
  | nil=>cases vs with
   | nil=>trivial
   | cons=>exact h1.elim
  | cons x l ih=>cases vs with
   | nil=>exact h1.elim
   | cons v vs =>
    simp only [TV.isSc,List.all_cons,Bool.and_eq_true] at h
    exact ⟨V0.sc_any h.1 h1.1,ih h.2 vs h1.2⟩
theorem TV.sc_has {d:TV} (h:d.isSc=true) (k:Nat):d.has k=false:=by
 have h1:∀d:D,d.isSc=true→d.has k=false:=fun d h=>by cases d <;> first|rfl|cases h
 have h2:∀x:V0,x.isSc=true→x.has k=false:=fun x h=>by
  cases x with
  | one d=>exact h1 d h
  | ag l=>simp only [V0.has,List.any_eq_false];intro d hd;simp [h1 d (List.all_eq_true.1 h d hd)]
 cases d with
 | v x=>exact h2 x h
 | tup l=>simp only [TV.has,List.any_eq_false];intro d hd;simp [h2 d (List.all_eq_true.1 h d hd)]
theorem xJ {f:FuncId} {xs:Array Operand} {ts:Array TypeId} {a:Act} {w:World} {K:Act→World→Prop} {Q:Ending→World→Prop} (hen:∀(vs:Array Value) (w:World),(callFunc f vs).run P w = .ok (.enter f vs) w) (ho:o.op = .call { callee:=.value (.func f),args:=xs,argTypes:=ts })
  (hc:Calls P f (xs.toList.map a.eval).toArray w Q) (hK:∀e w',Q e w'→∃v,e = .returned v∧K (a.put o.dst v) w'):o.wp P a w K fun _ _ _=>False:=by
 have he:(xs.toList.map a.eval).toArray=xs.map a.eval:=by apply Array.toList_inj.1;simp
 rw [he] at hc
 unfold Oper.wp execOp
 simp only [ho,resolve,Act.eval,Deferred.ofValue,invoke,Sem.run_bind,Sem.run_pure,Result.andThen_ok,Array.append_empty,Array.empty_append]
 rw [hen]
 refine hc.mono fun e w' h=>?_
 obtain ⟨v,rfl,h2⟩:=hK e w' h
 exact h2
theorem Cv {f:FuncId} {xs:Array Operand} {ts:Array TypeId} {args:List V0} {res:TV} (R:List Nat) (hs:FSpec P f args [] [] res []) (ho:o.op = .call { callee:=.value (.func f),args:=xs,argTypes:=ts }) (hok:AO args [] [] res []=true) (hb:res.isSc=true)
  (ha:All2 (fun x d=>AR s R (s.ev x) d) xs.toList args):LOp P o s R ⟨res,[],[]⟩:=by
 intro c st ρ a w hr h1 h2 h3 h4
 have hargs:=sb (F:=fun b=>b<w.heap.size) hr (fun k hk=>h2 k hk) (fun b hb=>hb.2.1) (fun k bx g _ hk hg=>hr.ltb hk hg) (fun x hx=>h1 x (by simp [ho,Op.operands,Call.operands];exact .inr (by simpa using hx))) ha
 refine xJ hs.en ho (hs.calls hok (fun b hb=>hb) hargs) ?_
 rintro e w' ⟨v,rfl,hB,hv⟩
 exact ⟨v,rfl,ρ,hr.app (e:=⟨res,[],[]⟩) h4 (fun k hk=>by simp [aG] at hk) (fun _ _=>rfl) (fun k hk=>by simp [aB] at hk) (Frx.below hB) (fun k bx g hk=>by simp [aB] at hk) (fun k k' b b' g hk=>by simp [aB] at hk) (fun k hk=>by rw [TV.sc_has hb k] at hk;cases hk) (fun k k' bx hk=>by simp [aB] at hk) (fun k bx hk=>by simp [aB] at hk) (TV.sc_any hb hv)⟩
def po (ks:List Nat):List (Nat×Option Box):=ks.map fun k=>(k,none)
theorem eu {ks:List Nat} {k:Nat}:aB (po ks) k=aG ks k:=by
 induction ks with
 | nil=>rfl
 | cons x l ih=>simp only [po,List.map_cons,aB,aG];rw [←ih];rfl
theorem fV {ks:List Nat} {h:Nat→Option Box} {k:Nat} (hk:aG ks k=true):hput (po ks) h k=none:=by
 induction ks with
 | nil=>simp [aG] at hk
 | cons x l ih =>
  simp only [po,List.map_cons,hput]
  cases hx:x.beq k with
  | true=>rfl
  | false =>
   simp only [aG,hx,Bool.false_or] at hk
   exact ih hk
theorem Cw {f:FuncId} {xs:Array Operand} {ts:Array TypeId} {args:List V0} {res:TV} (ks:List Nat) (hs:FSpec P f args [] [] res []) (ho:o.op = .call { callee:=.value (.func f),args:=xs,argTypes:=ts }) (hok:AO args [] [] res []=true)
  (hks:ks.all (fun k=>(s.h k).isSome)=true) (ha:All2 (fun x d=>AR s ks (s.ev x) d) xs.toList args):LOp P o s ks ⟨res,po ks,[]⟩:=by
 intro c st ρ a w hr h1 h2 h3 h4
 have hsome:∀k,aG ks k=true→∃b,st.h k=some b:=fun k hk=>by
  have:=jB hks k hk
  rw [←h2 k hk] at this
  exact Option.isSome_iff_exists.1 this
 have hF:∀b,Fz c st.h ρ w b→Fz c (hput (po ks) st.h) ρ w b:=fun b ⟨f1,f2,f3⟩=>⟨f1,f2,fun k bx hk=>by
  cases hh:aB (po ks) k with
  | true=>rw [fV (by rw [←eu];exact hh)] at hk;cases hk
  | false=>rw [bM hh] at hk;exact f3 k bx hk⟩
 have hO:∀k bx g,aG ks k=true→st.h k=some bx→kb (ρ k)=some g→Fz c (hput (po ks) st.h) ρ w g:=fun k bx g hk hb hg=>by
  refine ⟨(hr.inb k bx g hb hg).imp (c.hX g) id,hr.ltb hb hg,fun k' bx' hk' he=>?_⟩
  cases hh:aB (po ks) k' with
  | true=>rw [fV (by rw [←eu];exact hh)] at hk';cases hk'
  | false =>
   rw [bM hh] at hk'
   have:=hr.dis k k' bx bx' g hb hk' hg he
   subst this
   rw [eu,hk] at hh
   cases hh
 have hargs:=sb hr (fun k hk=>h2 k hk) hF hO (fun x hx=>h1 x (by simp [ho,Op.operands,Call.operands];exact .inr (by simpa using hx))) ha
 have hok':=hok
 simp only [AO,Bool.and_eq_true] at hok
 obtain ⟨⟨⟨⟨⟨⟨_,_⟩,_⟩,_⟩,_⟩,o6⟩,_⟩:=hok
 have hnor:∀k,res.has k=true→False:=fun k hk=>by have:=TV.in_has o6 hk;simp [ar,aG] at this
 refine xJ hs.en ho (hs.calls hok' (fun b hb=>hb.2.1) hargs) ?_
 rintro e w' ⟨v,rfl,hB,hv⟩
 refine ⟨v,rfl,ρ,hr.app (e:=⟨res,po ks,[]⟩) h4 (fun k hk=>by simp [aG] at hk) (fun _ _=>rfl) (fun k hk=>.inr ?_) (Frx.below hB) (fun k bx g hk hb=>?_) (fun k k' b b' g hk _ hb=>?_) (fun k hk=>(hnor k hk).elim) (fun k k' bx hk hb=>?_) (fun k bx hk hb=>?_) ?_⟩
 ·obtain ⟨b,hb⟩:=hsome k (by rw [←eu];exact hk)
  exact hr.nfh hb
 ·rw [fV (by rw [←eu];exact hk)] at hb;cases hb
 ·rw [fV (by rw [←eu];exact hk)] at hb;cases hb
 ·rw [fV (by rw [←eu];exact hk)] at hb;cases hb
 ·rw [fV (by rw [←eu];exact hk)] at hb;cases hb
 ·refine hv.mono (fun b hb=>⟨⟨?_,hb.1,fun k bx hk he=>?_⟩,rfl⟩) fun _ _=>rfl
  ·rcases hb.2 with h|h
   ·exact h.1
   ·exact .inr (Nat.le_trans hr.frm.size h)
  ·rcases hb.2 with h|h
   ·exact h.2.2 k bx hk he
   ·cases hh:aB (po ks) k with
    | true=>rw [fV (by rw [←eu];exact hh)] at hk;cases hk
    | false =>
     rw [bM hh] at hk
     have:=hr.ltb hk he
     omega
end
section
variable {P:Program} {nt:Nat} {Ks:List Nat} {Q:Exit→Mst→Prop} {s:Mst}
theorem dS {x:Code} {α:Type} (t k:Nat) (e:TypeId) (E:El α) (ht:s.t t = .c (.sc (.slice none 0 0))) (hf:s.f k=true) (hnt:Nat.blt t nt=true) (h:AW P nt Ks x Q (s.app (some t) ⟨.c (.own k),[(k,some (.arr e E []))],[k]⟩)):AW P nt Ks x Q s:=by
 intro c ρ a w hc hK hr
 have hkk:∀k':Nat,aB [(k,some (Box.arr e E ([]:List α)))] k'=true→k'=k:=fun k' h=>by
  simp only [aB,Bool.or_false] at h
  exact (Nat.eq_of_beq_eq_true h).symm
 have hv:a.tmps.getD t undef = .slice none 0 0:=by have:=hr.tmp t;rw [ht] at this;exact this
 have hput:a.put (some t) (.slice none 0 0)=a:=by
  cases a with
  | mk tmps defers =>
   simp only [Act.put]
   congr 1
   apply Array.ext
   ·simp
   ·intro i h1 h2
    rw [Array.getElem_setIfInBounds]
    split
    ·rename_i h3
     subst h3
     rw [←hv]
     simp [Array.getD_eq_getD_getElem?,h2]
    ·rfl
 have h2:=hr.app (ρ':=upd ρ k (.slice none 0 0)) (w':=w) (dst:=some t) (v:=.slice none 0 0) (e:=⟨.c (.own k),[(k,some (.arr e E []))],[k]⟩) (fun d hd=>by injection hd with hd;subst hd;rw [hc];simpa using hnt)
  (fun k' hk=>by have h9:k'=k:=(by simp [aG] at hk;exact hk.symm);subst h9;exact ⟨hf,by simp [aB]⟩)
  (fun k' hk=>d8 (by simpa [aG] using hk)) (fun k' hk=>.inl (by rw [hkk k' hk];simp [aG])) (Frx.refl _ _)
  (fun k' bx g hk _ hg=>by rw [hkk k' hk,aN] at hg;cases hg) (fun k1 k2 b b' g h1 h2 _ _ _ _=>by rw [hkk k1 h1,hkk k2 h2]) (fun k' hk=>.inl (by simp [TV.has,V0.has,D.has] at hk;simp [aG,hk])) (fun k1 k2 bx hk hb hx=>by
   rw [hkk k2 hk] at hb
   simp only [Go.Proofs.YtdaajdflefnjfaaGreat.hput,Nat.beq_refl,cond_true,Option.some.injEq] at hb
   subst hb
   simp [Box.has] at hx)
  (fun k' bx hk hb=>by
   rw [hkk k' hk] at hb ⊢
   simp only [Go.Proofs.YtdaajdflefnjfaaGreat.hput,Nat.beq_refl,cond_true,Option.some.injEq] at hb
   subst hb
   rw [aN]
   exact ⟨[],World.ownsRow_nil _ _ _ _,rfl⟩)
  (aN _ _ _).symm
 rw [hput] at h2
 exact h c _ a w hc hK h2
def D.frz (d:D) (k:Nat) (r:D):D:=match d with
 | .own j=>bif j.beq k then r else .own j
 | .slb j n=>bif j.beq k then .any else .slb j n
 | .ptr j n=>bif j.beq k then .any else .ptr j n
 | .optr j m i n=>bif j.beq k then .any else .optr j m i n
 | .ocut j=>bif j.beq k then r else .ocut j
 | .osl j m a b f=>bif j.beq k then .any else .osl j m a b f
 | .clo f ks=>bif ks.any (fun j=>j.beq k) then .any else .clo f ks
 | d=>d
def V0.frz (x:V0) (k:Nat) (r:D):V0:=match x with
 | .one d=>.one (d.frz k r)
 | .ag l=>.ag (l.map (fun d=>D.frz d k r))
def TV.frz (x:TV) (k:Nat) (r:D):TV:=match x with
 | .v x=>.v (x.frz k r)
 | .tup l=>.tup (l.map (fun d=>V0.frz d k r))
def Box.frz (x:Box) (k:Nat) (r:D):Box:=match x with
 | .box t cs=>.box t (cs.map (fun d=>D.frz d k r))
 | b=>b
def Mst.frz (s:Mst) (k:Nat) (r:D):Mst:={ t:=fun t=>(s.t t).frz k r,h:=fun j=>bif j.beq k then none else (s.h j).map (fun d=>Box.frz d k r),f:=s.f }
theorem D.frz_has {k j:Nat} {α:Type} {E:El α} {l:List α} {d:D} (h:(d.frz k (.sl E l)).has j=true):d.has j=true:=by
 cases d with
 | own i=>have h0:=h;simp only [D.frz] at h0;clear h;revert h0;cases hb:i.beq k <;> intro h0 <;> first|exact h0|cases h0
 | slb i n=>have h0:=h;simp only [D.frz] at h0;clear h;revert h0;cases hb:i.beq k <;> intro h0 <;> first|exact h0|cases h0
 | ptr i n=>have h0:=h;simp only [D.frz] at h0;clear h;revert h0;cases hb:i.beq k <;> intro h0 <;> first|exact h0|cases h0
 | optr i m p n=>have h0:=h;simp only [D.frz] at h0;clear h;revert h0;cases hb:i.beq k <;> intro h0 <;> first|exact h0|cases h0
 | ocut i=>have h0:=h;simp only [D.frz] at h0;clear h;revert h0;cases hb:i.beq k <;> intro h0 <;> first|exact h0|cases h0
 | osl i m a b f=>have h0:=h;simp only [D.frz] at h0;clear h;revert h0;cases hb:i.beq k <;> intro h0 <;> first|exact h0|cases h0
 | clo f ks=>have h0:=h;simp only [D.frz] at h0;clear h;revert h0;cases hb:ks.any (fun j=>j.beq k) <;> intro h0 <;> first|exact h0|cases h0
 | _=>exact h
theorem D.frzL_has {k j:Nat} {α:Type} {E:El α} {l:List α} {ds:List D} (h:(ds.map (fun d=>D.frz d k (.sl E l))).any (D.has j)=true):ds.any (D.has j)=true:=by
 obtain ⟨d,h1,h2⟩:=List.any_eq_true.1 h
 obtain ⟨d0,h3,rfl⟩:=List.mem_map.1 h1
 exact List.any_eq_true.2 ⟨d0,h3,D.frz_has h2⟩
theorem V0.frz_has {k j:Nat} {α:Type} {E:El α} {l:List α} {d:V0} (h:(d.frz k (.sl E l)).has j=true):d.has j=true:=by
 cases d with
 | one d=>exact D.frz_has (d:=d) h
 | ag ds=>exact D.frzL_has (ds:=ds) h
theorem TV.frz_has {k j:Nat} {α:Type} {E:El α} {l:List α} {d:TV} (h:(d.frz k (.sl E l)).has j=true):d.has j=true:=by
 cases d with
 | v d=>exact V0.frz_has (d:=d) h
 | tup ds =>
  obtain ⟨d,h1,h2⟩:=List.any_eq_true.1 h
  obtain ⟨d0,h3,rfl⟩:=List.mem_map.1 h1
  exact List.any_eq_true.2 ⟨d0,h3,V0.frz_has h2⟩
theorem Box.frz_has {k j:Nat} {α:Type} {E:El α} {l:List α} {d:Box} (h:(d.frz k (.sl E l)).has j=true):d.has j=true:=by
 cases d with
 | box t ds=>exact D.frzL_has (ds:=ds) h
 | _=>exact h
theorem sd {x:Code} {α:Type} {e:TypeId} {E:El α} {l:List α} (k:Nat) (hk:s.h k=some (.arr e E l)) (h:AW P nt Ks x Q (s.frz k (.sl E l))):AW P nt Ks x Q s:=by
 intro c ρ a w hc hK hr
 refine h c ρ a w hc hK ?_
 have hh:∀j b,(s.frz k (.sl E l)).h j=some b→j.beq k=false∧∃b0,s.h j=some b0∧b=b0.frz k (.sl E l):=fun j b hb=>by
  simp only [Mst.frz] at hb
  cases hj:j.beq k with
  | true=>rw [hj] at hb;cases hb
  | false =>
   rw [hj] at hb
   cases hs:s.h j with
   | none=>simp only [cond_false,hs,Option.map_none] at hb;cases hb
   | some b0=>simp only [cond_false,hs,Option.map_some,Option.some.injEq] at hb;exact ⟨rfl,b0,rfl,hb.symm⟩
 have hF:∀b,Fz c s.h ρ w b→Fz c (s.frz k (.sl E l)).h ρ w b:=fun b ⟨f1,f2,f3⟩=>⟨f1,f2,fun j bx hj=>by obtain ⟨_,b0,h1,_⟩:=hh j bx hj;exact f3 j b0 h1⟩
 have hsl:∀{v:Value},(D.ocut k).rep w (Fz c s.h ρ w) ρ v→(D.sl E l).rep w (Fz c (s.frz k (.sl E l)).h ρ w) ρ v:=fun hv=>zw (h:=s.h) hr hk hv hF fun g hg=>⟨(hr.inb k _ g hk hg).imp (c.hX g) id,hr.ltb hk hg,fun j bx hj he=>by
  obtain ⟨h0,b0,h1,_⟩:=hh j bx hj
  have:=hr.dis k j _ b0 g hk h1 hg he
  subst this
  rw [Nat.beq_refl] at h0
  cases h0⟩
 have hD:∀{d:D} {v:Value},d.rep w (Fz c s.h ρ w) ρ v→(d.frz k (.sl E l)).rep w (Fz c (s.frz k (.sl E l)).h ρ w) ρ v:=fun {d v} hd=>by
  have hm:d.rep w (Fz c (s.frz k (.sl E l)).h ρ w) ρ v:=hd.mono (fun b hb=>⟨hF b hb,rfl⟩) fun _ _=>rfl
  cases d with
  | own j =>
   simp only [D.frz]
   cases hj:j.beq k with
   | false=>exact hm
   | true =>
    have hm:v=ρ j:=hm
    rw [hm,Nat.eq_of_beq_eq_true hj]
    exact hsl (nN hr hk rfl)
  | slb j n=>simp only [D.frz];cases hj:j.beq k with
   | false=>exact hm
   | true=>trivial
  | ptr j n=>simp only [D.frz];cases hj:j.beq k with
   | false=>exact hm
   | true=>trivial
  | optr j m i n=>simp only [D.frz];cases hj:j.beq k with
   | false=>exact hm
   | true=>trivial
  | osl j m i n f=>simp only [D.frz];cases hj:j.beq k with
   | false=>exact hm
   | true=>trivial
  | clo f ks=>simp only [D.frz];cases hj:ks.any (fun j=>j.beq k) with
   | false=>exact hm
   | true=>trivial
  | ocut j =>
   simp only [D.frz]
   cases hj:j.beq k with
   | false=>exact hm
   | true =>
    rw [Nat.eq_of_beq_eq_true hj] at hd
    exact hsl hd
  | _=>exact hm
 have hL:∀{ds:List D} {vs:List Value},All2 (D.rep w (Fz c s.h ρ w) ρ) ds vs→All2 (D.rep w (Fz c (s.frz k (.sl E l)).h ρ w) ρ) (ds.map (fun d=>D.frz d k (.sl E l))) vs:=fun {ds vs} h=>All2.mapL.2 (h.imp fun d v _ hd=>hD hd)
 have hV:∀{d:V0} {v:Value},d.rep w (Fz c s.h ρ w) ρ v→(d.frz k (.sl E l)).rep w (Fz c (s.frz k (.sl E l)).h ρ w) ρ v:=fun {d v} hd=>by
  cases d with
  | one d=>exact hD (d:=d) hd
  | ag ds=>obtain ⟨cs,e,h1⟩:=hd;exact ⟨cs,e,hL h1⟩
 refine ⟨hr.dfr,hr.siz,hr.frm,fun t=>?_,fun j b hj=>?_,fun j b g hj hg=>?_,fun j j' b b' g hj hj' hg hg'=>?_,hr.ent,⟨fun j hj=>?_,fun j t hj=>?_,fun j j' b hj hb=>?_⟩⟩
 ·have h1:=hr.tmp t
  show TV.rep _ _ _ ((s.t t).frz k (.sl E l)) _
  generalize s.t t=d at *
  cases d with
  | v d=>exact hV (d:=d) h1
  | tup ds=>obtain ⟨vs,e,h2⟩:=h1;exact ⟨vs,e,All2.mapL.2 (h2.imp fun d v _ hd=>hV hd)⟩
 ·obtain ⟨_,b0,h1,rfl⟩:=hh j b hj
  have h2:=hr.hp j b0 h1
  cases b0 with
  | box t cs=>obtain ⟨g,vs,e,hB,hA,h5⟩:=h2;exact ⟨g,vs,e,hB,hL hA,h5⟩
  | arr e' E' l'=>obtain ⟨xs,h3,h4⟩:=h2;exact ⟨xs,h3,h4.same (fun _ _=>rfl) hF⟩
  | mp l'=>exact h2
  | it k' n' l'=>exact h2
 ·obtain ⟨_,b0,h1,_⟩:=hh j b hj
  exact hr.inb j b0 g h1 hg
 ·obtain ⟨_,b0,h1,_⟩:=hh j b hj
  obtain ⟨_,b0',h1',_⟩:=hh j' b' hj'
  exact hr.dis j j' b0 b0' g h1 h1' hg hg'
 ·have hj:s.f j=true:=hj
  simp only [Mst.frz,hr.wf.h j hj,Option.map_none,Bool.cond_self]
 ·have hj:s.f j=true:=hj
  cases h9:((s.frz k (.sl E l)).t t).has j with
  | false=>rfl
  | true=>have:=TV.frz_has (d:=s.t t) h9;rw [hr.wf.t j t hj] at this;cases this
 ·have hj:s.f j=true:=hj
  obtain ⟨_,b0,h1,rfl⟩:=hh j' b hb
  cases h9:(b0.frz k (.sl E l)).has j with
  | false=>rfl
  | true=>have:=Box.frz_has h9;rw [hr.wf.b j j' b0 hj h1] at this;cases this
end
section
variable {P:Program} {s:Mst} {o:Oper} {α:Type} {E:El α} {l:List α} {e':TypeId}
theorem lY {c:Ctx} {st:Mst} {ρ:Nat→Value} {a:Act} {w:World} {F:Nat→Prop} (hr:Rp c st ρ a w) {k:Nat} (hk:st.h k=some (.arr e' E l)) {v:Value} (hv:(D.ocut k).rep w F ρ v) :
  ∃A cap cp,v = .slice A l.length cp∧(l.length≤cp∧cp≤cap∧cap≤maxLen)∧ρ k = .slice A l.length cap∧(0<l.length→∃g,A=some ⟨g,0,none⟩):=by
 obtain ⟨A0,n0,cap0,c0,hρ0,hc0,rfl⟩:=hv
 obtain ⟨A,cap,hA,hc,hp⟩:=dZ (hr.hp k _ hk)
 have hA':=hA
 rw [hρ0] at hA'
 injection hA' with e1 e2 e3
 subst e1
 subst e2
 subst e3
 exact ⟨A0,cap0,c0,rfl,⟨hc0.1,hc0.2,hc.2⟩,hρ0,fun h=>by obtain ⟨g,xs,rfl,_⟩:=hp h;exact ⟨g,rfl⟩⟩
theorem qr {t e:TypeId} {x y:Operand} {row:Bool} {n i k:Nat} {kd:IntKind} {z:Int} (ho:o.op = .indexAddr t x y) (hx:s.ev x = .c (.ocut k)) (hk:s.h k=some (.arr e' E l)) (hy:s.ev y = .c (.sc (.int kd z))) [SE P t e] [TI P e row n] (hn:E.n=n) (hz:z=(i:Int)) (hi:i<l.length) :
  LOp P o s [k] ⟨.c (.optr k n i 0),[],[]⟩ :=
 aZ fun c st ρ a w hr h1 h2=>by
  have he:=h1 x (by simp [ho,Op.operands])
  have he2:=h1 y (by simp [ho,Op.operands])
  rw [hx] at he
  rw [hy] at he2
  have hv:=hr.ev x
  rw [he] at hv
  have hv2:=hr.ev y
  rw [he2] at hv2
  have hv2:a.eval y = .int kd z:=hv2
  obtain ⟨A,cap,cp,hv,hc,hρ,hp⟩:=lY hr ((h2 k (by simp [aG])).trans hk) (show (D.ocut k).rep w (Fz c st.h ρ w) ρ (a.eval x) from hv)
  obtain ⟨g,rfl⟩:=hp (by omega)
  subst hz
  subst hn
  refine ⟨.pointer (some ⟨g,0+i*E.n,none⟩),by unfold execOp;rw [ho];simp only [hv,hv2,Sem.run_bind,iM w l.length cp i hi,Result.andThen_ok,Sem.run_pure],⟨g,_,_,hρ,by simp⟩,fun k' hk'=>hr.nf (x:=x) he (by simpa [TV.has,V0.has,D.has] using hk')⟩
theorem Cx {t e:TypeId} {x:Operand} {k:Nat} [SE P t e] (ho:o.op = .call { callee:=.builtin .len,args:=#[x],argTypes:=#[t] }) (hx:s.ev x = .c (.ocut k)) (hk:s.h k=some (.arr e' E l)):LOp P o s [k] ⟨.i l.length,[],[]⟩ :=
 im (ty:=0) ho fun c st ρ a w hr he h2=>by
  have hv:=hr.ev x
  rw [he,hx] at hv
  obtain ⟨A,cap,cp,hv,_⟩:=lY hr ((h2 k (by simp [aG])).trans hk) (show (D.ocut k).rep w (Fz c st.h ρ w) ρ (a.eval x) from hv)
  exact ⟨A,cp,hv⟩
theorem D5 {t e:TypeId} {x y z:Operand} {row:Bool} {n i k:Nat} (ho:o.op = .slice t x none (some y) (some z)) (hx:s.ev x = .c (.ocut k)) (hk:s.h k=some (.arr e' E l)) (hy:s.ev y = .i i) (hz:s.ev z = .i i) [I:SE P t e] [J:TI P e row n] (hn:E.n=n) (hi:i≤l.length) (h0:0<l.length) :
  LOp P o s [k] ⟨.c (.osl k n 0 i true),[],[]⟩ :=
 aZ fun c st ρ a w hr h1 h2=>by
  have he:=h1 x (by simp [ho,Op.operands])
  rw [hx] at he
  have hv:=hr.ev x
  rw [he] at hv
  have hv2:a.eval y = .int .i64 (i:Int):=by have:=hr.ev y;rwa [h1 y (by simp [ho,Op.operands]),hy] at this
  have hv3:a.eval z = .int .i64 (i:Int):=by have:=hr.ev z;rwa [h1 z (by simp [ho,Op.operands]),hz] at this
  obtain ⟨A,cap,cp,hv,hc,hρ,hp⟩:=lY hr ((h2 k (by simp [aG])).trans hk) (show (D.ocut k).rep w (Fz c st.h ρ w) ρ (a.eval x) from hv)
  obtain ⟨g,rfl⟩:=hp h0
  obtain ⟨j,hj,hjn⟩:∃j,P.info? e=some j∧j.size=n:=by
   have:=J.s
   cases h:P.info? e with
   | none=>simp [h] at this
   | some j=>exact ⟨j,rfl,by simpa [h] using this⟩
  subst hjn
  refine ⟨.slice (some ⟨g,0,none⟩) i i,?_,⟨g,_,_,i,⟨g,0,none⟩,hρ,⟨Nat.zero_le _,hi,by omega,by omega⟩,fun _=>by omega,by simp,fun _=>by simp⟩,fun k' hk'=>hr.nf (x:=x) he (by simpa [TV.has,V0.has,D.has] using hk')⟩
  unfold execOp
  rw [ho]
  have h3:i≤cp:=by omega
  by_cases hi0:i=0
  ·subst hi0
   simp [hv,hv2,hv3,Instr.sliceAt,Instr.slice,Instr.sliceBounds,Instr.sliceBound,asIntOf,run_underlying I.u,sizeOf,typeInfo,hj]
  ·simp [hv,hv2,hv3,Instr.sliceAt,Instr.slice,Instr.sliceBounds,Instr.sliceBound,asIntOf,run_underlying I.u,sizeOf,typeInfo,hj,h3,hi0,dQ]
theorem D6 {t e:TypeId} {x y:Operand} {row:Bool} {n j k:Nat} (ho:o.op = .slice t x (some y) none none) (hx:s.ev x = .c (.ocut k)) (hk:s.h k=some (.arr e' E l)) (hy:s.ev y = .i j) [I:SE P t e] [J:TI P e row n] (hn:E.n=n) (hj:j≤l.length) (h0:0<l.length) :
  LOp P o s [k] ⟨.c (.osl k n j l.length false),[],[]⟩ :=
 aZ fun c st ρ a w hr h1 h2=>by
  have he:=h1 x (by simp [ho,Op.operands])
  rw [hx] at he
  have hv:=hr.ev x
  rw [he] at hv
  have hv2:a.eval y = .int .i64 (j:Int):=by have:=hr.ev y;rwa [h1 y (by simp [ho,Op.operands]),hy] at this
  obtain ⟨A,cap,cp,hv,hc,hρ,hp⟩:=lY hr ((h2 k (by simp [aG])).trans hk) (show (D.ocut k).rep w (Fz c st.h ρ w) ρ (a.eval x) from hv)
  obtain ⟨g,rfl⟩:=hp h0
  obtain ⟨q,hq,hqn⟩:∃q,P.info? e=some q∧q.size=n:=by
   have:=J.s
   cases h:P.info? e with
   | none=>simp [h] at this
   | some q=>exact ⟨q,rfl,by simpa [h] using this⟩
  subst hqn
  have h3:j≤cp:=by omega
  refine ⟨.slice (some (if cp=j then ⟨g,0,none⟩ else ⟨g,j*q.size,none⟩)) (l.length-j) (cp-j),?_,⟨g,_,_,cp-j,_,hρ,⟨hj,Nat.le_refl _,by omega,by omega⟩,(fun h=>by cases h),rfl,fun h=>?_⟩,fun k' hk'=>hr.nf (x:=x) he (by simpa [TV.has,V0.has,D.has] using hk')⟩
  ·unfold execOp
   rw [ho]
   by_cases hi0:cp=j
   ·simp [hv,hv2,Instr.sliceAt,Instr.slice,Instr.sliceBounds,Instr.sliceBound,asIntOf,run_underlying I.u,sizeOf,typeInfo,hq,hi0,hj,h3]
    try omega
   ·simp [hv,hv2,Instr.sliceAt,Instr.slice,Instr.sliceBounds,Instr.sliceBound,asIntOf,run_underlying I.u,sizeOf,typeInfo,hq,hi0,hj,h3,dQ,hc.1]
  ·rcases h with h|h
   ·subst h;simp
   ·rw [if_neg (by omega)]
theorem cR {t e:TypeId} {row:Bool} {n:Nat} {z:Int} {x y:Operand} {L L':List α} [I:SE P t e] [J:TI P e row n] (ho:o.op = .slice t x (some y) none none) (hx:s.ev x = .c (.sl E L)) (hn:E.n=n) (hy:s.ev y = .i z) (h0:0≤z) (h1:z.toNat≤L.length) (hL:L.drop z.toNat=L'):LOp P o s [] ⟨.c (.sl E L'),[],[]⟩ :=
 pg ho hx hn (.inl ⟨y,rfl,by rw [hy,Int.toNat_of_nonneg h0]⟩) (.inr ⟨rfl,rfl⟩) h1 (Nat.le_refl _) (by rw [List.take_length];exact hL)
theorem se {t e:TypeId} {row:Bool} {n:Nat} {z:Int} {x y:Operand} {L L':List α} [I:SE P t e] [J:TI P e row n] (ho:o.op = .slice t x none (some y) none) (hx:s.ev x = .c (.sl E L)) (hn:E.n=n) (hy:s.ev y = .i z) (h0:0≤z) (h1:z.toNat≤L.length) (hL:L.take z.toNat=L'):LOp P o s [] ⟨.c (.sl E L'),[],[]⟩ :=
 pg ho hx hn (.inr ⟨rfl,rfl⟩) (.inl ⟨y,rfl,by rw [hy,Int.toNat_of_nonneg h0]⟩) (Nat.zero_le _) h1 (by rw [List.drop_zero];exact hL)
theorem xK {t e:TypeId} {x y:Operand} {row:Bool} {n:Nat} {kd:IntKind} {z:Int} (ho:o.op = .indexAddr t x y) (hx:s.ev x = .c (.sl E l)) (hy:s.ev y = .c (.sc (.int kd z))) [SE P t e] [TI P e row n] (hn:E.n=n) (h0:0≤z) (hi:z.toNat<l.length):LOp P o s [] ⟨.c (.eptr E l z.toNat 0),[],[]⟩ :=
 tU ho hx hy hn (Int.toNat_of_nonneg h0).symm hi
theorem vI {t e:TypeId} {x y:Operand} {row:Bool} {n k:Nat} {kd:IntKind} {z:Int} (ho:o.op = .indexAddr t x y) (hx:s.ev x = .c (.own k)) (hk:s.h k=some (.arr e' E l)) (hy:s.ev y = .c (.sc (.int kd z))) [SE P t e] [TI P e row n] (hn:E.n=n) (h0:0≤z) (hi:z.toNat<l.length):LOp P o s [k] ⟨.c (.optr k n z.toNat 0),[],[]⟩ :=
 p9 ho hx hk hy hn (Int.toNat_of_nonneg h0).symm hi
theorem vJ {t e:TypeId} {x y:Operand} {row:Bool} {n k:Nat} {kd:IntKind} {z:Int} (ho:o.op = .indexAddr t x y) (hx:s.ev x = .c (.ocut k)) (hk:s.h k=some (.arr e' E l)) (hy:s.ev y = .c (.sc (.int kd z))) [SE P t e] [TI P e row n] (hn:E.n=n) (h0:0≤z) (hi:z.toNat<l.length):LOp P o s [k] ⟨.c (.optr k n z.toNat 0),[],[]⟩ :=
 qr ho hx hk hy hn (Int.toNat_of_nonneg h0).symm hi
theorem zH {t e by_ n i j k k':Nat} {x y:Operand} {l':List α} [T:ST P E t e by_] (ho:o.op = .call { callee:=.builtin .append,args:=#[x,y],argTypes:=#[t,t] }) (hdk:o.dst=some k') (hx:s.ev x = .c (.osl k n 0 i true)) (hy:s.ev y = .c (.osl k n j l.length false)) (hk:s.h k=some (.arr e E l))
  (hn:E.n=n) (hi:i≤l.length) (hj:j≤l.length) (hl':l.take i++l.drop j=l') (hlen:i+(l.length-j)≤maxLen) (hby:(i+(l.length-j))*by_≤140737488355328):LOp P o s [k] ⟨.c (.ocut k'),[(k',some (.arr e E l')),(k,none)],[k']⟩:=by
 intro c st ρ a w hr h1 h2 h3 h4
 subst hl'
 subst hn
 have hfk:st.f k'=true:=h3 k' (by simp [aG])
 have hk2:=(h2 k (by simp [aG])).trans hk
 have hne:k'.beq k=false:=by
  cases h9:k'.beq k with
  | false=>rfl
  | true=>rw [←Nat.eq_of_beq_eq_true h9,hr.wf.h k' hfk] at hk2;cases hk2
 have hv1:=hr.ev x
 rw [h1 x (by simp [ho,Op.operands,Call.operands]),hx] at hv1
 obtain ⟨g,nn,cap,c1,A1,hρ1,⟨_,b2,b3,b4⟩,b5,hv1,b6⟩:=(show (D.osl k E.n 0 i true).rep w (Fz c st.h ρ w) ρ (a.eval x) from hv1)
 have hv2:=hr.ev y
 rw [h1 y (by simp [ho,Op.operands,Call.operands]),hy] at hv2
 obtain ⟨g2,nn2,cap2,c2,A2,hρ2,⟨d1,d2,d3,d4⟩,_,hv2,d6⟩:=(show (D.osl k E.n j l.length false).rep w (Fz c st.h ρ w) ρ (a.eval y) from hv2)
 rw [hρ1] at hρ2
 injection hρ2 with e1 e2 e3
 injection e1 with e1
 injection e1 with e1
 subst e1
 subst e2
 subst e3
 obtain rfl:A1=⟨g,0,none⟩:=by have:=b6 (.inl rfl);simpa using this
 obtain rfl:c1=i:=by have:=b5 rfl;omega
 obtain ⟨xs,hown,hreps⟩:=hr.hp k _ hk2
 have hxl:=hown.1
 have hpos:=E.pos
 obtain ⟨g3,cap3,cur,hq,_,hh,hnc,hcm,hcs,ht⟩:∃g' cap' cur,ρ k = .slice (some ⟨g',0,none⟩) l.length cap'∧0≤g'∧w.heap[g']? = some (.cells cur e (0,0))∧l.length≤cap'∧cap'≤maxLen∧cur.size=cap'*E.n∧cur.toList.take (l.length*E.n)=xs:=by
  rcases hown.2 with ⟨hv,_⟩|⟨g',cap',cur,hv,h0,hh,r⟩
  ·rw [hρ1] at hv;cases hv
  ·exact ⟨g',cap',cur,hv,h0,hh,r⟩
 rw [hρ1] at hq
 injection hq with e1 e2 e3
 injection e1 with e1
 injection e1 with e1
 subst e1
 subst e2
 subst e3
 have hcell:∀q u,xs[q]? = some u→w.cell? ⟨g,q,none⟩=some u:=fun q u hu=>by
  rw [cell_of_row w g q cur e (0,0) hh,←Array.getElem?_toList]
  rw [←ht,List.getElem?_take] at hu
  split at hu
  ·exact hu
  ·cases hu
 have hkb:kb (ρ k)=some g:=by rw [hρ1];rfl
 have key:∃v' vg w' zs,(execOp a.eval o).run P w = .ok (.value v') w'∧Below w.heap.size w w'∧w'.ownsRow 0 e E.n vg (l.take c1++l.drop j).length zs∧Reps E w (Fz c st.h ρ w) (l.take c1++l.drop j) zs∧(∃A n cap c,vg = .slice A n cap∧(n≤c∧c≤cap)∧v' = .slice A n c)∧∀g',kb vg=some g'→g'<w'.heap.size∧(w.heap.size≤g'∨g'=g):=by
  have hr1:Reps E w (Fz c st.h ρ w) (l.take c1) (xs.take (c1*E.n)):=hreps.take c1
  have hr2:Reps E w (Fz c st.h ρ w) (l.drop j) (xs.drop (j*E.n)):=hreps.drop j
  have hl1:(xs.take (c1*E.n)).length=c1*E.n:=by rw [List.length_take,hxl];exact Nat.min_eq_left (Nat.mul_le_mul_right _ hi)
  have hl2:(xs.drop (j*E.n)).length=(l.length-j)*E.n:=by rw [List.length_drop,hxl,Nat.sub_mul]
  have hlr:(l.take c1++l.drop j).length=c1+(l.length-j):=by simp [Nat.min_eq_left hi]
  obtain ⟨ti,z,hi1,hi2,hi3,hi4,hi5⟩:=T.T.info
  have hexec:∀v' w',(Builtin.append_ #[t,t] o.type #[.slice (some ⟨g,0,none⟩) c1 c1,.slice (some A2) (l.length-j) c2]).run P w = .ok v' w'→(execOp a.eval o).run P w = .ok (.value v') w':=fun v' w' hrun=>by
   unfold execOp
   simp only [ho,resolve,invoke,builtin,Sem.run_bind,Sem.run_pure,Result.andThen_ok,List.map_toArray,List.map_cons,List.map_nil,hv1,hv2,Nat.sub_zero,hrun]
  by_cases hm:l.length-j=0
  ·have hd:l.drop j=[]:=List.drop_eq_nil_of_le (by omega)
   have hrun:=run_append_room_cells (P:=P) w t o.type e ti T.T.under hi1 g 0 c1 c1 A2 0 c2 [] (by simp) (by simp) (by simp) (by omega) (by simp) (by simp)
   rw [hm] at hexec
   refine ⟨_,.slice (some ⟨g,0,none⟩) c1 cap,w,xs.take (c1*E.n),hexec _ _ hrun,Below.refl _ _,⟨by rw [hlr,hm,hl1];rfl,.inr ⟨g,cap,cur,by rw [hlr,hm];rfl,Nat.zero_le _,hh,by rw [hlr,hm];omega,hcm,hcs,?_⟩⟩,by rw [hd,List.append_nil];exact hr1,⟨some ⟨g,0,none⟩,c1,cap,c1,rfl,⟨Nat.le_refl _,by omega⟩,rfl⟩,fun g' hg'=>?_⟩
   ·rw [hlr,hm,←ht,List.take_take,Nat.min_eq_left (Nat.mul_le_mul_right _ (by omega))];rfl
   ·injection hg' with hg'
    subst hg'
    exact ⟨(Array.getElem?_eq_some_iff.1 hh).1,.inr rfl⟩
  ·obtain rfl:A2=⟨g,j*E.n,none⟩:=d6 (.inr (by omega))
   obtain ⟨v',w',hrun,hown',hgr⟩:=run_append_arg_grows (P:=P) w t o.type e ti z E.n by_ T.T.under hi1 hi2 hi3 hi5 hi4 hpos ⟨g,0,none⟩ c1 c1 (xs.take (c1*E.n)) hl1 (fun q u hu=>by
    rw [dQ,Nat.zero_add]
    rw [List.getElem?_take] at hu
    split at hu
    ·exact hcell q u hu
    ·cases hu) ⟨g,j*E.n,none⟩ (l.length-j) c2 (xs.drop (j*E.n)) hl2 (fun q u hu=>by
    rw [dQ]
    rw [List.getElem?_drop] at hu
    exact hcell _ u hu) (by omega) hlen hby
   have hform:∃g' cap',v' = .slice (some ⟨g',0,none⟩) (c1+(l.length-j)) cap'∧w.heap.size≤g'∧g'<w'.heap.size∧c1+(l.length-j)≤cap':=by
    rcases hown'.2 with ⟨_,hz⟩|⟨g',cap',cur',hv,hb,hh',hnc',_⟩
    ·omega
    ·exact ⟨g',cap',hv,hb,(Array.getElem?_eq_some_iff.1 hh').1,hnc'⟩
   obtain ⟨g',cap',rfl,hb1,hb2,hb3⟩:=hform
   refine ⟨_,_,w',_,hexec _ _ hrun,⟨hgr.os,hgr.tape,hgr.output,hgr.size,fun b hb=>hgr.block b hb (by simp)⟩,by rw [hlr];exact ⟨hown'.1,hown'.2.imp id fun ⟨a1,a2,a3,a4,_,a6⟩=>⟨a1,a2,a3,a4,Nat.zero_le _,a6⟩⟩,hr1.append hr2,⟨_,_,cap',cap',rfl,⟨hb3,Nat.le_refl _⟩,rfl⟩,fun q hq=>?_⟩
   injection hq with hq
   subst hq
   exact ⟨hb2,.inl hb1⟩
 obtain ⟨v',vg,w',zs,hrun,hB,hown',hreps',⟨A',n',cap',c',hvg,hcc,hv'⟩,hg'⟩:=key
 have hky:∀n,aB [(k',some (Box.arr e E (l.take c1++l.drop j))),(k,none)] n=true↔n=k'∨n=k:=fun n=>by
  simp only [aB,Bool.or_false,Bool.or_eq_true]
  constructor
  ·rintro (h|h)
   ·exact .inl (Nat.eq_of_beq_eq_true h).symm
   ·exact .inr (Nat.eq_of_beq_eq_true h).symm
  ·rintro (rfl|rfl)
   ·exact .inl (Nat.beq_refl _)
   ·exact .inr (Nat.beq_refl _)
 have hputk:hput [(k',some (Box.arr e E (l.take c1++l.drop j))),(k,none)] st.h k'=some (.arr e E (l.take c1++l.drop j)):=by simp [hput]
 have hputr:hput [(k',some (Box.arr e E (l.take c1++l.drop j))),(k,none)] st.h k=none:=by simp [hput,hne]
 have hsm:∀n bx,aB [(k',some (Box.arr e E (l.take c1++l.drop j))),(k,none)] n=true→hput [(k',some (Box.arr e E (l.take c1++l.drop j))),(k,none)] st.h n=some bx→n=k'∧bx = .arr e E (l.take c1++l.drop j):=fun n bx hn hb=>by
  rcases (hky n).1 hn with rfl|rfl
  ·rw [hputk] at hb;exact ⟨rfl,(Option.some.inj hb).symm⟩
  ·rw [hputr] at hb;cases hb
 have hFz:∀b,Fz c st.h ρ w b→Fz c (hput [(k',some (Box.arr e E (l.take c1++l.drop j))),(k,none)] st.h) (upd ρ k' vg) w' b∧w'.heap[b]? = w.heap[b]?:=fun b hb=>by
  refine ⟨⟨hb.1,Nat.lt_of_lt_of_le hb.2.1 hB.size,fun n bx hn he=>?_⟩,hB.block b hb.2.1⟩
  cases h9:aB [(k',some (Box.arr e E (l.take c1++l.drop j))),(k,none)] n with
  | true =>
   obtain ⟨rfl,_⟩:=hsm n bx h9 hn
   rw [aN] at he
   rcases (hg' b he).2 with h|h
   ·have:=hb.2.1;omega
   ·subst h
    exact hb.2.2 k _ hk2 hkb
  | false =>
   rw [bM h9] at hn
   have hkn:k'.beq n=false:=by
    cases h8:k'.beq n with
    | false=>rfl
    | true=>rw [←Nat.eq_of_beq_eq_true h8,hr.wf.h k' hfk] at hn;cases hn
   rw [d8 hkn] at he
   exact hb.2.2 n bx hn he
 refine Oper.wp_value hrun ⟨upd ρ k' vg,hr.app (e:=⟨.c (.ocut k'),[(k',some (.arr e E (l.take c1++l.drop j))),(k,none)],[k']⟩) h4 (fun n hn=>?_) (fun n hn=>d8 (by simpa [aG] using hn)) (fun n hn=>?_) (Frx.below hB) (fun n bx g' hn hb hg=>?_) (fun n n' b b' g' hn hn' hb hb' _ _=>?_) (fun n hn=>.inl ?_) (fun n n' bx hn hb hx2=>?_) (fun n bx hn hb=>?_) ?_⟩
 ·have:n=k':=by simp [aG] at hn;exact hn.symm
  subst this
  exact ⟨hfk,(hky n).2 (.inl rfl)⟩
 ·rcases (hky n).1 hn with rfl|rfl
  ·exact .inl (by simp [aG])
  ·exact .inr (hr.nfh hk2)
 ·obtain ⟨rfl,_⟩:=hsm n bx hn hb
  rw [aN] at hg
  exact ⟨(hg' g' hg).1,(hg' g' hg).2.imp id fun h=>by subst h;exact ⟨k,_,(hky k).2 (.inr rfl),hk2,hkb⟩⟩
 ·rw [(hsm n b hn hb).1,(hsm n' b' hn' hb').1]
 ·have:n=k':=by simp [TV.has,V0.has,D.has] at hn;exact hn.symm
  subst this
  simp [aG]
 ·rw [(hsm n' bx hn hb).2] at hx2
  simp [Box.has] at hx2
 ·obtain ⟨rfl,rfl⟩:=hsm n bx hn hb
  rw [aN]
  exact ⟨zs,hown',hreps'.same (fun b hb=>(hFz b hb).2) fun b hb=>(hFz b hb).1⟩
 ·exact ⟨A',n',cap',c',(aN ρ k' vg).trans hvg,hcc,hv'⟩
theorem D7 {x y z:Operand} {b:Bool} {v:V0} (ho:o.op = .pick x y z) (hx:s.ev x = .b b) (hv:(bif b then s.ev y else s.ev z) = .v v):LOp P o s [] ⟨.v v,[],[]⟩ :=
 aZ fun c st ρ a w hr h1 _=>by
  have he:=h1 x (by simp [ho,Op.operands])
  rw [hx] at he
  have hb:a.eval x = .bool b:=by have:=hr.ev x;rwa [he] at this
  cases b with
  | true =>
   have he2:=h1 y (by simp [ho,Op.operands])
   rw [show s.ev y = .v v from hv] at he2
   exact ⟨a.eval y,by unfold execOp;rw [ho];simp [hb,asBool],by have:=hr.ev y;rwa [he2] at this,fun k hk=>hr.nf he2 hk⟩
  | false =>
   have he2:=h1 z (by simp [ho,Op.operands])
   rw [show s.ev z = .v v from hv] at he2
   exact ⟨a.eval z,by unfold execOp;rw [ho];simp [hb,asBool],by have:=hr.ev z;rwa [he2] at this,fun k hk=>hr.nf he2 hk⟩
theorem lZ {t e k n by_:Nat} {x y:Operand} {z:Value} {y0:α} (I:P.underlying t=some (.slice e)) (hI:(P.info? e).map (fun i=>(i.zero,i.size,i.bytes))=some (some z,1,by_)) (hz:z.cells = #[z]) (hb:by_≤64) (hE:E.n=1) (hy0:∀w S,E.rep w S y0 [z])
  (ho:o.op = .makeSlice t x y) (hdk:o.dst=some k) (hx:s.ev x = .i n) (hy:s.ev y = .i n) (hn:n≤1000000):LOp P o s [] ⟨.c (.own k),[(k,some (.arr e E (List.replicate n y0)))],[k]⟩:=by
 intro c st ρ a w hr h1 h2 h3 h4
 have hv1:a.eval x = .int .i64 (n:Int):=by have:=hr.ev x;rwa [h1 x (by simp [ho,Op.operands]),hx] at this
 have hv2:a.eval y = .int .i64 (n:Int):=by have:=hr.ev y;rwa [h1 y (by simp [ho,Op.operands]),hy] at this
 have hfk:st.f k=true:=h3 k (by simp [aG])
 have hrun:=Jq (P:=P) t e z by_ I hI hz hb n hn w
 have ho1:=World.ownsRow_lit (e:=e) (size:=E.n) (base:=0) w (madeCells #[z] n) n (Nat.zero_le _) (by simp only [maxLen];omega) (by rw [size_madeCells,hE,Nat.mul_one])
 rw [toList_madeCells_one] at ho1
 have hgen:∀(S:Nat→Prop) (q:Nat),Reps E (w.alloc (.cells (madeCells #[z] n) e)) S (List.replicate q y0) (List.replicate q z):=by
  intro S q
  induction q with
  | zero=>rfl
  | succ q ih=>exact ⟨[z],List.replicate q z,rfl,hy0 _ _,ih⟩
 have hkk:∀k':Nat,aB [(k,some (Box.arr e E (List.replicate n y0)))] k'=true→k'=k:=fun k' h=>by
  simp only [aB,Bool.or_false] at h
  exact (Nat.eq_of_beq_eq_true h).symm
 refine Oper.wp_value (v:=.slice (some ⟨w.heap.size,0,none⟩) n n) (w':=w.alloc (.cells (madeCells #[z] n) e)) ?_ ⟨upd ρ k (.slice (some ⟨w.heap.size,0,none⟩) n n),hr.app (e:=⟨.c (.own k),[(k,some (.arr e E (List.replicate n y0)))],[k]⟩) h4 (fun k' h=>?_) (fun k' h=>?_) (fun k' h=>.inl ?_) (Frx.alloc _ _ _) (fun k' bx g' h _ hg'=>?_) (fun k1 k2 _ _ _ h h' _ _ _ _=>?_) (fun k' h=>.inl ?_) (fun k1 k2 bx h hp hx=>?_) (fun k2 bx h hp=>?_) ?_⟩
 ·unfold execOp
  rw [ho]
  simp only [hv1,hv2,Sem.run_bind,hrun,Result.andThen_ok,Sem.run_pure]
 ·have:k'=k:=by simp [aG] at h;exact h.symm
  subst this
  exact ⟨hfk,by simp [aB]⟩
 ·exact d8 (by simpa [aG] using h)
 ·rw [hkk k' h];simp [aG]
 ·rw [hkk k' h,aN] at hg'
  injection hg' with hg'
  subst hg'
  exact ⟨by simp,.inl (Nat.le_refl _)⟩
 ·rw [hkk k1 h,hkk k2 h']
 ·have:k'=k:=by simp [TV.has,V0.has,D.has] at h;exact h.symm
  subst this;simp [aG]
 ·rw [hkk k2 h] at hp
  simp only [hput,Nat.beq_refl,cond_true,Option.some.injEq] at hp
  subst hp
  simp [Box.has] at hx
 ·rw [hkk k2 h] at hp ⊢
  simp only [hput,Nat.beq_refl,cond_true,Option.some.injEq] at hp
  subst hp
  rw [aN]
  exact ⟨List.replicate n z,by rw [List.length_replicate];exact ho1,hgen _ n⟩
 ·exact (aN _ _ _).symm
end
def MR:Op→Nat
 | .move _=>1
 | .assign _=>2
 | .load ..=>3
 | .store ..=>4
 | .fieldAddr ..=>5
 | .indexAddr ..=>6
 | .call c=>match c.callee with
  | .builtin .len=>7
  | .builtin .append=>8
  | _=>9
 | .binOp ..=>10
 | .unOp ..=>11
 | .build ..=>12
 | .buildSlice ..=>13
 | .slice ..=>14
 | .extract ..=>15
 | .field ..=>16
 | .alloc _=>17
 | .box ..=>18
 | .pick ..=>19
 | .makeSlice ..=>20
 | .nilCheck _=>21
 | .makeMap ..=>22
 | .lookup ..=>23
 | .mapUpdate ..=>24
 | .range ..=>25
 | .next ..=>26
 | .entry ..=>27
 | _=>0
section
variable {P:Program} {nt:Nat} {Ks:List Nat} {Q:Exit→Mst→Prop} {s:Mst} {K:Mst→Prop} {ops:Array Oper} {draw:Bool} {o:Oper} {l:List Oper} {acc:List (List Nat×List Nat)} {x:Code}
theorem KJ {l:List Oper} (h:DA P ops draw l acc s K):DA P ops draw l acc s K:=h
theorem KK (h:AW P nt Ks x Q s):AW P nt Ks x Q s:=h
theorem xL {t:Nat} {b:Bool} (h:s.t t = .b b):s.app (some t) ⟨.b b,[],[]⟩=s:=by
 cases s with
 | mk st sh sf =>
  simp only [Mst.app,hput,aG,Bool.not_false,Bool.and_true,Mst.mk.injEq,and_true]
  funext n
  simp only [lg]
  cases hn:t.beq n with
  | false=>rfl
  | true=>rw [←Nat.eq_of_beq_eq_true hn];exact h.symm
theorem D8 {j t:Nat} {want b:Bool} (hg:o.guard=some (j,want)) (hj:(ops[j]?).bind (·.dst)=some t) (ht:s.t t = .b b) (h1:b=true→DA P ops draw (o :: l) acc (s.app (some t) ⟨.b true,[],[]⟩) K) (h2:b=false→DA P ops draw (o :: l) acc (s.app (some t) ⟨.b false,[],[]⟩) K):DA P ops draw (o :: l) acc s K:=by
 cases b with
 | true=>have:=h1 rfl;rwa [xL ht] at this
 | false=>have:=h2 rfl;rwa [xL ht] at this
theorem aa (n:Nat) (_:MR o.op=n) (h:DA P ops draw (o :: l) acc s K):DA P ops draw (o :: l) acc s K:=h
end
end Go.Proofs.YtdaajdflefnjfaaGreat
