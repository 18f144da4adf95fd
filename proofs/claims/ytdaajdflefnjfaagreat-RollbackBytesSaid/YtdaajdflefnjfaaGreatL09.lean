/- Part 9 of 24 of the proof of rollbackBytes_holds (no condition). -/
import Derived.Test.YtdaajdflefnjfaaGreatL08
set_option linter.unusedVariables false
set_option linter.unusedSimpArgs false
set_option maxRecDepth 100000
set_option maxHeartbeats 64000000
namespace Go.Proofs.YtdaajdflefnjfaaGreat
open Go.RowKit
theorem aS {P:Program} {f:FuncId} {args:List V0} {res:TV} (hen:∀(vs:Array Value) (w:World),(callFunc f vs).run P w = .ok (.enter f vs) w) (hok:AC args [] [] res []=true)
  (h:∀(w:World) (S:Nat→Prop) (ρ:Nat→Value) (vs:List Value),In w S→All2 (V0.rep w S ρ) args vs→Calls P f vs.toArray w fun e w'=>∃v,e = .returned v∧Below w.heap.size w w'∧res.rep w' (Gr S w.heap.size w') ρ v):FSpec P f args [] [] res []:=by
 refine ⟨hen,fun q c st ρ a w vs hr _ hargs _ _=>?_⟩
 simp only [AC,Bool.and_eq_true] at hok
 obtain ⟨⟨⟨⟨⟨⟨o1,_⟩,_⟩,_⟩,_⟩,o6⟩,_⟩:=hok
 have hnok:∀d∈args,∀k,d.has k=true→False:=fun d hd k hk=>by have:=V0.in_has (List.all_eq_true.1 o1 d hd) hk;simp [av,aF] at this
 have hnor:∀k,res.has k=true→False:=fun k hk=>by have:=TV.in_has o6 hk;simp [av,aF] at this
 have hargs':All2 (V0.rep w (Fz c st.h ρ w) ρ) args vs:=hargs.imp fun d v hd h1=>(V0.rep_ren (ρ':=ρ) fun k hk=>(hnok d hd k hk).elim).1 h1
 refine (h w (Fz c st.h ρ w) ρ vs (fun b hb=>hb.2.1) hargs').mono ?_
 rintro e w' ⟨v,rfl,hb,hv⟩
 refine ⟨v,rfl,fun dst hdst=>⟨ρ,hr.app (e:=⟨res.ren q,fu q [],[].map q⟩) hdst (fun k hk=>by simp [aF] at hk) (fun _ _=>rfl) (fun k hk=>by simp [fu,aA] at hk) (Frx.below hb) (fun k bx g hk=>by simp [fu,aA] at hk) (fun k k' b b' g hk=>by simp [fu,aA] at hk) (fun k hk=>?_) (fun k k' bx hk=>by simp [fu,aA] at hk) (fun k bx hk=>by simp [fu,aA] at hk) ?_⟩⟩
 ·obtain ⟨k',hk',_⟩:=TV.has_ren hk
  exact (hnor k' hk').elim
 ·refine ((TV.rep_ren (ρ':=ρ) fun k hk=>(hnor k hk).elim).2 hv).mono (fun b hb2=>⟨⟨?_,hb2.1,fun k bx hk he=>?_⟩,rfl⟩) fun _ _=>rfl
  ·rcases hb2.2 with h1|h1
   ·exact h1.1
   ·exact .inr (Nat.le_trans hr.frm.size h1)
  ·have hk:st.h k=some bx:=hk
   rcases hb2.2 with h1|h1
   ·exact h1.2.2 k bx hk he
   ·have:=hr.ltb hk he
    omega
theorem vO {w:World} {F:Nat→Prop} {ρ:Nat→Value} {ds:List D} {l:List Value} {v:Value} (hs:scs ds=some l) (h:(V0.ag ds).rep w F ρ v):v = .agg l.toArray:=by
 obtain ⟨vs,rfl,h1⟩:=h
 rw [i4 hs h1]
theorem lM {w w':World} {S:Nat→Prop} {ρ:Nat→Value} {v:Value} {e:Ending} (h:BB w v e w'):∃u,e = .returned u∧Below w.heap.size w w'∧(TV.c (.sc v)).rep w' (Gr S w.heap.size w') ρ u:=⟨v,h.1,h.2,rfl⟩
theorem ig {w w':World} {S:Nat→Prop} {ρ:Nat→Value} {α:Type} {t:TypeId} {l:List α} {e:Ending} {n:Nat} {pos:0<n} {f:α→List Value} {len:∀x,(f x).length=n} {one:∀x,∀u∈f x,u.oneCell'=true} (h:jk (El.plain n pos f len one) t w l e w') :
  ∃u,e = .returned u∧Below w.heap.size w w'∧(TV.c (.sl (El.plain n pos f len one) l)).rep w' (Gr S w.heap.size w') ρ u:=by
 obtain ⟨v,rfl,hown,hb⟩:=h
 obtain ⟨A,cap,rfl,hr,h1,h2⟩:=OwnRows.nw hown
 exact ⟨_,rfl,hb,A,cap,rfl,⟨h1,h2⟩,hr.grNew⟩
def D.okb:D→Bool
 | .sc x=>x.oneCell'
 | .sl ..=>true
 | _=>false
theorem D.okb_has {d:D} (h:d.okb=true) (k:Nat):d.has k=false:=by cases d <;> first|rfl|cases h
theorem D.okb_one {w:World} {F:Nat→Prop} {ρ:Nat→Value} {d:D} {v:Value} (h:d.okb=true) (hd:d.rep w F ρ v):v.oneCell'=true:=by
 cases d with
 | sc x=>have hd:v=x:=hd;rw [hd];exact h
 | sl E l=>obtain ⟨A,cap,rfl,_⟩:=hd;rfl
 | _=>cases h
def El.ofD {α:Type} (n:Nat) (pos:0<n) (f:α→List D) (len:∀x,(f x).length=n) (ok:∀x,(f x).all D.okb=true):El α where
 n:=n
 pos:=pos
 rep:=fun w S x cs=>All2 (D.rep w S fun _=>undef) (f x) cs
 len:=fun h=>by rw [←h.length,len]
 one:=fun {w S x cs} h=>rI h fun d hd u hu=>D.okb_one (List.all_eq_true.1 (ok x) d hd) hu
 same:=fun {w w' S S' x cs} h hk hS=>h.imp fun d v hd h1=>D.rep.mono h1 (fun b hb=>⟨hS b hb,hk b hb⟩) fun _ _=>rfl
@[reducible] def My {α:Type} (n:Nat) (pos:0<n) (f:α→List D) (len:∀x,(f x).length=n) (ok:∀x,(f x).all D.okb=true):Dp (El.ofD n pos f len ok) where
 deep:=f
 get:=fun {w F ρ x cs} h=>All2.imp (R:=D.rep w F fun _=>undef) h fun d v hd h1=>D.rep.mono h1 (fun b hb=>⟨hb,rfl⟩) fun k hk=>by rw [D.okb_has (List.all_eq_true.1 (ok x) d hd) k] at hk;cases hk
 put:=fun {w F ρ x cs} h=>h.imp fun d v hd h1=>D.rep.mono h1 (fun b hb=>⟨hb,rfl⟩) fun k hk=>by rw [D.okb_has (List.all_eq_true.1 (ok x) d hd) k] at hk;cases hk
 nok:=fun x k=>by
  rw [Bool.eq_false_iff]
  intro h
  obtain ⟨d,hd,h1⟩:=List.any_eq_true.1 h
  rw [D.okb_has (List.all_eq_true.1 (ok x) d hd) k] at h1
  cases h1
def Pr.a (p:Pr):V0:=.ag [.sc (.int .i64 p.site),.sc (.int .i64 p.inc),.sc (.int .i64 p.num)]
def Am.a (x:Am):V0:=.ag [.sc (.int .i64 x.mode),.sc (.int .i64 x.units)]
def Tm.a (x:Tm):V0:=.ag [.sc (.string x.name),.sc (.int .i64 x.am.mode),.sc (.int .i64 x.am.units)]
def Rs.a (r:Rs):V0:=.ag [.sc (.string r.name),.sc (.int .i64 r.kind),.sc (.int .i64 r.units),.sc (.int .i64 r.home)]
def Qu.d (q:Qu):List D:=[.sc (.string q.res.name),.sc (.int .i64 q.res.kind),.sc (.int .i64 q.res.units),.sc (.int .i64 q.res.home),.sl oS q.holds,.sl oV q.convs,.sl oV q.waits,.sc (.int .i64 q.gen)]
def Qu.a (q:Qu):V0:=.ag q.d
def ji:El Qu:=El.ofD 8 (by decide) Qu.d (fun _=>rfl) fun _=>rfl
instance:Dp ji:=My _ _ _ _ _
def Ex.d (d:Nat) (x:Ex):List D:=[.sc (.int .i64 x.k),.sc (.string x.atom.name),.sc (.int .i64 x.atom.am.mode),.sc (.int .i64 x.atom.am.units),.sl (qP d) x.kids]
def Ex.a (d:Nat) (x:Ex):V0:=.ag (x.d d)
def Lg.a (l:Lg):V0:=.ag [.sl iR l.entries,.sl iN l.saves]
def Pc.a (d:Nat) (x:Pc):V0:=.ag (x.d d)
def En.a (x:En):V0:=.ag [.sc (.string x.name),.sc (.int .i64 x.before.mode),.sc (.int .i64 x.before.units),.sc (.int .i64 x.after.mode),.sc (.int .i64 x.after.units)]
def Rq.d (d:Nat) (r:Rq):List D:=[.sc (.int .i64 r.expr.k),.sc (.string r.expr.atom.name),.sc (.int .i64 r.expr.atom.am.mode),.sc (.int .i64 r.expr.atom.am.units),.sl (qP d) r.expr.kids,.sc (.int .i64 r.prio),.sc (.int .i64 r.limit)]
def Rq.a (d:Nat) (r:Rq):V0:=.ag (r.d d)
section
variable {w:World} {S:Nat→Prop} {ρ:Nat→Value} {v:Value}
theorem Pr.open {p:Pr} (h:p.a.rep w S ρ v):v=p.val:=vO rfl h
theorem Am.open {p:Am} (h:p.a.rep w S ρ v):v=p.val:=vO rfl h
theorem Rs.open {p:Rs} (h:p.a.rep w S ρ v):v=p.val:=vO rfl h
theorem Qu.open {q:Qu} (h:q.a.rep w S ρ v):∃A1 A2 A3 c1 c2 c3,v=q.val A1 A2 A3 c1 c2 c3∧QS w S A1 A2 A3 q∧(q.holds.length≤c1∧c1≤maxLen)∧(q.convs.length≤c2∧c2≤maxLen)∧(q.waits.length≤c3∧c3≤maxLen):=by
 obtain ⟨cs,rfl,h⟩:=h
 match cs,h with
 | [_,_,_,_,_,_,_,_],⟨rfl,rfl,rfl,rfl,⟨A1,c1,rfl,h1,r1⟩,⟨A2,c2,rfl,h2,r2⟩,⟨A3,c3,rfl,h3,r3⟩,rfl,_⟩ =>
  exact ⟨A1,A2,A3,c1,c2,c3,rfl,⟨r1,r2,r3,Nat.le_trans h1.1 h1.2,Nat.le_trans h2.1 h2.2,Nat.le_trans h3.1 h3.2⟩,h1,h2,h3⟩
theorem Ex.open {d:Nat} {x:Ex} (h:(x.a d).rep w S ρ v):∃A c,v=x.val A c∧RowsAt (qP d) w S A x.kids∧(x.kids.length≤c∧c≤maxLen):=by
 obtain ⟨cs,rfl,h⟩:=h
 match cs,h with
 | [_,_,_,_,_],⟨rfl,rfl,rfl,rfl,⟨A,c,rfl,h1,r1⟩,_⟩=>exact ⟨A,c,rfl,r1,h1⟩
end
section
variable {P:Program} {s:Mst} {o:Oper}
theorem V0.ren_id_rep {w:World} {F:Nat→Prop} {ρ:Nat→Value} {d:V0} {v:Value}:(V0.ren (fun k=>k) d).rep w F ρ v↔d.rep w F ρ v:=V0.rep_ren fun _ _=>rfl
theorem FSpec.calls {f:FuncId} {args:List V0} {res:TV} (hs:FSpec P f args [] [] res []) (hok:AC args [] [] res []=true) {w:World} {S:Nat→Prop} {ρ:Nat→Value} {vs:List Value} (hS:∀b,S b→b<w.heap.size) (ha:All2 (V0.rep w S ρ) args vs) :
  Calls P f vs.toArray w fun e w'=>∃v,e = .returned v∧Below w.heap.size w w'∧res.rep w' (Gr S w.heap.size w') ρ v:=by
 simp only [AC,Bool.and_eq_true] at hok
 obtain ⟨⟨⟨⟨⟨⟨o1,_⟩,_⟩,_⟩,_⟩,o6⟩,_⟩:=hok
 have hnor:∀k,res.has k=true→False:=fun k hk=>by have:=TV.in_has o6 hk;simp [av,aF] at this
 let c:Ctx:={ w0:=w,S:=S,X:=fun _=>False,nt:=1,K:=[],ρ0:=ρ,hS:=hS,hX:=fun _ h=>h.elim }
 let st:Mst:={ t:=fun _=>.c .any,h:=fun _=>none,f:=fun _=>false }
 have hF:∀b,S b↔Fz c st.h ρ w b:=fun b=>⟨fun h=>⟨.inl h,hS b h,fun k bx hk=>by cases hk⟩,fun ⟨h,h2,_⟩=>h.elim id fun h3=>absurd h2 (Nat.not_lt.2 h3)⟩
 have hr:Rp c st ρ { tmps:=#[undef],defers:=[] } w :=
  ⟨rfl,rfl,Frx.refl _ _,fun _=>trivial,fun k b hk=>(by cases hk),fun k b g hk=>(by cases hk),fun k k' b b' g hk=>(by cases hk),fun k hk=>(by cases hk),⟨fun k hk=>(by cases hk),fun k t hk=>(by cases hk),fun k k' b hk=>(by cases hk)⟩⟩
 refine (hs.ca (fun k=>k) c st ρ { tmps:=#[undef],defers:=[] } w vs hr (fun k k' hk=>by simp [av,aF] at hk) (ha.imp fun d v _ h=>V0.ren_id_rep.2 (h.mono (fun b hb=>⟨(hF b).1 hb,rfl⟩) fun _ _=>rfl)) (fun k b hk=>by cases hk) fun k hk=>by simp [aF] at hk).mono ?_
 rintro e w' ⟨v,rfl,h⟩
 obtain ⟨ρ',h2⟩:=h (some 0) fun d hd=>by injection hd with hd;subst hd;exact Nat.one_pos
 have h3:=h2.frm
 refine ⟨v,rfl,⟨h3.os,h3.tape,h3.output,h3.size,fun b hb=>h3.keep b hb fun h=>h⟩,?_⟩
 have h4:=h2.tmp 0
 have h5:((st.app (some 0) ⟨res.ren fun k=>k,fu (fun k=>k) [],[].map fun k=>k⟩).t 0)=res.ren fun k=>k:=rfl
 rw [h5] at h4
 have h6:(({ tmps:=#[undef],defers:=[] }:Act).put (some 0) v).tmps.getD 0 undef=v:=rfl
 rw [h6] at h4
 refine ((TV.rep_ren (ρ':=ρ) fun k hk=>(hnor k hk).elim).1 h4).mono (fun b hb=>⟨⟨hb.2.1,hb.1.imp (fun h=>h) fun h=>h⟩,rfl⟩) fun k hk=>(hnor k hk).elim
inductive DR (h:Nat→Option Box) (R:List Nat):D→D→Prop
 | same (d:D):DR h R d d
 | own {k:Nat} {α:Type} {e:TypeId} {E:El α} {l:List α} (hR:aF R k=true) (hk:h k=some (.arr e E l)):DR h R (.own k) (.sl E l)
 | ocut {k:Nat} {α:Type} {e:TypeId} {E:El α} {l:List α} (hR:aF R k=true) (hk:h k=some (.arr e E l)):DR h R (.ocut k) (.sl E l)
 | full {α:Type} {E:El α} {l:List α}:DR h R (.full E l) (.sl E l)
 | nil {α:Type} {E:El α}:DR h R (.sc (.slice none 0 0)) (.sl E [])
inductive VR (h:Nat→Option Box) (R:List Nat):V0→V0→Prop
 | same (d:V0):VR h R d d
 | one {d0 d:D} (x:DR h R d0 d):VR h R (.one d0) (.one d)
 | ag {l0 l:List D} (x:All2 (DR h R) l0 l):VR h R (.ag l0) (.ag l)
def AR (s:Mst) (R:List Nat) (x:TV) (d:V0):Prop:=∃y,x = .v y∧VR s.h R y d
theorem DR.rep {h:Nat→Option Box} {R:List Nat} {d0 d:D} (hd:DR h R d0 d) {c:Ctx} {st:Mst} {ρ:Nat→Value} {a:Act} {w:World} {F:Nat→Prop} {v:Value} (hr:Rp c st ρ a w) (hh:∀k,aF R k=true→st.h k=h k) (hF:∀b,Fz c st.h ρ w b→F b)
  (hO:∀k bx g,aF R k=true→st.h k=some bx→kb (ρ k)=some g→F g) (hv:d0.rep w (Fz c st.h ρ w) ρ v):d.rep w F ρ v:=by
 cases hd with
 | same=>exact hv.mono (fun b hb=>⟨hF b hb,rfl⟩) fun _ _=>rfl
 | @own k α e E l hR hk =>
  have hv:v=ρ k:=hv
  subst hv
  have hk':=(hh k hR).trans hk
  obtain ⟨A,cap,hA,hc,hp⟩:=dI (hr.hp k _ hk')
  refine ⟨A,cap,hA,hc,?_⟩
  rcases Nat.eq_zero_or_pos l.length with h0|h0
  ·obtain rfl:l=[]:=List.eq_nil_of_length_eq_zero h0
   exact RowsAt.nil _ _ _ _
  ·obtain ⟨g,xs,rfl,_,h3,h4,_⟩:=hp h0
   exact ⟨xs,h3.same (fun _ _=>rfl) hF,fun _=>⟨g,0,rfl,hO k _ g hR hk' (by rw [hA];rfl),fun j u hu=>by rw [Nat.zero_add];exact h4 j u hu⟩⟩
 | @ocut k α e E l hR hk =>
  obtain ⟨A0,n0,cap0,c0,hρ0,hc0,rfl⟩:=hv
  have hk':=(hh k hR).trans hk
  obtain ⟨A,cap,hA,hc,hp⟩:=dI (hr.hp k _ hk')
  have hA':=hA
  rw [hρ0] at hA'
  injection hA' with e1 e2 e3
  subst e1
  subst e2
  subst e3
  refine ⟨A0,c0,rfl,⟨hc0.1,Nat.le_trans hc0.2 hc.2⟩,?_⟩
  rcases Nat.eq_zero_or_pos l.length with h0|h0
  ·obtain rfl:l=[]:=List.eq_nil_of_length_eq_zero h0
   exact RowsAt.nil _ _ _ _
  ·obtain ⟨g,xs,rfl,_,h3,h4,_⟩:=hp h0
   exact ⟨xs,h3.same (fun _ _=>rfl) hF,fun _=>⟨g,0,rfl,hO k _ g hR hk' (by rw [hA];rfl),fun j u hu=>by rw [Nat.zero_add];exact h4 j u hu⟩⟩
 | full=>obtain ⟨A,h1,h2,h3⟩:=hv;exact ⟨A,_,h1,⟨Nat.le_refl _,h2⟩,h3.mono hF⟩
 | nil=>exact ⟨none,0,hv,by simp [maxLen],RowsAt.nil _ _ _ _⟩
theorem DR.reps {h:Nat→Option Box} {R:List Nat} {c:Ctx} {st:Mst} {ρ:Nat→Value} {a:Act} {w:World} {F:Nat→Prop} (hr:Rp c st ρ a w) (hh:∀k,aF R k=true→st.h k=h k) (hF:∀b,Fz c st.h ρ w b→F b)
  (hO:∀k bx g,aF R k=true→st.h k=some bx→kb (ρ k)=some g→F g):∀{l0 l:List D} {cs:List Value},All2 (DR h R) l0 l→All2 (D.rep w (Fz c st.h ρ w) ρ) l0 cs→All2 (D.rep w F ρ) l cs
 | [],[],[],_,_=>trivial
 | _ :: _,_ :: _,_ :: _,x,k=>⟨x.1.rep hr hh hF hO k.1,DR.reps hr hh hF hO x.2 k.2⟩
 | [],_ :: _,_,x,_=>x.elim
 | _ :: _,[],_,x,_=>x.elim
 | [],[],_ :: _,_,k=>k.elim
 | _ :: _,_ :: _,[],_,k=>k.elim
theorem VR.rep {h:Nat→Option Box} {R:List Nat} {d0 d:V0} (hd:VR h R d0 d) {c:Ctx} {st:Mst} {ρ:Nat→Value} {a:Act} {w:World} {F:Nat→Prop} {v:Value} (hr:Rp c st ρ a w) (hh:∀k,aF R k=true→st.h k=h k) (hF:∀b,Fz c st.h ρ w b→F b)
  (hO:∀k bx g,aF R k=true→st.h k=some bx→kb (ρ k)=some g→F g) (hv:d0.rep w (Fz c st.h ρ w) ρ v):d.rep w F ρ v:=by
 cases hd with
 | same=>exact hv.mono (fun b hb=>⟨hF b hb,rfl⟩) fun _ _=>rfl
 | one x=>exact x.rep hr hh hF hO hv
 | ag x=>obtain ⟨cs,e,h1⟩:=hv;exact ⟨cs,e,DR.reps hr hh hF hO x h1⟩
theorem r7 {R:List Nat} {c:Ctx} {st:Mst} {ρ:Nat→Value} {a:Act} {w:World} {F:Nat→Prop} (hr:Rp c st ρ a w) (hh:∀k,aF R k=true→st.h k=s.h k) (hF:∀b,Fz c st.h ρ w b→F b)
  (hO:∀k bx g,aF R k=true→st.h k=some bx→kb (ρ k)=some g→F g):∀{l:List Operand} {m:List V0},(∀x∈l,st.ev x=s.ev x)→All2 (fun x d=>AR s R (s.ev x) d) l m→All2 (V0.rep w F ρ) m (l.map a.eval)
 | [],[],_,_=>trivial
 | x :: l,d :: m,he,h=>by
  refine ⟨?_,r7 hr hh hF hO (fun y hy=>he y (by simp [hy])) h.2⟩
  obtain ⟨y,h1,h2⟩:=h.1
  have h3:=hr.ev x
  rw [he x (by simp),h1] at h3
  exact h2.rep hr hh hF hO h3
 | [],_ :: _,_,h=>h.elim
 | _ :: _,[],_,h=>h.elim
def D.isSc:D→Bool
 | .sc _=>true
 | _=>false
def V0.isSc:V0→Bool
 | .one d=>d.isSc
 | .ag l=>l.all D.isSc
def TV.isSc:TV→Bool
 | .v x=>x.isSc
 | .tup l=>l.all V0.isSc
theorem D.sc_any {w w':World} {F F':Nat→Prop} {ρ ρ':Nat→Value} {d:D} (h:d.isSc=true) {v:Value} (hv:d.rep w F ρ v):d.rep w' F' ρ' v:=by
 cases d <;> first|exact hv|cases h
theorem D.scs_any {w w':World} {F F':Nat→Prop} {ρ ρ':Nat→Value}:∀{l:List D} {vs:List Value},l.all D.isSc=true→All2 (D.rep w F ρ) l vs→All2 (D.rep w' F' ρ') l vs
 | [],[],_,_=>trivial
 | d :: l,v :: vs,h,k=>by
  simp only [List.all_cons,Bool.and_eq_true] at h
  exact ⟨D.sc_any h.1 k.1,D.scs_any h.2 k.2⟩
 | [],_ :: _,_,k=>k.elim
 | _ :: _,[],_,k=>k.elim
theorem V0.sc_any {w w':World} {F F':Nat→Prop} {ρ ρ':Nat→Value} {d:V0} (h:d.isSc=true) {v:Value} (hv:d.rep w F ρ v):d.rep w' F' ρ' v:=by
 cases d with
 | one d=>exact D.sc_any (d:=d) h hv
 | ag l=>obtain ⟨cs,e,h1⟩:=hv;exact ⟨cs,e,D.scs_any h h1⟩
theorem TV.sc_any {w w':World} {F F':Nat→Prop} {ρ ρ':Nat→Value} {d:TV} (h:d.isSc=true) {v:Value} (hv:d.rep w F ρ v):d.rep w' F' ρ' v:=by
 cases d with
 | v d=>exact V0.sc_any (d:=d) h hv
 | tup l =>
  obtain ⟨vs,e,h1⟩:=hv
  refine ⟨vs,e,?_⟩
  clear e
  induction l generalizing vs with
  | nil=>cases vs with
   | nil=>trivial
   | cons=>exact h1.elim
  | cons x l ih=>cases vs with
   | nil=>exact h1.elim
   | cons v vs =>
    simp only [TV.isSc,List.all_cons,Bool.and_eq_true] at h
    exact ⟨V0.sc_any h.1 h1.1,ih h.2 vs h1.2⟩
theorem TV.sc_has {d:TV} (h:d.isSc=true) (k:Nat):d.has k=false:=by
 have h1:∀d:D,d.isSc=true→d.has k=false:=fun d h=>by cases d <;> first|rfl|cases h
 have h2:∀x:V0,x.isSc=true→x.has k=false:=fun x h=>by
  cases x with
  | one d=>exact h1 d h
  | ag l=>simp only [V0.has,List.any_eq_false];intro d hd;simp [h1 d (List.all_eq_true.1 h d hd)]
 cases d with
 | v x=>exact h2 x h
 | tup l=>simp only [TV.has,List.any_eq_false];intro d hd;simp [h2 d (List.all_eq_true.1 h d hd)]
theorem xF {f:FuncId} {xs:Array Operand} {ts:Array TypeId} {a:Act} {w:World} {K:Act→World→Prop} {Q:Ending→World→Prop} (hen:∀(vs:Array Value) (w:World),(callFunc f vs).run P w = .ok (.enter f vs) w) (ho:o.op = .call { callee:=.value (.func f),args:=xs,argTypes:=ts })
  (hc:Calls P f (xs.toList.map a.eval).toArray w Q) (hK:∀e w',Q e w'→∃v,e = .returned v∧K (a.put o.dst v) w'):o.wp P a w K fun _ _ _=>False:=by
 have he:(xs.toList.map a.eval).toArray=xs.map a.eval:=by apply Array.toList_inj.1;simp
 rw [he] at hc
 unfold Oper.wp execOp
 simp only [ho,resolve,Act.eval,Deferred.ofValue,invoke,Sem.run_bind,Sem.run_pure,Result.andThen_ok,Array.append_empty,Array.empty_append]
 rw [hen]
 refine hc.mono fun e w' h=>?_
 obtain ⟨v,rfl,h2⟩:=hK e w' h
 exact h2
theorem Ci {f:FuncId} {xs:Array Operand} {ts:Array TypeId} {args:List V0} {res:TV} (R:List Nat) (hs:FSpec P f args [] [] res []) (ho:o.op = .call { callee:=.value (.func f),args:=xs,argTypes:=ts }) (hok:AC args [] [] res []=true) (hb:res.isSc=true)
  (ha:All2 (fun x d=>AR s R (s.ev x) d) xs.toList args):LOp P o s R ⟨res,[],[]⟩:=by
 intro c st ρ a w hr h1 h2 h3 h4
 have hargs:=r7 (F:=fun b=>b<w.heap.size) hr (fun k hk=>h2 k hk) (fun b hb=>hb.2.1) (fun k bx g _ hk hg=>hr.ltb hk hg) (fun x hx=>h1 x (by simp [ho,Op.operands,Call.operands];exact .inr (by simpa using hx))) ha
 refine xF hs.en ho (hs.calls hok (fun b hb=>hb) hargs) ?_
 rintro e w' ⟨v,rfl,hB,hv⟩
 exact ⟨v,rfl,ρ,hr.app (e:=⟨res,[],[]⟩) h4 (fun k hk=>by simp [aF] at hk) (fun _ _=>rfl) (fun k hk=>by simp [aA] at hk) (Frx.below hB) (fun k bx g hk=>by simp [aA] at hk) (fun k k' b b' g hk=>by simp [aA] at hk) (fun k hk=>by rw [TV.sc_has hb k] at hk;cases hk) (fun k k' bx hk=>by simp [aA] at hk) (fun k bx hk=>by simp [aA] at hk) (TV.sc_any hb hv)⟩
def po (ks:List Nat):List (Nat×Option Box):=ks.map fun k=>(k,none)
theorem ef {ks:List Nat} {k:Nat}:aA (po ks) k=aF ks k:=by
 induction ks with
 | nil=>rfl
 | cons x l ih=>simp only [po,List.map_cons,aA,aF];rw [←ih];rfl
theorem fS {ks:List Nat} {h:Nat→Option Box} {k:Nat} (hk:aF ks k=true):hput (po ks) h k=none:=by
 induction ks with
 | nil=>simp [aF] at hk
 | cons x l ih =>
  simp only [po,List.map_cons,hput]
  cases hx:x.beq k with
  | true=>rfl
  | false =>
   simp only [aF,hx,Bool.false_or] at hk
   exact ih hk
theorem Cj {f:FuncId} {xs:Array Operand} {ts:Array TypeId} {args:List V0} {res:TV} (ks:List Nat) (hs:FSpec P f args [] [] res []) (ho:o.op = .call { callee:=.value (.func f),args:=xs,argTypes:=ts }) (hok:AC args [] [] res []=true)
  (hks:ks.all (fun k=>(s.h k).isSome)=true) (ha:All2 (fun x d=>AR s ks (s.ev x) d) xs.toList args):LOp P o s ks ⟨res,po ks,[]⟩:=by
 intro c st ρ a w hr h1 h2 h3 h4
 have hsome:∀k,aF ks k=true→∃b,st.h k=some b:=fun k hk=>by
  have:=jt hks k hk
  rw [←h2 k hk] at this
  exact Option.isSome_iff_exists.1 this
 have hF:∀b,Fz c st.h ρ w b→Fz c (hput (po ks) st.h) ρ w b:=fun b ⟨f1,f2,f3⟩=>⟨f1,f2,fun k bx hk=>by
  cases hh:aA (po ks) k with
  | true=>rw [fS (by rw [←ef];exact hh)] at hk;cases hk
  | false=>rw [bR hh] at hk;exact f3 k bx hk⟩
 have hO:∀k bx g,aF ks k=true→st.h k=some bx→kb (ρ k)=some g→Fz c (hput (po ks) st.h) ρ w g:=fun k bx g hk hb hg=>by
  refine ⟨(hr.inb k bx g hb hg).imp (c.hX g) id,hr.ltb hb hg,fun k' bx' hk' he=>?_⟩
  cases hh:aA (po ks) k' with
  | true=>rw [fS (by rw [←ef];exact hh)] at hk';cases hk'
  | false =>
   rw [bR hh] at hk'
   have:=hr.dis k k' bx bx' g hb hk' hg he
   subst this
   rw [ef,hk] at hh
   cases hh
 have hargs:=r7 hr (fun k hk=>h2 k hk) hF hO (fun x hx=>h1 x (by simp [ho,Op.operands,Call.operands];exact .inr (by simpa using hx))) ha
 have hok':=hok
 simp only [AC,Bool.and_eq_true] at hok
 obtain ⟨⟨⟨⟨⟨⟨_,_⟩,_⟩,_⟩,_⟩,o6⟩,_⟩:=hok
 have hnor:∀k,res.has k=true→False:=fun k hk=>by have:=TV.in_has o6 hk;simp [av,aF] at this
 refine xF hs.en ho (hs.calls hok' (fun b hb=>hb.2.1) hargs) ?_
 rintro e w' ⟨v,rfl,hB,hv⟩
 refine ⟨v,rfl,ρ,hr.app (e:=⟨res,po ks,[]⟩) h4 (fun k hk=>by simp [aF] at hk) (fun _ _=>rfl) (fun k hk=>.inr ?_) (Frx.below hB) (fun k bx g hk hb=>?_) (fun k k' b b' g hk _ hb=>?_) (fun k hk=>(hnor k hk).elim) (fun k k' bx hk hb=>?_) (fun k bx hk hb=>?_) ?_⟩
 ·obtain ⟨b,hb⟩:=hsome k (by rw [←ef];exact hk)
  exact hr.nfh hb
 ·rw [fS (by rw [←ef];exact hk)] at hb;cases hb
 ·rw [fS (by rw [←ef];exact hk)] at hb;cases hb
 ·rw [fS (by rw [←ef];exact hk)] at hb;cases hb
 ·rw [fS (by rw [←ef];exact hk)] at hb;cases hb
 ·refine hv.mono (fun b hb=>⟨⟨?_,hb.1,fun k bx hk he=>?_⟩,rfl⟩) fun _ _=>rfl
  ·rcases hb.2 with h|h
   ·exact h.1
   ·exact .inr (Nat.le_trans hr.frm.size h)
  ·rcases hb.2 with h|h
   ·exact h.2.2 k bx hk he
   ·cases hh:aA (po ks) k with
    | true=>rw [fS (by rw [←ef];exact hh)] at hk;cases hk
    | false =>
     rw [bR hh] at hk
     have:=hr.ltb hk he
     omega
end
section
variable {P:Program} {nt:Nat} {Ks:List Nat} {Q:Exit→Mst→Prop} {s:Mst}
theorem cc {x:Code} {α:Type} (t k:Nat) (e:TypeId) (E:El α) (ht:s.t t = .c (.sc (.slice none 0 0))) (hf:s.f k=true) (hnt:Nat.blt t nt=true) (h:AW P nt Ks x Q (s.app (some t) ⟨.c (.own k),[(k,some (.arr e E []))],[k]⟩)):AW P nt Ks x Q s:=by
 intro c ρ a w hc hK hr
 have hkk:∀k':Nat,aA [(k,some (Box.arr e E ([]:List α)))] k'=true→k'=k:=fun k' h=>by
  simp only [aA,Bool.or_false] at h
  exact (Nat.eq_of_beq_eq_true h).symm
 have hv:a.tmps.getD t undef = .slice none 0 0:=by have:=hr.tmp t;rw [ht] at this;exact this
 have hput:a.put (some t) (.slice none 0 0)=a:=by
  cases a with
  | mk tmps defers =>
   simp only [Act.put]
   congr 1
   apply Array.ext
   ·simp
   ·intro i h1 h2
    rw [Array.getElem_setIfInBounds]
    split
    ·rename_i h3
     subst h3
     rw [←hv]
     simp [Array.getD_eq_getD_getElem?,h2]
    ·rfl
 have h2:=hr.app (ρ':=upd ρ k (.slice none 0 0)) (w':=w) (dst:=some t) (v:=.slice none 0 0) (e:=⟨.c (.own k),[(k,some (.arr e E []))],[k]⟩) (fun d hd=>by injection hd with hd;subst hd;rw [hc];simpa using hnt)
  (fun k' hk=>by have h9:k'=k:=(by simp [aF] at hk;exact hk.symm);subst h9;exact ⟨hf,by simp [aA]⟩)
  (fun k' hk=>dB (by simpa [aF] using hk)) (fun k' hk=>.inl (by rw [hkk k' hk];simp [aF])) (Frx.refl _ _)
  (fun k' bx g hk _ hg=>by rw [hkk k' hk,aL] at hg;cases hg) (fun k1 k2 b b' g h1 h2 _ _ _ _=>by rw [hkk k1 h1,hkk k2 h2]) (fun k' hk=>.inl (by simp [TV.has,V0.has,D.has] at hk;simp [aF,hk])) (fun k1 k2 bx hk hb hx=>by
   rw [hkk k2 hk] at hb
   simp only [Go.Proofs.YtdaajdflefnjfaaGreat.hput,Nat.beq_refl,cond_true,Option.some.injEq] at hb
   subst hb
   simp [Box.has] at hx)
  (fun k' bx hk hb=>by
   rw [hkk k' hk] at hb ⊢
   simp only [Go.Proofs.YtdaajdflefnjfaaGreat.hput,Nat.beq_refl,cond_true,Option.some.injEq] at hb
   subst hb
   rw [aL]
   exact ⟨[],World.ownsRow_nil _ _ _ _,rfl⟩)
  (aL _ _ _).symm
 rw [hput] at h2
 exact h c _ a w hc hK h2
def D.frz (d:D) (k:Nat) (r:D):D:=match d with
 | .own j=>bif j.beq k then r else .own j
 | .slb j n=>bif j.beq k then .any else .slb j n
 | .ptr j n=>bif j.beq k then .any else .ptr j n
 | .optr j m i n=>bif j.beq k then .any else .optr j m i n
 | .ocut j=>bif j.beq k then r else .ocut j
 | .osl j m a b f=>bif j.beq k then .any else .osl j m a b f
 | .clo f ks=>bif ks.any (fun j=>j.beq k) then .any else .clo f ks
 | d=>d
def V0.frz (x:V0) (k:Nat) (r:D):V0:=match x with
 | .one d=>.one (d.frz k r)
 | .ag l=>.ag (l.map (fun d=>D.frz d k r))
def TV.frz (x:TV) (k:Nat) (r:D):TV:=match x with
 | .v x=>.v (x.frz k r)
 | .tup l=>.tup (l.map (fun d=>V0.frz d k r))
def Box.frz (x:Box) (k:Nat) (r:D):Box:=match x with
 | .box t cs=>.box t (cs.map (fun d=>D.frz d k r))
 | b=>b
def Mst.frz (s:Mst) (k:Nat) (r:D):Mst:={ t:=fun t=>(s.t t).frz k r,h:=fun j=>bif j.beq k then none else (s.h j).map (fun d=>Box.frz d k r),f:=s.f }
theorem D.frz_has {k j:Nat} {α:Type} {E:El α} {l:List α} {d:D} (h:(d.frz k (.sl E l)).has j=true):d.has j=true:=by
 cases d with
 | own i=>have h0:=h;simp only [D.frz] at h0;clear h;revert h0;cases hb:i.beq k <;> intro h0 <;> first|exact h0|cases h0
 | slb i n=>have h0:=h;simp only [D.frz] at h0;clear h;revert h0;cases hb:i.beq k <;> intro h0 <;> first|exact h0|cases h0
 | ptr i n=>have h0:=h;simp only [D.frz] at h0;clear h;revert h0;cases hb:i.beq k <;> intro h0 <;> first|exact h0|cases h0
 | optr i m p n=>have h0:=h;simp only [D.frz] at h0;clear h;revert h0;cases hb:i.beq k <;> intro h0 <;> first|exact h0|cases h0
 | ocut i=>have h0:=h;simp only [D.frz] at h0;clear h;revert h0;cases hb:i.beq k <;> intro h0 <;> first|exact h0|cases h0
 | osl i m a b f=>have h0:=h;simp only [D.frz] at h0;clear h;revert h0;cases hb:i.beq k <;> intro h0 <;> first|exact h0|cases h0
 | clo f ks=>have h0:=h;simp only [D.frz] at h0;clear h;revert h0;cases hb:ks.any (fun j=>j.beq k) <;> intro h0 <;> first|exact h0|cases h0
 | _=>exact h
theorem D.frzL_has {k j:Nat} {α:Type} {E:El α} {l:List α} {ds:List D} (h:(ds.map (fun d=>D.frz d k (.sl E l))).any (D.has j)=true):ds.any (D.has j)=true:=by
 obtain ⟨d,h1,h2⟩:=List.any_eq_true.1 h
 obtain ⟨d0,h3,rfl⟩:=List.mem_map.1 h1
 exact List.any_eq_true.2 ⟨d0,h3,D.frz_has h2⟩
theorem V0.frz_has {k j:Nat} {α:Type} {E:El α} {l:List α} {d:V0} (h:(d.frz k (.sl E l)).has j=true):d.has j=true:=by
 cases d with
 | one d=>exact D.frz_has (d:=d) h
 | ag ds=>exact D.frzL_has (ds:=ds) h
theorem TV.frz_has {k j:Nat} {α:Type} {E:El α} {l:List α} {d:TV} (h:(d.frz k (.sl E l)).has j=true):d.has j=true:=by
 cases d with
 | v d=>exact V0.frz_has (d:=d) h
 | tup ds =>
  obtain ⟨d,h1,h2⟩:=List.any_eq_true.1 h
  obtain ⟨d0,h3,rfl⟩:=List.mem_map.1 h1
  exact List.any_eq_true.2 ⟨d0,h3,V0.frz_has h2⟩
theorem Box.frz_has {k j:Nat} {α:Type} {E:El α} {l:List α} {d:Box} (h:(d.frz k (.sl E l)).has j=true):d.has j=true:=by
 cases d with
 | box t ds=>exact D.frzL_has (ds:=ds) h
 | _=>exact h
theorem pp {x:Code} {α:Type} {e:TypeId} {E:El α} {l:List α} (k:Nat) (hk:s.h k=some (.arr e E l)) (h:AW P nt Ks x Q (s.frz k (.sl E l))):AW P nt Ks x Q s:=by
 intro c ρ a w hc hK hr
 refine h c ρ a w hc hK ?_
 have hh:∀j b,(s.frz k (.sl E l)).h j=some b→j.beq k=false∧∃b0,s.h j=some b0∧b=b0.frz k (.sl E l):=fun j b hb=>by
  simp only [Mst.frz] at hb
  cases hj:j.beq k with
  | true=>rw [hj] at hb;cases hb
  | false =>
   rw [hj] at hb
   cases hs:s.h j with
   | none=>simp only [cond_false,hs,Option.map_none] at hb;cases hb
   | some b0=>simp only [cond_false,hs,Option.map_some,Option.some.injEq] at hb;exact ⟨rfl,b0,rfl,hb.symm⟩
 have hF:∀b,Fz c s.h ρ w b→Fz c (s.frz k (.sl E l)).h ρ w b:=fun b ⟨f1,f2,f3⟩=>⟨f1,f2,fun j bx hj=>by obtain ⟨_,b0,h1,_⟩:=hh j bx hj;exact f3 j b0 h1⟩
 have hsl:∀{v:Value},(D.ocut k).rep w (Fz c s.h ρ w) ρ v→(D.sl E l).rep w (Fz c (s.frz k (.sl E l)).h ρ w) ρ v:=fun hv=>zk (h:=s.h) hr hk hv hF fun g hg=>⟨(hr.inb k _ g hk hg).imp (c.hX g) id,hr.ltb hk hg,fun j bx hj he=>by
  obtain ⟨h0,b0,h1,_⟩:=hh j bx hj
  have:=hr.dis k j _ b0 g hk h1 hg he
  subst this
  rw [Nat.beq_refl] at h0
  cases h0⟩
 have hD:∀{d:D} {v:Value},d.rep w (Fz c s.h ρ w) ρ v→(d.frz k (.sl E l)).rep w (Fz c (s.frz k (.sl E l)).h ρ w) ρ v:=fun {d v} hd=>by
  have hm:d.rep w (Fz c (s.frz k (.sl E l)).h ρ w) ρ v:=hd.mono (fun b hb=>⟨hF b hb,rfl⟩) fun _ _=>rfl
  cases d with
  | own j =>
   simp only [D.frz]
   cases hj:j.beq k with
   | false=>exact hm
   | true =>
    have hm:v=ρ j:=hm
    rw [hm,Nat.eq_of_beq_eq_true hj]
    exact hsl (nI hr hk rfl)
  | slb j n=>simp only [D.frz];cases hj:j.beq k with
   | false=>exact hm
   | true=>trivial
  | ptr j n=>simp only [D.frz];cases hj:j.beq k with
   | false=>exact hm
   | true=>trivial
  | optr j m i n=>simp only [D.frz];cases hj:j.beq k with
   | false=>exact hm
   | true=>trivial
  | osl j m i n f=>simp only [D.frz];cases hj:j.beq k with
   | false=>exact hm
   | true=>trivial
  | clo f ks=>simp only [D.frz];cases hj:ks.any (fun j=>j.beq k) with
   | false=>exact hm
   | true=>trivial
  | ocut j =>
   simp only [D.frz]
   cases hj:j.beq k with
   | false=>exact hm
   | true =>
    rw [Nat.eq_of_beq_eq_true hj] at hd
    exact hsl hd
  | _=>exact hm
 have hL:∀{ds:List D} {vs:List Value},All2 (D.rep w (Fz c s.h ρ w) ρ) ds vs→All2 (D.rep w (Fz c (s.frz k (.sl E l)).h ρ w) ρ) (ds.map (fun d=>D.frz d k (.sl E l))) vs:=fun {ds vs} h=>All2.mapL.2 (h.imp fun d v _ hd=>hD hd)
 have hV:∀{d:V0} {v:Value},d.rep w (Fz c s.h ρ w) ρ v→(d.frz k (.sl E l)).rep w (Fz c (s.frz k (.sl E l)).h ρ w) ρ v:=fun {d v} hd=>by
  cases d with
  | one d=>exact hD (d:=d) hd
  | ag ds=>obtain ⟨cs,e,h1⟩:=hd;exact ⟨cs,e,hL h1⟩
 refine ⟨hr.dfr,hr.siz,hr.frm,fun t=>?_,fun j b hj=>?_,fun j b g hj hg=>?_,fun j j' b b' g hj hj' hg hg'=>?_,hr.ent,⟨fun j hj=>?_,fun j t hj=>?_,fun j j' b hj hb=>?_⟩⟩
 ·have h1:=hr.tmp t
  show TV.rep _ _ _ ((s.t t).frz k (.sl E l)) _
  generalize s.t t=d at *
  cases d with
  | v d=>exact hV (d:=d) h1
  | tup ds=>obtain ⟨vs,e,h2⟩:=h1;exact ⟨vs,e,All2.mapL.2 (h2.imp fun d v _ hd=>hV hd)⟩
 ·obtain ⟨_,b0,h1,rfl⟩:=hh j b hj
  have h2:=hr.hp j b0 h1
  cases b0 with
  | box t cs=>obtain ⟨g,vs,e,hB,hA,h5⟩:=h2;exact ⟨g,vs,e,hB,hL hA,h5⟩
  | arr e' E' l'=>obtain ⟨xs,h3,h4⟩:=h2;exact ⟨xs,h3,h4.same (fun _ _=>rfl) hF⟩
  | mp l'=>exact h2
  | it k' n' l'=>exact h2
 ·obtain ⟨_,b0,h1,_⟩:=hh j b hj
  exact hr.inb j b0 g h1 hg
 ·obtain ⟨_,b0,h1,_⟩:=hh j b hj
  obtain ⟨_,b0',h1',_⟩:=hh j' b' hj'
  exact hr.dis j j' b0 b0' g h1 h1' hg hg'
 ·have hj:s.f j=true:=hj
  simp only [Mst.frz,hr.wf.h j hj,Option.map_none,Bool.cond_self]
 ·have hj:s.f j=true:=hj
  cases h9:((s.frz k (.sl E l)).t t).has j with
  | false=>rfl
  | true=>have:=TV.frz_has (d:=s.t t) h9;rw [hr.wf.t j t hj] at this;cases this
 ·have hj:s.f j=true:=hj
  obtain ⟨_,b0,h1,rfl⟩:=hh j' b hb
  cases h9:(b0.frz k (.sl E l)).has j with
  | false=>rfl
  | true=>have:=Box.frz_has h9;rw [hr.wf.b j j' b0 hj h1] at this;cases this
end
section
variable {P:Program} {s:Mst} {o:Oper} {α:Type} {E:El α} {l:List α} {e':TypeId}
theorem lN {c:Ctx} {st:Mst} {ρ:Nat→Value} {a:Act} {w:World} {F:Nat→Prop} (hr:Rp c st ρ a w) {k:Nat} (hk:st.h k=some (.arr e' E l)) {v:Value} (hv:(D.ocut k).rep w F ρ v) :
  ∃A cap cp,v = .slice A l.length cp∧(l.length≤cp∧cp≤cap∧cap≤maxLen)∧ρ k = .slice A l.length cap∧(0<l.length→∃g,A=some ⟨g,0,none⟩):=by
 obtain ⟨A0,n0,cap0,c0,hρ0,hc0,rfl⟩:=hv
 obtain ⟨A,cap,hA,hc,hp⟩:=dI (hr.hp k _ hk)
 have hA':=hA
 rw [hρ0] at hA'
 injection hA' with e1 e2 e3
 subst e1
 subst e2
 subst e3
 exact ⟨A0,cap0,c0,rfl,⟨hc0.1,hc0.2,hc.2⟩,hρ0,fun h=>by obtain ⟨g,xs,rfl,_⟩:=hp h;exact ⟨g,rfl⟩⟩
theorem qm {t e:TypeId} {x y:Operand} {row:Bool} {n i k:Nat} {kd:IntKind} {z:Int} (ho:o.op = .indexAddr t x y) (hx:s.ev x = .c (.ocut k)) (hk:s.h k=some (.arr e' E l)) (hy:s.ev y = .c (.sc (.int kd z))) [SE P t e] [TI P e row n] (hn:E.n=n) (hz:z=(i:Int)) (hi:i<l.length) :
  LOp P o s [k] ⟨.c (.optr k n i 0),[],[]⟩ :=
 bc fun c st ρ a w hr h1 h2=>by
  have he:=h1 x (by simp [ho,Op.operands])
  have he2:=h1 y (by simp [ho,Op.operands])
  rw [hx] at he
  rw [hy] at he2
  have hv:=hr.ev x
  rw [he] at hv
  have hv2:=hr.ev y
  rw [he2] at hv2
  have hv2:a.eval y = .int kd z:=hv2
  obtain ⟨A,cap,cp,hv,hc,hρ,hp⟩:=lN hr ((h2 k (by simp [aF])).trans hk) (show (D.ocut k).rep w (Fz c st.h ρ w) ρ (a.eval x) from hv)
  obtain ⟨g,rfl⟩:=hp (by omega)
  subst hz
  subst hn
  refine ⟨.pointer (some ⟨g,0+i*E.n,none⟩),by unfold execOp;rw [ho];simp only [hv,hv2,Sem.run_bind,iA w l.length cp i hi,Result.andThen_ok,Sem.run_pure],⟨g,_,_,hρ,by simp⟩,fun k' hk'=>hr.nf (x:=x) he (by simpa [TV.has,V0.has,D.has] using hk')⟩
theorem Ck {t e:TypeId} {x:Operand} {k:Nat} [SE P t e] (ho:o.op = .call { callee:=.builtin .len,args:=#[x],argTypes:=#[t] }) (hx:s.ev x = .c (.ocut k)) (hk:s.h k=some (.arr e' E l)):LOp P o s [k] ⟨.i l.length,[],[]⟩ :=
 g7 (ty:=0) ho fun c st ρ a w hr he h2=>by
  have hv:=hr.ev x
  rw [he,hx] at hv
  obtain ⟨A,cap,cp,hv,_⟩:=lN hr ((h2 k (by simp [aF])).trans hk) (show (D.ocut k).rep w (Fz c st.h ρ w) ρ (a.eval x) from hv)
  exact ⟨A,cp,hv⟩
theorem D1 {t e:TypeId} {x y z:Operand} {row:Bool} {n i k:Nat} (ho:o.op = .slice t x none (some y) (some z)) (hx:s.ev x = .c (.ocut k)) (hk:s.h k=some (.arr e' E l)) (hy:s.ev y = .i i) (hz:s.ev z = .i i) [I:SE P t e] [J:TI P e row n] (hn:E.n=n) (hi:i≤l.length) (h0:0<l.length) :
  LOp P o s [k] ⟨.c (.osl k n 0 i true),[],[]⟩ :=
 bc fun c st ρ a w hr h1 h2=>by
  have he:=h1 x (by simp [ho,Op.operands])
  rw [hx] at he
  have hv:=hr.ev x
  rw [he] at hv
  have hv2:a.eval y = .int .i64 (i:Int):=by have:=hr.ev y;rwa [h1 y (by simp [ho,Op.operands]),hy] at this
  have hv3:a.eval z = .int .i64 (i:Int):=by have:=hr.ev z;rwa [h1 z (by simp [ho,Op.operands]),hz] at this
  obtain ⟨A,cap,cp,hv,hc,hρ,hp⟩:=lN hr ((h2 k (by simp [aF])).trans hk) (show (D.ocut k).rep w (Fz c st.h ρ w) ρ (a.eval x) from hv)
  obtain ⟨g,rfl⟩:=hp h0
  obtain ⟨j,hj,hjn⟩:∃j,P.info? e=some j∧j.size=n:=by
   have:=J.s
   cases h:P.info? e with
   | none=>simp [h] at this
   | some j=>exact ⟨j,rfl,by simpa [h] using this⟩
  subst hjn
  refine ⟨.slice (some ⟨g,0,none⟩) i i,?_,⟨g,_,_,i,⟨g,0,none⟩,hρ,⟨Nat.zero_le _,hi,by omega,by omega⟩,fun _=>by omega,by simp,fun _=>by simp⟩,fun k' hk'=>hr.nf (x:=x) he (by simpa [TV.has,V0.has,D.has] using hk')⟩
  unfold execOp
  rw [ho]
  have h3:i≤cp:=by omega
  by_cases hi0:i=0
  ·subst hi0
   simp [hv,hv2,hv3,Instr.sliceAt,Instr.slice,Instr.sliceBounds,Instr.sliceBound,asIntOf,run_underlying I.u,sizeOf,typeInfo,hj]
  ·simp [hv,hv2,hv3,Instr.sliceAt,Instr.slice,Instr.sliceBounds,Instr.sliceBound,asIntOf,run_underlying I.u,sizeOf,typeInfo,hj,h3,hi0,dx]
theorem D2 {t e:TypeId} {x y:Operand} {row:Bool} {n j k:Nat} (ho:o.op = .slice t x (some y) none none) (hx:s.ev x = .c (.ocut k)) (hk:s.h k=some (.arr e' E l)) (hy:s.ev y = .i j) [I:SE P t e] [J:TI P e row n] (hn:E.n=n) (hj:j≤l.length) (h0:0<l.length) :
  LOp P o s [k] ⟨.c (.osl k n j l.length false),[],[]⟩ :=
 bc fun c st ρ a w hr h1 h2=>by
  have he:=h1 x (by simp [ho,Op.operands])
  rw [hx] at he
  have hv:=hr.ev x
  rw [he] at hv
  have hv2:a.eval y = .int .i64 (j:Int):=by have:=hr.ev y;rwa [h1 y (by simp [ho,Op.operands]),hy] at this
  obtain ⟨A,cap,cp,hv,hc,hρ,hp⟩:=lN hr ((h2 k (by simp [aF])).trans hk) (show (D.ocut k).rep w (Fz c st.h ρ w) ρ (a.eval x) from hv)
  obtain ⟨g,rfl⟩:=hp h0
  obtain ⟨q,hq,hqn⟩:∃q,P.info? e=some q∧q.size=n:=by
   have:=J.s
   cases h:P.info? e with
   | none=>simp [h] at this
   | some q=>exact ⟨q,rfl,by simpa [h] using this⟩
  subst hqn
  have h3:j≤cp:=by omega
  refine ⟨.slice (some (if cp=j then ⟨g,0,none⟩ else ⟨g,j*q.size,none⟩)) (l.length-j) (cp-j),?_,⟨g,_,_,cp-j,_,hρ,⟨hj,Nat.le_refl _,by omega,by omega⟩,(fun h=>by cases h),rfl,fun h=>?_⟩,fun k' hk'=>hr.nf (x:=x) he (by simpa [TV.has,V0.has,D.has] using hk')⟩
  ·unfold execOp
   rw [ho]
   by_cases hi0:cp=j
   ·simp [hv,hv2,Instr.sliceAt,Instr.slice,Instr.sliceBounds,Instr.sliceBound,asIntOf,run_underlying I.u,sizeOf,typeInfo,hq,hi0,hj,h3]
    try omega
   ·simp [hv,hv2,Instr.sliceAt,Instr.slice,Instr.sliceBounds,Instr.sliceBound,asIntOf,run_underlying I.u,sizeOf,typeInfo,hq,hi0,hj,h3,dx,hc.1]
  ·rcases h with h|h
   ·subst h;simp
   ·rw [if_neg (by omega)]
theorem bg {t e:TypeId} {row:Bool} {n:Nat} {z:Int} {x y:Operand} {L L':List α} [I:SE P t e] [J:TI P e row n] (ho:o.op = .slice t x (some y) none none) (hx:s.ev x = .c (.sl E L)) (hn:E.n=n) (hy:s.ev y = .i z) (h0:0≤z) (h1:z.toNat≤L.length) (hL:L.drop z.toNat=L'):LOp P o s [] ⟨.c (.sl E L'),[],[]⟩ :=
 lG ho hx hn (.inl ⟨y,rfl,by rw [hy,Int.toNat_of_nonneg h0]⟩) (.inr ⟨rfl,rfl⟩) h1 (Nat.le_refl _) (by rw [List.take_length];exact hL)
theorem nZ {t e:TypeId} {row:Bool} {n:Nat} {z:Int} {x y:Operand} {L L':List α} [I:SE P t e] [J:TI P e row n] (ho:o.op = .slice t x none (some y) none) (hx:s.ev x = .c (.sl E L)) (hn:E.n=n) (hy:s.ev y = .i z) (h0:0≤z) (h1:z.toNat≤L.length) (hL:L.take z.toNat=L'):LOp P o s [] ⟨.c (.sl E L'),[],[]⟩ :=
 lG ho hx hn (.inr ⟨rfl,rfl⟩) (.inl ⟨y,rfl,by rw [hy,Int.toNat_of_nonneg h0]⟩) (Nat.zero_le _) h1 (by rw [List.drop_zero];exact hL)
theorem xG {t e:TypeId} {x y:Operand} {row:Bool} {n:Nat} {kd:IntKind} {z:Int} (ho:o.op = .indexAddr t x y) (hx:s.ev x = .c (.sl E l)) (hy:s.ev y = .c (.sc (.int kd z))) [SE P t e] [TI P e row n] (hn:E.n=n) (h0:0≤z) (hi:z.toNat<l.length):LOp P o s [] ⟨.c (.eptr E l z.toNat 0),[],[]⟩ :=
 t7 ho hx hy hn (Int.toNat_of_nonneg h0).symm hi
theorem vP {t e:TypeId} {x y:Operand} {row:Bool} {n k:Nat} {kd:IntKind} {z:Int} (ho:o.op = .indexAddr t x y) (hx:s.ev x = .c (.own k)) (hk:s.h k=some (.arr e' E l)) (hy:s.ev y = .c (.sc (.int kd z))) [SE P t e] [TI P e row n] (hn:E.n=n) (h0:0≤z) (hi:z.toNat<l.length):LOp P o s [k] ⟨.c (.optr k n z.toNat 0),[],[]⟩ :=
 p6 ho hx hk hy hn (Int.toNat_of_nonneg h0).symm hi
theorem vQ {t e:TypeId} {x y:Operand} {row:Bool} {n k:Nat} {kd:IntKind} {z:Int} (ho:o.op = .indexAddr t x y) (hx:s.ev x = .c (.ocut k)) (hk:s.h k=some (.arr e' E l)) (hy:s.ev y = .c (.sc (.int kd z))) [SE P t e] [TI P e row n] (hn:E.n=n) (h0:0≤z) (hi:z.toNat<l.length):LOp P o s [k] ⟨.c (.optr k n z.toNat 0),[],[]⟩ :=
 qm ho hx hk hy hn (Int.toNat_of_nonneg h0).symm hi
theorem zx {t e by_ n i j k k':Nat} {x y:Operand} {l':List α} [T:ST P E t e by_] (ho:o.op = .call { callee:=.builtin .append,args:=#[x,y],argTypes:=#[t,t] }) (hdk:o.dst=some k') (hx:s.ev x = .c (.osl k n 0 i true)) (hy:s.ev y = .c (.osl k n j l.length false)) (hk:s.h k=some (.arr e E l))
  (hn:E.n=n) (hi:i≤l.length) (hj:j≤l.length) (hl':l.take i++l.drop j=l') (hlen:i+(l.length-j)≤maxLen) (hby:(i+(l.length-j))*by_≤140737488355328):LOp P o s [k] ⟨.c (.ocut k'),[(k',some (.arr e E l')),(k,none)],[k']⟩:=by
 intro c st ρ a w hr h1 h2 h3 h4
 subst hl'
 subst hn
 have hfk:st.f k'=true:=h3 k' (by simp [aF])
 have hk2:=(h2 k (by simp [aF])).trans hk
 have hne:k'.beq k=false:=by
  cases h9:k'.beq k with
  | false=>rfl
  | true=>rw [←Nat.eq_of_beq_eq_true h9,hr.wf.h k' hfk] at hk2;cases hk2
 have hv1:=hr.ev x
 rw [h1 x (by simp [ho,Op.operands,Call.operands]),hx] at hv1
 obtain ⟨g,nn,cap,c1,A1,hρ1,⟨_,b2,b3,b4⟩,b5,hv1,b6⟩:=(show (D.osl k E.n 0 i true).rep w (Fz c st.h ρ w) ρ (a.eval x) from hv1)
 have hv2:=hr.ev y
 rw [h1 y (by simp [ho,Op.operands,Call.operands]),hy] at hv2
 obtain ⟨g2,nn2,cap2,c2,A2,hρ2,⟨d1,d2,d3,d4⟩,_,hv2,d6⟩:=(show (D.osl k E.n j l.length false).rep w (Fz c st.h ρ w) ρ (a.eval y) from hv2)
 rw [hρ1] at hρ2
 injection hρ2 with e1 e2 e3
 injection e1 with e1
 injection e1 with e1
 subst e1
 subst e2
 subst e3
 obtain rfl:A1=⟨g,0,none⟩:=by have:=b6 (.inl rfl);simpa using this
 obtain rfl:c1=i:=by have:=b5 rfl;omega
 obtain ⟨xs,hown,hreps⟩:=hr.hp k _ hk2
 have hxl:=hown.1
 have hpos:=E.pos
 obtain ⟨g3,cap3,cur,hq,_,hh,hnc,hcm,hcs,ht⟩:∃g' cap' cur,ρ k = .slice (some ⟨g',0,none⟩) l.length cap'∧0≤g'∧w.heap[g']? = some (.cells cur e (0,0))∧l.length≤cap'∧cap'≤maxLen∧cur.size=cap'*E.n∧cur.toList.take (l.length*E.n)=xs:=by
  rcases hown.2 with ⟨hv,_⟩|⟨g',cap',cur,hv,h0,hh,r⟩
  ·rw [hρ1] at hv;cases hv
  ·exact ⟨g',cap',cur,hv,h0,hh,r⟩
 rw [hρ1] at hq
 injection hq with e1 e2 e3
 injection e1 with e1
 injection e1 with e1
 subst e1
 subst e2
 subst e3
 have hcell:∀q u,xs[q]? = some u→w.cell? ⟨g,q,none⟩=some u:=fun q u hu=>by
  rw [cell_of_row w g q cur e (0,0) hh,←Array.getElem?_toList]
  rw [←ht,List.getElem?_take] at hu
  split at hu
  ·exact hu
  ·cases hu
 have hkb:kb (ρ k)=some g:=by rw [hρ1];rfl
 have key:∃v' vg w' zs,(execOp a.eval o).run P w = .ok (.value v') w'∧Below w.heap.size w w'∧w'.ownsRow 0 e E.n vg (l.take c1++l.drop j).length zs∧Reps E w (Fz c st.h ρ w) (l.take c1++l.drop j) zs∧(∃A n cap c,vg = .slice A n cap∧(n≤c∧c≤cap)∧v' = .slice A n c)∧∀g',kb vg=some g'→g'<w'.heap.size∧(w.heap.size≤g'∨g'=g):=by
  have hr1:Reps E w (Fz c st.h ρ w) (l.take c1) (xs.take (c1*E.n)):=hreps.take c1
  have hr2:Reps E w (Fz c st.h ρ w) (l.drop j) (xs.drop (j*E.n)):=hreps.drop j
  have hl1:(xs.take (c1*E.n)).length=c1*E.n:=by rw [List.length_take,hxl];exact Nat.min_eq_left (Nat.mul_le_mul_right _ hi)
  have hl2:(xs.drop (j*E.n)).length=(l.length-j)*E.n:=by rw [List.length_drop,hxl,Nat.sub_mul]
  have hlr:(l.take c1++l.drop j).length=c1+(l.length-j):=by simp [Nat.min_eq_left hi]
  obtain ⟨ti,z,hi1,hi2,hi3,hi4,hi5⟩:=T.T.info
  have hexec:∀v' w',(Builtin.append_ #[t,t] o.type #[.slice (some ⟨g,0,none⟩) c1 c1,.slice (some A2) (l.length-j) c2]).run P w = .ok v' w'→(execOp a.eval o).run P w = .ok (.value v') w':=fun v' w' hrun=>by
   unfold execOp
   simp only [ho,resolve,invoke,builtin,Sem.run_bind,Sem.run_pure,Result.andThen_ok,List.map_toArray,List.map_cons,List.map_nil,hv1,hv2,Nat.sub_zero,hrun]
  by_cases hm:l.length-j=0
  ·have hd:l.drop j=[]:=List.drop_eq_nil_of_le (by omega)
   have hrun:=run_append_room_cells (P:=P) w t o.type e ti T.T.under hi1 g 0 c1 c1 A2 0 c2 [] (by simp) (by simp) (by simp) (by omega) (by simp) (by simp)
   rw [hm] at hexec
   refine ⟨_,.slice (some ⟨g,0,none⟩) c1 cap,w,xs.take (c1*E.n),hexec _ _ hrun,Below.refl _ _,⟨by rw [hlr,hm,hl1];rfl,.inr ⟨g,cap,cur,by rw [hlr,hm];rfl,Nat.zero_le _,hh,by rw [hlr,hm];omega,hcm,hcs,?_⟩⟩,by rw [hd,List.append_nil];exact hr1,⟨some ⟨g,0,none⟩,c1,cap,c1,rfl,⟨Nat.le_refl _,by omega⟩,rfl⟩,fun g' hg'=>?_⟩
   ·rw [hlr,hm,←ht,List.take_take,Nat.min_eq_left (Nat.mul_le_mul_right _ (by omega))];rfl
   ·injection hg' with hg'
    subst hg'
    exact ⟨(Array.getElem?_eq_some_iff.1 hh).1,.inr rfl⟩
  ·obtain rfl:A2=⟨g,j*E.n,none⟩:=d6 (.inr (by omega))
   obtain ⟨v',w',hrun,hown',hgr⟩:=run_append_arg_grows (P:=P) w t o.type e ti z E.n by_ T.T.under hi1 hi2 hi3 hi5 hi4 hpos ⟨g,0,none⟩ c1 c1 (xs.take (c1*E.n)) hl1 (fun q u hu=>by
    rw [dx,Nat.zero_add]
    rw [List.getElem?_take] at hu
    split at hu
    ·exact hcell q u hu
    ·cases hu) ⟨g,j*E.n,none⟩ (l.length-j) c2 (xs.drop (j*E.n)) hl2 (fun q u hu=>by
    rw [dx]
    rw [List.getElem?_drop] at hu
    exact hcell _ u hu) (by omega) hlen hby
   have hform:∃g' cap',v' = .slice (some ⟨g',0,none⟩) (c1+(l.length-j)) cap'∧w.heap.size≤g'∧g'<w'.heap.size∧c1+(l.length-j)≤cap':=by
    rcases hown'.2 with ⟨_,hz⟩|⟨g',cap',cur',hv,hb,hh',hnc',_⟩
    ·omega
    ·exact ⟨g',cap',hv,hb,(Array.getElem?_eq_some_iff.1 hh').1,hnc'⟩
   obtain ⟨g',cap',rfl,hb1,hb2,hb3⟩:=hform
   refine ⟨_,_,w',_,hexec _ _ hrun,⟨hgr.os,hgr.tape,hgr.output,hgr.size,fun b hb=>hgr.block b hb (by simp)⟩,by rw [hlr];exact ⟨hown'.1,hown'.2.imp id fun ⟨a1,a2,a3,a4,_,a6⟩=>⟨a1,a2,a3,a4,Nat.zero_le _,a6⟩⟩,hr1.append hr2,⟨_,_,cap',cap',rfl,⟨hb3,Nat.le_refl _⟩,rfl⟩,fun q hq=>?_⟩
   injection hq with hq
   subst hq
   exact ⟨hb2,.inl hb1⟩
 obtain ⟨v',vg,w',zs,hrun,hB,hown',hreps',⟨A',n',cap',c',hvg,hcc,hv'⟩,hg'⟩:=key
 have hky:∀n,aA [(k',some (Box.arr e E (l.take c1++l.drop j))),(k,none)] n=true↔n=k'∨n=k:=fun n=>by
  simp only [aA,Bool.or_false,Bool.or_eq_true]
  constructor
  ·rintro (h|h)
   ·exact .inl (Nat.eq_of_beq_eq_true h).symm
   ·exact .inr (Nat.eq_of_beq_eq_true h).symm
  ·rintro (rfl|rfl)
   ·exact .inl (Nat.beq_refl _)
   ·exact .inr (Nat.beq_refl _)
 have hputk:hput [(k',some (Box.arr e E (l.take c1++l.drop j))),(k,none)] st.h k'=some (.arr e E (l.take c1++l.drop j)):=by simp [hput]
 have hputr:hput [(k',some (Box.arr e E (l.take c1++l.drop j))),(k,none)] st.h k=none:=by simp [hput,hne]
 have hsm:∀n bx,aA [(k',some (Box.arr e E (l.take c1++l.drop j))),(k,none)] n=true→hput [(k',some (Box.arr e E (l.take c1++l.drop j))),(k,none)] st.h n=some bx→n=k'∧bx = .arr e E (l.take c1++l.drop j):=fun n bx hn hb=>by
  rcases (hky n).1 hn with rfl|rfl
  ·rw [hputk] at hb;exact ⟨rfl,(Option.some.inj hb).symm⟩
  ·rw [hputr] at hb;cases hb
 have hFz:∀b,Fz c st.h ρ w b→Fz c (hput [(k',some (Box.arr e E (l.take c1++l.drop j))),(k,none)] st.h) (upd ρ k' vg) w' b∧w'.heap[b]? = w.heap[b]?:=fun b hb=>by
  refine ⟨⟨hb.1,Nat.lt_of_lt_of_le hb.2.1 hB.size,fun n bx hn he=>?_⟩,hB.block b hb.2.1⟩
  cases h9:aA [(k',some (Box.arr e E (l.take c1++l.drop j))),(k,none)] n with
  | true =>
   obtain ⟨rfl,_⟩:=hsm n bx h9 hn
   rw [aL] at he
   rcases (hg' b he).2 with h|h
   ·have:=hb.2.1;omega
   ·subst h
    exact hb.2.2 k _ hk2 hkb
  | false =>
   rw [bR h9] at hn
   have hkn:k'.beq n=false:=by
    cases h8:k'.beq n with
    | false=>rfl
    | true=>rw [←Nat.eq_of_beq_eq_true h8,hr.wf.h k' hfk] at hn;cases hn
   rw [dB hkn] at he
   exact hb.2.2 n bx hn he
 refine Oper.wp_value hrun ⟨upd ρ k' vg,hr.app (e:=⟨.c (.ocut k'),[(k',some (.arr e E (l.take c1++l.drop j))),(k,none)],[k']⟩) h4 (fun n hn=>?_) (fun n hn=>dB (by simpa [aF] using hn)) (fun n hn=>?_) (Frx.below hB) (fun n bx g' hn hb hg=>?_) (fun n n' b b' g' hn hn' hb hb' _ _=>?_) (fun n hn=>.inl ?_) (fun n n' bx hn hb hx2=>?_) (fun n bx hn hb=>?_) ?_⟩
 ·have:n=k':=by simp [aF] at hn;exact hn.symm
  subst this
  exact ⟨hfk,(hky n).2 (.inl rfl)⟩
 ·rcases (hky n).1 hn with rfl|rfl
  ·exact .inl (by simp [aF])
  ·exact .inr (hr.nfh hk2)
 ·obtain ⟨rfl,_⟩:=hsm n bx hn hb
  rw [aL] at hg
  exact ⟨(hg' g' hg).1,(hg' g' hg).2.imp id fun h=>by subst h;exact ⟨k,_,(hky k).2 (.inr rfl),hk2,hkb⟩⟩
 ·rw [(hsm n b hn hb).1,(hsm n' b' hn' hb').1]
 ·have:n=k':=by simp [TV.has,V0.has,D.has] at hn;exact hn.symm
  subst this
  simp [aF]
 ·rw [(hsm n' bx hn hb).2] at hx2
  simp [Box.has] at hx2
 ·obtain ⟨rfl,rfl⟩:=hsm n bx hn hb
  rw [aL]
  exact ⟨zs,hown',hreps'.same (fun b hb=>(hFz b hb).2) fun b hb=>(hFz b hb).1⟩
 ·exact ⟨A',n',cap',c',(aL ρ k' vg).trans hvg,hcc,hv'⟩
theorem D3 {x y z:Operand} {b:Bool} {v:V0} (ho:o.op = .pick x y z) (hx:s.ev x = .b b) (hv:(bif b then s.ev y else s.ev z) = .v v):LOp P o s [] ⟨.v v,[],[]⟩ :=
 bc fun c st ρ a w hr h1 _=>by
  have he:=h1 x (by simp [ho,Op.operands])
  rw [hx] at he
  have hb:a.eval x = .bool b:=by have:=hr.ev x;rwa [he] at this
  cases b with
  | true =>
   have he2:=h1 y (by simp [ho,Op.operands])
   rw [show s.ev y = .v v from hv] at he2
   exact ⟨a.eval y,by unfold execOp;rw [ho];simp [hb,asBool],by have:=hr.ev y;rwa [he2] at this,fun k hk=>hr.nf he2 hk⟩
  | false =>
   have he2:=h1 z (by simp [ho,Op.operands])
   rw [show s.ev z = .v v from hv] at he2
   exact ⟨a.eval z,by unfold execOp;rw [ho];simp [hb,asBool],by have:=hr.ev z;rwa [he2] at this,fun k hk=>hr.nf he2 hk⟩
theorem i9 {t e k n by_:Nat} {x y:Operand} {z:Value} {y0:α} (I:P.underlying t=some (.slice e)) (hI:(P.info? e).map (fun i=>(i.zero,i.size,i.bytes))=some (some z,1,by_)) (hz:z.cells = #[z]) (hb:by_≤64) (hE:E.n=1) (hy0:∀w S,E.rep w S y0 [z])
  (ho:o.op = .makeSlice t x y) (hdk:o.dst=some k) (hx:s.ev x = .i n) (hy:s.ev y = .i n) (hn:n≤1000000):LOp P o s [] ⟨.c (.own k),[(k,some (.arr e E (List.replicate n y0)))],[k]⟩:=by
 intro c st ρ a w hr h1 h2 h3 h4
 have hv1:a.eval x = .int .i64 (n:Int):=by have:=hr.ev x;rwa [h1 x (by simp [ho,Op.operands]),hx] at this
 have hv2:a.eval y = .int .i64 (n:Int):=by have:=hr.ev y;rwa [h1 y (by simp [ho,Op.operands]),hy] at this
 have hfk:st.f k=true:=h3 k (by simp [aF])
 have hrun:=I3 (P:=P) t e z by_ I hI hz hb n hn w
 have ho1:=World.ownsRow_lit (e:=e) (size:=E.n) (base:=0) w (madeCells #[z] n) n (Nat.zero_le _) (by simp only [maxLen];omega) (by rw [size_madeCells,hE,Nat.mul_one])
 rw [toList_madeCells_one] at ho1
 have hgen:∀(S:Nat→Prop) (q:Nat),Reps E (w.alloc (.cells (madeCells #[z] n) e)) S (List.replicate q y0) (List.replicate q z):=by
  intro S q
  induction q with
  | zero=>rfl
  | succ q ih=>exact ⟨[z],List.replicate q z,rfl,hy0 _ _,ih⟩
 have hkk:∀k':Nat,aA [(k,some (Box.arr e E (List.replicate n y0)))] k'=true→k'=k:=fun k' h=>by
  simp only [aA,Bool.or_false] at h
  exact (Nat.eq_of_beq_eq_true h).symm
 refine Oper.wp_value (v:=.slice (some ⟨w.heap.size,0,none⟩) n n) (w':=w.alloc (.cells (madeCells #[z] n) e)) ?_ ⟨upd ρ k (.slice (some ⟨w.heap.size,0,none⟩) n n),hr.app (e:=⟨.c (.own k),[(k,some (.arr e E (List.replicate n y0)))],[k]⟩) h4 (fun k' h=>?_) (fun k' h=>?_) (fun k' h=>.inl ?_) (Frx.alloc _ _ _) (fun k' bx g' h _ hg'=>?_) (fun k1 k2 _ _ _ h h' _ _ _ _=>?_) (fun k' h=>.inl ?_) (fun k1 k2 bx h hp hx=>?_) (fun k2 bx h hp=>?_) ?_⟩
 ·unfold execOp
  rw [ho]
  simp only [hv1,hv2,Sem.run_bind,hrun,Result.andThen_ok,Sem.run_pure]
 ·have:k'=k:=by simp [aF] at h;exact h.symm
  subst this
  exact ⟨hfk,by simp [aA]⟩
 ·exact dB (by simpa [aF] using h)
 ·rw [hkk k' h];simp [aF]
 ·rw [hkk k' h,aL] at hg'
  injection hg' with hg'
  subst hg'
  exact ⟨by simp,.inl (Nat.le_refl _)⟩
 ·rw [hkk k1 h,hkk k2 h']
 ·have:k'=k:=by simp [TV.has,V0.has,D.has] at h;exact h.symm
  subst this;simp [aF]
 ·rw [hkk k2 h] at hp
  simp only [hput,Nat.beq_refl,cond_true,Option.some.injEq] at hp
  subst hp
  simp [Box.has] at hx
 ·rw [hkk k2 h] at hp ⊢
  simp only [hput,Nat.beq_refl,cond_true,Option.some.injEq] at hp
  subst hp
  rw [aL]
  exact ⟨List.replicate n z,by rw [List.length_replicate];exact ho1,hgen _ n⟩
 ·exact (aL _ _ _).symm
end
def Mr:Op→Nat
 | .move _=>1
 | .assign _=>2
 | .load ..=>3
 | .store ..=>4
 | .fieldAddr ..=>5
 | .indexAddr ..=>6
 | .call c=>match c.callee with
  | .builtin .len=>7
  | .builtin .append=>8
  | _=>9
 | .binOp ..=>10
 | .unOp ..=>11
 | .build ..=>12
 | .buildSlice ..=>13
 | .slice ..=>14
 | .extract ..=>15
 | .field ..=>16
 | .alloc _=>17
 | .box ..=>18
 | .pick ..=>19
 | .makeSlice ..=>20
 | .nilCheck _=>21
 | .makeMap ..=>22
 | .lookup ..=>23
 | .mapUpdate ..=>24
 | .range ..=>25
 | .next ..=>26
 | .entry ..=>27
 | _=>0
section
variable {P:Program} {nt:Nat} {Ks:List Nat} {Q:Exit→Mst→Prop} {s:Mst} {K:Mst→Prop} {ops:Array Oper} {draw:Bool} {o:Oper} {l:List Oper} {acc:List (List Nat×List Nat)} {x:Code}
theorem Kj {l:List Oper} (h:DA P ops draw l acc s K):DA P ops draw l acc s K:=h
theorem Kk (h:AW P nt Ks x Q s):AW P nt Ks x Q s:=h
theorem xH {t:Nat} {b:Bool} (h:s.t t = .b b):s.app (some t) ⟨.b b,[],[]⟩=s:=by
 cases s with
 | mk st sh sf =>
  simp only [Mst.app,hput,aF,Bool.not_false,Bool.and_true,Mst.mk.injEq,and_true]
  funext n
  simp only [ka]
  cases hn:t.beq n with
  | false=>rfl
  | true=>rw [←Nat.eq_of_beq_eq_true hn];exact h.symm
theorem D4 {j t:Nat} {want b:Bool} (hg:o.guard=some (j,want)) (hj:(ops[j]?).bind (·.dst)=some t) (ht:s.t t = .b b) (h1:b=true→DA P ops draw (o :: l) acc (s.app (some t) ⟨.b true,[],[]⟩) K) (h2:b=false→DA P ops draw (o :: l) acc (s.app (some t) ⟨.b false,[],[]⟩) K):DA P ops draw (o :: l) acc s K:=by
 cases b with
 | true=>have:=h1 rfl;rwa [xH ht] at this
 | false=>have:=h2 rfl;rwa [xH ht] at this
theorem aa (n:Nat) (_:Mr o.op=n) (h:DA P ops draw (o :: l) acc s K):DA P ops draw (o :: l) acc s K:=h
end
inductive NR:D→D→Prop
 | same (d:D):NR d d
 | nil {α:Type} {E:El α}:NR (.sc (.slice none 0 0)) (.sl E [])
theorem NR.rep {w:World} {F:Nat→Prop} {ρ:Nat→Value} {d0 d:D} {v:Value} (h:NR d0 d) (hv:d0.rep w F ρ v):d.rep w F ρ v:=by
 cases h with
 | same=>exact hv
 | nil=>exact ⟨none,0,hv,by simp [maxLen],RowsAt.nil _ _ _ _⟩
theorem NR.reps {w:World} {F:Nat→Prop} {ρ:Nat→Value}:∀{l0 l:List D} {vs:List Value},All2 NR l0 l→All2 (D.rep w F ρ) l0 vs→All2 (D.rep w F ρ) l vs
 | [],[],[],_,_=>trivial
 | _ :: _,_ :: _,_ :: _,h,k=>⟨h.1.rep k.1,NR.reps h.2 k.2⟩
 | [],_ :: _,_,h,_=>h.elim
 | _ :: _,[],_,h,_=>h.elim
 | [],[],_ :: _,_,k=>k.elim
 | _ :: _,_ :: _,[],_,k=>k.elim
section
variable {P:Program} {o:Oper} {s:Mst}
theorem vR {t e:TypeId} {x y:Operand} {row:Bool} {n m i k off:Nat} {α:Type} {E:El α} {l l':List α} {u z:α} {ds:List D} [I:TI P t row n] [J:Dp E] (ho:o.op = .store t x y) (hx:s.ev x = .c (.optr k m i off)) (hk:s.h k=some (.arr e E l)) (hm:E.n=m) (hu:l[i]? = some u)
  (hd:(s.ev y).cells=some ds) (hok:ds.all (okD s.h)=true) (hno:fQ ds=[]) (hn:ds.length=n) (hl:off+n≤m) (hz:All2 NR ((J.deep u).take off++ds++(J.deep u).drop (off+n)) (J.deep z)) (hl':l.set i z=l'):LOp P o s [k] ⟨.c .any,[(k,some (.arr e E l'))],[]⟩:=by
 intro c st ρ a w hr h1 h2 _ h4
 subst hl'
 subst hm
 have he:=h1 x (by simp [ho,Op.operands])
 have he2:=h1 y (by simp [ho,Op.operands])
 rw [hx] at he
 rw [←he2] at hd
 have hv:=hr.ev x
 rw [he] at hv
 obtain ⟨g,len,cap,hg,hv⟩:=hv
 have hk':=(h2 k (by simp [aF])).trans hk
 have hil:i<l.length:=(List.getElem?_eq_some_iff.1 hu).1
 have hui:l[i]=u:=by rw [List.getElem?_eq_getElem hil] at hu;exact Option.some.inj hu
 obtain ⟨xs,hown,hreps⟩:=hr.hp k _ hk'
 have hown0:=hown
 rw [hg] at hown
 obtain rfl:len=l.length:=by
  rcases hown.2 with ⟨hv,_⟩|⟨g',cap',cur,hv,_⟩
  ·cases hv
  ·injection hv
 obtain ⟨hc1,hc2⟩:=TV.cells_rep (hr.ev y) hd fun q hq u hu=>hr.okD (gP (List.all_eq_true.1 hok q hq) fun j hj=>by have:=eV (hj▸hq);rw [hno] at this;simp [aF] at this) hu
 generalize hvs:(a.eval y).cells.toList=vs at *
 have hsz:vs.length=n:=by rw [←hc1.length,hn]
 have hxl:=hown.1
 have hin:i*E.n+E.n≤l.length*E.n:=by have:=Nat.mul_le_mul_right E.n (show i+1≤l.length from hil);rwa [Nat.add_mul,Nat.one_mul] at this
 have hst:=run_storeCells_cells (P:=P) g (i*E.n+off) vs 0 w (fun j hj=>by have:=(lH hown (j:=i*E.n+off+j) (by omega)).1;simpa using this) (fun j hj=>by have:=(lH hown (j:=i*E.n+off+j) (by omega)).2;simpa using this) hc2
 simp only [Nat.add_zero] at hst
 obtain ⟨cs,hcs1,hcs2⟩:=hreps.get i hil
 have hcl:=E.len hcs1
 rw [hui] at hcs1
 have hcs:cs=(xs.drop (i*E.n)).take E.n:=by
  apply List.ext_getElem?
  intro j
  rw [List.getElem?_take]
  by_cases hj:j<E.n
  ·rw [if_pos hj,List.getElem?_drop,hcs2 j hj]
  ·rw [if_neg hj,List.getElem?_eq_none (by omega)]
 have hz':E.rep w (Fz c st.h ρ w) z (cs.take off++vs++cs.drop (off+n)):=J.put (ρ:=ρ) (NR.reps hz ((((J.get hcs1).take off).append hc1).append ((J.get hcs1).drop (off+n))))
 have hrow:=jl vs (i*E.n+off) w xs hown (by omega)
 rw [rE (n:=E.n) (by omega) hcs (by omega),hsz] at hrow
 have hkb:kb (ρ k)=some g:=by rw [hg];rfl
 have hsize:=dM (g:=g) vs (i*E.n+off) w
 have hoth:∀b,b≠g→(w.setCells g (i*E.n+off) vs).heap[b]? = w.heap[b]?:=fun b hb=>dW vs _ w b hb
 have hbel:=gY (B:=0) (w:=w) (Nat.zero_le g) vs (i*E.n+off) w (Below.refl _ _)
 have hkk:∀k':Nat,aA [(k,some (Box.arr e E (l.set i z)))] k'=true→k'=k:=fun k' h=>by
  simp only [aA,Bool.or_false] at h
  exact (Nat.eq_of_beq_eq_true h).symm
 have hfz:∀b,Fz c st.h ρ w b→Fz c (hput [(k,some (Box.arr e E (l.set i z)))] st.h) ρ (w.setCells g (i*E.n+off) vs) b∧(w.setCells g (i*E.n+off) vs).heap[b]? = w.heap[b]?:=fun b ⟨f1,f2,f3⟩=>by
  have hbg:b≠g:=fun e=>f3 k _ hk' (by rw [hkb,e])
  refine ⟨⟨f1,by rw [hsize];exact f2,fun k' bx hk2=>?_⟩,hoth b hbg⟩
  simp only [hput] at hk2
  cases h9:k.beq k' with
  | true=>rw [←Nat.eq_of_beq_eq_true h9,hkb];intro e;injection e with e;exact hbg e.symm
  | false=>rw [h9] at hk2;exact f3 k' bx hk2
 refine Oper.wp_skip (w':=w.setCells g (i*E.n+off) vs) ?_ ⟨ρ,hr.app (e:=⟨.c .any,[(k,some (.arr e E (l.set i z)))],[]⟩) h4 (fun k h=>by simp [aF] at h) (fun _ _=>rfl) (fun k' h=>.inr (by rw [hkk k' h];exact hr.nfh hk')) ⟨hbel.os,hbel.tape,hbel.output,hbel.size,fun b hlt hn=>hoth b fun e=>hn ⟨k,_,by simp [aA],hk',by rw [hkb,e]⟩⟩ ?_ ?_ (fun k h=>by simp [TV.has,V0.has,D.has] at h) ?_ ?_ trivial⟩
 ·unfold execOp
  rw [ho]
  have hi:=I.s
  cases hq:P.info? t with
  | none=>simp [hq] at hi
  | some ti =>
   have hs:(a.eval y).cells.size=ti.size:=by
    simp [hq] at hi
    rw [←Array.length_toList,hvs]
    omega
   simp only [hv,Instr.storeAt,Instr.sureAddr,Sem.run_bind,Sem.run_pure,Result.andThen_ok]
   have h3:(storeVar t ⟨g,i*E.n+off,none⟩ (a.eval y)).run P w = .ok () (w.setCells g (i*E.n+off) vs):=by
    simp [storeVar,sizeOf,typeInfo,hq,hs,hvs,hst]
   rw [h3]
   rfl
 ·intro k' bx g' h _ hg'
  rw [hkk k' h,hkb] at hg'
  injection hg' with hg'
  subst hg'
  exact ⟨by rw [hsize];exact hr.ltb hk' hkb,.inr ⟨k,_,by simp [aA],hk',hkb⟩⟩
 ·intro k1 k2 _ _ _ h h' _ _ _ _
  rw [hkk k1 h,hkk k2 h']
 ·intro k1 k2 bx h hp hx
  rw [hkk k2 h] at hp
  simp only [hput,Nat.beq_refl,cond_true,Option.some.injEq] at hp
  subst hp
  simp [Box.has] at hx
 ·intro k2 bx h hp
  rw [hkk k2 h] at hp ⊢
  simp only [hput,Nat.beq_refl,cond_true,Option.some.injEq] at hp
  subst hp
  refine ⟨_,by rw [List.length_set,hg];exact hrow,?_⟩
  exact (Reps.set hreps hz' hil).same (fun b hb=>(hfz b hb).2) fun b hb=>(hfz b hb).1
end
theorem All2.setAt {α:Type _} {β:Type _} {R:α→β→Prop}:∀{l:List α} {m:List β} {i:Nat} {x y:α},All2 R l m→l[i]? = some y→(∀u,R y u→R x u)→All2 R (l.set i x) m
 | [],_,_,_,_,_,h,_=>by simp at h
 | _ :: _,[],_,_,_,h,_,_=>h.elim
 | a :: l,b :: m,0,x,y,h,hi,hr=>by
  simp at hi
  subst hi
  exact ⟨hr b h.1,h.2⟩
 | a :: l,b :: m,i+1,x,y,h,hi,hr=>⟨h.1,All2.setAt (i:=i) h.2 (by simpa using hi) hr⟩
section
variable {P:Program} {nt:Nat} {Ks:List Nat} {Q:Exit→Mst→Prop} {s:Mst}
theorem fC {x:Code} {α:Type} {ty:TypeId} {cs new:List D} (k0 off k:Nat) (e:TypeId) (E:El α) (h0:s.h k0=some (.box ty cs)) (hc0:cs[off]? = some (.sc (.slice none 0 0))) (hf:s.f k=true) (hn:cs.set off (.own k)=new)
  (h:AW P nt Ks x Q ((s.app none ⟨.c .any,[(k,some (.arr e E []))],[k]⟩).app none ⟨.c .any,[(k0,some (.box ty new))],[]⟩)):AW P nt Ks x Q s:=by
 intro c ρ a w hc hK hr
 subst hn
 have hkk:∀k':Nat,aA [(k,some (Box.arr e E ([]:List α)))] k'=true→k'=k:=fun k' h=>by
  simp only [aA,Bool.or_false] at h
  exact (Nat.eq_of_beq_eq_true h).symm
 have h2:=hr.app (ρ':=upd ρ k (.slice none 0 0)) (w':=w) (dst:=none) (v:=undef) (e:=⟨.c .any,[(k,some (.arr e E []))],[k]⟩) (fun d hd=>by cases hd)
  (fun k' hk=>by have h9:k'=k:=(by simp [aF] at hk;exact hk.symm);subst h9;exact ⟨hf,by simp [aA]⟩)
  (fun k' hk=>dB (by simpa [aF] using hk)) (fun k' hk=>.inl (by rw [hkk k' hk];simp [aF])) (Frx.refl _ _)
  (fun k' bx g hk _ hg=>by rw [hkk k' hk,aL] at hg;cases hg) (fun k1 k2 b b' g h1 h2 _ _ _ _=>by rw [hkk k1 h1,hkk k2 h2]) (fun k' hk=>by simp [TV.has,V0.has,D.has] at hk) (fun k1 k2 bx hk hb hx=>by
   rw [hkk k2 hk] at hb
   simp only [Go.Proofs.YtdaajdflefnjfaaGreat.hput,Nat.beq_refl,cond_true,Option.some.injEq] at hb
   subst hb
   simp [Box.has] at hx)
  (fun k' bx hk hb=>by
   rw [hkk k' hk] at hb ⊢
   simp only [Go.Proofs.YtdaajdflefnjfaaGreat.hput,Nat.beq_refl,cond_true,Option.some.injEq] at hb
   subst hb
   rw [aL]
   exact ⟨[],World.ownsRow_nil _ _ _ _,rfl⟩)
  trivial
 have hne:k.beq k0=false:=by
  cases h9:k.beq k0 with
  | false=>rfl
  | true=>rw [←Nat.eq_of_beq_eq_true h9,hr.wf.h k hf] at h0;cases h0
 have h0':(s.app none ⟨.c .any,[(k,some (.arr e E []))],[k]⟩).h k0=some (.box ty cs):=by
  show hput _ _ _=_
  simp only [Go.Proofs.YtdaajdflefnjfaaGreat.hput,hne,cond_false]
  exact h0
 obtain ⟨g,vs,hg,hB,hA,h1⟩:=h2.hp k0 _ h0'
 refine h c _ a w hc hK (h2.setBox (dst:=none) (v:=undef) (fun d hd=>by cases hd) h0' hg ⟨rfl,rfl,rfl,Nat.le_refl _,fun _ _ _=>rfl⟩ hB (hA.setAt hc0 fun u hu=>?_) h1 fun k' hh=>?_)
 ·show u=upd ρ k (.slice none 0 0) k
  rw [aL]
  exact hu
 ·obtain ⟨d,hd,hd2⟩:=List.any_eq_true.1 hh
  rcases List.mem_or_eq_of_mem_set hd with hd|rfl
  ·exact h2.nfb h0' (by simp only [Box.has];exact List.any_eq_true.2 ⟨d,hd,hd2⟩)
  ·simp only [D.has] at hd2
   have:k=k':=Nat.eq_of_beq_eq_true hd2
   subst this
   simp [Mst.app,aF]
end
end Go.Proofs.YtdaajdflefnjfaaGreat
