/- Part 12 of 56 of the proof of both_hold (no condition). -/
import Derived.Test.YtcgpepnbohejfaaGreatDoorK11
set_option linter.unusedVariables false
set_option linter.unusedSimpArgs false
set_option maxRecDepth 100000
set_option maxHeartbeats 64000000
namespace Go.Proofs.YtcgpepnbohejfaaGreatDoor
open Go.RowKit Go.Proofs.Tryz
section
variable {P:Program} {s:Mst} {o:Oper}
theorem V0.ren_id_rep {w:World} {F:Nat→Prop} {ρ:Nat→Value} {d:V0} {v:Value}:(V0.ren (fun k=>k) d).rep w F ρ v↔d.rep w F ρ v:=V0.rep_ren fun _ _=>rfl
theorem FSpec.calls {f:FuncId} {args:List V0} {res:TV} (hs:FSpec P f args [] [] res []) (hok:z6 args [] [] res []=true) {w:World} {S:Nat→Prop} {ρ:Nat→Value} {vs:List Value} (hS:∀b,S b→b<w.heap.size) (hp:PinW w fun _=>False) (ha:All2 (V0.rep w S ρ) args vs) :
  Calls P f vs.toArray w fun e w'=>∃v,e = .returned v∧Below w.heap.size w w'∧res.rep w' (Gr S w.heap.size w') ρ v:=by
 simp only [z6,Bool.and_eq_true] at hok;obtain ⟨⟨⟨⟨⟨⟨o1,_⟩,_⟩,_⟩,_⟩,o6⟩,_⟩:=hok;have hnor:∀k,res.has k=true→False:=fun k hk=>by have:=TV.in_has o6 hk;simp [aj,aD] at this
 let c:Ctx:={ w0:=w,S:=S,X:=fun _=>False,nt:=1,K:=[],ρ0:=ρ,hS:=hS,hX:=fun _ h=>h.elim,hpin:=hp }
 let st:Mst:={ t:=fun _=>.c .any,h:=fun _=>none,f:=fun _=>false }
 have hF:∀b,S b↔Fz c st.h ρ w b:=fun b=>⟨fun h=>⟨.inl h,hS b h,fun k bx hk=>by cases hk⟩,fun ⟨h,h2,_⟩=>h.elim id fun h3=>absurd h2 (Nat.not_lt.2 h3)⟩;have hr:Rp c st ρ { tmps:=#[undef],defers:=[] } w :=
  ⟨rfl,rfl,Frx.refl _ _,fun _=>trivial,fun k b hk=>(by cases hk),fun k b g hk=>(by cases hk),fun k k' b b' g hk=>(by cases hk),fun k hk=>(by cases hk),⟨fun k hk=>(by cases hk),fun k t hk=>(by cases hk),fun k k' b hk=>(by cases hk)⟩⟩
 refine (hs.ca (fun k=>k) c st ρ { tmps:=#[undef],defers:=[] } w vs hr (fun k k' hk=>by simp [aj,aD] at hk) (ha.imp fun d v _ h=>V0.ren_id_rep.2 (h.mono (fun b hb=>⟨(hF b).1 hb,rfl⟩) fun _ _=>rfl)) (fun k b hk=>by cases hk) fun k hk=>by simp [aD] at hk).mono ?_;rintro e w' ⟨v,rfl,h⟩;obtain ⟨ρ',h2⟩:=h (some 0) fun d hd=>by injection hd with hd;subst hd;exact Nat.one_pos
 have h3:=h2.frm;refine ⟨v,rfl,⟨h3.os,h3.tape,h3.output,h3.size,fun b hb=>h3.keep b hb fun h=>h⟩,?_⟩;have h4:=h2.tmp 0;have h5:((st.app (some 0) ⟨res.ren fun k=>k,dx (fun k=>k) [],[].map fun k=>k⟩).t 0)=res.ren fun k=>k:=rfl;rw [h5] at h4;have h6:(({ tmps:=#[undef],defers:=[] }:Act).put (some 0) v).tmps.getD 0 undef=v:=rfl;rw [h6] at h4;refine ((TV.rep_ren (ρ':=ρ) fun k hk=>(hnor k hk).elim).1 h4).mono (fun b hb=>⟨⟨hb.2.1,hb.1.imp (fun h=>h) fun h=>h⟩,rfl⟩) fun k hk=>(hnor k hk).elim
inductive DR (h:Nat→Option Box) (R:List Nat):D→D→Prop
 | same (d:D):DR h R d d
 | own {k:Nat} {α:Type} {e:TypeId} {E:El α} {l:List α} (hR:aD R k=true) (hk:h k=some (.arr e E l)):DR h R (.own k) (.sl E l)
 | ocut {k:Nat} {α:Type} {e:TypeId} {E:El α} {l:List α} (hR:aD R k=true) (hk:h k=some (.arr e E l)):DR h R (.ocut k) (.sl E l)
 | full {α:Type} {E:El α} {l:List α}:DR h R (.full E l) (.sl E l)
 | nil {α:Type} {E:El α}:DR h R (.sc (.slice none 0 0)) (.sl E [])
inductive VR (h:Nat→Option Box) (R:List Nat):V0→V0→Prop
 | same (d:V0):VR h R d d
 | one {d0 d:D} (x:DR h R d0 d):VR h R (.one d0) (.one d)
 | ag {l0 l:List D} (x:All2 (DR h R) l0 l):VR h R (.ag l0) (.ag l)
def AR (s:Mst) (R:List Nat) (x:TV) (d:V0):Prop:=∃y,x = .v y∧VR s.h R y d
theorem DR.rep {h:Nat→Option Box} {R:List Nat} {d0 d:D} (hd:DR h R d0 d) {c:Ctx} {st:Mst} {ρ:Nat→Value} {a:Act} {w:World} {F:Nat→Prop} {v:Value} (hr:Rp c st ρ a w) (hh:∀k,aD R k=true→st.h k=h k) (hF:∀b,Fz c st.h ρ w b→F b)
  (hO:∀k bx g,aD R k=true→st.h k=some bx→kb (ρ k)=some g→F g) (hv:d0.rep w (Fz c st.h ρ w) ρ v):d.rep w F ρ v:=by
 cases hd with
 | same=>exact hv.mono (fun b hb=>⟨hF b hb,rfl⟩) fun _ _=>rfl
 | @own k α e E l hR hk =>
  have hv:v=ρ k:=hv;subst hv;have hk':=(hh k hR).trans hk;obtain ⟨A,cap,hA,hc,hp⟩:=dF (hr.hp k _ hk');refine ⟨A,cap,hA,hc,?_⟩;rcases Nat.eq_zero_or_pos l.length with h0|h0
  ·obtain rfl:l=[]:=List.eq_nil_of_length_eq_zero h0;exact RowsAt.nil _ _ _ _
  ·obtain ⟨g,xs,rfl,_,h3,h4,_⟩:=hp h0;exact ⟨xs,h3.same (fun _ _=>rfl) hF,fun _=>⟨g,0,rfl,hO k _ g hR hk' (by rw [hA];rfl),fun j u hu=>by rw [Nat.zero_add];exact h4 j u hu⟩⟩
 | @ocut k α e E l hR hk =>
  obtain ⟨A0,n0,cap0,c0,hρ0,hc0,rfl⟩:=hv;have hk':=(hh k hR).trans hk;obtain ⟨A,cap,hA,hc,hp⟩:=dF (hr.hp k _ hk');have hA':=hA;rw [hρ0] at hA';injection hA' with e1 e2 e3;subst e1;subst e2;subst e3;refine ⟨A0,c0,rfl,⟨hc0.1,Nat.le_trans hc0.2 hc.2⟩,?_⟩;rcases Nat.eq_zero_or_pos l.length with h0|h0
  ·obtain rfl:l=[]:=List.eq_nil_of_length_eq_zero h0;exact RowsAt.nil _ _ _ _
  ·obtain ⟨g,xs,rfl,_,h3,h4,_⟩:=hp h0;exact ⟨xs,h3.same (fun _ _=>rfl) hF,fun _=>⟨g,0,rfl,hO k _ g hR hk' (by rw [hA];rfl),fun j u hu=>by rw [Nat.zero_add];exact h4 j u hu⟩⟩
 | full=>obtain ⟨A,h1,h2,h3⟩:=hv;exact ⟨A,_,h1,⟨Nat.le_refl _,h2⟩,h3.mono hF⟩
 | nil=>exact ⟨none,0,hv,by simp [maxLen],RowsAt.nil _ _ _ _⟩
theorem DR.reps {h:Nat→Option Box} {R:List Nat} {c:Ctx} {st:Mst} {ρ:Nat→Value} {a:Act} {w:World} {F:Nat→Prop} (hr:Rp c st ρ a w) (hh:∀k,aD R k=true→st.h k=h k) (hF:∀b,Fz c st.h ρ w b→F b)
  (hO:∀k bx g,aD R k=true→st.h k=some bx→kb (ρ k)=some g→F g):∀{l0 l:List D} {cs:List Value},All2 (DR h R) l0 l→All2 (D.rep w (Fz c st.h ρ w) ρ) l0 cs→All2 (D.rep w F ρ) l cs
 | [],[],[],_,_=>trivial
 | _ :: _,_ :: _,_ :: _,x,k=>⟨x.1.rep hr hh hF hO k.1,DR.reps hr hh hF hO x.2 k.2⟩
 | [],_ :: _,_,x,_=>x.elim
 | _ :: _,[],_,x,_=>x.elim
 | [],[],_ :: _,_,k=>k.elim
 | _ :: _,_ :: _,[],_,k=>k.elim
theorem VR.rep {h:Nat→Option Box} {R:List Nat} {d0 d:V0} (hd:VR h R d0 d) {c:Ctx} {st:Mst} {ρ:Nat→Value} {a:Act} {w:World} {F:Nat→Prop} {v:Value} (hr:Rp c st ρ a w) (hh:∀k,aD R k=true→st.h k=h k) (hF:∀b,Fz c st.h ρ w b→F b)
  (hO:∀k bx g,aD R k=true→st.h k=some bx→kb (ρ k)=some g→F g) (hv:d0.rep w (Fz c st.h ρ w) ρ v):d.rep w F ρ v:=by
 cases hd with
 | same=>exact hv.mono (fun b hb=>⟨hF b hb,rfl⟩) fun _ _=>rfl
 | one x=>exact x.rep hr hh hF hO hv
 | ag x=>obtain ⟨cs,e,h1⟩:=hv;exact ⟨cs,e,DR.reps hr hh hF hO x h1⟩
theorem pz {R:List Nat} {c:Ctx} {st:Mst} {ρ:Nat→Value} {a:Act} {w:World} {F:Nat→Prop} (hr:Rp c st ρ a w) (hh:∀k,aD R k=true→st.h k=s.h k) (hF:∀b,Fz c st.h ρ w b→F b)
  (hO:∀k bx g,aD R k=true→st.h k=some bx→kb (ρ k)=some g→F g):∀{l:List Operand} {m:List V0},(∀x∈l,st.ev x=s.ev x)→All2 (fun x d=>AR s R (s.ev x) d) l m→All2 (V0.rep w F ρ) m (l.map a.eval)
 | [],[],_,_=>trivial
 | x :: l,d :: m,he,h=>by
  refine ⟨?_,pz hr hh hF hO (fun y hy=>he y (by simp [hy])) h.2⟩;obtain ⟨y,h1,h2⟩:=h.1;have h3:=hr.ev x;rw [he x (by simp),h1] at h3;exact h2.rep hr hh hF hO h3
 | [],_ :: _,_,h=>h.elim
 | _ :: _,[],_,h=>h.elim
def D.isSc:D→Bool
 | .sc _=>true
 | _=>false
def V0.isSc:V0→Bool
 | .one d=>d.isSc
 | .ag l=>l.all D.isSc
def TV.isSc:TV→Bool
 | .v x=>x.isSc
 | .tup l=>l.all V0.isSc
theorem D.sc_any {w w':World} {F F':Nat→Prop} {ρ ρ':Nat→Value} {d:D} (h:d.isSc=true) {v:Value} (hv:d.rep w F ρ v):d.rep w' F' ρ' v:=by
 cases d <;> first|exact hv|cases h
theorem D.scs_any {w w':World} {F F':Nat→Prop} {ρ ρ':Nat→Value}:∀{l:List D} {vs:List Value},l.all D.isSc=true→All2 (D.rep w F ρ) l vs→All2 (D.rep w' F' ρ') l vs
 | [],[],_,_=>trivial
 | d :: l,v :: vs,h,k=>by
  simp only [List.all_cons,Bool.and_eq_true] at h;exact ⟨D.sc_any h.1 k.1,D.scs_any h.2 k.2⟩
 | [],_ :: _,_,k=>k.elim
 | _ :: _,[],_,k=>k.elim
theorem V0.sc_any {w w':World} {F F':Nat→Prop} {ρ ρ':Nat→Value} {d:V0} (h:d.isSc=true) {v:Value} (hv:d.rep w F ρ v):d.rep w' F' ρ' v:=by
 cases d with
 | one d=>exact D.sc_any (d:=d) h hv
 | ag l=>obtain ⟨cs,e,h1⟩:=hv;exact ⟨cs,e,D.scs_any h h1⟩
theorem TV.sc_any {w w':World} {F F':Nat→Prop} {ρ ρ':Nat→Value} {d:TV} (h:d.isSc=true) {v:Value} (hv:d.rep w F ρ v):d.rep w' F' ρ' v:=by
 cases d with
 | v d=>exact V0.sc_any (d:=d) h hv
 | tup l =>
  obtain ⟨vs,e,h1⟩:=hv;refine ⟨vs,e,?_⟩;clear e;induction l generalizing vs with
  | nil=>cases vs with
   | nil=>trivial
   | cons=>exact h1.elim
  | cons x l ih=>cases vs with
   | nil=>exact h1.elim
   | cons v vs =>
    simp only [TV.isSc,List.all_cons,Bool.and_eq_true] at h;exact ⟨V0.sc_any h.1 h1.1,ih h.2 vs h1.2⟩
theorem TV.sc_has {d:TV} (h:d.isSc=true) (k:Nat):d.has k=false:=by
 have h1:∀d:D,d.isSc=true→d.has k=false:=fun d h=>by cases d <;> first|rfl|cases h
 have h2:∀x:V0,x.isSc=true→x.has k=false:=fun x h=>by
  cases x with
  | one d=>exact h1 d h
  | ag l=>simp only [V0.has,List.any_eq_false];intro d hd;simp [h1 d (List.all_eq_true.1 h d hd)]
 cases d with
 | v x=>exact h2 x h
 | tup l=>simp only [TV.has,List.any_eq_false];intro d hd;simp [h2 d (List.all_eq_true.1 h d hd)]
theorem vY {f:FuncId} {xs:Array Operand} {ts:Array TypeId} {a:Act} {w:World} {K:Act→World→Prop} {Q:Ending→World→Prop} (hen:∀(vs:Array Value) (w:World),(callFunc f vs).run P w = .ok (.enter f vs) w) (ho:o.op = .call { callee:=.value (.func f),args:=xs,argTypes:=ts })
  (hc:Calls P f (xs.toList.map a.eval).toArray w Q) (hK:∀e w',Q e w'→∃v,e = .returned v∧K (a.put o.dst v) w'):o.wp P a w K fun _ _ _=>False:=by
 have he:(xs.toList.map a.eval).toArray=xs.map a.eval:=by apply Array.toList_inj.1;simp
 rw [he] at hc;unfold Oper.wp execOp;simp only [ho,resolve,Act.eval,Deferred.ofValue,invoke,Sem.run_bind,Sem.run_pure,Result.andThen_ok,Array.append_empty,Array.empty_append];rw [hen];refine hc.mono fun e w' h=>?_;obtain ⟨v,rfl,h2⟩:=hK e w' h;exact h2
theorem Ap {f:FuncId} {xs:Array Operand} {ts:Array TypeId} {args:List V0} {res:TV} (R:List Nat) (hs:FSpec P f args [] [] res []) (ho:o.op = .call { callee:=.value (.func f),args:=xs,argTypes:=ts }) (hok:z6 args [] [] res []=true) (hb:res.isSc=true)
  (ha:All2 (fun x d=>AR s R (s.ev x) d) xs.toList args):LOp P o s R ⟨res,[],[]⟩:=by
 intro c st ρ a w hr h1 h2 h3 h4;have hargs:=pz (F:=fun b=>b<w.heap.size) hr (fun k hk=>h2 k hk) (fun b hb=>hb.2.1) (fun k bx g _ hk hg=>hr.ltb hk hg) (fun x hx=>h1 x (by simp [ho,Op.operands,Call.operands];exact .inr (by simpa using hx))) ha;refine vY hs.en ho (hs.calls hok (fun b hb=>hb) hr.pin hargs) ?_;rintro e w' ⟨v,rfl,hB,hv⟩;exact ⟨v,rfl,ρ,hr.app (e:=⟨res,[],[]⟩) h4 (fun k hk=>by simp [aD] at hk) (fun _ _=>rfl) (fun k hk=>by simp [ax] at hk) (Frx.below hB) (fun k bx g hk=>by simp [ax] at hk) (fun k k' b b' g hk=>by simp [ax] at hk) (fun k hk=>by rw [TV.sc_has hb k] at hk;cases hk) (fun k k' bx hk=>by simp [ax] at hk) (fun k bx hk=>by simp [ax] at hk) (TV.sc_any hb hv)⟩
def iR (ks:List Nat):List (Nat×Option Box):=ks.map fun k=>(k,none)
theorem cK {ks:List Nat} {k:Nat}:ax (iR ks) k=aD ks k:=by
 induction ks with
 | nil=>rfl
 | cons x l ih=>simp only [iR,List.map_cons,ax,aD];rw [←ih];rfl
theorem eA {ks:List Nat} {h:Nat→Option Box} {k:Nat} (hk:aD ks k=true):hput (iR ks) h k=none:=by
 induction ks with
 | nil=>simp [aD] at hk
 | cons x l ih =>
  simp only [iR,List.map_cons,hput];cases hx:x.beq k with
  | true=>rfl
  | false =>
   simp only [aD,hx,Bool.false_or] at hk;exact ih hk
theorem Aq {f:FuncId} {xs:Array Operand} {ts:Array TypeId} {args:List V0} {res:TV} (ks:List Nat) (hs:FSpec P f args [] [] res []) (ho:o.op = .call { callee:=.value (.func f),args:=xs,argTypes:=ts }) (hok:z6 args [] [] res []=true)
  (hks:ks.all (fun k=>(s.h k).isSome)=true) (ha:All2 (fun x d=>AR s ks (s.ev x) d) xs.toList args):LOp P o s ks ⟨res,iR ks,[]⟩:=by
 intro c st ρ a w hr h1 h2 h3 h4;have hsome:∀k,aD ks k=true→∃b,st.h k=some b:=fun k hk=>by
  have:=im hks k hk;rw [←h2 k hk] at this;exact Option.isSome_iff_exists.1 this
 have hF:∀b,Fz c st.h ρ w b→Fz c (hput (iR ks) st.h) ρ w b:=fun b ⟨f1,f2,f3⟩=>⟨f1,f2,fun k bx hk=>by
  cases hh:ax (iR ks) k with
  | true=>rw [eA (by rw [←cK];exact hh)] at hk;cases hk
  | false=>rw [bD hh] at hk;exact f3 k bx hk⟩
 have hO:∀k bx g,aD ks k=true→st.h k=some bx→kb (ρ k)=some g→Fz c (hput (iR ks) st.h) ρ w g:=fun k bx g hk hb hg=>by
  refine ⟨(hr.inb k bx g hb hg).imp (c.hX g) id,hr.ltb hb hg,fun k' bx' hk' he=>?_⟩;cases hh:ax (iR ks) k' with
  | true=>rw [eA (by rw [←cK];exact hh)] at hk';cases hk'
  | false =>
   rw [bD hh] at hk';have:=hr.dis k k' bx bx' g hb hk' hg he;subst this;rw [cK,hk] at hh;cases hh
 have hargs:=pz hr (fun k hk=>h2 k hk) hF hO (fun x hx=>h1 x (by simp [ho,Op.operands,Call.operands];exact .inr (by simpa using hx))) ha;have hok':=hok;simp only [z6,Bool.and_eq_true] at hok;obtain ⟨⟨⟨⟨⟨⟨_,_⟩,_⟩,_⟩,_⟩,o6⟩,_⟩:=hok;have hnor:∀k,res.has k=true→False:=fun k hk=>by have:=TV.in_has o6 hk;simp [aj,aD] at this
 refine vY hs.en ho (hs.calls hok' (fun b hb=>hb.2.1) hr.pin hargs) ?_;rintro e w' ⟨v,rfl,hB,hv⟩;refine ⟨v,rfl,ρ,hr.app (e:=⟨res,iR ks,[]⟩) h4 (fun k hk=>by simp [aD] at hk) (fun _ _=>rfl) (fun k hk=>.inr ?_) (Frx.below hB) (fun k bx g hk hb=>?_) (fun k k' b b' g hk _ hb=>?_) (fun k hk=>(hnor k hk).elim) (fun k k' bx hk hb=>?_) (fun k bx hk hb=>?_) ?_⟩
 ·obtain ⟨b,hb⟩:=hsome k (by rw [←cK];exact hk);exact hr.nfh hb
 ·rw [eA (by rw [←cK];exact hk)] at hb;cases hb
 ·rw [eA (by rw [←cK];exact hk)] at hb;cases hb
 ·rw [eA (by rw [←cK];exact hk)] at hb;cases hb
 ·rw [eA (by rw [←cK];exact hk)] at hb;cases hb
 ·refine hv.mono (fun b hb=>⟨⟨?_,hb.1,fun k bx hk he=>?_⟩,rfl⟩) fun _ _=>rfl
  ·rcases hb.2 with h|h
   ·exact h.1
   ·exact .inr (Nat.le_trans hr.frm.size h)
  ·rcases hb.2 with h|h
   ·exact h.2.2 k bx hk he
   ·cases hh:ax (iR ks) k with
    | true=>rw [eA (by rw [←cK];exact hh)] at hk;cases hk
    | false =>
     rw [bD hh] at hk;have:=hr.ltb hk he;omega
end
section
variable {P:Program} {nt:Nat} {Ks:List Nat} {Q:Exit→Mst→Prop} {s:Mst}
theorem cZ {x:Code} {α:Type} (t k:Nat) (e:TypeId) (E:El α) (ht:s.t t = .c (.sc (.slice none 0 0))) (hf:s.f k=true) (hnt:Nat.blt t nt=true) (h:AW P nt Ks x Q (s.app (some t) ⟨.c (.own k),[(k,some (.arr e E []))],[k]⟩)):AW P nt Ks x Q s:=by
 intro c ρ a w hc hK hr;have hkk:∀k':Nat,ax [(k,some (Box.arr e E ([]:List α)))] k'=true→k'=k:=fun k' h=>by
  simp only [ax,Bool.or_false] at h;exact (Nat.eq_of_beq_eq_true h).symm
 have hv:a.tmps.getD t undef = .slice none 0 0:=by have:=hr.tmp t;rw [ht] at this;exact this
 have hput:a.put (some t) (.slice none 0 0)=a:=by
  cases a with
  | mk tmps defers =>
   simp only [Act.put];congr 1
   apply Array.ext
   ·simp
   ·intro i h1 h2;rw [Array.getElem_setIfInBounds];split
    ·rename_i h3
     subst h3;rw [←hv];simp [Array.getD_eq_getD_getElem?,h2]
    ·rfl
 have h2:=hr.app (ρ':=upd ρ k (.slice none 0 0)) (w':=w) (dst:=some t) (v:=.slice none 0 0) (e:=⟨.c (.own k),[(k,some (.arr e E []))],[k]⟩) (fun d hd=>by injection hd with hd;subst hd;rw [hc];simpa using hnt)
  (fun k' hk=>by have h9:k'=k:=(by simp [aD] at hk;exact hk.symm);subst h9;exact ⟨hf,by simp [ax]⟩)
  (fun k' hk=>de (by simpa [aD] using hk)) (fun k' hk=>.inl (by rw [hkk k' hk];simp [aD])) (Frx.refl _ _)
  (fun k' bx g hk _ hg=>by rw [hkk k' hk,aI] at hg;cases hg) (fun k1 k2 b b' g h1 h2 _ _ _ _=>by rw [hkk k1 h1,hkk k2 h2]) (fun k' hk=>.inl (by simp [TV.has,V0.has,D.has] at hk;simp [aD,hk])) (fun k1 k2 bx hk hb hx=>by
   rw [hkk k2 hk] at hb;simp only [Go.Proofs.YtcgpepnbohejfaaGreatDoor.hput,Nat.beq_refl,cond_true,Option.some.injEq] at hb;subst hb;simp [Box.has] at hx)
  (fun k' bx hk hb=>by
   rw [hkk k' hk] at hb ⊢;simp only [Go.Proofs.YtcgpepnbohejfaaGreatDoor.hput,Nat.beq_refl,cond_true,Option.some.injEq] at hb;subst hb;rw [aI];exact ⟨[],World.ownsRow_nil _ _ _ _,rfl⟩)
  (aI _ _ _).symm
 rw [hput] at h2;exact h c _ a w hc hK h2
def D.frz (d:D) (k:Nat) (r:D):D:=match d with
 | .own j=>bif j.beq k then r else .own j
 | .slb j n=>bif j.beq k then .any else .slb j n
 | .ptr j n=>bif j.beq k then .any else .ptr j n
 | .optr j m i n=>bif j.beq k then .any else .optr j m i n
 | .ocut j=>bif j.beq k then r else .ocut j
 | .osl j m a b f=>bif j.beq k then .any else .osl j m a b f
 | .clo f ks=>bif ks.any (fun j=>j.beq k) then .any else .clo f ks
 | d=>d
def V0.frz (x:V0) (k:Nat) (r:D):V0:=match x with
 | .one d=>.one (d.frz k r)
 | .ag l=>.ag (l.map (fun d=>D.frz d k r))
def TV.frz (x:TV) (k:Nat) (r:D):TV:=match x with
 | .v x=>.v (x.frz k r)
 | .tup l=>.tup (l.map (fun d=>V0.frz d k r))
def Box.frz (x:Box) (k:Nat) (r:D):Box:=match x with
 | .box t cs=>.box t (cs.map (fun d=>D.frz d k r))
 | b=>b
def Mst.frz (s:Mst) (k:Nat) (r:D):Mst:={ t:=fun t=>(s.t t).frz k r,h:=fun j=>bif j.beq k then none else (s.h j).map (fun d=>Box.frz d k r),f:=s.f }
theorem D.frz_has {k j:Nat} {α:Type} {E:El α} {l:List α} {d:D} (h:(d.frz k (.sl E l)).has j=true):d.has j=true:=by
 cases d with
 | own i=>have h0:=h;simp only [D.frz] at h0;clear h;revert h0;cases hb:i.beq k <;> intro h0 <;> first|exact h0|cases h0
 | slb i n=>have h0:=h;simp only [D.frz] at h0;clear h;revert h0;cases hb:i.beq k <;> intro h0 <;> first|exact h0|cases h0
 | ptr i n=>have h0:=h;simp only [D.frz] at h0;clear h;revert h0;cases hb:i.beq k <;> intro h0 <;> first|exact h0|cases h0
 | optr i m p n=>have h0:=h;simp only [D.frz] at h0;clear h;revert h0;cases hb:i.beq k <;> intro h0 <;> first|exact h0|cases h0
 | ocut i=>have h0:=h;simp only [D.frz] at h0;clear h;revert h0;cases hb:i.beq k <;> intro h0 <;> first|exact h0|cases h0
 | osl i m a b f=>have h0:=h;simp only [D.frz] at h0;clear h;revert h0;cases hb:i.beq k <;> intro h0 <;> first|exact h0|cases h0
 | clo f ks=>have h0:=h;simp only [D.frz] at h0;clear h;revert h0;cases hb:ks.any (fun j=>j.beq k) <;> intro h0 <;> first|exact h0|cases h0
 | _=>exact h
theorem D.frzL_has {k j:Nat} {α:Type} {E:El α} {l:List α} {ds:List D} (h:(ds.map (fun d=>D.frz d k (.sl E l))).any (D.has j)=true):ds.any (D.has j)=true:=by
 obtain ⟨d,h1,h2⟩:=List.any_eq_true.1 h;obtain ⟨d0,h3,rfl⟩:=List.mem_map.1 h1;exact List.any_eq_true.2 ⟨d0,h3,D.frz_has h2⟩
theorem V0.frz_has {k j:Nat} {α:Type} {E:El α} {l:List α} {d:V0} (h:(d.frz k (.sl E l)).has j=true):d.has j=true:=by
 cases d with
 | one d=>exact D.frz_has (d:=d) h
 | ag ds=>exact D.frzL_has (ds:=ds) h
theorem TV.frz_has {k j:Nat} {α:Type} {E:El α} {l:List α} {d:TV} (h:(d.frz k (.sl E l)).has j=true):d.has j=true:=by
 cases d with
 | v d=>exact V0.frz_has (d:=d) h
 | tup ds =>
  obtain ⟨d,h1,h2⟩:=List.any_eq_true.1 h;obtain ⟨d0,h3,rfl⟩:=List.mem_map.1 h1;exact List.any_eq_true.2 ⟨d0,h3,V0.frz_has h2⟩
theorem Box.frz_has {k j:Nat} {α:Type} {E:El α} {l:List α} {d:Box} (h:(d.frz k (.sl E l)).has j=true):d.has j=true:=by
 cases d with
 | box t ds=>exact D.frzL_has (ds:=ds) h
 | _=>exact h
theorem gB {x:Code} {α:Type} {e:TypeId} {E:El α} {l:List α} (k:Nat) (hk:s.h k=some (.arr e E l)) (h:AW P nt Ks x Q (s.frz k (.sl E l))):AW P nt Ks x Q s:=by
 intro c ρ a w hc hK hr;refine h c ρ a w hc hK ?_;have hh:∀j b,(s.frz k (.sl E l)).h j=some b→j.beq k=false∧∃b0,s.h j=some b0∧b=b0.frz k (.sl E l):=fun j b hb=>by
  simp only [Mst.frz] at hb;cases hj:j.beq k with
  | true=>rw [hj] at hb;cases hb
  | false =>
   rw [hj] at hb;cases hs:s.h j with
   | none=>simp only [cond_false,hs,Option.map_none] at hb;cases hb
   | some b0=>simp only [cond_false,hs,Option.map_some,Option.some.injEq] at hb;exact ⟨rfl,b0,rfl,hb.symm⟩
 have hF:∀b,Fz c s.h ρ w b→Fz c (s.frz k (.sl E l)).h ρ w b:=fun b ⟨f1,f2,f3⟩=>⟨f1,f2,fun j bx hj=>by obtain ⟨_,b0,h1,_⟩:=hh j bx hj;exact f3 j b0 h1⟩;have hsl:∀{v:Value},(D.ocut k).rep w (Fz c s.h ρ w) ρ v→(D.sl E l).rep w (Fz c (s.frz k (.sl E l)).h ρ w) ρ v:=fun hv=>xr (h:=s.h) hr hk hv hF fun g hg=>⟨(hr.inb k _ g hk hg).imp (c.hX g) id,hr.ltb hk hg,fun j bx hj he=>by
  obtain ⟨h0,b0,h1,_⟩:=hh j bx hj;have:=hr.dis k j _ b0 g hk h1 hg he;subst this;rw [Nat.beq_refl] at h0;cases h0⟩
 have hD:∀{d:D} {v:Value},d.rep w (Fz c s.h ρ w) ρ v→(d.frz k (.sl E l)).rep w (Fz c (s.frz k (.sl E l)).h ρ w) ρ v:=fun {d v} hd=>by
  have hm:d.rep w (Fz c (s.frz k (.sl E l)).h ρ w) ρ v:=hd.mono (fun b hb=>⟨hF b hb,rfl⟩) fun _ _=>rfl;cases d with
  | own j =>
   simp only [D.frz];cases hj:j.beq k with
   | false=>exact hm
   | true =>
    have hm:v=ρ j:=hm;rw [hm,Nat.eq_of_beq_eq_true hj];exact hsl (oS hr hk rfl)
  | slb j n=>simp only [D.frz];cases hj:j.beq k with
   | false=>exact hm
   | true=>trivial
  | ptr j n=>simp only [D.frz];cases hj:j.beq k with
   | false=>exact hm
   | true=>trivial
  | optr j m i n=>simp only [D.frz];cases hj:j.beq k with
   | false=>exact hm
   | true=>trivial
  | osl j m i n f=>simp only [D.frz];cases hj:j.beq k with
   | false=>exact hm
   | true=>trivial
  | clo f ks=>simp only [D.frz];cases hj:ks.any (fun j=>j.beq k) with
   | false=>exact hm
   | true=>trivial
  | ocut j =>
   simp only [D.frz];cases hj:j.beq k with
   | false=>exact hm
   | true =>
    rw [Nat.eq_of_beq_eq_true hj] at hd;exact hsl hd
  | _=>exact hm
 have hL:∀{ds:List D} {vs:List Value},All2 (D.rep w (Fz c s.h ρ w) ρ) ds vs→All2 (D.rep w (Fz c (s.frz k (.sl E l)).h ρ w) ρ) (ds.map (fun d=>D.frz d k (.sl E l))) vs:=fun {ds vs} h=>All2.mapL.2 (h.imp fun d v _ hd=>hD hd);have hV:∀{d:V0} {v:Value},d.rep w (Fz c s.h ρ w) ρ v→(d.frz k (.sl E l)).rep w (Fz c (s.frz k (.sl E l)).h ρ w) ρ v:=fun {d v} hd=>by
  cases d with
  | one d=>exact hD (d:=d) hd
  | ag ds=>obtain ⟨cs,e,h1⟩:=hd;exact ⟨cs,e,hL h1⟩
 refine ⟨hr.dfr,hr.siz,hr.frm,fun t=>?_,fun j b hj=>?_,fun j b g hj hg=>?_,fun j j' b b' g hj hj' hg hg'=>?_,hr.ent,⟨fun j hj=>?_,fun j t hj=>?_,fun j j' b hj hb=>?_⟩⟩
 ·have h1:=hr.tmp t;show TV.rep _ _ _ ((s.t t).frz k (.sl E l)) _;generalize s.t t=d at *
  cases d with
  | v d=>exact hV (d:=d) h1
  | tup ds=>obtain ⟨vs,e,h2⟩:=h1;exact ⟨vs,e,All2.mapL.2 (h2.imp fun d v _ hd=>hV hd)⟩
 ·obtain ⟨_,b0,h1,rfl⟩:=hh j b hj;have h2:=hr.hp j b0 h1;cases b0 with
  | box t cs=>obtain ⟨g,vs,e,hB,hA,h5⟩:=h2;exact ⟨g,vs,e,hB,hL hA,h5⟩
  | arr e' E' l'=>obtain ⟨xs,h3,h4⟩:=h2;exact ⟨xs,h3,h4.same (fun _ _=>rfl) hF⟩
  | mp l'=>exact h2
  | it k' n' l'=>exact h2
 ·obtain ⟨_,b0,h1,_⟩:=hh j b hj;exact hr.inb j b0 g h1 hg
 ·obtain ⟨_,b0,h1,_⟩:=hh j b hj;obtain ⟨_,b0',h1',_⟩:=hh j' b' hj';exact hr.dis j j' b0 b0' g h1 h1' hg hg'
 ·have hj:s.f j=true:=hj;simp only [Mst.frz,hr.wf.h j hj,Option.map_none,Bool.cond_self]
 ·have hj:s.f j=true:=hj;cases h9:((s.frz k (.sl E l)).t t).has j with
  | false=>rfl
  | true=>have:=TV.frz_has (d:=s.t t) h9;rw [hr.wf.t j t hj] at this;cases this
 ·have hj:s.f j=true:=hj;obtain ⟨_,b0,h1,rfl⟩:=hh j' b hb;cases h9:(b0.frz k (.sl E l)).has j with
  | false=>rfl
  | true=>have:=Box.frz_has h9;rw [hr.wf.b j j' b0 hj h1] at this;cases this
end
section
variable {P:Program} {s:Mst} {o:Oper} {α:Type} {E:El α} {l:List α} {e':TypeId}
theorem sW {c:Ctx} {st:Mst} {ρ:Nat→Value} {a:Act} {w:World} {F:Nat→Prop} (hr:Rp c st ρ a w) {k:Nat} (hk:st.h k=some (.arr e' E l)) {v:Value} (hv:(D.ocut k).rep w F ρ v) :
  ∃A cap cp,v = .slice A l.length cp∧(l.length≤cp∧cp≤cap∧cap≤maxLen)∧ρ k = .slice A l.length cap∧(0<l.length→∃g,A=some ⟨g,0,none⟩):=by
 obtain ⟨A0,n0,cap0,c0,hρ0,hc0,rfl⟩:=hv;obtain ⟨A,cap,hA,hc,hp⟩:=dF (hr.hp k _ hk);have hA':=hA;rw [hρ0] at hA';injection hA' with e1 e2 e3;subst e1;subst e2;subst e3;exact ⟨A0,cap0,c0,rfl,⟨hc0.1,hc0.2,hc.2⟩,hρ0,fun h=>by obtain ⟨g,xs,rfl,_⟩:=hp h;exact ⟨g,rfl⟩⟩
theorem ny {t e:TypeId} {x y:Operand} {row:Bool} {n i k:Nat} {kd:IntKind} {z:Int} (ho:o.op = .indexAddr t x y) (hx:s.ev x = .c (.ocut k)) (hk:s.h k=some (.arr e' E l)) (hy:s.ev y = .c (.sc (.int kd z))) [SE P t e] [TI P e row n] (hn:E.n=n) (hz:z=(i:Int)) (hi:i<l.length) :
  LOp P o s [k] ⟨.c (.optr k n i 0),[],[]⟩ :=
 bi fun c st ρ a w hr h1 h2=>by
  have he:=h1 x (by simp [ho,Op.operands]);have he2:=h1 y (by simp [ho,Op.operands]);rw [hx] at he;rw [hy] at he2;have hv:=hr.ev x;rw [he] at hv;have hv2:=hr.ev y;rw [he2] at hv2;have hv2:a.eval y = .int kd z:=hv2;obtain ⟨A,cap,cp,hv,hc,hρ,hp⟩:=sW hr ((h2 k (by simp [aD])).trans hk) (show (D.ocut k).rep w (Fz c st.h ρ w) ρ (a.eval x) from hv);obtain ⟨g,rfl⟩:=hp (by omega);subst hz;subst hn;refine ⟨.pointer (some ⟨g,0+i*E.n,none⟩),by unfold execOp;rw [ho];simp only [hv,hv2,Sem.run_bind,gq w l.length cp i hi,Result.andThen_ok,Sem.run_pure],⟨g,_,_,hρ,by simp⟩,fun k' hk'=>hr.nf (x:=x) he (by simpa [TV.has,V0.has,D.has] using hk')⟩
theorem Ar {t e:TypeId} {x:Operand} {k:Nat} [SE P t e] (ho:o.op = .call { callee:=.builtin .len,args:=#[x],argTypes:=#[t] }) (hx:s.ev x = .c (.ocut k)) (hk:s.h k=some (.arr e' E l)):LOp P o s [k] ⟨.i l.length,[],[]⟩ :=
 ga (ty:=0) ho fun c st ρ a w hr he h2=>by
  have hv:=hr.ev x;rw [he,hx] at hv;obtain ⟨A,cap,cp,hv,_⟩:=sW hr ((h2 k (by simp [aD])).trans hk) (show (D.ocut k).rep w (Fz c st.h ρ w) ρ (a.eval x) from hv);exact ⟨A,cp,hv⟩
theorem kx {t e:TypeId} {row:Bool} {n:Nat} {z:Int} {x y:Operand} {L L':List α} [I:SE P t e] [J:TI P e row n] (ho:o.op = .slice t x (some y) none none) (hx:s.ev x = .c (.sl E L)) (hn:E.n=n) (hy:s.ev y = .i z) (h0:0≤z) (h1:z.toNat≤L.length) (hL:L.drop z.toNat=L'):LOp P o s [] ⟨.c (.sl E L'),[],[]⟩ :=
 sG ho hx hn (.inl ⟨y,rfl,by rw [hy,Int.toNat_of_nonneg h0]⟩) (.inr ⟨rfl,rfl⟩) h1 (Nat.le_refl _) (by rw [List.take_length];exact hL)
theorem pA {t e:TypeId} {row:Bool} {n:Nat} {z:Int} {x y:Operand} {L L':List α} [I:SE P t e] [J:TI P e row n] (ho:o.op = .slice t x none (some y) none) (hx:s.ev x = .c (.sl E L)) (hn:E.n=n) (hy:s.ev y = .i z) (h0:0≤z) (h1:z.toNat≤L.length) (hL:L.take z.toNat=L'):LOp P o s [] ⟨.c (.sl E L'),[],[]⟩ :=
 sG ho hx hn (.inr ⟨rfl,rfl⟩) (.inl ⟨y,rfl,by rw [hy,Int.toNat_of_nonneg h0]⟩) (Nat.zero_le _) h1 (by rw [List.drop_zero];exact hL)
theorem vZ {t e:TypeId} {x y:Operand} {row:Bool} {n:Nat} {kd:IntKind} {z:Int} (ho:o.op = .indexAddr t x y) (hx:s.ev x = .c (.sl E l)) (hy:s.ev y = .c (.sc (.int kd z))) [SE P t e] [TI P e row n] (hn:E.n=n) (h0:0≤z) (hi:z.toNat<l.length):LOp P o s [] ⟨.c (.eptr E l z.toNat 0),[],[]⟩ :=
 sB ho hx hy hn (Int.toNat_of_nonneg h0).symm hi
theorem ug {t e:TypeId} {x y:Operand} {row:Bool} {n k:Nat} {kd:IntKind} {z:Int} (ho:o.op = .indexAddr t x y) (hx:s.ev x = .c (.own k)) (hk:s.h k=some (.arr e' E l)) (hy:s.ev y = .c (.sc (.int kd z))) [SE P t e] [TI P e row n] (hn:E.n=n) (h0:0≤z) (hi:z.toNat<l.length):LOp P o s [k] ⟨.c (.optr k n z.toNat 0),[],[]⟩ :=
 ng ho hx hk hy hn (Int.toNat_of_nonneg h0).symm hi
theorem uh {t e:TypeId} {x y:Operand} {row:Bool} {n k:Nat} {kd:IntKind} {z:Int} (ho:o.op = .indexAddr t x y) (hx:s.ev x = .c (.ocut k)) (hk:s.h k=some (.arr e' E l)) (hy:s.ev y = .c (.sc (.int kd z))) [SE P t e] [TI P e row n] (hn:E.n=n) (h0:0≤z) (hi:z.toNat<l.length):LOp P o s [k] ⟨.c (.optr k n z.toNat 0),[],[]⟩ :=
 ny ho hx hk hy hn (Int.toNat_of_nonneg h0).symm hi
theorem B0 {x y z:Operand} {b:Bool} {v:V0} (ho:o.op = .pick x y z) (hx:s.ev x = .b b) (hv:(bif b then s.ev y else s.ev z) = .v v):LOp P o s [] ⟨.v v,[],[]⟩ :=
 bi fun c st ρ a w hr h1 _=>by
  have he:=h1 x (by simp [ho,Op.operands]);rw [hx] at he;have hb:a.eval x = .bool b:=by have:=hr.ev x;rwa [he] at this
  cases b with
  | true =>
   have he2:=h1 y (by simp [ho,Op.operands]);rw [show s.ev y = .v v from hv] at he2;exact ⟨a.eval y,by unfold execOp;rw [ho];simp [hb,asBool],by have:=hr.ev y;rwa [he2] at this,fun k hk=>hr.nf he2 hk⟩
  | false =>
   have he2:=h1 z (by simp [ho,Op.operands]);rw [show s.ev z = .v v from hv] at he2;exact ⟨a.eval z,by unfold execOp;rw [ho];simp [hb,asBool],by have:=hr.ev z;rwa [he2] at this,fun k hk=>hr.nf he2 hk⟩
theorem mD {t e k n by_:Nat} {x y:Operand} {z:Value} {y0:α} (I:P.underlying t=some (.slice e)) (hI:(P.info? e).map (fun i=>(i.zero,i.size,i.bytes))=some (some z,1,by_)) (hz:z.cells = #[z]) (hb:by_≤64) (hE:E.n=1) (hy0:∀w S,E.rep w S y0 [z])
  (ho:o.op = .makeSlice t x y) (hdk:o.dst=some k) (hx:s.ev x = .i n) (hy:s.ev y = .i n) (hn:n≤1000000):LOp P o s [] ⟨.c (.own k),[(k,some (.arr e E (List.replicate n y0)))],[k]⟩:=by
 intro c st ρ a w hr h1 h2 h3 h4;have hv1:a.eval x = .int .i64 (n:Int):=by have:=hr.ev x;rwa [h1 x (by simp [ho,Op.operands]),hx] at this
 have hv2:a.eval y = .int .i64 (n:Int):=by have:=hr.ev y;rwa [h1 y (by simp [ho,Op.operands]),hy] at this
 have hfk:st.f k=true:=h3 k (by simp [aD]);have hrun:=F1 (P:=P) t e z by_ I hI hz hb n hn w;have ho1:=World.ownsRow_lit (e:=e) (size:=E.n) (base:=0) w (madeCells #[z] n) n (Nat.zero_le _) (by simp only [maxLen];omega) (by rw [size_madeCells,hE,Nat.mul_one]);rw [toList_madeCells_one] at ho1;have hgen:∀(S:Nat→Prop) (q:Nat),Reps E (w.alloc (.cells (madeCells #[z] n) e)) S (List.replicate q y0) (List.replicate q z):=by
  intro S q;induction q with
  | zero=>rfl
  | succ q ih=>exact ⟨[z],List.replicate q z,rfl,hy0 _ _,ih⟩
 have hkk:∀k':Nat,ax [(k,some (Box.arr e E (List.replicate n y0)))] k'=true→k'=k:=fun k' h=>by
  simp only [ax,Bool.or_false] at h;exact (Nat.eq_of_beq_eq_true h).symm
 refine Oper.wp_value (v:=.slice (some ⟨w.heap.size,0,none⟩) n n) (w':=w.alloc (.cells (madeCells #[z] n) e)) ?_ ⟨upd ρ k (.slice (some ⟨w.heap.size,0,none⟩) n n),hr.app (e:=⟨.c (.own k),[(k,some (.arr e E (List.replicate n y0)))],[k]⟩) h4 (fun k' h=>?_) (fun k' h=>?_) (fun k' h=>.inl ?_) (Frx.alloc _ _ _) (fun k' bx g' h _ hg'=>?_) (fun k1 k2 _ _ _ h h' _ _ _ _=>?_) (fun k' h=>.inl ?_) (fun k1 k2 bx h hp hx=>?_) (fun k2 bx h hp=>?_) ?_⟩
 ·unfold execOp;rw [ho];simp only [hv1,hv2,Sem.run_bind,hrun,Result.andThen_ok,Sem.run_pure]
 ·have:k'=k:=by simp [aD] at h;exact h.symm
  subst this;exact ⟨hfk,by simp [ax]⟩
 ·exact de (by simpa [aD] using h)
 ·rw [hkk k' h];simp [aD]
 ·rw [hkk k' h,aI] at hg';injection hg' with hg';subst hg';exact ⟨by simp,.inl (Nat.le_refl _)⟩
 ·rw [hkk k1 h,hkk k2 h']
 ·have:k'=k:=by simp [TV.has,V0.has,D.has] at h;exact h.symm
  subst this;simp [aD]
 ·rw [hkk k2 h] at hp;simp only [hput,Nat.beq_refl,cond_true,Option.some.injEq] at hp;subst hp;simp [Box.has] at hx
 ·rw [hkk k2 h] at hp ⊢;simp only [hput,Nat.beq_refl,cond_true,Option.some.injEq] at hp;subst hp;rw [aI];exact ⟨List.replicate n z,by rw [List.length_replicate];exact ho1,hgen _ n⟩
 ·exact (aI _ _ _).symm
end
def JC:Op→Nat
 | .move _=>1
 | .assign _=>2
 | .load ..=>3
 | .store ..=>4
 | .fieldAddr ..=>5
 | .indexAddr ..=>6
 | .call c=>match c.callee with
  | .builtin .len=>7
  | .builtin .append=>8
  | _=>9
 | .binOp ..=>10
 | .unOp ..=>11
 | .build ..=>12
 | .buildSlice ..=>13
 | .slice ..=>14
 | .extract ..=>15
 | .field ..=>16
 | .alloc _=>17
 | .box ..=>18
 | .pick ..=>19
 | .makeSlice ..=>20
 | .nilCheck _=>21
 | .makeMap ..=>22
 | .lookup ..=>23
 | .mapUpdate ..=>24
 | .range ..=>25
 | .next ..=>26
 | .entry ..=>27
 | _=>0
section
variable {P:Program} {nt:Nat} {Ks:List Nat} {Q:Exit→Mst→Prop} {s:Mst} {K:Mst→Prop} {ops:Array Oper} {draw:Bool} {o:Oper} {l:List Oper} {acc:List (List Nat×List Nat)} {x:Code}
theorem Ht {l:List Oper} (h:DA P ops draw l acc s K):DA P ops draw l acc s K:=h
theorem B1 (h:AW P nt Ks x Q s):AW P nt Ks x Q s:=h
theorem wa {t:Nat} {b:Bool} (h:s.t t = .b b):s.app (some t) ⟨.b b,[],[]⟩=s:=by
 cases s with
 | mk st sh sf =>
  simp only [Mst.app,hput,aD,Bool.not_false,Bool.and_true,Mst.mk.injEq,and_true];funext n
  simp only [iO];cases hn:t.beq n with
  | false=>rfl
  | true=>rw [←Nat.eq_of_beq_eq_true hn];exact h.symm
theorem B2 {j t:Nat} {want b:Bool} (hg:o.guard=some (j,want)) (hj:(ops[j]?).bind (·.dst)=some t) (ht:s.t t = .b b) (h1:b=true→DA P ops draw (o :: l) acc (s.app (some t) ⟨.b true,[],[]⟩) K) (h2:b=false→DA P ops draw (o :: l) acc (s.app (some t) ⟨.b false,[],[]⟩) K):DA P ops draw (o :: l) acc s K:=by
 cases b with
 | true=>have:=h1 rfl;rwa [wa ht] at this
 | false=>have:=h2 rfl;rwa [wa ht] at this
theorem aa (n:Nat) (_:JC o.op=n) (h:DA P ops draw (o :: l) acc s K):DA P ops draw (o :: l) acc s K:=h
end
inductive NR:D→D→Prop
 | same (d:D):NR d d
 | nil {α:Type} {E:El α}:NR (.sc (.slice none 0 0)) (.sl E [])
theorem NR.rep {w:World} {F:Nat→Prop} {ρ:Nat→Value} {d0 d:D} {v:Value} (h:NR d0 d) (hv:d0.rep w F ρ v):d.rep w F ρ v:=by
 cases h with
 | same=>exact hv
 | nil=>exact ⟨none,0,hv,by simp [maxLen],RowsAt.nil _ _ _ _⟩
theorem NR.reps {w:World} {F:Nat→Prop} {ρ:Nat→Value}:∀{l0 l:List D} {vs:List Value},All2 NR l0 l→All2 (D.rep w F ρ) l0 vs→All2 (D.rep w F ρ) l vs
 | [],[],[],_,_=>trivial
 | _ :: _,_ :: _,_ :: _,h,k=>⟨h.1.rep k.1,NR.reps h.2 k.2⟩
 | [],_ :: _,_,h,_=>h.elim
 | _ :: _,[],_,h,_=>h.elim
 | [],[],_ :: _,_,k=>k.elim
 | _ :: _,_ :: _,[],_,k=>k.elim
section
variable {P:Program} {o:Oper} {s:Mst}
theorem lL {t e:TypeId} {x y:Operand} {row:Bool} {n m i k off:Nat} {α:Type} {E:El α} {l l':List α} {u z:α} {ds:List D} [I:TI P t row n] [J:Dp E] (ho:o.op = .store t x y) (hx:s.ev x = .c (.optr k m i off)) (hk:s.h k=some (.arr e E l)) (hm:E.n=m) (hu:l[i]? = some u)
  (hd:(s.ev y).cells=some ds) (hok:ds.all (okD s.h)=true) (hno:fA ds=[]) (hn:ds.length=n) (hl:off+n≤m) (hz:All2 NR ((J.deep u).take off++ds++(J.deep u).drop (off+n)) (J.deep z)) (hl':l.set i z=l'):LOp P o s [k] ⟨.c .any,[(k,some (.arr e E l'))],[]⟩:=by
 intro c st ρ a w hr h1 h2 _ h4;subst hl';subst hm;have he:=h1 x (by simp [ho,Op.operands]);have he2:=h1 y (by simp [ho,Op.operands]);rw [hx] at he;rw [←he2] at hd;have hv:=hr.ev x;rw [he] at hv;obtain ⟨g,len,cap,hg,hv⟩:=hv;have hk':=(h2 k (by simp [aD])).trans hk;have hil:i<l.length:=(List.getElem?_eq_some_iff.1 hu).1;have hui:l[i]=u:=by rw [List.getElem?_eq_getElem hil] at hu;exact Option.some.inj hu
 obtain ⟨xs,hown,hreps⟩:=hr.hp k _ hk';have hown0:=hown;rw [hg] at hown;obtain rfl:len=l.length:=by
  rcases hown.2 with ⟨hv,_⟩|⟨g',cap',cur,hv,_⟩
  ·cases hv
  ·injection hv
 obtain ⟨hc1,hc2⟩:=TV.cells_rep (hr.ev y) hd fun q hq u hu=>hr.okD (fT (List.all_eq_true.1 hok q hq) fun j hj=>by have:=eh (hj▸hq);rw [hno] at this;simp [aD] at this) hu;generalize hvs:(a.eval y).cells.toList=vs at *
 have hsz:vs.length=n:=by rw [←hc1.length,hn]
 have hxl:=hown.1;have hin:i*E.n+E.n≤l.length*E.n:=by have:=Nat.mul_le_mul_right E.n (show i+1≤l.length from hil);rwa [Nat.add_mul,Nat.one_mul] at this
 have hst:=run_storeCells_cells (P:=P) g (i*E.n+off) vs 0 w (fun j hj=>by have:=(ez hown (j:=i*E.n+off+j) (by omega)).1;simpa using this) (fun j hj=>by have:=(ez hown (j:=i*E.n+off+j) (by omega)).2;simpa using this) hc2;simp only [Nat.add_zero] at hst;obtain ⟨cs,hcs1,hcs2⟩:=hreps.get i hil;have hcl:=E.len hcs1;rw [hui] at hcs1;have hcs:cs=(xs.drop (i*E.n)).take E.n:=by
  apply List.ext_getElem?
  intro j;rw [List.getElem?_take];by_cases hj:j<E.n
  ·rw [if_pos hj,List.getElem?_drop,hcs2 j hj]
  ·rw [if_neg hj,List.getElem?_eq_none (by omega)]
 have hz':E.rep w (Fz c st.h ρ w) z (cs.take off++vs++cs.drop (off+n)):=J.put (ρ:=ρ) (NR.reps hz ((((J.get hcs1).take off).append hc1).append ((J.get hcs1).drop (off+n))));have hrow:=ed vs (i*E.n+off) w xs hown (by omega);rw [oW (n:=E.n) (by omega) hcs (by omega),hsz] at hrow;have hkb:kb (ρ k)=some g:=by rw [hg];rfl
 have hsize:=bp (g:=g) vs (i*E.n+off) w;have hoth:∀b,b≠g→(w.setCells g (i*E.n+off) vs).heap[b]? = w.heap[b]?:=fun b hb=>bj vs _ w b hb;have hbel:=cz (B:=0) (w:=w) (Nat.zero_le g) vs (i*E.n+off) w (Below.refl _ _);have hkk:∀k':Nat,ax [(k,some (Box.arr e E (l.set i z)))] k'=true→k'=k:=fun k' h=>by
  simp only [ax,Bool.or_false] at h;exact (Nat.eq_of_beq_eq_true h).symm
 have hfz:∀b,Fz c st.h ρ w b→Fz c (hput [(k,some (Box.arr e E (l.set i z)))] st.h) ρ (w.setCells g (i*E.n+off) vs) b∧(w.setCells g (i*E.n+off) vs).heap[b]? = w.heap[b]?:=fun b ⟨f1,f2,f3⟩=>by
  have hbg:b≠g:=fun e=>f3 k _ hk' (by rw [hkb,e]);refine ⟨⟨f1,by rw [hsize];exact f2,fun k' bx hk2=>?_⟩,hoth b hbg⟩;simp only [hput] at hk2;cases h9:k.beq k' with
  | true=>rw [←Nat.eq_of_beq_eq_true h9,hkb];intro e;injection e with e;exact hbg e.symm
  | false=>rw [h9] at hk2;exact f3 k' bx hk2
 refine Oper.wp_skip (w':=w.setCells g (i*E.n+off) vs) ?_ ⟨ρ,hr.app (e:=⟨.c .any,[(k,some (.arr e E (l.set i z)))],[]⟩) h4 (fun k h=>by simp [aD] at h) (fun _ _=>rfl) (fun k' h=>.inr (by rw [hkk k' h];exact hr.nfh hk')) ⟨hbel.os,hbel.tape,hbel.output,hbel.size,fun b hlt hn=>hoth b fun e=>hn ⟨k,_,by simp [ax],hk',by rw [hkb,e]⟩⟩ ?_ ?_ (fun k h=>by simp [TV.has,V0.has,D.has] at h) ?_ ?_ trivial⟩
 ·unfold execOp;rw [ho];have hi:=I.s;cases hq:P.info? t with
  | none=>simp [hq] at hi
  | some ti =>
   have hs:(a.eval y).cells.size=ti.size:=by
    simp [hq] at hi;rw [←Array.length_toList,hvs];omega
   simp only [hv,Instr.storeAt,Instr.sureAddr,Sem.run_bind,Sem.run_pure,Result.andThen_ok];have h3:(storeVar t ⟨g,i*E.n+off,none⟩ (a.eval y)).run P w = .ok () (w.setCells g (i*E.n+off) vs):=by
    simp [storeVar,sizeOf,typeInfo,hq,hs,hvs,hst]
   rw [h3];rfl
 ·intro k' bx g' h _ hg';rw [hkk k' h,hkb] at hg';injection hg' with hg';subst hg';exact ⟨by rw [hsize];exact hr.ltb hk' hkb,.inr ⟨k,_,by simp [ax],hk',hkb⟩⟩
 ·intro k1 k2 _ _ _ h h' _ _ _ _;rw [hkk k1 h,hkk k2 h']
 ·intro k1 k2 bx h hp hx;rw [hkk k2 h] at hp;simp only [hput,Nat.beq_refl,cond_true,Option.some.injEq] at hp;subst hp;simp [Box.has] at hx
 ·intro k2 bx h hp;rw [hkk k2 h] at hp ⊢;simp only [hput,Nat.beq_refl,cond_true,Option.some.injEq] at hp;subst hp;refine ⟨_,by rw [List.length_set,hg];exact hrow,?_⟩;exact (Reps.set hreps hz' hil).same (fun b hb=>(hfz b hb).2) fun b hb=>(hfz b hb).1
end
theorem All2.setAt {α:Type _} {β:Type _} {R:α→β→Prop}:∀{l:List α} {m:List β} {i:Nat} {x y:α},All2 R l m→l[i]? = some y→(∀u,R y u→R x u)→All2 R (l.set i x) m
 | [],_,_,_,_,_,h,_=>by simp at h
 | _ :: _,[],_,_,_,h,_,_=>h.elim
 | a :: l,b :: m,0,x,y,h,hi,hr=>by
  simp at hi;subst hi;exact ⟨hr b h.1,h.2⟩
 | a :: l,b :: m,i+1,x,y,h,hi,hr=>⟨h.1,All2.setAt (i:=i) h.2 (by simpa using hi) hr⟩
section
variable {P:Program} {nt:Nat} {Ks:List Nat} {Q:Exit→Mst→Prop} {s:Mst}
theorem lM {x:Code} {α:Type} {ty:TypeId} {cs new:List D} (k0 off k:Nat) (e:TypeId) (E:El α) (h0:s.h k0=some (.box ty cs)) (hc0:cs[off]? = some (.sc (.slice none 0 0))) (hf:s.f k=true) (hn:cs.set off (.own k)=new)
  (h:AW P nt Ks x Q ((s.app none ⟨.c .any,[(k,some (.arr e E []))],[k]⟩).app none ⟨.c .any,[(k0,some (.box ty new))],[]⟩)):AW P nt Ks x Q s:=by
 intro c ρ a w hc hK hr;subst hn;have hkk:∀k':Nat,ax [(k,some (Box.arr e E ([]:List α)))] k'=true→k'=k:=fun k' h=>by
  simp only [ax,Bool.or_false] at h;exact (Nat.eq_of_beq_eq_true h).symm
 have h2:=hr.app (ρ':=upd ρ k (.slice none 0 0)) (w':=w) (dst:=none) (v:=undef) (e:=⟨.c .any,[(k,some (.arr e E []))],[k]⟩) (fun d hd=>by cases hd)
  (fun k' hk=>by have h9:k'=k:=(by simp [aD] at hk;exact hk.symm);subst h9;exact ⟨hf,by simp [ax]⟩)
  (fun k' hk=>de (by simpa [aD] using hk)) (fun k' hk=>.inl (by rw [hkk k' hk];simp [aD])) (Frx.refl _ _)
  (fun k' bx g hk _ hg=>by rw [hkk k' hk,aI] at hg;cases hg) (fun k1 k2 b b' g h1 h2 _ _ _ _=>by rw [hkk k1 h1,hkk k2 h2]) (fun k' hk=>by simp [TV.has,V0.has,D.has] at hk) (fun k1 k2 bx hk hb hx=>by
   rw [hkk k2 hk] at hb;simp only [Go.Proofs.YtcgpepnbohejfaaGreatDoor.hput,Nat.beq_refl,cond_true,Option.some.injEq] at hb;subst hb;simp [Box.has] at hx)
  (fun k' bx hk hb=>by
   rw [hkk k' hk] at hb ⊢;simp only [Go.Proofs.YtcgpepnbohejfaaGreatDoor.hput,Nat.beq_refl,cond_true,Option.some.injEq] at hb;subst hb;rw [aI];exact ⟨[],World.ownsRow_nil _ _ _ _,rfl⟩)
  trivial
 have hne:k.beq k0=false:=by
  cases h9:k.beq k0 with
  | false=>rfl
  | true=>rw [←Nat.eq_of_beq_eq_true h9,hr.wf.h k hf] at h0;cases h0
 have h0':(s.app none ⟨.c .any,[(k,some (.arr e E []))],[k]⟩).h k0=some (.box ty cs):=by
  show hput _ _ _=_;simp only [Go.Proofs.YtcgpepnbohejfaaGreatDoor.hput,hne,cond_false];exact h0
 obtain ⟨g,vs,hg,hB,hA,h1⟩:=h2.hp k0 _ h0';refine h c _ a w hc hK (h2.setBox (dst:=none) (v:=undef) (fun d hd=>by cases hd) h0' hg ⟨rfl,rfl,rfl,Nat.le_refl _,fun _ _ _=>rfl⟩ hB (hA.setAt hc0 fun u hu=>?_) h1 fun k' hh=>?_)
 ·show u=upd ρ k (.slice none 0 0) k;rw [aI];exact hu
 ·obtain ⟨d,hd,hd2⟩:=List.any_eq_true.1 hh;rcases List.mem_or_eq_of_mem_set hd with hd|rfl
  ·exact h2.nfb h0' (by simp only [Box.has];exact List.any_eq_true.2 ⟨d,hd,hd2⟩)
  ·simp only [D.has] at hd2;have:k=k':=Nat.eq_of_beq_eq_true hd2;subst this;simp [Mst.app,aD]
end
section
variable {P:Program} {nt:Nat} {Ks:List Nat} {Q:Exit→Mst→Prop} {s:Mst} {K:Mst→Prop} {ops:Array Oper} {draw:Bool} {o:Oper} {l:List Oper} {acc:List (List Nat×List Nat)} {x:Code} {R us:List Nat} {e:Mef} {t:Nat} {d:TV} {hs:List (Nat×Option Box)}
structure LO (P:Program) (o:Oper) (s:Mst) (R:List Nat) (e:Mef):Prop where
 h:LOp P o s R e
theorem lk (n:Nat) (_:JC o.op=n) (h:LOp P o s R e):LO P o s R e:=⟨h⟩
theorem JR (he:LO P o s R ⟨d,hs,us⟩:=by first|(apply lk 1 rfl;first|exact BF rfl rfl|exact xn rfl rfl)|(apply lk 2 rfl;exact xm rfl rfl)|(apply lk 3 rfl;first|exact BH rfl rfl rfl rfl|exact tW rfl rfl rfl rfl (Nat.le_of_ble_eq_true rfl)|exact xo rfl rfl (by first|assumption|exact List.getElem?_eq_getElem (by omega)) rfl|exact oQ rfl rfl (by first|assumption|exact List.getElem?_eq_getElem (by omega)) rfl (Nat.le_of_ble_eq_true rfl)|exact xp rfl rfl rfl rfl (by first|assumption|exact List.getElem?_eq_getElem (by omega)) rfl|exact oR rfl rfl rfl rfl (by first|assumption|exact List.getElem?_eq_getElem (by omega)) rfl (Nat.le_of_ble_eq_true rfl))|(apply lk 5 rfl;first|exact zX rfl rfl|exact vo rfl rfl|exact vq rfl rfl)|(apply lk 6 rfl;first|exact ny rfl rfl rfl rfl rfl rfl (by omega)|exact sB rfl rfl rfl rfl rfl (by omega)|exact ng rfl rfl rfl rfl rfl rfl (by omega)|exact vZ rfl rfl rfl rfl (by omega) (by first|omega|(simp <;> omega))|exact ug rfl rfl rfl rfl rfl (by omega) (by first|omega|(simp <;> omega))|exact uh rfl rfl rfl rfl rfl (by omega) (by first|omega|(simp <;> omega)))|(apply lk 7 rfl;first|exact Ar rfl rfl rfl|exact Eb rfl rfl|exact z8 rfl rfl rfl|exact Aa rfl rfl)|(apply lk 8 rfl;first|exact ap rfl rfl (aH rfl rfl) (oX rfl) rfl aK aK|exact ap rfl rfl (aH rfl rfl) (t6 rfl rfl) rfl aK aK|exact ap rfl rfl (aH rfl rfl) (oY rfl) rfl aK aK|exact ap rfl rfl (t8 rfl rfl) (oX rfl) (List.nil_append _) aK aK|exact ap rfl rfl (t8 rfl rfl) (t6 rfl rfl) (List.nil_append _) aK aK|exact ap rfl rfl (t8 rfl rfl) (oY rfl) (List.nil_append _) aK aK|exact ap rfl rfl (t7 rfl) (oX rfl) (List.nil_append _) aK aK|exact ap rfl rfl (t7 rfl) (t6 rfl rfl) (List.nil_append _) aK aK|exact ap rfl rfl (t7 rfl) (oY rfl) (List.nil_append _) aK aK)|(apply lk 10 rfl;first|exact D0 rfl rfl rfl (IntWalk.i64_in _ (by omega))|exact D1 rfl rfl rfl (IntWalk.i64_in _ (by omega))|exact FX rfl rfl rfl|exact FY rfl rfl rfl|exact FZ rfl rfl rfl|exact F0 rfl rfl rfl|exact FV rfl rfl rfl|exact FW rfl rfl rfl|exact D4 rfl rfl rfl|exact D5 rfl rfl rfl|exact D6 rfl rfl rfl|exact D7 rfl rfl rfl|exact D9 rfl rfl rfl rfl rfl rfl rfl (by first|exact Fm _ _|exact sH _ _|exact sH _ ⟨0,0⟩|exact sH ⟨0,0⟩ _|exact eq_tm _ _|exact eq_tm _ gN)|exact Ea rfl rfl rfl rfl rfl rfl rfl (by first|exact congrArg _ (Fm _ _)|exact congrArg _ (sH _ _)|exact congrArg _ (sH _ ⟨0,0⟩)|exact congrArg _ (sH ⟨0,0⟩ _)|exact congrArg _ (eq_tm _ _)|exact congrArg _ (eq_tm _ gN)))|(apply lk 11 rfl;exact D8 rfl rfl)|(apply lk 12 rfl;exact Ae rfl rfl rfl)|(apply lk 13 rfl;exact o9 rfl rfl rfl (by decide) rfl)|(apply lk 14 rfl;first|exact kx rfl rfl rfl rfl (by omega) (by first|omega|(simp <;> omega)) rfl|exact pA rfl rfl rfl rfl (by omega) (by first|omega|(simp <;> omega)) rfl)|(apply lk 15 rfl;exact nh rfl rfl rfl)|(apply lk 16 rfl;first|exact Ab rfl rfl rfl|exact rt rfl rfl rfl)|(apply lk 17 rfl;exact zZ rfl rfl rfl)|(apply lk 18 rfl;exact Ef rfl rfl rfl rfl)|(apply lk 19 rfl;exact B0 rfl rfl rfl)|(apply lk 21 rfl;exact aE rfl rfl)) (hd:o.dst=some t:=by rfl) (hg:s.gd ops o=some true:=by rfl) (hf:us.all s.f=true:=by rfl):DA P ops draw l ((R,aj hs) :: acc) (s.app (some t) ⟨d,hs,us⟩) K→DA P ops draw (o :: l) acc s K:=fun h=>bh he.h hd hg hf h
theorem IY (he:LO P o s R ⟨d,hs,us⟩:=by (apply lk 4 rfl;exact zY rfl rfl rfl rfl rfl (Nat.le_of_ble_eq_true rfl) rfl rfl)) (hd:o.dst=none:=by rfl) (hg:s.gd ops o=some true:=by rfl) (hf:us.all s.f=true:=by rfl):DA P ops draw l ((R,aj hs) :: acc) (s.app none ⟨d,hs,us⟩) K→DA P ops draw (o :: l) acc s K:=fun h=>bc he.h hd hg hf h
theorem sx (he:LOp P o s R ⟨d,hs,us⟩) (h:DA P ops draw l ((R,aj hs) :: acc) (s.app (some t) ⟨d,hs,us⟩) K) (hd:o.dst=some t:=by rfl) (hg:s.gd ops o=some true:=by rfl) (hf:us.all s.f=true:=by rfl):DA P ops draw (o :: l) acc s K:=bh he hd hg hf h
theorem IZ (he:LOp P o s R ⟨d,hs,us⟩) (h:DA P ops draw l ((R,aj hs) :: acc) (s.app none ⟨d,hs,us⟩) K) (hd:o.dst=none:=by rfl) (hg:s.gd ops o=some true:=by rfl) (hf:us.all s.f=true:=by rfl):DA P ops draw (o :: l) acc s K:=bc he hd hg hf h
structure HbI (p q:Prop):Prop where
 h:p→q
def IF (_:Bool):Prop:=True
theorem I0:IF true:=trivial
theorem I1:IF false:=trivial
theorem Ge {j t:Nat} {want b:Bool} (h1:HbI (b=true) (DA P ops draw (o :: l) acc (s.app (some t) ⟨.b true,[],[]⟩) K)) (h2:HbI (b=false) (DA P ops draw (o :: l) acc (s.app (some t) ⟨.b false,[],[]⟩) K)) (hg:o.guard=some (j,want):=by rfl) (hj:(ops[j]?).bind (·.dst)=some t:=by rfl) (ht:s.t t = .b b:=by rfl) (_:IF b:=by (fail_if_success (with_reducible exact I0));(fail_if_success (with_reducible exact I1));exact trivial):DA P ops draw (o :: l) acc s K:=B2 hg hj ht h1.h h2.h
theorem Gf {x:Operand} {u e:Code} {b:Bool} (h1:HbI (b=true) (AW P nt Ks u Q s)) (h2:HbI (b=false) (AW P nt Ks e Q s)) (hx:s.ev x = .b b:=by rfl):AW P nt Ks (.cond x u e) Q s:=DX hx h1.h h2.h
theorem JS {p q:Prop} (h:p→False:=by intro hb;first|(cases hb;done)|((try simp only [decide_eq_true_eq,decide_eq_false_iff_not,Bool.not_eq_true',Bool.not_eq_false',beq_iff_eq,bne_iff_ne,beq_eq_false_iff_ne,bne_eq_false_iff_eq,ne_eq,Decidable.not_not] at hb);first|contradiction|exact Bool.noConfusion (hb.symm.trans (by assumption):false=true)|exact Bool.noConfusion (hb.symm.trans (by assumption):true=false)|omega)):HbI p q:=⟨fun hp=>(h hp).elim⟩
theorem ab {p r q:Prop} (h:r→q) (hq:p→r:=by intro hb;(try simp only [decide_eq_true_eq,decide_eq_false_iff_not,Bool.not_eq_true',Bool.not_eq_false',beq_iff_eq,bne_iff_ne,beq_eq_false_iff_ne,bne_eq_false_iff_eq,ne_eq,Decidable.not_not] at hb);exact hb):HbI p q:=⟨fun hp=>h (hq hp)⟩
def B3 (ops:Array Oper) (fps:List (List Nat×List Nat)) (listed:Array Bool) (k:Nat):Bool :=
 match ops[k]? with
 | none=>false
 | some o=>(List.range ops.size).all fun j=>j == k || listed.getD j true || ((match ops[j]? with|none=>true|some o'=>o.apart ops o' && Hc (km fps k) (km fps j)) || DQ ops 6 k j)
theorem B4 (ops:Array Oper) (fps:List (List Nat×List Nat)) (listed:Array Bool) (k:Nat):B3 ops fps listed k=tS ops fps listed k:=by
 unfold B3 tS;cases ops[k]? with
 | none=>rfl
 | some o =>
  dsimp only;congr 1
  funext j
  rw [Bool.or_comm _ (DQ ops 6 k j),Bool.or_assoc (j == k || listed.getD j true)];cases ops[j]? <;> rfl
def Es (ops:Array Oper) (fps:List (List Nat×List Nat)):Nat→Nat→Array Bool→Bool
 | 0,_,listed=>(Region.ready .any ops listed).isEmpty
 | fuel+1,k,listed=>(Region.ready .any ops listed).contains k && B3 ops fps listed k && Es ops fps fuel (k+1) (listed.setIfInBounds k true)
theorem yK {ops:Array Oper} {fps:List (List Nat×List Nat)}:∀{n k:Nat} {listed:Array Bool},Es ops fps n k listed=ls ops fps n k listed
 | 0,_,_=>rfl
 | n+1,k,listed=>by
  unfold Es ls;rw [B4,yK]
theorem I2 {acc:List (List Nat×List Nat)} (hB:Es ops acc.reverse ops.size 0 (Array.replicate ops.size false)=true:=by kernel_rfl):K s→DA P ops true [] acc s K:=Ed (yK▸hB)
theorem I3 {id:Nat} {l:List Oper} {y:Code} (hnt:f9 nt l=true:=by kernel_rfl):(DA P l.toArray false l [] s fun s'=>AW P nt Ks y Q s')→AW P nt Ks (.seq (.region id l.toArray false) y) Q s:=Hp hnt
theorem I4 {id:Nat} {l:List Oper} {y:Code} (hm:P.follows .mixedOrders=true:=by kernel_rfl) (hnt:f9 nt l=true:=by kernel_rfl):(DA P l.toArray true l [] s fun s'=>AW P nt Ks y Q s')→AW P nt Ks (.seq (.region id l.toArray true) y) Q s:=F3 hm hnt
theorem JT {id:Nat} {l:List Oper} (hnt:f9 nt l=true:=by kernel_rfl):(DA P l.toArray false l [] s fun s'=>Q .normal s')→AW P nt Ks (.region id l.toArray false) Q s:=Hn hnt
theorem JU {id:Nat} {l:List Oper} (hm:P.follows .mixedOrders=true:=by kernel_rfl) (hnt:f9 nt l=true:=by kernel_rfl):(DA P l.toArray true l [] s fun s'=>Q .normal s')→AW P nt Ks (.region id l.toArray true) Q s:=Fk hm hnt
structure QE (e:Exit) (Q:Exit→Mst→Prop) (F:Mst→Prop):Prop where
 h:∀s,F s→Q e s
section
variable {Q':Exit→Mst→Prop} {F K':Mst→Prop} {i j:Nat} {fn:Func} {hin:List (Nat×Box)} {res:TV} {hout:List (Nat×Option Box)}
theorem Hu (h:QE .ret Q' F):QE .ret (ly K' Q') F:=⟨h.h⟩
theorem Hw (h:QE .ret Q' F):QE .ret (eD i Q') F:=⟨h.h⟩
theorem Hx:QE .ret (uR P fn hin res hout) (uR P fn hin res hout .ret):=⟨fun _ h=>h⟩
theorem Hy (h:QE (.exit j) Q' F):QE (.exit j) (ly K' Q') F:=⟨h.h⟩
theorem Hz (h:QE .normal Q' F):QE (.exit i) (eD i Q') F:=⟨fun s hs=>IS (h.h s hs)⟩
theorem HA (hj:j.beq i=false) (h:QE (.exit j) Q' F):QE (.exit j) (eD i Q') F:=⟨fun s hs=>IT hj (h.h s hs)⟩
theorem HD:QE .normal (ly K' Q') K':=⟨fun _ h=>h⟩
theorem HW (h:QE .normal Q' F):QE .normal (eD i Q') F:=⟨h.h⟩
theorem HY:QE .normal (uR P fn hin res hout) (uR P fn hin res hout .normal):=⟨fun _ h=>h⟩
theorem qe {e:Exit} (h:QE e Q' F:=by repeat' (first|(with_reducible exact HD)|(with_reducible exact Hx)|(with_reducible exact HY)|(with_reducible apply Hu)|(with_reducible apply Hw)|(with_reducible apply Hy)|(with_reducible apply Hz)|(with_reducible apply HW)|(with_reducible apply HA)|(show Nat.beq _ _=false;decide))):QE e Q' F:=h
theorem qx {e:Exit} (h:F s) (hq:QE e (ly K' Q') F:=by exact qe):ly K' Q' e s:=hq.h s h
theorem qy {e:Exit} (h:F s) (hq:QE e (eD i Q') F:=by exact qe):eD i Q' e s:=hq.h s h
end
theorem Gg {q1:Option Tmp} {q2:Op} {q3:TypeId} {q4:String} {q5:Array Edge} {q6:Nat×Bool} (h:DA P ops draw (⟨q1,q2,q3,q4,q5,some q6⟩ :: l) acc s K):DA P ops draw (⟨q1,q2,q3,q4,q5,some q6⟩ :: l) acc s K:=h
theorem I5 {K':Mst→Prop} {Q':Exit→Mst→Prop} {e:Exit} (h:ly K' Q' e s):ly K' Q' e s:=h
theorem I6 {i:Nat} {Q':Exit→Mst→Prop} {e:Exit} (h:eD i Q' e s):eD i Q' e s:=h
theorem I7 {p q:Prop} (h:HbI p q):HbI p q:=h
theorem Gh {y:Operand} {u v:Code} (h:AW P nt Ks (.cond y u v) Q s):AW P nt Ks (.cond y u v) Q s:=h
theorem ae {g g':Prop} (h:g') (hs:g'→g:=by intro h;first|((with_reducible refine Ht ?_);revert h;first|(with_reducible exact F2)|(with_reducible exact I2)|exact Ee rfl rfl|exact JR|exact IY)|((with_reducible refine B1 ?_);revert h;first|(with_reducible exact I3)|(with_reducible exact I4)|(with_reducible exact oT)|(with_reducible exact BM)|(with_reducible exact FT)|(with_reducible exact DV)|(with_reducible exact DU)|(with_reducible exact JT)|(with_reducible exact JU))|((with_reducible refine I5 ?_);exact qx h)|((with_reducible refine I6 ?_);exact qy h)):g:=hs h
theorem af {g g1 g2:Prop} (h1:g1) (h2:g2) (hs:g1→g2→g:=by intro h1 h2;first|((with_reducible refine Gg ?_);exact Ge h1 h2)|((with_reducible refine Gh ?_);exact Gf h1 h2)):g:=hs h1 h2
theorem ah {g:Prop} (hs:g:=by (with_reducible refine I7 ?_);exact JS):g:=hs
end
section
variable {P:Program} {nt:Nat} {Ks:List Nat} {s:Mst} {K:Mst→Prop} {ops:Array Oper} {draw:Bool} {o:Oper} {l:List Oper} {acc:List (List Nat×List Nat)} {t:Nat}
theorem bw {U:List Nat} {ts:List (Nat×TV)} {hs:List (Nat×Box)} (q:Nat→Nat) (hok:FU U ts hs q Ks=true:=by rfl) (ht:DY s q (fun j=>∀k,df hs k≠none→q k≠j) ts:=by repeat' (first|exact trivial|exact lA rfl|exact lA (congrArg TV.i (by omega))|exact ⟨_,rfl,gR rfl⟩|exact dX rfl|exact .any _|exact .froz _ _ _ _ rfl (n8 rfl)|exact .frozc _ _ _ _ rfl (n8 rfl)|exact .ocut _ _ _ _ rfl|exact .nil _|exact .full _ _|refine .v ?_|refine .one ?_|refine .ag ?_|refine ⟨_,rfl,?_⟩|refine ⟨?_,?_⟩|refine .box _ ?_)) (hh:DZ s q (fun j=>∀k,df hs k≠none→q k≠j) hs:=by repeat' (first|exact trivial|exact lA rfl|exact lA (congrArg TV.i (by omega))|exact ⟨_,rfl,gR rfl⟩|exact dX rfl|exact .any _|exact .froz _ _ _ _ rfl (n8 rfl)|exact .frozc _ _ _ _ rfl (n8 rfl)|exact .ocut _ _ _ _ rfl|exact .nil _|exact .full _ _|refine .v ?_|refine .one ?_|refine .ag ?_|refine ⟨_,rfl,?_⟩|refine ⟨?_,?_⟩|refine .box _ ?_)):Le nt Ks s (cq U ts hs):=Hm q hok ht hh
theorem aT {f:FuncId} {fn:Func} {code:Code} {args:List V0} {hin:List (Nat×Box)} {us:List Nat} {res:TV} {hout:List (Nat×Option Box)} (hf:P.funcs[f]? = some fn) (h:AW P fn.ntmps (aj hin) code (uR P fn hin res hout) (IQ args hin)) (hb:fn.body=some code:=by exact rfl) (hen:∀(vs:Array Value) (w:World),(callFunc f vs).run P w = .ok (.enter f vs) w:=by exact fun b W=>by kernel_rfl) (hok:z6 args hin us res hout=true:=by exact rfl) (hnt:args.length≤fn.ntmps:=by exact Nat.le_of_ble_eq_true rfl):FSpec P f args hin us res hout:=jb hf hb hen hok hnt h
theorem ui {R us:List Nat} {ot:Option Nat} {d:TV} {hs:List (Nat×Option Box)} (he:LOp P o s R ⟨d,hs,us⟩) (hd:o.dst=ot) (hg:s.gd ops o=some true) (hf:us.all s.f=true) (h:DA P ops draw l ((R,aj hs) :: acc) (s.app ot ⟨d,hs,us⟩) K):DA P ops draw (o :: l) acc s K:=by
 cases ot with
 | none=>exact bc he hd hg hf h
 | some t=>exact bh he hd hg hf h
theorem cB {f:FuncId} {xs:Array Operand} {ts:Array TypeId} {args:List V0} {ot:Option Nat} {res:TV} (R:List Nat) (hs:FSpec P f args [] [] res []) (h:DA P ops draw l ((R,aj ([]:List (Nat×Option Box))) :: acc) (s.app ot ⟨res,[],[]⟩) K) (ho:o.op = .call { callee:=.value (.func f),args:=xs,argTypes:=ts }:=by rfl) (hok:z6 args [] [] res []=true:=by rfl) (hb:res.isSc=true:=by rfl) (ha:All2 (fun x d=>AR s R (s.ev x) d) xs.toList args:=by (repeat' (first|exact trivial|exact .same _|refine ⟨⟨_,rfl,?_⟩,?_⟩|refine .ag ?_|refine .one ?_|exact .own rfl rfl|exact .ocut rfl rfl|exact .full|exact .nil|refine ⟨?_,?_⟩));first|done|fail) (hd:o.dst=ot:=by first|exact (rfl:_=some _)|exact (rfl:_=none)) (hg:s.gd ops o=some true:=by rfl) (hf:[].all s.f=true:=by rfl):DA P ops draw (o :: l) acc s K  :=ui (Ap R hs ho hok hb ha) hd hg hf h
theorem cC {f:FuncId} {xs:Array Operand} {ts:Array TypeId} {args:List V0} {ot:Option Nat} {res:TV} (ks:List Nat) (hs:FSpec P f args [] [] res []) (h:DA P ops draw l ((ks,aj (iR ks)) :: acc) (s.app ot ⟨res,iR ks,[]⟩) K) (ho:o.op = .call { callee:=.value (.func f),args:=xs,argTypes:=ts }:=by rfl) (hok:z6 args [] [] res []=true:=by rfl) (hks:ks.all (fun k=>(s.h k).isSome)=true:=by rfl) (ha:All2 (fun x d=>AR s ks (s.ev x) d) xs.toList args:=by (repeat' (first|exact trivial|exact .same _|refine ⟨⟨_,rfl,?_⟩,?_⟩|refine .ag ?_|refine .one ?_|exact .own rfl rfl|exact .ocut rfl rfl|exact .full|exact .nil|refine ⟨?_,?_⟩));first|done|fail) (hd:o.dst=ot:=by first|exact (rfl:_=some _)|exact (rfl:_=none)) (hg:s.gd ops o=some true:=by rfl) (hf:[].all s.f=true:=by rfl):DA P ops draw (o :: l) acc s K  :=ui (Aq ks hs ho hok hks ha) hd hg hf h
theorem cH {f:FuncId} {xs:Array Operand} {ts:Array TypeId} {args:List V0} {ot:Option Nat} {res:TV} {hin:List (Nat×Box)} {us:List Nat} {hout:List (Nat×Option Box)} (q:Nat→Nat) (hs:FSpec P f args hin us res hout) (h:DA P ops draw l (((aj hin).map q,aj (dx q hout)) :: acc) (s.app ot ⟨res.ren q,dx q hout,us.map q⟩) K) (ho:o.op = .call { callee:=.value (.func f),args:=xs,argTypes:=ts }:=by rfl) (ha:All2 (fun x d=>s.ev x = .v (V0.ren q d)) xs.toList args:=by (repeat' (first|exact trivial|refine ⟨rfl,?_⟩));first|done|fail) (hn:dG ((aj hin++us).map q)=true:=by rfl) (hh:sE s q hin:=by (repeat' (first|exact trivial|refine ⟨rfl,?_⟩));first|done|fail) (hd:o.dst=ot:=by first|exact (rfl:_=some _)|exact (rfl:_=none)) (hg:s.gd ops o=some true:=by rfl) (hf:(us.map q).all s.f=true:=by rfl):DA P ops draw (o :: l) acc s K  :=ui (BN hs q ho ha hn hh) hd hg hf h
theorem sX {fn:Func} {hin:List (Nat×Box)} {hout:List (Nat×Option Box)} {e:Exit} (q:Nat→Nat) (he:e = .normal∨e = .ret:=by first|exact .inl rfl|exact .inr rfl) (hr:fn.results.toList=[]:=by rfl)  (hq:(aj hin).all (fun k=>(q k).beq k)=true:=by rfl) (hn:dG ((aj (hout.filter fun x=>x.2.isSome)).map q)=true:=by rfl) (hh:nW s q (fun j=>∀k,hput hout (fun _=>none) k≠none→q k≠j) hout:=by (repeat' (first|exact trivial|exact ⟨_,rfl,gR rfl⟩|exact dX rfl|exact .froz _ _ _ _ rfl (dY rfl)|exact .frozc _ _ _ _ rfl (dY rfl)|exact .ocut _ _ _ _ rfl|exact .nil _|refine ⟨_,rfl,?_⟩|refine ⟨?_,?_⟩|refine .box _ ?_));first|done|fail):uR P fn hin (.tup []) hout e s:=F7 q he hr hq hn hh
theorem ct {fn:Func} {hin:List (Nat×Box)} {r1:ResultVar} {x1:V0} {res:TV} {hout:List (Nat×Option Box)} {e:Exit} (q:Nat→Nat) (h:TVLe s q (fun j=>∀k,hput hout (fun _=>none) k≠none→q k≠j) (.v x1) res) (he:e = .normal∨e = .ret:=by first|exact .inl rfl|exact .inr rfl) (hr:fn.results.toList=[r1]:=by rfl) (h1:RV P s r1 x1:=by first|exact .tmp rfl|exact .row rfl rfl rfl|exact .one rfl rfl) (hq:(aj hin).all (fun k=>(q k).beq k)=true:=by rfl) (hn:dG ((aj (hout.filter fun x=>x.2.isSome)).map q)=true:=by rfl) (hh:nW s q (fun j=>∀k,hput hout (fun _=>none) k≠none→q k≠j) hout:=by (repeat' (first|exact trivial|exact ⟨_,rfl,gR rfl⟩|exact dX rfl|exact .froz _ _ _ _ rfl (dY rfl)|exact .frozc _ _ _ _ rfl (dY rfl)|exact .ocut _ _ _ _ rfl|exact .nil _|refine ⟨_,rfl,?_⟩|refine ⟨?_,?_⟩|refine .box _ ?_));first|done|fail):uR P fn hin res hout e s:=F4 q he hr h1 hq hn hh h
theorem gC {fn:Func} {hin:List (Nat×Box)} {r1:ResultVar} {x1:V0} {r2:ResultVar} {x2:V0} {res:TV} {hout:List (Nat×Option Box)} {e:Exit} (q:Nat→Nat) (h:TVLe s q (fun j=>∀k,hput hout (fun _=>none) k≠none→q k≠j) (.tup [x1,x2]) res) (he:e = .normal∨e = .ret:=by first|exact .inl rfl|exact .inr rfl) (hr:fn.results.toList=[r1,r2]:=by rfl) (h1:RV P s r1 x1:=by first|exact .tmp rfl|exact .row rfl rfl rfl|exact .one rfl rfl) (h2:RV P s r2 x2:=by first|exact .tmp rfl|exact .row rfl rfl rfl|exact .one rfl rfl) (hq:(aj hin).all (fun k=>(q k).beq k)=true:=by rfl) (hn:dG ((aj (hout.filter fun x=>x.2.isSome)).map q)=true:=by rfl) (hh:nW s q (fun j=>∀k,hput hout (fun _=>none) k≠none→q k≠j) hout:=by (repeat' (first|exact trivial|exact ⟨_,rfl,gR rfl⟩|exact dX rfl|exact .froz _ _ _ _ rfl (dY rfl)|exact .frozc _ _ _ _ rfl (dY rfl)|exact .ocut _ _ _ _ rfl|exact .nil _|refine ⟨_,rfl,?_⟩|refine ⟨?_,?_⟩|refine .box _ ?_));first|done|fail):uR P fn hin res hout e s:=F5 q he hr h1 h2 hq hn hh h
theorem fB {fn:Func} {hin:List (Nat×Box)} {r1:ResultVar} {x1:V0} {r2:ResultVar} {x2:V0} {r3:ResultVar} {x3:V0} {res:TV} {hout:List (Nat×Option Box)} {e:Exit} (q:Nat→Nat) (h:TVLe s q (fun j=>∀k,hput hout (fun _=>none) k≠none→q k≠j) (.tup [x1,x2,x3]) res) (he:e = .normal∨e = .ret:=by first|exact .inl rfl|exact .inr rfl) (hr:fn.results.toList=[r1,r2,r3]:=by rfl) (h1:RV P s r1 x1:=by first|exact .tmp rfl|exact .row rfl rfl rfl|exact .one rfl rfl) (h2:RV P s r2 x2:=by first|exact .tmp rfl|exact .row rfl rfl rfl|exact .one rfl rfl) (h3:RV P s r3 x3:=by first|exact .tmp rfl|exact .row rfl rfl rfl|exact .one rfl rfl) (hq:(aj hin).all (fun k=>(q k).beq k)=true:=by rfl) (hn:dG ((aj (hout.filter fun x=>x.2.isSome)).map q)=true:=by rfl) (hh:nW s q (fun j=>∀k,hput hout (fun _=>none) k≠none→q k≠j) hout:=by (repeat' (first|exact trivial|exact ⟨_,rfl,gR rfl⟩|exact dX rfl|exact .froz _ _ _ _ rfl (dY rfl)|exact .frozc _ _ _ _ rfl (dY rfl)|exact .ocut _ _ _ _ rfl|exact .nil _|refine ⟨_,rfl,?_⟩|refine ⟨?_,?_⟩|refine .box _ ?_));first|done|fail):uR P fn hin res hout e s:=F6 q he hr h1 h2 h3 hq hn hh h
theorem aw {p:Prop} (h:p:=by repeat' (first|exact trivial|exact lA rfl|exact dX rfl|exact .froz _ _ _ _ rfl (dY rfl)|exact .frozc _ _ _ _ rfl (dY rfl)|exact .ocut _ _ _ _ rfl|exact .nil _|exact .full _ _|exact .any _|refine .v ?_|refine .tup ?_|refine .one ?_|refine .ag ?_|refine ⟨?_,?_⟩)):p:=h
theorem a7 {P:Prop} (h:P:=by exact bw (qf [])):P:=h
theorem bB {P:Prop} (h:P:=by (refine ct (qf []) ?_;exact aw)):P:=h
theorem fm {fn:Func} {t:Nat} {v v':Value} {e:Exit} (h:v=v') (he:e = .normal∨e = .ret:=by first|exact .inl rfl|exact .inr rfl) (hr:fn.results.toList=[.tmp t]:=by rfl) (hx:s.t t = .c (.sc v):=by rfl):uR P fn [] (.c (.sc v')) [] e s:=F8 he hr hx h
end
instance (d:Nat):Dp (mn (d+1)) where
 deep:=Ex.d d
 get:=by
  rintro w F ρ x cs ⟨A,c,rfl,h1,h2,h3⟩;exact ⟨rfl,rfl,rfl,rfl,⟨A,c,rfl,⟨h1,h2⟩,h3⟩,trivial⟩
 put:=by
  intro w F ρ x cs h
  match cs,h with
  | [_,_,_,_,_],⟨rfl,rfl,rfl,rfl,⟨A,c,rfl,h1,h3⟩,_⟩=>exact ⟨A,c,rfl,h1.1,h1.2,h3⟩
 nok:=fun _ _=>rfl
theorem eq_tm (p q:Tm):yB [.string p.name,.int .i64 p.am.mode,.int .i64 p.am.units] [.string q.name,.int .i64 q.am.mode,.int .i64 q.am.units]=decide (p=q):=by
 obtain ⟨a,b,c⟩:=p;obtain ⟨x,y,z⟩:=q;rw [Bool.eq_iff_iff];simp [yB,He]
 intros
 obtain ⟨a⟩:=a;obtain ⟨x⟩:=x;rw [show ((ByteArray.mk a) == (ByteArray.mk x))=(a == x) from rfl,beq_iff_eq];simp
instance:EQ prog 44 [1,0,0]:=⟨by kernel_rfl,fun w a b ha hb=>by
 obtain ⟨a1,a2,a3,rfl⟩:=Eg (my ha);obtain ⟨b1,b2,b3,rfl⟩:=Eg (my hb);simp only [List.map_cons,List.map_nil,List.cons.injEq,and_true] at ha hb;obtain ⟨x1,rfl⟩:=Hs ha.1;obtain ⟨x2,rfl⟩:=lB ha.2.1;obtain ⟨x3,rfl⟩:=lB ha.2.2;obtain ⟨y1,rfl⟩:=Hs hb.1;obtain ⟨y2,rfl⟩:=lB hb.2.1;obtain ⟨y3,rfl⟩:=lB hb.2.2;rw [eq_tm ⟨x1,⟨x2,x3⟩⟩ ⟨y1,⟨y2,y3⟩⟩];exact yx ⟨x1,⟨x2,x3⟩⟩ ⟨y1,⟨y2,y3⟩⟩ w⟩
instance:Dp c9:=eb _ _ _ _ _
instance:Dp FH:=eb _ _ _ _ _
abbrev iV (n:Int):V0:=.one (.sc (.int .i64 n))
theorem iy {c:Ctx} {s:Mst} {ρ:Nat→Value} {a:Act} {w:World} (hr:Rp c s ρ a w) {t i:Nat} {cs:List D} {d:Nat} {l:List Ex} (h:s.t t = .v (.ag cs)) (hi:cs[i]? = some (.sl (mn d) l)):l.length≤9223372036854775807∧(0<l.length→∃e,d=e+1):=by
 refine ⟨ip hr h hi,fun h0=>?_⟩;cases d with
 | succ e=>exact ⟨e,rfl⟩
 | zero =>
  have:=hr.tmp t;rw [h] at this;obtain ⟨vs,_,h2⟩:=this;obtain ⟨v,_,A,cap,rfl,_,hR⟩:=h2.get hi;obtain ⟨g,off,cs',_,_,hc,_⟩:=hR.getx h0 rfl;exact hc.elim
theorem sZ:∀{l:List (Nat×Option Box)} {h h':Nat→Option Box} {n:Nat},h n=h' n→hput l h n=hput l h' n
 | [],_,_,_,e=>e
 | (k,b) :: l,h,h',n,e=>by simp only [hput];rw [sZ e]
theorem FSpec.nil0 {P:Program} {f:FuncId} {args:List V0} {α:Type} {e:TypeId} {E:El α} {us:List Nat} {res:TV} {hout:List (Nat×Option Box)} (h:FSpec P f (.one (.own 0) :: args) [(0,.arr e E [])] us res ((0,none) :: hout)) (hu:aD us 0=false) (ha:∀(q:Nat→Nat) k,args.all (fun d=>!(V0.ren q d).has k)=true):FSpec P f (.one (.sc (.slice none 0 0)) :: args) [] (0 :: us) res ((0,none) :: hout):=by
 refine ⟨h.en,fun q c st ρ a w vs hr hq hargs hin hfree=>?_⟩;have hf0:st.f (q 0)=true:=hfree 0 (by simp [aD]);have hne:∀{k},k≠q 0→(q 0).beq k=false:=fun hk=>by
  cases hb:(q 0).beq _ with
  | false=>rfl
  | true=>exact absurd (Nat.eq_of_beq_eq_true hb).symm hk
 have hkk:∀k':Nat,ax [(q 0,some (Box.arr e E ([]:List α)))] k'=true→k'=q 0:=fun k' h=>by
  simp only [ax,Bool.or_false] at h;exact (Nat.eq_of_beq_eq_true h).symm
 have h2:=hr.app (ρ':=upd ρ (q 0) (.slice none 0 0)) (w':=w) (dst:=none) (v:=undef) (e:=⟨.c .any,[(q 0,some (.arr e E []))],[q 0]⟩) (fun d hd=>by cases hd)
  (fun k' hk=>by have h9:k'=q 0:=(by simp [aD] at hk;exact hk.symm);subst h9;exact ⟨hf0,by simp [ax]⟩)
  (fun k' hk=>de (by simpa [aD] using hk)) (fun k' hk=>.inl (by rw [hkk k' hk];simp [aD])) (Frx.refl _ _)
  (fun k' bx g hk _ hg=>by rw [hkk k' hk,aI] at hg;cases hg) (fun k1 k2 b b' g h1 h2 _ _ _ _=>by rw [hkk k1 h1,hkk k2 h2]) (fun k' hk=>by simp [TV.has,V0.has,D.has] at hk) (fun k1 k2 bx hk hb hx=>by
   rw [hkk k2 hk] at hb;simp only [Go.Proofs.YtcgpepnbohejfaaGreatDoor.hput,Nat.beq_refl,cond_true,Option.some.injEq] at hb;subst hb;simp [Box.has] at hx)
  (fun k' bx hk hb=>by
   rw [hkk k' hk] at hb ⊢;simp only [Go.Proofs.YtcgpepnbohejfaaGreatDoor.hput,Nat.beq_refl,cond_true,Option.some.injEq] at hb;subst hb;rw [aI];exact ⟨[],World.ownsRow_nil _ _ _ _,rfl⟩)
  trivial
 match vs,hargs with
 | v :: vs,⟨hv,hvs⟩ =>
  have hv:v = .slice none 0 0:=hv;subst hv;refine (h.ca q c _ _ a w (.slice none 0 0 :: vs) h2 hq ⟨(aI _ _ _).symm,hvs.imp fun d u hd h5=>h5.mono (fun b hb=>⟨⟨hb.1,hb.2.1,fun k bx hk he=>?_⟩,rfl⟩) fun k hk=>?_⟩ (fun k b hb=>?_) fun k hk=>?_).mono ?_
  ·by_cases h9:k=q 0
   ·rw [h9,aI] at he;cases he
   ·rw [de (hne h9)] at he;refine hb.2.2 k bx ?_ he;have hk:hput [(q 0,some (.arr e E []))] st.h k=some bx:=hk
    rwa [bD (by simp [ax,hne h9])] at hk
  ·have:=List.all_eq_true.1 (ha q k) d hd;rw [hk] at this;cases this
  ·cases k with
   | succ k=>cases hb
   | zero =>
    injection hb with hb;subst hb;show hput [(q 0,some (.arr e E []))] st.h (q 0)=_;simp [Go.Proofs.YtcgpepnbohejfaaGreatDoor.hput,Box.ren]
  ·have h7:q k≠q 0:=fun h8=>by
    have:=hq k 0 (by show (Nat.beq 0 k || aD us k)=true;rw [hk,Bool.or_true]) rfl h8;subst this;rw [hu] at hk;cases hk
   show (st.f (q k) && !aD [q 0] (q k))=true;rw [hfree k (by show (Nat.beq 0 k || aD us k)=true;rw [hk,Bool.or_true])];simp [aD,hne h7]
  ·rintro en w' ⟨v,he,hd⟩;refine ⟨v,he,fun dst hdst=>?_⟩;obtain ⟨ρ',h3⟩:=hd dst hdst;refine ⟨ρ',?_⟩;have hE:st.app dst ⟨res.ren q,dx q ((0,none) :: hout),(0 :: us).map q⟩=(st.app none ⟨.c .any,[(q 0,some (.arr e E []))],[q 0]⟩).app dst ⟨res.ren q,dx q ((0,none) :: hout),us.map q⟩:=by
    unfold Mst.app;congr 1
    ·funext n
     show hput ((q 0,none) :: dx q hout) st.h n=hput ((q 0,none) :: dx q hout) (hput [(q 0,some (.arr e E []))] st.h) n;simp only [hput];cases hb:(q 0).beq n with
     | true=>rfl
     | false=>exact sZ (by simp [Go.Proofs.YtcgpepnbohejfaaGreatDoor.hput,hb])
    ·funext n
     simp [aD,Bool.and_assoc]
   rw [hE];exact h3
end Go.Proofs.YtcgpepnbohejfaaGreatDoor
