/- Part 12 of 24 of the proof of rollbackOptions_holds (no condition). -/
import Derived.Test.YtdaajdflefnjfaaGreatK11
set_option linter.unusedVariables false
set_option linter.unusedSimpArgs false
set_option maxRecDepth 100000
set_option maxHeartbeats 64000000
namespace Go.Proofs.YtdaajdflefnjfaaGreat
open Go.RowKit Go.Proofs.Tryz
inductive NR:D→D→Prop
 | same (d:D):NR d d
 | nil {α:Type} {E:El α}:NR (.sc (.slice none 0 0)) (.sl E [])
theorem NR.rep {w:World} {F:Nat→Prop} {ρ:Nat→Value} {d0 d:D} {v:Value} (h:NR d0 d) (hv:d0.rep w F ρ v):d.rep w F ρ v:=by
 cases h with
 | same=>exact hv
 | nil=>exact ⟨none,0,hv,by simp [maxLen],RowsAt.nil _ _ _ _⟩
theorem NR.reps {w:World} {F:Nat→Prop} {ρ:Nat→Value}:∀{l0 l:List D} {vs:List Value},All2 NR l0 l→All2 (D.rep w F ρ) l0 vs→All2 (D.rep w F ρ) l vs
 | [],[],[],_,_=>trivial
 | _ :: _,_ :: _,_ :: _,h,k=>⟨h.1.rep k.1,NR.reps h.2 k.2⟩
 | [],_ :: _,_,h,_=>h.elim
 | _ :: _,[],_,h,_=>h.elim
 | [],[],_ :: _,_,k=>k.elim
 | _ :: _,_ :: _,[],_,k=>k.elim
section
variable {P:Program} {o:Oper} {s:Mst}
theorem vK {t e:TypeId} {x y:Operand} {row:Bool} {n m i k off:Nat} {α:Type} {E:El α} {l l':List α} {u z:α} {ds:List D} [I:TI P t row n] [J:Dp E] (ho:o.op = .store t x y) (hx:s.ev x = .c (.optr k m i off)) (hk:s.h k=some (.arr e E l)) (hm:E.n=m) (hu:l[i]? = some u)
  (hd:(s.ev y).cells=some ds) (hok:ds.all (okD s.h)=true) (hno:fT ds=[]) (hn:ds.length=n) (hl:off+n≤m) (hz:All2 NR ((J.deep u).take off++ds++(J.deep u).drop (off+n)) (J.deep z)) (hl':l.set i z=l'):LOp P o s [k] ⟨.c .any,[(k,some (.arr e E l'))],[]⟩:=by
 intro c st ρ a w hr h1 h2 _ h4
 subst hl'
 subst hm
 have he:=h1 x (by simp [ho,Op.operands])
 have he2:=h1 y (by simp [ho,Op.operands])
 rw [hx] at he
 rw [←he2] at hd
 have hv:=hr.ev x
 rw [he] at hv
 obtain ⟨g,len,cap,hg,hv⟩:=hv
 have hk':=(h2 k (by simp [aG])).trans hk
 have hil:i<l.length:=(List.getElem?_eq_some_iff.1 hu).1
 have hui:l[i]=u:=by rw [List.getElem?_eq_getElem hil] at hu;exact Option.some.inj hu
 obtain ⟨xs,hown,hreps⟩:=hr.hp k _ hk'
 have hown0:=hown
 rw [hg] at hown
 obtain rfl:len=l.length:=by
  rcases hown.2 with ⟨hv,_⟩|⟨g',cap',cur,hv,_⟩
  ·cases hv
  ·injection hv
 obtain ⟨hc1,hc2⟩:=TV.cells_rep (hr.ev y) hd fun q hq u hu=>hr.okD (gZ (List.all_eq_true.1 hok q hq) fun j hj=>by have:=eW (hj▸hq);rw [hno] at this;simp [aG] at this) hu
 generalize hvs:(a.eval y).cells.toList=vs at *
 have hsz:vs.length=n:=by rw [←hc1.length,hn]
 have hxl:=hown.1
 have hin:i*E.n+E.n≤l.length*E.n:=by have:=Nat.mul_le_mul_right E.n (show i+1≤l.length from hil);rwa [Nat.add_mul,Nat.one_mul] at this
 have hst:=run_storeCells_cells (P:=P) g (i*E.n+off) vs 0 w (fun j hj=>by have:=(lQ hown (j:=i*E.n+off+j) (by omega)).1;simpa using this) (fun j hj=>by have:=(lQ hown (j:=i*E.n+off+j) (by omega)).2;simpa using this) hc2
 simp only [Nat.add_zero] at hst
 obtain ⟨cs,hcs1,hcs2⟩:=hreps.get i hil
 have hcl:=E.len hcs1
 rw [hui] at hcs1
 have hcs:cs=(xs.drop (i*E.n)).take E.n:=by
  apply List.ext_getElem?
  intro j
  rw [List.getElem?_take]
  by_cases hj:j<E.n
  ·rw [if_pos hj,List.getElem?_drop,hcs2 j hj]
  ·rw [if_neg hj,List.getElem?_eq_none (by omega)]
 have hz':E.rep w (Fz c st.h ρ w) z (cs.take off++vs++cs.drop (off+n)):=J.put (ρ:=ρ) (NR.reps hz ((((J.get hcs1).take off).append hc1).append ((J.get hcs1).drop (off+n))))
 have hrow:=jv vs (i*E.n+off) w xs hown (by omega)
 rw [rG (n:=E.n) (by omega) hcs (by omega),hsz] at hrow
 have hkb:kb (ρ k)=some g:=by rw [hg];rfl
 have hsize:=dO (g:=g) vs (i*E.n+off) w
 have hoth:∀b,b≠g→(w.setCells g (i*E.n+off) vs).heap[b]? = w.heap[b]?:=fun b hb=>dX vs _ w b hb
 have hbel:=dY (B:=0) (w:=w) (Nat.zero_le g) vs (i*E.n+off) w (Below.refl _ _)
 have hkk:∀k':Nat,aB [(k,some (Box.arr e E (l.set i z)))] k'=true→k'=k:=fun k' h=>by
  simp only [aB,Bool.or_false] at h
  exact (Nat.eq_of_beq_eq_true h).symm
 have hfz:∀b,Fz c st.h ρ w b→Fz c (hput [(k,some (Box.arr e E (l.set i z)))] st.h) ρ (w.setCells g (i*E.n+off) vs) b∧(w.setCells g (i*E.n+off) vs).heap[b]? = w.heap[b]?:=fun b ⟨f1,f2,f3⟩=>by
  have hbg:b≠g:=fun e=>f3 k _ hk' (by rw [hkb,e])
  refine ⟨⟨f1,by rw [hsize];exact f2,fun k' bx hk2=>?_⟩,hoth b hbg⟩
  simp only [hput] at hk2
  cases h9:k.beq k' with
  | true=>rw [←Nat.eq_of_beq_eq_true h9,hkb];intro e;injection e with e;exact hbg e.symm
  | false=>rw [h9] at hk2;exact f3 k' bx hk2
 refine Oper.wp_skip (w':=w.setCells g (i*E.n+off) vs) ?_ ⟨ρ,hr.app (e:=⟨.c .any,[(k,some (.arr e E (l.set i z)))],[]⟩) h4 (fun k h=>by simp [aG] at h) (fun _ _=>rfl) (fun k' h=>.inr (by rw [hkk k' h];exact hr.nfh hk')) ⟨hbel.os,hbel.tape,hbel.output,hbel.size,fun b hlt hn=>hoth b fun e=>hn ⟨k,_,by simp [aB],hk',by rw [hkb,e]⟩⟩ ?_ ?_ (fun k h=>by simp [TV.has,V0.has,D.has] at h) ?_ ?_ trivial⟩
 ·unfold execOp
  rw [ho]
  have hi:=I.s
  cases hq:P.info? t with
  | none=>simp [hq] at hi
  | some ti =>
   have hs:(a.eval y).cells.size=ti.size:=by
    simp [hq] at hi
    rw [←Array.length_toList,hvs]
    omega
   simp only [hv,Instr.storeAt,Instr.sureAddr,Sem.run_bind,Sem.run_pure,Result.andThen_ok]
   have h3:(storeVar t ⟨g,i*E.n+off,none⟩ (a.eval y)).run P w = .ok () (w.setCells g (i*E.n+off) vs):=by
    simp [storeVar,sizeOf,typeInfo,hq,hs,hvs,hst]
   rw [h3]
   rfl
 ·intro k' bx g' h _ hg'
  rw [hkk k' h,hkb] at hg'
  injection hg' with hg'
  subst hg'
  exact ⟨by rw [hsize];exact hr.ltb hk' hkb,.inr ⟨k,_,by simp [aB],hk',hkb⟩⟩
 ·intro k1 k2 _ _ _ h h' _ _ _ _
  rw [hkk k1 h,hkk k2 h']
 ·intro k1 k2 bx h hp hx
  rw [hkk k2 h] at hp
  simp only [hput,Nat.beq_refl,cond_true,Option.some.injEq] at hp
  subst hp
  simp [Box.has] at hx
 ·intro k2 bx h hp
  rw [hkk k2 h] at hp ⊢
  simp only [hput,Nat.beq_refl,cond_true,Option.some.injEq] at hp
  subst hp
  refine ⟨_,by rw [List.length_set,hg];exact hrow,?_⟩
  exact (Reps.set hreps hz' hil).same (fun b hb=>(hfz b hb).2) fun b hb=>(hfz b hb).1
end
theorem All2.setAt {α:Type _} {β:Type _} {R:α→β→Prop}:∀{l:List α} {m:List β} {i:Nat} {x y:α},All2 R l m→l[i]? = some y→(∀u,R y u→R x u)→All2 R (l.set i x) m
 | [],_,_,_,_,_,h,_=>by simp at h
 | _ :: _,[],_,_,_,h,_,_=>h.elim
 | a :: l,b :: m,0,x,y,h,hi,hr=>by
  simp at hi
  subst hi
  exact ⟨hr b h.1,h.2⟩
 | a :: l,b :: m,i+1,x,y,h,hi,hr=>⟨h.1,All2.setAt (i:=i) h.2 (by simpa using hi) hr⟩
section
variable {P:Program} {nt:Nat} {Ks:List Nat} {Q:Exit→Mst→Prop} {s:Mst}
theorem jJ {x:Code} {α:Type} {ty:TypeId} {cs new:List D} (k0 off k:Nat) (e:TypeId) (E:El α) (h0:s.h k0=some (.box ty cs)) (hc0:cs[off]? = some (.sc (.slice none 0 0))) (hf:s.f k=true) (hn:cs.set off (.own k)=new)
  (h:AW P nt Ks x Q ((s.app none ⟨.c .any,[(k,some (.arr e E []))],[k]⟩).app none ⟨.c .any,[(k0,some (.box ty new))],[]⟩)):AW P nt Ks x Q s:=by
 intro c ρ a w hc hK hr
 subst hn
 have hkk:∀k':Nat,aB [(k,some (Box.arr e E ([]:List α)))] k'=true→k'=k:=fun k' h=>by
  simp only [aB,Bool.or_false] at h
  exact (Nat.eq_of_beq_eq_true h).symm
 have h2:=hr.app (ρ':=upd ρ k (.slice none 0 0)) (w':=w) (dst:=none) (v:=undef) (e:=⟨.c .any,[(k,some (.arr e E []))],[k]⟩) (fun d hd=>by cases hd)
  (fun k' hk=>by have h9:k'=k:=(by simp [aG] at hk;exact hk.symm);subst h9;exact ⟨hf,by simp [aB]⟩)
  (fun k' hk=>d8 (by simpa [aG] using hk)) (fun k' hk=>.inl (by rw [hkk k' hk];simp [aG])) (Frx.refl _ _)
  (fun k' bx g hk _ hg=>by rw [hkk k' hk,aN] at hg;cases hg) (fun k1 k2 b b' g h1 h2 _ _ _ _=>by rw [hkk k1 h1,hkk k2 h2]) (fun k' hk=>by simp [TV.has,V0.has,D.has] at hk) (fun k1 k2 bx hk hb hx=>by
   rw [hkk k2 hk] at hb
   simp only [Go.Proofs.YtdaajdflefnjfaaGreat.hput,Nat.beq_refl,cond_true,Option.some.injEq] at hb
   subst hb
   simp [Box.has] at hx)
  (fun k' bx hk hb=>by
   rw [hkk k' hk] at hb ⊢
   simp only [Go.Proofs.YtdaajdflefnjfaaGreat.hput,Nat.beq_refl,cond_true,Option.some.injEq] at hb
   subst hb
   rw [aN]
   exact ⟨[],World.ownsRow_nil _ _ _ _,rfl⟩)
  trivial
 have hne:k.beq k0=false:=by
  cases h9:k.beq k0 with
  | false=>rfl
  | true=>rw [←Nat.eq_of_beq_eq_true h9,hr.wf.h k hf] at h0;cases h0
 have h0':(s.app none ⟨.c .any,[(k,some (.arr e E []))],[k]⟩).h k0=some (.box ty cs):=by
  show hput _ _ _=_
  simp only [Go.Proofs.YtdaajdflefnjfaaGreat.hput,hne,cond_false]
  exact h0
 obtain ⟨g,vs,hg,hB,hA,h1⟩:=h2.hp k0 _ h0'
 refine h c _ a w hc hK (h2.setBox (dst:=none) (v:=undef) (fun d hd=>by cases hd) h0' hg ⟨rfl,rfl,rfl,Nat.le_refl _,fun _ _ _=>rfl⟩ hB (hA.setAt hc0 fun u hu=>?_) h1 fun k' hh=>?_)
 ·show u=upd ρ k (.slice none 0 0) k
  rw [aN]
  exact hu
 ·obtain ⟨d,hd,hd2⟩:=List.any_eq_true.1 hh
  rcases List.mem_or_eq_of_mem_set hd with hd|rfl
  ·exact h2.nfb h0' (by simp only [Box.has];exact List.any_eq_true.2 ⟨d,hd,hd2⟩)
  ·simp only [D.has] at hd2
   have:k=k':=Nat.eq_of_beq_eq_true hd2
   subst this
   simp [Mst.app,aG]
end
section
variable {P:Program} {nt:Nat} {Ks:List Nat} {Q:Exit→Mst→Prop} {s:Mst} {K:Mst→Prop} {ops:Array Oper} {draw:Bool} {o:Oper} {l:List Oper} {acc:List (List Nat×List Nat)} {x:Code} {R us:List Nat} {e:Mef} {t:Nat} {d:TV} {hs:List (Nat×Option Box)}
structure LO (P:Program) (o:Oper) (s:Mst) (R:List Nat) (e:Mef):Prop where
 h:LOp P o s R e
theorem lk (n:Nat) (_:MR o.op=n) (h:LOp P o s R e):LO P o s R e:=⟨h⟩
theorem MY (he:LO P o s R ⟨d,hs,us⟩:=by first
 | (apply lk 1 rfl;first|exact DD rfl rfl|exact zr rfl rfl)
 | (apply lk 2 rfl;exact zq rfl rfl)
 | (apply lk 3 rfl;first|exact DF rfl rfl rfl rfl|exact vi rfl rfl rfl rfl (Nat.le_of_ble_eq_true rfl)|exact zt rfl rfl (by first|assumption|exact List.getElem?_eq_getElem (by omega)) rfl|exact rC rfl rfl (by first|assumption|exact List.getElem?_eq_getElem (by omega)) rfl (Nat.le_of_ble_eq_true rfl)|exact zu rfl rfl rfl rfl (by first|assumption|exact List.getElem?_eq_getElem (by omega)) rfl|exact rD rfl rfl rfl rfl (by first|assumption|exact List.getElem?_eq_getElem (by omega)) rfl (Nat.le_of_ble_eq_true rfl))
 | (apply lk 5 rfl;first|exact B0 rfl rfl|exact xb rfl rfl|exact xc rfl rfl)
 | (apply lk 6 rfl;first|exact qr rfl rfl rfl rfl rfl rfl (by omega)|exact tU rfl rfl rfl rfl rfl (by omega)|exact p9 rfl rfl rfl rfl rfl rfl (by omega)|exact xK rfl rfl rfl rfl (by omega) (by first|omega|(simp <;> omega))|exact vI rfl rfl rfl rfl rfl (by omega) (by first|omega|(simp <;> omega))|exact vJ rfl rfl rfl rfl rfl (by omega) (by first|omega|(simp <;> omega)))
 | (apply lk 7 rfl;first|exact Cx rfl rfl rfl|exact GE rfl rfl|exact B8 rfl rfl rfl|exact B9 rfl rfl)
 | (apply lk 8 rfl;first|exact ak rfl rfl (aI rfl rfl) (vq rfl) rfl aJ aJ|exact ak rfl rfl (aI rfl rfl) (vr rfl rfl) rfl aJ aJ|exact ak rfl rfl (aI rfl rfl) (rI rfl) rfl aJ aJ|exact ak rfl rfl (vt rfl rfl) (vq rfl) (List.nil_append _) aJ aJ|exact ak rfl rfl (vt rfl rfl) (vr rfl rfl) (List.nil_append _) aJ aJ|exact ak rfl rfl (vt rfl rfl) (rI rfl) (List.nil_append _) aJ aJ|exact ak rfl rfl (qW rfl) (vq rfl) (List.nil_append _) aJ aJ|exact ak rfl rfl (qW rfl) (vr rfl rfl) (List.nil_append _) aJ aJ|exact ak rfl rfl (qW rfl) (rI rfl) (List.nil_append _) aJ aJ)
 | (apply lk 10 rfl;first|exact Gv rfl rfl rfl (IntWalk.i64_in _ (by omega))|exact vl rfl rfl rfl (IntWalk.i64_in _ (by omega))|exact Jm rfl rfl rfl|exact Jn rfl rfl rfl|exact Jo rfl rfl rfl|exact Jp rfl rfl rfl|exact Jk rfl rfl rfl|exact Jl rfl rfl rfl|exact Gx rfl rfl rfl|exact Gy rfl rfl rfl|exact Gz rfl rfl rfl|exact GA rfl rfl rfl|exact GC rfl rfl rfl rfl rfl rfl rfl (by first|exact IB _ _|exact tY _ _|exact tY _ ⟨0,0⟩|exact tY ⟨0,0⟩ _|exact eq_tm _ _|exact eq_tm _ jX)|exact GD rfl rfl rfl rfl rfl rfl rfl (by first|exact congrArg _ (IB _ _)|exact congrArg _ (tY _ _)|exact congrArg _ (tY _ ⟨0,0⟩)|exact congrArg _ (tY ⟨0,0⟩ _)|exact congrArg _ (eq_tm _ _)|exact congrArg _ (eq_tm _ jX)))
 | (apply lk 11 rfl;exact GB rfl rfl)
 | (apply lk 12 rfl;exact Cd rfl rfl rfl)
 | (apply lk 13 rfl;exact rM rfl rfl rfl (by decide) rfl)
 | (apply lk 14 rfl;first|exact cR rfl rfl rfl rfl (by omega) (by first|omega|(simp <;> omega)) rfl|exact se rfl rfl rfl rfl (by omega) (by first|omega|(simp <;> omega)) rfl)
 | (apply lk 15 rfl;exact qb rfl rfl rfl)
 | (apply lk 16 rfl;first|exact Ca rfl rfl rfl|exact tu rfl rfl rfl)
 | (apply lk 17 rfl;exact B6 rfl rfl rfl)
 | (apply lk 18 rfl;exact GH rfl rfl rfl rfl)
 | (apply lk 19 rfl;exact D7 rfl rfl rfl)
 | (apply lk 21 rfl;exact Ce rfl rfl)) (hd:o.dst=some t:=by rfl) (hg:s.gd ops o=some true:=by rfl) (hf:us.all s.f=true:=by rfl):DA P ops draw l ((R,ar hs) :: acc) (s.app (some t) ⟨d,hs,us⟩) K→DA P ops draw (o :: l) acc s K:=fun h=>bc he.h hd hg hf h
theorem Mg (he:LO P o s R ⟨d,hs,us⟩:=by (apply lk 4 rfl;exact B5 rfl rfl rfl rfl rfl (Nat.le_of_ble_eq_true rfl) rfl rfl)) (hd:o.dst=none:=by rfl) (hg:s.gd ops o=some true:=by rfl) (hf:us.all s.f=true:=by rfl):DA P ops draw l ((R,ar hs) :: acc) (s.app none ⟨d,hs,us⟩) K→DA P ops draw (o :: l) acc s K:=fun h=>bW he.h hd hg hf h
theorem sx (he:LOp P o s R ⟨d,hs,us⟩) (h:DA P ops draw l ((R,ar hs) :: acc) (s.app (some t) ⟨d,hs,us⟩) K) (hd:o.dst=some t:=by rfl) (hg:s.gd ops o=some true:=by rfl) (hf:us.all s.f=true:=by rfl):DA P ops draw (o :: l) acc s K:=bc he hd hg hf h
theorem Mh (he:LOp P o s R ⟨d,hs,us⟩) (h:DA P ops draw l ((R,ar hs) :: acc) (s.app none ⟨d,hs,us⟩) K) (hd:o.dst=none:=by rfl) (hg:s.gd ops o=some true:=by rfl) (hf:us.all s.f=true:=by rfl):DA P ops draw (o :: l) acc s K:=bW he hd hg hf h
structure HbI (p q:Prop):Prop where
 h:p→q
def L5 (_:Bool):Prop:=True
theorem Mi:L5 true:=trivial
theorem Mj:L5 false:=trivial
theorem JD {j t:Nat} {want b:Bool} (h1:HbI (b=true) (DA P ops draw (o :: l) acc (s.app (some t) ⟨.b true,[],[]⟩) K)) (h2:HbI (b=false) (DA P ops draw (o :: l) acc (s.app (some t) ⟨.b false,[],[]⟩) K)) (hg:o.guard=some (j,want):=by rfl) (hj:(ops[j]?).bind (·.dst)=some t:=by rfl) (ht:s.t t = .b b:=by rfl) (_:L5 b:=by (fail_if_success (with_reducible exact Mi));(fail_if_success (with_reducible exact Mj));exact trivial):DA P ops draw (o :: l) acc s K:=D8 hg hj ht h1.h h2.h
theorem JE {x:Operand} {u e:Code} {b:Bool} (h1:HbI (b=true) (AW P nt Ks u Q s)) (h2:HbI (b=false) (AW P nt Ks e Q s)) (hx:s.ev x = .b b:=by rfl):AW P nt Ks (.cond x u e) Q s:=Gs hx h1.h h2.h
theorem GR {p q:Prop} (h:p→False:=by intro hb;first|(cases hb;done)|((try simp only [decide_eq_true_eq,decide_eq_false_iff_not,Bool.not_eq_true',Bool.not_eq_false',beq_iff_eq,bne_iff_ne,beq_eq_false_iff_ne,bne_eq_false_iff_eq,ne_eq,Decidable.not_not] at hb);first|contradiction|exact Bool.noConfusion (hb.symm.trans (by assumption):false=true)|exact Bool.noConfusion (hb.symm.trans (by assumption):true=false)|omega)):HbI p q:=⟨fun hp=>(h hp).elim⟩
theorem ae {p r q:Prop} (h:r→q) (hq:p→r:=by intro hb;(try simp only [decide_eq_true_eq,decide_eq_false_iff_not,Bool.not_eq_true',Bool.not_eq_false',beq_iff_eq,bne_iff_ne,beq_eq_false_iff_ne,bne_eq_false_iff_eq,ne_eq,Decidable.not_not] at hb);exact hb):HbI p q:=⟨fun hp=>h (hq hp)⟩
def D9 (ops:Array Oper) (fps:List (List Nat×List Nat)) (listed:Array Bool) (k:Nat):Bool :=
 match ops[k]? with
 | none=>false
 | some o=>(List.range ops.size).all fun j=>j == k || listed.getD j true || ((match ops[j]? with|none=>true|some o'=>o.apart ops o' && Kr (mN fps k) (mN fps j)) || Gl ops 6 k j)
theorem Ea (ops:Array Oper) (fps:List (List Nat×List Nat)) (listed:Array Bool) (k:Nat):D9 ops fps listed k=vd ops fps listed k:=by
 unfold D9 vd
 cases ops[k]? with
 | none=>rfl
 | some o =>
  dsimp only
  congr 1
  funext j
  rw [Bool.or_comm _ (Gl ops 6 k j),Bool.or_assoc (j == k || listed.getD j true)]
  cases ops[j]? <;> rfl
def GS (ops:Array Oper) (fps:List (List Nat×List Nat)):Nat→Nat→Array Bool→Bool
 | 0,_,listed=>(Region.ready .any ops listed).isEmpty
 | fuel+1,k,listed=>(Region.ready .any ops listed).contains k && D9 ops fps listed k && GS ops fps fuel (k+1) (listed.setIfInBounds k true)
theorem AZ {ops:Array Oper} {fps:List (List Nat×List Nat)}:∀{n k:Nat} {listed:Array Bool},GS ops fps n k listed=nK ops fps n k listed
 | 0,_,_=>rfl
 | n+1,k,listed=>by
  unfold GS nK
  rw [Ea,AZ]
theorem Mk {acc:List (List Nat×List Nat)} (hB:GS ops acc.reverse ops.size 0 (Array.replicate ops.size false)=true:=by kernel_rfl):K s→DA P ops true [] acc s K:=GF (AZ▸hB)
theorem Ml {id:Nat} {l:List Oper} {y:Code} (hnt:fx nt l=true:=by kernel_rfl):(DA P l.toArray false l [] s fun s'=>AW P nt Ks y Q s')→AW P nt Ks (.seq (.region id l.toArray false) y) Q s:=KE hnt
theorem Mm {id:Nat} {l:List Oper} {y:Code} (hm:P.follows .mixedOrders=true:=by kernel_rfl) (hnt:fx nt l=true:=by kernel_rfl):(DA P l.toArray true l [] s fun s'=>AW P nt Ks y Q s')→AW P nt Ks (.seq (.region id l.toArray true) y) Q s:=Js hm hnt
theorem MZ {id:Nat} {l:List Oper} (hnt:fx nt l=true:=by kernel_rfl):(DA P l.toArray false l [] s fun s'=>Q .normal s')→AW P nt Ks (.region id l.toArray false) Q s:=KD hnt
theorem M0 {id:Nat} {l:List Oper} (hm:P.follows .mixedOrders=true:=by kernel_rfl) (hnt:fx nt l=true:=by kernel_rfl):(DA P l.toArray true l [] s fun s'=>Q .normal s')→AW P nt Ks (.region id l.toArray true) Q s:=Iz hm hnt
structure QE (e:Exit) (Q:Exit→Mst→Prop) (F:Mst→Prop):Prop where
 h:∀s,F s→Q e s
section
variable {Q':Exit→Mst→Prop} {F K':Mst→Prop} {i j:Nat} {fn:Func} {hin:List (Nat×Box)} {res:TV} {hout:List (Nat×Option Box)}
theorem KL (h:QE .ret Q' F):QE .ret (lp K' Q') F:=⟨h.h⟩
theorem KM (h:QE .ret Q' F):QE .ret (fB i Q') F:=⟨h.h⟩
theorem KP:QE .ret (qa P fn hin res hout) (qa P fn hin res hout .ret):=⟨fun _ h=>h⟩
theorem KQ (h:QE (.exit j) Q' F):QE (.exit j) (lp K' Q') F:=⟨h.h⟩
theorem KR (h:QE .normal Q' F):QE (.exit i) (fB i Q') F:=⟨fun s hs=>Ma (h.h s hs)⟩
theorem KS (hj:j.beq i=false) (h:QE (.exit j) Q' F):QE (.exit j) (fB i Q') F:=⟨fun s hs=>Mb hj (h.h s hs)⟩
theorem KT:QE .normal (lp K' Q') K':=⟨fun _ h=>h⟩
theorem KU (h:QE .normal Q' F):QE .normal (fB i Q') F:=⟨h.h⟩
theorem KV:QE .normal (qa P fn hin res hout) (qa P fn hin res hout .normal):=⟨fun _ h=>h⟩
theorem qe {e:Exit} (h:QE e Q' F:=by repeat' (first|(with_reducible exact KT)|(with_reducible exact KP)|(with_reducible exact KV)|(with_reducible apply KL)|(with_reducible apply KM)|(with_reducible apply KQ)|(with_reducible apply KR)|(with_reducible apply KU)|(with_reducible apply KS)|(show Nat.beq _ _=false;decide))):QE e Q' F:=h
theorem qx {e:Exit} (h:F s) (hq:QE e (lp K' Q') F:=by exact qe):lp K' Q' e s:=hq.h s h
theorem qy {e:Exit} (h:F s) (hq:QE e (fB i Q') F:=by exact qe):fB i Q' e s:=hq.h s h
end
theorem JF {q1:Option Tmp} {q2:Op} {q3:TypeId} {q4:String} {q5:Array Edge} {q6:Nat×Bool} (h:DA P ops draw (⟨q1,q2,q3,q4,q5,some q6⟩ :: l) acc s K):DA P ops draw (⟨q1,q2,q3,q4,q5,some q6⟩ :: l) acc s K:=h
theorem Mn {K':Mst→Prop} {Q':Exit→Mst→Prop} {e:Exit} (h:lp K' Q' e s):lp K' Q' e s:=h
theorem Mo {i:Nat} {Q':Exit→Mst→Prop} {e:Exit} (h:fB i Q' e s):fB i Q' e s:=h
theorem Mp {p q:Prop} (h:HbI p q):HbI p q:=h
theorem JG {y:Operand} {u v:Code} (h:AW P nt Ks (.cond y u v) Q s):AW P nt Ks (.cond y u v) Q s:=h
theorem en {g g':Prop} (h:g') (hs:g'→g:=by intro h;first|((with_reducible refine KJ ?_);revert h;first|(with_reducible exact Jr)|(with_reducible exact Mk)|exact GG rfl rfl|exact MY|exact Mg)|((with_reducible refine KK ?_);revert h;first|(with_reducible exact Ml)|(with_reducible exact Mm)|(with_reducible exact vj)|(with_reducible exact DJ)|(with_reducible exact Ji)|(with_reducible exact Gq)|(with_reducible exact Gp)|(with_reducible exact MZ)|(with_reducible exact M0))|((with_reducible refine Mn ?_);exact qx h)|((with_reducible refine Mo ?_);exact qy h)):g:=hs h
theorem af {g g1 g2:Prop} (h1:g1) (h2:g2) (hs:g1→g2→g:=by intro h1 h2;first|((with_reducible refine JF ?_);exact JD h1 h2)|((with_reducible refine JG ?_);exact JE h1 h2)):g:=hs h1 h2
theorem ah {g:Prop} (hs:g:=by (with_reducible refine Mp ?_);exact GR):g:=hs
end
section
variable {P:Program} {nt:Nat} {Ks:List Nat} {s:Mst} {K:Mst→Prop} {ops:Array Oper} {draw:Bool} {o:Oper} {l:List Oper} {acc:List (List Nat×List Nat)} {t:Nat}
theorem ap {U:List Nat} {ts:List (Nat×TV)} {hs:List (Nat×Box)} (q:Nat→Nat) (hok:Jj U ts hs q Ks=true:=by rfl) (ht:Gt s q (fun j=>∀k,il hs k≠none→q k≠j) ts:=by repeat' (first|exact trivial|exact jD rfl|exact jD (congrArg TV.i (by omega))|exact ⟨_,rfl,gw rfl⟩|exact eJ rfl|exact .any _|exact .froz _ _ _ _ rfl (qU rfl)|exact .frozc _ _ _ _ rfl (qU rfl)|exact .ocut _ _ _ _ rfl|exact .nil _|exact .full _ _|refine .v ?_|refine .one ?_|refine .ag ?_|refine ⟨_,rfl,?_⟩|refine ⟨?_,?_⟩|refine .box _ ?_)) (hh:Gu s q (fun j=>∀k,il hs k≠none→q k≠j) hs:=by repeat' (first|exact trivial|exact jD rfl|exact jD (congrArg TV.i (by omega))|exact ⟨_,rfl,gw rfl⟩|exact eJ rfl|exact .any _|exact .froz _ _ _ _ rfl (qU rfl)|exact .frozc _ _ _ _ rfl (qU rfl)|exact .ocut _ _ _ _ rfl|exact .nil _|exact .full _ _|refine .v ?_|refine .one ?_|refine .ag ?_|refine ⟨_,rfl,?_⟩|refine ⟨?_,?_⟩|refine .box _ ?_)):Le nt Ks s (cy U ts hs):=DK q hok ht hh
theorem bJ {f:FuncId} {fn:Func} {code:Code} {args:List V0} {hin:List (Nat×Box)} {us:List Nat} {res:TV} {hout:List (Nat×Option Box)} (hf:P.funcs[f]? = some fn) (h:AW P fn.ntmps (ar hin) code (qa P fn hin res hout) (Kt args hin)) (hb:fn.body=some code:=by exact rfl) (hen:∀(vs:Array Value) (w:World),(callFunc f vs).run P w = .ok (.enter f vs) w:=by exact fun b W=>by kernel_rfl) (hok:AO args hin us res hout=true:=by exact rfl) (hnt:args.length≤fn.ntmps:=by exact Nat.le_of_ble_eq_true rfl):FSpec P f args hin us res hout:=jd hf hb hen hok hnt h
theorem zI {R us:List Nat} {ot:Option Nat} {d:TV} {hs:List (Nat×Option Box)} (he:LOp P o s R ⟨d,hs,us⟩) (hd:o.dst=ot) (hg:s.gd ops o=some true) (hf:us.all s.f=true) (h:DA P ops draw l ((R,ar hs) :: acc) (s.app ot ⟨d,hs,us⟩) K):DA P ops draw (o :: l) acc s K:=by
 cases ot with
 | none=>exact bW he hd hg hf h
 | some t=>exact bc he hd hg hf h
theorem cB {f:FuncId} {xs:Array Operand} {ts:Array TypeId} {args:List V0} {ot:Option Nat} {res:TV} (R:List Nat) (hs:FSpec P f args [] [] res []) (h:DA P ops draw l ((R,ar ([]:List (Nat×Option Box))) :: acc) (s.app ot ⟨res,[],[]⟩) K) (ho:o.op = .call { callee:=.value (.func f),args:=xs,argTypes:=ts }:=by rfl) (hok:AO args [] [] res []=true:=by rfl) (hb:res.isSc=true:=by rfl) (ha:All2 (fun x d=>AR s R (s.ev x) d) xs.toList args:=by (repeat' (first|exact trivial|exact .same _|refine ⟨⟨_,rfl,?_⟩,?_⟩|refine .ag ?_|refine .one ?_|exact .own rfl rfl|exact .ocut rfl rfl|exact .full|exact .nil|refine ⟨?_,?_⟩));first|done|fail) (hd:o.dst=ot:=by first|exact (rfl:_=some _)|exact (rfl:_=none)) (hg:s.gd ops o=some true:=by rfl) (hf:[].all s.f=true:=by rfl):DA P ops draw (o :: l) acc s K  :=zI (Cv R hs ho hok hb ha) hd hg hf h
theorem cC {f:FuncId} {xs:Array Operand} {ts:Array TypeId} {args:List V0} {ot:Option Nat} {res:TV} (ks:List Nat) (hs:FSpec P f args [] [] res []) (h:DA P ops draw l ((ks,ar (po ks)) :: acc) (s.app ot ⟨res,po ks,[]⟩) K) (ho:o.op = .call { callee:=.value (.func f),args:=xs,argTypes:=ts }:=by rfl) (hok:AO args [] [] res []=true:=by rfl) (hks:ks.all (fun k=>(s.h k).isSome)=true:=by rfl) (ha:All2 (fun x d=>AR s ks (s.ev x) d) xs.toList args:=by (repeat' (first|exact trivial|exact .same _|refine ⟨⟨_,rfl,?_⟩,?_⟩|refine .ag ?_|refine .one ?_|exact .own rfl rfl|exact .ocut rfl rfl|exact .full|exact .nil|refine ⟨?_,?_⟩));first|done|fail) (hd:o.dst=ot:=by first|exact (rfl:_=some _)|exact (rfl:_=none)) (hg:s.gd ops o=some true:=by rfl) (hf:[].all s.f=true:=by rfl):DA P ops draw (o :: l) acc s K  :=zI (Cw ks hs ho hok hks ha) hd hg hf h
theorem cH {f:FuncId} {xs:Array Operand} {ts:Array TypeId} {args:List V0} {ot:Option Nat} {res:TV} {hin:List (Nat×Box)} {us:List Nat} {hout:List (Nat×Option Box)} (q:Nat→Nat) (hs:FSpec P f args hin us res hout) (h:DA P ops draw l (((ar hin).map q,ar (fA q hout)) :: acc) (s.app ot ⟨res.ren q,fA q hout,us.map q⟩) K) (ho:o.op = .call { callee:=.value (.func f),args:=xs,argTypes:=ts }:=by rfl) (ha:All2 (fun x d=>s.ev x = .v (V0.ren q d)) xs.toList args:=by (repeat' (first|exact trivial|refine ⟨rfl,?_⟩));first|done|fail) (hn:eX ((ar hin++us).map q)=true:=by rfl) (hh:AP s q hin:=by (repeat' (first|exact trivial|refine ⟨rfl,?_⟩));first|done|fail) (hd:o.dst=ot:=by first|exact (rfl:_=some _)|exact (rfl:_=none)) (hg:s.gd ops o=some true:=by rfl) (hf:(us.map q).all s.f=true:=by rfl):DA P ops draw (o :: l) acc s K  :=zI (DL hs q ho ha hn hh) hd hg hf h
theorem Eb {fn:Func} {hin:List (Nat×Box)} {hout:List (Nat×Option Box)} {e:Exit} (q:Nat→Nat) (he:e = .normal∨e = .ret:=by first|exact .inl rfl|exact .inr rfl) (hr:fn.results.toList=[]:=by rfl)  (hq:(ar hin).all (fun k=>(q k).beq k)=true:=by rfl) (hn:eX ((ar (hout.filter fun x=>x.2.isSome)).map q)=true:=by rfl) (hh:qP s q (fun j=>∀k,hput hout (fun _=>none) k≠none→q k≠j) hout:=by (repeat' (first|exact trivial|exact ⟨_,rfl,gw rfl⟩|exact eJ rfl|exact .froz _ _ _ _ rfl (eL rfl)|exact .frozc _ _ _ _ rfl (eL rfl)|exact .ocut _ _ _ _ rfl|exact .nil _|refine ⟨_,rfl,?_⟩|refine ⟨?_,?_⟩|refine .box _ ?_));first|done|fail):qa P fn hin (.tup []) hout e s:=Jw q he hr hq hn hh
theorem aP {fn:Func} {hin:List (Nat×Box)} {r1:ResultVar} {x1:V0} {res:TV} {hout:List (Nat×Option Box)} {e:Exit} (q:Nat→Nat) (h:TVLe s q (fun j=>∀k,hput hout (fun _=>none) k≠none→q k≠j) (.v x1) res) (he:e = .normal∨e = .ret:=by first|exact .inl rfl|exact .inr rfl) (hr:fn.results.toList=[r1]:=by rfl) (h1:RV P s r1 x1:=by first|exact .tmp rfl|exact .row rfl rfl rfl|exact .one rfl rfl) (hq:(ar hin).all (fun k=>(q k).beq k)=true:=by rfl) (hn:eX ((ar (hout.filter fun x=>x.2.isSome)).map q)=true:=by rfl) (hh:qP s q (fun j=>∀k,hput hout (fun _=>none) k≠none→q k≠j) hout:=by (repeat' (first|exact trivial|exact ⟨_,rfl,gw rfl⟩|exact eJ rfl|exact .froz _ _ _ _ rfl (eL rfl)|exact .frozc _ _ _ _ rfl (eL rfl)|exact .ocut _ _ _ _ rfl|exact .nil _|refine ⟨_,rfl,?_⟩|refine ⟨?_,?_⟩|refine .box _ ?_));first|done|fail):qa P fn hin res hout e s:=Jt q he hr h1 hq hn hh h
theorem mu {fn:Func} {hin:List (Nat×Box)} {r1:ResultVar} {x1:V0} {r2:ResultVar} {x2:V0} {res:TV} {hout:List (Nat×Option Box)} {e:Exit} (q:Nat→Nat) (h:TVLe s q (fun j=>∀k,hput hout (fun _=>none) k≠none→q k≠j) (.tup [x1,x2]) res) (he:e = .normal∨e = .ret:=by first|exact .inl rfl|exact .inr rfl) (hr:fn.results.toList=[r1,r2]:=by rfl) (h1:RV P s r1 x1:=by first|exact .tmp rfl|exact .row rfl rfl rfl|exact .one rfl rfl) (h2:RV P s r2 x2:=by first|exact .tmp rfl|exact .row rfl rfl rfl|exact .one rfl rfl) (hq:(ar hin).all (fun k=>(q k).beq k)=true:=by rfl) (hn:eX ((ar (hout.filter fun x=>x.2.isSome)).map q)=true:=by rfl) (hh:qP s q (fun j=>∀k,hput hout (fun _=>none) k≠none→q k≠j) hout:=by (repeat' (first|exact trivial|exact ⟨_,rfl,gw rfl⟩|exact eJ rfl|exact .froz _ _ _ _ rfl (eL rfl)|exact .frozc _ _ _ _ rfl (eL rfl)|exact .ocut _ _ _ _ rfl|exact .nil _|refine ⟨_,rfl,?_⟩|refine ⟨?_,?_⟩|refine .box _ ?_));first|done|fail):qa P fn hin res hout e s:=Ju q he hr h1 h2 hq hn hh h
theorem gK {fn:Func} {hin:List (Nat×Box)} {r1:ResultVar} {x1:V0} {r2:ResultVar} {x2:V0} {r3:ResultVar} {x3:V0} {res:TV} {hout:List (Nat×Option Box)} {e:Exit} (q:Nat→Nat) (h:TVLe s q (fun j=>∀k,hput hout (fun _=>none) k≠none→q k≠j) (.tup [x1,x2,x3]) res) (he:e = .normal∨e = .ret:=by first|exact .inl rfl|exact .inr rfl) (hr:fn.results.toList=[r1,r2,r3]:=by rfl) (h1:RV P s r1 x1:=by first|exact .tmp rfl|exact .row rfl rfl rfl|exact .one rfl rfl) (h2:RV P s r2 x2:=by first|exact .tmp rfl|exact .row rfl rfl rfl|exact .one rfl rfl) (h3:RV P s r3 x3:=by first|exact .tmp rfl|exact .row rfl rfl rfl|exact .one rfl rfl) (hq:(ar hin).all (fun k=>(q k).beq k)=true:=by rfl) (hn:eX ((ar (hout.filter fun x=>x.2.isSome)).map q)=true:=by rfl) (hh:qP s q (fun j=>∀k,hput hout (fun _=>none) k≠none→q k≠j) hout:=by (repeat' (first|exact trivial|exact ⟨_,rfl,gw rfl⟩|exact eJ rfl|exact .froz _ _ _ _ rfl (eL rfl)|exact .frozc _ _ _ _ rfl (eL rfl)|exact .ocut _ _ _ _ rfl|exact .nil _|refine ⟨_,rfl,?_⟩|refine ⟨?_,?_⟩|refine .box _ ?_));first|done|fail):qa P fn hin res hout e s:=Jv q he hr h1 h2 h3 hq hn hh h
theorem ab {p:Prop} (h:p:=by repeat' (first|exact trivial|exact jD rfl|exact eJ rfl|exact .froz _ _ _ _ rfl (eL rfl)|exact .frozc _ _ _ _ rfl (eL rfl)|exact .ocut _ _ _ _ rfl|exact .nil _|exact .full _ _|refine .v ?_|refine .tup ?_|refine .one ?_|refine .ag ?_|refine ⟨?_,?_⟩)):p:=h
theorem pp {fn:Func} {t:Nat} {v v':Value} {e:Exit} (h:v=v') (he:e = .normal∨e = .ret:=by first|exact .inl rfl|exact .inr rfl) (hr:fn.results.toList=[.tmp t]:=by rfl) (hx:s.t t = .c (.sc v):=by rfl):qa P fn [] (.c (.sc v')) [] e s:=zy he hr hx h
end
section
variable {P:Program} {nt:Nat} {Ks:List Nat} {Q:Exit→Mst→Prop} {s:Mst}
theorem xM (id:Nat) {l:List Oper} {dr:Bool} {y:Code} (h:AW P nt Ks (.seq (.region id l.toArray dr) y) Q s):AW P nt Ks (.seq (.region id l.toArray dr) y) Q s:=h
theorem xN (id:Nat) {l:List Oper} {dr:Bool} (h:AW P nt Ks (.region id l.toArray dr) Q s):AW P nt Ks (.region id l.toArray dr) Q s:=h
theorem Ec {x:Code} {α:Type} {ty e:TypeId} {E:El α} {l:List α} {cs new:List D} (k0 off k:Nat) (h0:s.h k0=some (.box ty cs)) (hc0:cs[off]? = some (.own k)) (hk:s.h k=some (.arr e E l)) (hn:cs.set off (.ocut k)=new)
  (h:AW P nt Ks x Q (s.app none ⟨.c .any,[(k0,some (.box ty new))],[]⟩)):AW P nt Ks x Q s:=by
 intro c ρ a w hc hK hr
 subst hn
 obtain ⟨g,vs,hg,hB,hA,h1⟩:=hr.hp k0 _ h0
 refine h c ρ a w hc hK (hr.setBox (dst:=none) (v:=undef) (fun d hd=>by cases hd) h0 hg ⟨rfl,rfl,rfl,Nat.le_refl _,fun _ _ _=>rfl⟩ hB (hA.setAt hc0 fun u hu=>?_) h1 fun k' hh=>?_)
 ·have hu:u=ρ k:=hu
  rw [hu]
  exact nN hr hk rfl
 ·obtain ⟨d,hd,hd2⟩:=List.any_eq_true.1 hh
  rcases List.mem_or_eq_of_mem_set hd with hd|rfl
  ·exact hr.nfb h0 (by simp only [Box.has];exact List.any_eq_true.2 ⟨d,hd,hd2⟩)
  ·simp only [D.has] at hd2
   have:k=k':=Nat.eq_of_beq_eq_true hd2
   subst this
   exact hr.nfh hk
end
theorem xO {s:Mst} {α:Type} {E:El α} [J:Dp E] {x:Operand} {k n:Nat} {e:TypeId} {cs:List D} (m:List α) (hx:s.ev x = .c (.slb k n)) (hk:s.h k=some (.box e cs)) (hm:All2 NR cs (m.flatMap J.deep)) (hn:m.length=n):Iy s E x m [k]:=fun c st ρ a w hr he h2=>by
 have hv:=hr.ev x
 rw [he,hx] at hv
 obtain ⟨g,hg,hv⟩:=hv
 subst hn
 obtain ⟨vs,hB,hA,_⟩:=hr.box ((h2 k (by simp [aG])).trans hk) hg
 exact ⟨_,_,vs,hv,eI (NR.reps hm hA),fun _=>⟨g,0,rfl,fun j u hu=>by rw [Nat.zero_add];exact hB.cellx j (by simpa using hu)⟩⟩
theorem xP {s:Mst} {α:Type} {E:El α} [J:Dp E] {x:Operand} {k n:Nat} {e:TypeId} {cs:List D} (m:List α) (hx:s.ev x = .c (.slb k n)) (hk:s.h k=some (.box e cs)) (hn:m.length=n) (hm:All2 NR cs (m.flatMap J.deep):=by (repeat' (first|exact trivial|exact .same _|exact .nil|refine ⟨?_,?_⟩));first|done|fail):Iy s E x m [k]:=xO m hx hk hm hn
instance (d:Nat):Dp (oN (d+1)) where
 deep:=Ex.d d
 get:=by
  rintro w F ρ x cs ⟨A,c,rfl,h1,h2,h3⟩
  exact ⟨rfl,rfl,rfl,rfl,⟨A,c,rfl,⟨h1,h2⟩,h3⟩,trivial⟩
 put:=by
  intro w F ρ x cs h
  match cs,h with
  | [_,_,_,_,_],⟨rfl,rfl,rfl,rfl,⟨A,c,rfl,h1,h3⟩,_⟩=>exact ⟨A,c,rfl,h1.1,h1.2,h3⟩
 nok:=fun _ _=>rfl
theorem eq_tm (p q:Tm):AQ [.string p.name,.int .i64 p.am.mode,.int .i64 p.am.units] [.string q.name,.int .i64 q.am.mode,.int .i64 q.am.units]=decide (p=q):=by
 obtain ⟨a,b,c⟩:=p
 obtain ⟨x,y,z⟩:=q
 rw [Bool.eq_iff_iff]
 simp [AQ,Ku]
 intros
 obtain ⟨a⟩:=a
 obtain ⟨x⟩:=x
 rw [show ((ByteArray.mk a) == (ByteArray.mk x))=(a == x) from rfl,beq_iff_eq]
 simp
instance:EQ prog 31 [1,0,0]:=⟨by kernel_rfl,fun w a b ha hb=>by
 obtain ⟨a1,a2,a3,rfl⟩:=GI (ph ha)
 obtain ⟨b1,b2,b3,rfl⟩:=GI (ph hb)
 simp only [List.map_cons,List.map_nil,List.cons.injEq,and_true] at ha hb
 obtain ⟨x1,rfl⟩:=KI ha.1
 obtain ⟨x2,rfl⟩:=nT ha.2.1
 obtain ⟨x3,rfl⟩:=nT ha.2.2
 obtain ⟨y1,rfl⟩:=KI hb.1
 obtain ⟨y2,rfl⟩:=nT hb.2.1
 obtain ⟨y3,rfl⟩:=nT hb.2.2
 rw [eq_tm ⟨x1,⟨x2,x3⟩⟩ ⟨y1,⟨y2,y3⟩⟩]
 exact Gj ⟨x1,⟨x2,x3⟩⟩ ⟨y1,⟨y2,y3⟩⟩ w⟩
instance:Dp fc:=et _ _ _ _ _
instance:Dp dU:=et _ _ _ _ _
abbrev iV (n:Int):V0:=.one (.sc (.int .i64 n))
theorem l9 {c:Ctx} {s:Mst} {ρ:Nat→Value} {a:Act} {w:World} (hr:Rp c s ρ a w) {t i:Nat} {cs:List D} {d:Nat} {l:List Ex} (h:s.t t = .v (.ag cs)) (hi:cs[i]? = some (.sl (oN d) l)):l.length≤9223372036854775807∧(0<l.length→∃e,d=e+1):=by
 refine ⟨lR hr h hi,fun h0=>?_⟩
 cases d with
 | succ e=>exact ⟨e,rfl⟩
 | zero =>
  have:=hr.tmp t
  rw [h] at this
  obtain ⟨vs,_,h2⟩:=this
  obtain ⟨v,_,A,cap,rfl,_,hR⟩:=h2.get hi
  obtain ⟨g,off,cs',_,_,hc,_⟩:=hR.getx h0 rfl
  exact hc.elim
theorem ud:∀{l:List (Nat×Option Box)} {h h':Nat→Option Box} {n:Nat},h n=h' n→hput l h n=hput l h' n
 | [],_,_,_,e=>e
 | (k,b) :: l,h,h',n,e=>by simp only [hput];rw [ud e]
theorem FSpec.nil0 {P:Program} {f:FuncId} {args:List V0} {α:Type} {e:TypeId} {E:El α} {us:List Nat} {res:TV} {hout:List (Nat×Option Box)} (h:FSpec P f (.one (.own 0) :: args) [(0,.arr e E [])] us res ((0,none) :: hout)) (hu:aG us 0=false) (ha:∀(q:Nat→Nat) k,args.all (fun d=>!(V0.ren q d).has k)=true):FSpec P f (.one (.sc (.slice none 0 0)) :: args) [] (0 :: us) res ((0,none) :: hout):=by
 refine ⟨h.en,fun q c st ρ a w vs hr hq hargs hin hfree=>?_⟩
 have hf0:st.f (q 0)=true:=hfree 0 (by simp [aG])
 have hne:∀{k},k≠q 0→(q 0).beq k=false:=fun hk=>by
  cases hb:(q 0).beq _ with
  | false=>rfl
  | true=>exact absurd (Nat.eq_of_beq_eq_true hb).symm hk
 have hkk:∀k':Nat,aB [(q 0,some (Box.arr e E ([]:List α)))] k'=true→k'=q 0:=fun k' h=>by
  simp only [aB,Bool.or_false] at h
  exact (Nat.eq_of_beq_eq_true h).symm
 have h2:=hr.app (ρ':=upd ρ (q 0) (.slice none 0 0)) (w':=w) (dst:=none) (v:=undef) (e:=⟨.c .any,[(q 0,some (.arr e E []))],[q 0]⟩) (fun d hd=>by cases hd)
  (fun k' hk=>by have h9:k'=q 0:=(by simp [aG] at hk;exact hk.symm);subst h9;exact ⟨hf0,by simp [aB]⟩)
  (fun k' hk=>d8 (by simpa [aG] using hk)) (fun k' hk=>.inl (by rw [hkk k' hk];simp [aG])) (Frx.refl _ _)
  (fun k' bx g hk _ hg=>by rw [hkk k' hk,aN] at hg;cases hg) (fun k1 k2 b b' g h1 h2 _ _ _ _=>by rw [hkk k1 h1,hkk k2 h2]) (fun k' hk=>by simp [TV.has,V0.has,D.has] at hk) (fun k1 k2 bx hk hb hx=>by
   rw [hkk k2 hk] at hb
   simp only [Go.Proofs.YtdaajdflefnjfaaGreat.hput,Nat.beq_refl,cond_true,Option.some.injEq] at hb
   subst hb
   simp [Box.has] at hx)
  (fun k' bx hk hb=>by
   rw [hkk k' hk] at hb ⊢
   simp only [Go.Proofs.YtdaajdflefnjfaaGreat.hput,Nat.beq_refl,cond_true,Option.some.injEq] at hb
   subst hb
   rw [aN]
   exact ⟨[],World.ownsRow_nil _ _ _ _,rfl⟩)
  trivial
 match vs,hargs with
 | v :: vs,⟨hv,hvs⟩ =>
  have hv:v = .slice none 0 0:=hv
  subst hv
  refine (h.ca q c _ _ a w (.slice none 0 0 :: vs) h2 hq ⟨(aN _ _ _).symm,hvs.imp fun d u hd h5=>h5.mono (fun b hb=>⟨⟨hb.1,hb.2.1,fun k bx hk he=>?_⟩,rfl⟩) fun k hk=>?_⟩ (fun k b hb=>?_) fun k hk=>?_).mono ?_
  ·by_cases h9:k=q 0
   ·rw [h9,aN] at he;cases he
   ·rw [d8 (hne h9)] at he
    refine hb.2.2 k bx ?_ he
    have hk:hput [(q 0,some (.arr e E []))] st.h k=some bx:=hk
    rwa [bM (by simp [aB,hne h9])] at hk
  ·have:=List.all_eq_true.1 (ha q k) d hd
   rw [hk] at this
   cases this
  ·cases k with
   | succ k=>cases hb
   | zero =>
    injection hb with hb
    subst hb
    show hput [(q 0,some (.arr e E []))] st.h (q 0)=_
    simp [Go.Proofs.YtdaajdflefnjfaaGreat.hput,Box.ren]
  ·have h7:q k≠q 0:=fun h8=>by
    have:=hq k 0 (by show (Nat.beq 0 k || aG us k)=true;rw [hk,Bool.or_true]) rfl h8
    subst this
    rw [hu] at hk
    cases hk
   show (st.f (q k) && !aG [q 0] (q k))=true
   rw [hfree k (by show (Nat.beq 0 k || aG us k)=true;rw [hk,Bool.or_true])]
   simp [aG,hne h7]
  ·rintro en w' ⟨v,he,hd⟩
   refine ⟨v,he,fun dst hdst=>?_⟩
   obtain ⟨ρ',h3⟩:=hd dst hdst
   refine ⟨ρ',?_⟩
   have hE:st.app dst ⟨res.ren q,fA q ((0,none) :: hout),(0 :: us).map q⟩=(st.app none ⟨.c .any,[(q 0,some (.arr e E []))],[q 0]⟩).app dst ⟨res.ren q,fA q ((0,none) :: hout),us.map q⟩:=by
    unfold Mst.app
    congr 1
    ·funext n
     show hput ((q 0,none) :: fA q hout) st.h n=hput ((q 0,none) :: fA q hout) (hput [(q 0,some (.arr e E []))] st.h) n
     simp only [hput]
     cases hb:(q 0).beq n with
     | true=>rfl
     | false=>exact ud (by simp [Go.Proofs.YtdaajdflefnjfaaGreat.hput,hb])
    ·funext n
     simp [aG,Bool.and_assoc]
   rw [hE]
   exact h3
abbrev Ed (d:Nat) (k:Int) (a:Tm) (l:List Ex):List D:=[.sc (.int .i64 k),.sc (.string a.name),.sc (.int .i64 a.am.mode),.sc (.int .i64 a.am.units),.sl (oN d) l]
theorem sg (s:ByteArray):FSpec prog 36 [.one (.sc (.string s))] [] [] (.b (bE s.toList)) [] :=
 aA (fun b W=>by kernel_rfl) rfl fun w S ρ vs _ h=>by
  match vs,h with
  | [_],⟨rfl,_⟩=>exact (ku s w).mono fun e w' h=>⟨_,h.1,by rw [h.2];exact Below.refl _ _,rfl⟩
theorem vL (x:Am):FSpec prog 38 [x.a] [] [] (.b (aR x)) [] :=
 aA (fun b W=>by kernel_rfl) rfl fun w S ρ vs _ h=>by
  match vs,h with
  | [_],⟨h1,_⟩=>rw [Am.open h1];exact (js _ _ w).mono fun _ _=>dk
theorem JH:∀(x:Ex) (d dp:Nat),dp≤5→FSpec prog 213 [x.a d,iV dp] [] [] (.tup [iV (gt x dp).1,iV (gt x dp).2]) []:=by
  refine Ex.ind (fun k a l ih=>?_)
  intro d dp hdp
  obtain ⟨r,hr⟩:∃r,gt (.mk k a l) dp=r:=⟨_,rfl⟩
  rw [hr]
  rw [wU] at hr
  show FSpec prog 213 [.ag (Ed d k a l),iV dp] [] [] (.tup [iV r.1,iV r.2]) []
  refine bJ func213 ?_
  refine bY (fun c ρ a w hr=>l9 (t:=0) (i:=4) hr rfl rfl) (fun hx=>?_)
  obtain ⟨hlen,hne⟩:=hx
  by_cases hc:4<dp∨24<l.length
  · rw [if_pos hc] at hr
    obtain rfl:=hr
    repeat' (first
      | refine af ?_ ?_
      | refine en ?_
      | exact ah|refine ae fun hb=>?_
      | (refine mu (qf []) ?_;exact ab))
    all_goals (exfalso;omega)
  rw [if_neg hc] at hr
  repeat' (first
    | refine af ?_ ?_
    | refine en ?_
    | exact ah|refine ae fun hb=>?_)
  refine ao (fun x:Nat×Nat×Nat=>x.1≤l.length∧x.2.1≤24∧x.2.2≤5∧jy (l.drop x.1) dp x.2.1 x.2.2=r) (fun x=>cy [2] [(1,.i dp),(2,.c (.ptr 2 0)),(6,.i x.2.1),(7,.i x.2.2),(8,.i x.1)] [(2,.box 34 (Ed d k a l))]) (fun x=>l.length-x.1) (0,1,0) ⟨Nat.zero_le _,by decide,by decide,hr⟩ (by exact ap (qf [])) ?_
  rintro ⟨i,n,m⟩ ⟨hi,hn,hm,hs⟩
  dsimp only at *
  by_cases hlt:i<l.length
  case neg =>
    rw [List.drop_eq_nil_of_le (by omega)] at hs
    obtain rfl:=hs
    repeat' (first
      | refine af ?_ ?_
      | refine en ?_
      | exact ah|refine ae fun hb=>?_
      | (refine mu (qf []) ?_;exact ab))
  rw [List.drop_eq_getElem_cons hlt,p6] at hs
  obtain ⟨e,rfl⟩:=hne (by omega)
  obtain ⟨⟨n1,m1⟩,h1⟩:∃p,gt l[i] (dp+1)=p:=⟨_,rfl⟩
  have h5:n1≤25∧m1≤5:=by
    rcases rn l[i] (dp+1) with ⟨a1,a2,a3⟩|⟨a1,a3⟩ <;> rw [h1] at a3 <;> injection a3 <;> omega
  have kS:FSpec prog 213 [l[i].a e,iV ((dp:Int)+1)] [] [] (.tup [iV n1,iV m1]) []:=by
    have:=ih l[i] (List.getElem_mem hlt) e (dp+1) (by omega)
    rw [h1] at this
    exact this
  rw [h1] at hs
  dsimp only at hs
  clear ih h1
  repeat' (first
    | refine af ?_ ?_
    | refine aa 9 rfl (cB [] (kS) ?_)
    | refine en ?_
    | exact ah|refine ae fun hb=>?_)
  all_goals first
    | (obtain rfl:(25,0)=r:=by rw [←hs,if_pos (by omega)]
       refine mu (qf []) ?_;exact ab)
    | (refine ⟨(i+1,n+n1,max m m1),⟨by dsimp only;omega,by dsimp only;omega,by dsimp only;omega,by rw [←hs,if_neg (by omega),show (if m<m1 then m1 else m)=max m m1 by split <;> omega]⟩,by dsimp only;omega,?_⟩
       dsimp only
       exact ap (qf []))
theorem A4 (x:Ex) (d:Nat) {n:Nat} (hn:(if AE x=true then x.cnt else 0)=n):FSpec prog 155 [x.a d] [] [] (.i n) []:=by
 obtain ⟨⟨a,b⟩,h⟩:∃p,gt x 1=p:=⟨_,rfl⟩
 have h0:=Dn x
 have kS:FSpec prog 213 [x.a d,iV 1] [] [] (.tup [iV a,iV b]) []:=by
  have:=JH x d 1 (by decide)
  rw [h] at this
  exact this
 have h1:AE x=true→a=x.cnt:=fun e=>by
  rcases rn x 1 with ⟨a1,a2,a3⟩|⟨a1,a3⟩
  ·rw [h] at a3;injection a3
  ·rw [a3] at h0;simp [e] at h0
 rw [h] at h0
 refine bJ func155 ?_
 repeat' (first
  | refine af ?_ ?_
  | refine aa 9 rfl (cB [] (kS) ?_)
  | refine en ?_
  | exact ah|refine ae fun hb=>?_)
 ·obtain rfl:0=n:=by rw [←hn,if_neg];rw [←h0];omega
  refine aP (qf []) ?_;exact ab
 ·obtain rfl:a=n:=by
   have h2:AE x=true:=by
    have h:¬24<a:=by omega
    rw [h0] at h;simpa using h
   rw [←hn,if_pos h2]
   exact h1 h2
  refine aP (qf []) ?_;exact ab
def MS:Option (List Tm)→TV
 | some _=>.tup [.one (.own 1),.one (.sc (.bool true))]
 | none=>.tup [.one .any,.one (.sc (.bool false))]
def MT (o:Option (List Tm)):List (Nat×Option Box):=[(0,none),(1,o.map (.arr 31 cL))]
theorem KX:∀(x:Ex) (d:Nat) (acc:List Tm),acc.length+x.cnt≤1000→FSpec prog 156 [.one (.own 0),x.a d] [(0,.arr 31 cL acc)] [1] (MS (uW x acc)) (MT (uW x acc)):=by
 refine Ex.ind (fun k a l ih=>?_)
 intro d acc hl
 rw [Ex.cnt_mk] at hl
 obtain ⟨R,hR⟩:∃R,uW (.mk k a l) acc=R:=⟨_,rfl⟩
 rw [hR]
 rw [AJ] at hR
 show FSpec prog 156 [.one (.own 0),.ag (Ed d k a l)] [(0,.arr 31 cL acc)] [1] (MS R) (MT R)
 cases hE:l.isEmpty with
 | true =>
  obtain rfl:=List.isEmpty_iff.1 hE
  rw [hE,cond_true,AI] at hR
  cases hk:decide (k=0) && jY a with
  | false =>
   rw [hk] at hR
   obtain rfl:none=R:=hR
   refine bJ func156 ?_
   repeat' (first
    | refine af ?_ ?_
    | (refine aa 9 rfl ?_;first
     | (refine cB [] (sg a.name) ?_)
     | (refine cB [] (vL a.am) ?_))
    | refine en ?_
    | exact ah|refine ae fun hb=>?_
    | (refine mu (qf []) ?_;exact .tup ⟨.one (.any _),.one (eJ rfl),trivial⟩))
   all_goals (exfalso;revert hk;simp [jY, *])
  | true =>
   rw [hk,cond_true] at hR
   obtain ⟨h0,h1,h2⟩:k=0∧bE a.name.toList=true∧aR a.am=true:=by simpa [jY] using hk
   refine jd func156 rfl (fun b W=>by kernel_rfl) (by cases R <;> rfl) (Nat.le_of_ble_eq_true rfl) ?_
   repeat' (first
    | refine af ?_ ?_
    | (refine aa 9 rfl ?_;first
     | (refine cB [] (sg a.name) ?_)
     | (refine cB [] (vL a.am) ?_))
    | refine en ?_
    | exact ah|(refine ae fun hb=>?_;first|(simp [h1] at hb;done)|(simp [h2] at hb;done)|skip))
   refine ao (fun i=>i≤acc.length∧ke a (acc.drop i)=ke a acc) (fun i=>cy [0,3] [(0,.c (.own 0)),(3,.c (.ptr 3 0)),(6,.i i)] [(3,.box 34 (Ed d k a [])),(0,.arr 31 cL acc)]) (fun i=>acc.length-i) 0 ⟨Nat.zero_le _,rfl⟩ (by exact ap (qf [])) ?_
   rintro i ⟨hi,hs⟩
   by_cases hlt:i<acc.length
   ·rw [List.drop_eq_getElem_cons hlt,oY] at hs
    repeat' (first
     | refine af ?_ ?_
     | refine en ?_
     | exact ah|refine ae fun hb=>?_)
    ·obtain rfl:some acc=R:=by rw [←hR,ik,←hs];simp [hb]
     refine mu (qf [(1,0)]) ?_;exact ab
    ·refine ⟨i+1,⟨by omega,?_⟩,by omega,?_⟩
     ·rw [←hs];simp [hb]
     ·exact ap (qf [])
   ·obtain rfl:some (acc++[a])=R:=by rw [←hR,ik,←hs,List.drop_eq_nil_of_le (by omega)];rfl
    repeat' (first
     | refine af ?_ ?_
     | (refine aa 8 rfl ?_;refine bc (ak rfl rfl (aI rfl rfl) (aO [a] rfl rfl rfl rfl) rfl aJ aJ) rfl rfl rfl ?_)
     | refine en ?_
     | exact ah|refine ae fun hb=>?_
     | (refine mu (qf [(1,50)]) ?_;exact ab))
 | false =>
  have hl0:0<l.length:=List.length_pos_iff.2 fun e=>by rw [e] at hE;cases hE
  rw [hE,cond_false] at hR
  refine jd func156 rfl (fun b W=>by kernel_rfl) (by cases R <;> rfl) (Nat.le_of_ble_eq_true rfl) ?_
  refine bY (fun c ρ a w hr=>l9 (t:=1) (i:=4) hr rfl rfl) (fun hx=>?_)
  obtain ⟨hlen,hne⟩:=hx
  obtain ⟨e,rfl⟩:=hne hl0
  cases hg:oZ k a l with
  | false =>
   rw [hg] at hR
   obtain rfl:=hR
   repeat' (first
    | refine af ?_ ?_
    | refine en ?_
    | exact ah|refine ae fun hb=>?_
    | (refine mu (qf []) ?_;exact .tup ⟨.one (.any _),.one (eJ rfl),trivial⟩))
   all_goals (exfalso;revert hg;simp [oZ, *];try omega)
  | true =>
   rw [hg,cond_true] at hR
   obtain ⟨⟨h1,h2⟩,h3⟩:(1≤k∧k≤(l.length:Int))∧a=jX:=by simpa [oZ] using hg
   subst h3
   repeat' (first
    | refine af ?_ ?_
    | refine en ?_
    | exact ah|(refine ae fun hb=>?_;first|(simp at hb;done)|skip))
   refine ao (fun x:Nat×List Tm=>x.1≤l.length∧x.2.length+jx (l.drop x.1)≤1000∧zk (l.drop x.1) x.2=R) (fun x=>cy [0,3,1000] [(0,.c (.own 1000)),(3,.c (.ptr 3 0)),(7,.i x.1)] [(3,.box 34 (Ed (e+1) k jX l)),(1000,.arr 31 cL x.2)]) (fun x=>l.length-x.1) (0,acc) ⟨Nat.zero_le _,by simpa using (by omega),hR⟩ (by exact ap (qf [(1000,0)])) ?_
   rintro ⟨i,acc1⟩ ⟨hi,hc,hs⟩
   dsimp only at *
   by_cases hlt:i<l.length
   ·rw [List.drop_eq_getElem_cons hlt] at hs hc
    rw [tQ] at hs
    rw [gY] at hc
    have kS:=ih l[i] (List.getElem_mem hlt) e acc1 (by omega)
    have hlen2:=Ds l[i] acc1
    clear ih
    cases h1:uW l[i] acc1 with
    | none =>
     rw [h1] at hs kS
     obtain rfl:=hs
     repeat' (first
      | refine af ?_ ?_
      | refine aa 9 rfl (cH (qf [(0,1000),(1,1001)]) (kS) ?_)
      | refine en ?_
      | exact ah|refine ae fun hb=>?_
      | (refine mu (qf []) ?_;exact .tup ⟨.one (.any _),.one (eJ rfl),trivial⟩))
    | some r =>
     rw [h1] at hs kS
     have hlen3:=hlen2 r h1
     repeat' (first
      | refine af ?_ ?_
      | refine aa 9 rfl (cH (qf [(0,1000),(1,1001)]) (kS) ?_)
      | refine en ?_
      | exact ah|refine ae fun hb=>?_)
     refine ⟨(i+1,r),⟨by dsimp only;omega,by dsimp only;omega,hs⟩,by dsimp only;omega,?_⟩
     exact ap (qf [(1000,1001)])
   ·rw [List.drop_eq_nil_of_le (by omega)] at hs
    obtain rfl:=hs
    repeat' (first
     | refine af ?_ ?_
     | refine en ?_
     | exact ah|refine ae fun hb=>?_
     | (refine mu (qf [(1,1000)]) ?_;exact ab))
theorem oa (d:Nat) (x:Ex):FSpec prog 113 [x.a d] [] [] (.tup [.one (.sl cL (cY x)),.one (.sc (.bool (oO x)))]) []:=by
 obtain ⟨v,hv⟩:∃v,oO x=v:=⟨_,rfl⟩
 obtain ⟨T,hT⟩:∃T,cY x=T:=⟨_,rfl⟩
 have hcl:=rp x []
 rw [hv,hT]
 unfold cY at hT
 rw [hv] at hT
 unfold oO at hv
 have hcnt:=x.cnt_pos
 cases hk:AE x with
 | false =>
  obtain rfl:false=v:=by rw [←hv,hk];rfl
  obtain rfl:=hT
  have kN:=A4 x d (n:=0) (by rw [hk];rfl)
  refine bJ func113 ?_
  repeat' (first
   | refine af ?_ ?_
   | refine aa 9 rfl (cB [] (kN) ?_)
   | refine en ?_
   | exact ah|refine ae fun hb=>?_
   | (refine mu (qf []) ?_;exact ab))
 | true =>
  have kN:=A4 x d (n:=x.cnt) (by rw [hk];rfl)
  have h24:x.cnt≤24:=by have h:=hk;simp [AE] at h;exact h.2
  have kA:=(KX x d [] (by simp;omega)).nil0 (by decide) fun q k=>rfl
  rw [hk,Bool.true_and] at hv
  rw [AK] at kA
  cases hs:wW x with
  | false =>
   obtain rfl:false=v:=by rw [←hv,hs];rfl
   obtain rfl:=hT
   rw [hs] at kA
   refine bJ func113 ?_
   repeat' (first
    | refine af ?_ ?_
    | (refine aa 9 rfl ?_;first
     | (refine cB [] (kN) ?_)
     | (refine cH (qf [(0,1000),(1,1001)]) (kA) ?_))
    | refine en ?_
    | exact ah|refine ae fun hb=>?_
    | (refine mu (qf []) ?_;exact ab))
  | true =>
   rw [hs,Bool.true_and] at hv
   rw [hs,if_pos rfl] at kA
   obtain ⟨L,hL⟩:∃L,fM x []=L:=⟨_,rfl⟩
   rw [hL] at hv hT kA hcl
   simp only [List.length_nil,Nat.zero_add] at hcl
   refine bJ func113 ?_
   by_cases h8:8<L.length
   ·have hno:¬p7 L:=fun h=>by have:=h.1;omega
    obtain rfl:false=v:=by rw [←hv,decide_eq_false hno]
    obtain rfl:=hT
    repeat' (first
     | refine af ?_ ?_
     | (refine aa 9 rfl ?_;first
      | (refine cB [] (kN) ?_)
      | (refine cH (qf [(0,1000),(1,1001)]) (kA) ?_))
     | refine en ?_
     | exact ah|refine ae fun hb=>?_
     | (refine mu (qf []) ?_;exact ab))
   repeat' (first
    | refine af ?_ ?_
    | (refine aa 9 rfl ?_;first
     | (refine cB [] (kN) ?_)
     | (refine cH (qf [(0,1000),(1,1001)]) (kA) ?_))
    | refine en ?_
    | exact ah|refine ae fun hb=>?_)
   refine ao (fun i=>i≤L.length∧Dist L i 0) (fun i=>cy [1001] [(4,.c (.own 1001)),(6,.i i)] [(1001,.arr 31 cL L)]) (fun i=>L.length-i) 0 ⟨Nat.zero_le _,Dist.start L⟩ (by exact ap (qf [])) ?_
   rintro i ⟨hi,hd⟩
   by_cases hlt:i<L.length
   ·repeat' (first
     | refine af ?_ ?_
     | refine en ?_
     | exact ah|refine ae fun hb=>?_)
    refine ao (fun j=>j≤i∧Dist L i j) (fun j=>cy [1001] [(4,.c (.own 1001)),(6,.i i),(7,.i j)] [(1001,.arr 31 cL L)]) (fun j=>i-j) 0 ⟨Nat.zero_le _,hd⟩ (by exact ap (qf [])) ?_
    rintro j ⟨hj,hd⟩
    by_cases hji:j<i
    ·repeat' (first
      | refine af ?_ ?_
      | refine en ?_
      | exact ah|refine ae fun hb=>?_)
     ·have hno:¬p7 L:=Dist.not hlt hji (toList_inj hb)
      obtain rfl:false=v:=by rw [←hv,decide_eq_false hno]
      obtain rfl:=hT
      refine mu (qf []) ?_;exact ab
     ·refine ⟨j+1,⟨by omega,hd.step hlt hji fun e=>hb (by rw [e])⟩,by omega,?_⟩
      exact ap (qf [])
    ·repeat' (first
      | refine af ?_ ?_
      | refine en ?_
      | exact ah|refine ae fun hb=>?_)
     refine ⟨i+1,⟨by omega,hd.row hji⟩,by omega,?_⟩
     exact ap (qf [])
   ·have hok:p7 L:=⟨by omega,hd.all hlt⟩
    obtain rfl:true=v:=by rw [←hv,decide_eq_true hok]
    obtain rfl:=hT
    repeat' (first
     | refine af ?_ ?_
     | refine en ?_
     | exact ah|refine ae fun hb=>?_
     | (refine mu (qf []) ?_;exact ab))
theorem JI (d:Nat) (x:Ex):FSpec prog 76 [x.a d] [] [] (.b (oO x)) []:=by
 refine bJ func76 ?_
 repeat' (first
  | refine af ?_ ?_
  | refine aa 9 rfl (cC [] (oa d x) ?_)
  | refine en ?_
  | exact ah|refine ae fun hb=>?_
  | (refine aP (qf []) ?_;exact ab))
theorem GT (d:Nat) (x:Ex):FSpec prog 78 [x.a d] [] [] (.c (.sl cL (cY x))) []:=by
 refine bJ func78 ?_
 repeat' (first
  | refine af ?_ ?_
  | refine aa 9 rfl (cC [] (oa d x) ?_)
  | refine en ?_
  | exact ah|refine ae fun hb=>?_
  | (refine aP (qf []) ?_;exact ab))
theorem A8:∀{l:List Ex},Dq l=true→∀x∈l,wW x=true
 | [],_,_,hx=>absurd hx (by simp)
 | y :: l,h,x,hx=>by
  rw [nJ,Bool.and_eq_true] at h
  rcases List.mem_cons.1 hx with rfl|hx
  ·exact h.1
  ·exact A8 h.2 x hx
theorem vM (d:Nat) (x:Ex) (L:List Tm) (set:List Bool) (hx2:wW x=true) (hL:L.length≤1000) (hs:set.length≤1000):FSpec prog 216 [x.a d,.one (.sl cL L),.one (.sl fc set)] [] [] (.b (zn (fe L set) x)) []:=by
 revert d x
 refine fun d x=>Ex.ind (P:=fun x=>∀d,wW x=true→FSpec prog 216 [x.a d,.one (.sl cL L),.one (.sl fc set)] [] [] (.b (zn (fe L set) x)) []) (fun k a l ih=>?_) x d
 intro d hx2
 rw [uU,Bool.and_eq_true] at hx2
 obtain ⟨hh,hx2⟩:=hx2
 unfold wV at hh
 obtain ⟨v,hv⟩:∃v,zn (fe L set) (.mk k a l)=v:=⟨_,rfl⟩
 rw [hv]
 rw [Jf] at hv
 show FSpec prog 216 [.ag (Ed d k a l),.one (.sl cL L),.one (.sl fc set)] [] [] (.b v) []
 refine bJ func216 ?_
 cases hE:l.isEmpty with
 | true =>
  obtain rfl:=List.isEmpty_iff.1 hE
  rw [hE,cond_true] at hh hv
  simp only [Bool.and_eq_true,decide_eq_true_eq] at hh
  obtain ⟨rfl,_⟩:=hh
  repeat' (first
   | refine af ?_ ?_
   | refine en ?_
   | exact ah|refine ae fun hb=>?_)
  refine ao (fun i=>i≤L.length∧fe (L.drop i) (set.drop i) a=v) (fun i=>cy [3] [(1,.c (.sl cL L)),(2,.c (.sl fc set)),(3,.c (.ptr 3 0)),(7,.i i)] [(3,.box 34 (Ed d 0 a []))]) (fun i=>L.length-i) 0 ⟨Nat.zero_le _,hv⟩ (by exact ap (qf [])) ?_
  rintro i ⟨hi,hs⟩
  by_cases hlt:i<L.length
  ·rw [List.drop_eq_getElem_cons hlt,rt,List.tail_drop] at hs
   by_cases hsi:i<set.length
   ·rw [show set.drop i=_ from List.drop_eq_getElem_cons hsi] at hs
    repeat' (first
     | refine af ?_ ?_
     | refine en ?_
     | exact ah|refine ae fun hb=>?_)
    ·refine pp ?_
     rw [←hs];simp [*]
    ·refine ⟨i+1,⟨by omega,?_⟩,by omega,?_⟩
     ·rw [←hs];simp [*]
     ·exact ap (qf [])
   ·rw [show set.drop i=[] from List.drop_eq_nil_of_le (by omega)] at hs
    repeat' (first
     | refine af ?_ ?_
     | refine en ?_
     | exact ah|refine ae fun hb=>?_)
    ·refine pp ?_
     rw [←hs];simp [*]
    ·refine ⟨i+1,⟨by omega,?_⟩,by omega,?_⟩
     ·rw [←hs];simp [*]
     ·exact ap (qf [])
  ·rw [List.drop_eq_nil_of_le (by omega)] at hs
   repeat' (first
    | refine af ?_ ?_
    | refine en ?_
    | exact ah|refine ae fun hb=>?_)
   refine pp ?_
   rw [←hs];rfl
 | false =>
  have hl0:0<l.length:=List.length_pos_iff.2 fun e=>by rw [e] at hE;cases hE
  refine bY (fun c ρ a w hr=>l9 (t:=0) (i:=4) hr rfl rfl) (fun hx=>?_)
  obtain ⟨hlen,hne⟩:=hx
  obtain ⟨e,rfl⟩:=hne hl0
  rw [hE,cond_false] at hh hv
  simp only [Bool.and_eq_true,decide_eq_true_eq] at hh
  have hk:1≤k:=hh.1.1
  clear hh hne
  obtain ⟨N,hN⟩:∃N,Je (fe L set) l=N:=⟨_,rfl⟩
  rw [hN] at hv
  repeat' (first
   | refine af ?_ ?_
   | refine en ?_
   | exact ah|refine ae fun hb=>?_)
  refine ao (fun x:Nat×Nat=>x.1≤l.length∧x.2≤x.1∧x.2+Je (fe L set) (l.drop x.1)=N) (fun x=>cy [3] [(1,.c (.sl cL L)),(2,.c (.sl fc set)),(3,.c (.ptr 3 0)),(8,.i x.2),(9,.i x.1)] [(3,.box 34 (Ed (e+1) k a l))]) (fun x=>l.length-x.1) (0,0) ⟨Nat.zero_le _,Nat.le_refl _,by simpa using hN⟩ (by exact ap (qf [])) ?_
  rintro ⟨i,n⟩ ⟨hi,hn,hs⟩
  dsimp only at *
  by_cases hlt:i<l.length
  ·rw [List.drop_eq_getElem_cons hlt,Dv] at hs
   have kS:=ih l[i] (List.getElem_mem hlt) e (A8 hx2 _ (List.getElem_mem hlt))
   obtain ⟨b,hb1⟩:∃b,zn (fe L set) l[i]=b:=⟨_,rfl⟩
   rw [hb1] at kS hs
   clear ih hb1
   repeat' (first
    | refine af ?_ ?_
    | refine aa 9 rfl (cB [] (kS) ?_)
    | refine en ?_
    | exact ah|refine ae fun hb=>?_)
   ·refine ⟨(i+1,n+1),⟨by dsimp only;omega,by dsimp only;omega,by rw [hb] at hs;simp at hs;dsimp only;omega⟩,by dsimp only;omega,?_⟩
    exact ap (qf [])
   ·refine ⟨(i+1,n),⟨by dsimp only;omega,by dsimp only;omega,by rw [hb] at hs;simpa using hs⟩,by dsimp only;omega,?_⟩
    exact ap (qf [])
  ·rw [List.drop_eq_nil_of_le (by omega)] at hs
   obtain rfl:n=N:=hs
   repeat' (first
    | refine af ?_ ?_
    | refine en ?_
    | exact ah|refine ae fun hb=>?_)
   refine pp ?_
   rw [←hv]
theorem vN (d:Nat) (x:Ex) (set:List Bool) (hs:set.length≤1000):FSpec prog 160 [x.a d,.one (.sl fc set)] [] [] (.b (eV x set)) []:=by
 unfold eV
 refine bJ func160 ?_
 cases hv:oO x with
 | false =>
  repeat' (first
   | refine af ?_ ?_
   | refine aa 9 rfl (cC [] (oa d x) ?_)
   | refine en ?_
   | exact ah|(refine ae fun hb=>?_;first|(simp [hv] at hb;done)|skip)
   | (refine aP (qf []) ?_;exact ab))
 | true =>
  obtain ⟨hsh,_,h8,_,_⟩:=uX hv
  repeat' (first
   | refine af ?_ ?_
   | (refine aa 9 rfl ?_;first
    | (refine cC [] (oa d x) ?_)
    | (refine cB [] (vM d x (cY x) set hsh (by omega) hs) ?_))
   | refine en ?_
   | exact ah|(refine ae fun hb=>?_;first|(simp [hv] at hb;done)|skip)
   | (refine aP (qf []) ?_;exact ab))
def Ee (a b:Int):Nat→Int→Int
 | 0,_=>0
 | n+1,m=>bif cu m a && cu m b then m else Ee a b n (m+1)
theorem GU (a b:Int):Ee a b 5 1=pj a b:=rfl
theorem Ef (a b:Int) (w:World):Calls prog 245 #[.int .i64 a,.int .i64 b] w (gV w (.int .i64 (pj a b))):=by
 have HC:=Lib.hid (fun x y W=>gL x y W)
 have HS:Hid (Ee a b 5 ((0:Nat)+1)=pj a b):=Lib.hid (GU a b)
 generalize pj a b=R at *
 go_enter func245,ntmps245
 go_wp2_with fail
 go_loopg [5] 5 (fun m0 v5 wq=>∃k:Nat,v5 = .int .i64 ((k:Int)+1)∧k≤5∧k+m0=5∧Hid (Ee a b m0 ((k:Int)+1)=R)∧Hid (Below w.heap.size w wq))
 case atStart=>exact ⟨0,rfl,by omega,rfl,HS,Lib.hid (Below.refl _ _)⟩
 case round =>
  obtain ⟨k,rfl,hk,hkm,HI,HB⟩:=hrel
  by_cases hlt:k<5
  ·obtain ⟨m1,rfl⟩:∃m,gk=m+1:=⟨gk-1,by omega⟩
   have HC1:=Lib.hid (fun W=>HC.out ((k:Int)+1) a W)
   have HC2:=Lib.hid (fun W=>HC.out ((k:Int)+1) b W)
   have HS2:Hid ((bif cu ((k:Int)+1) a && cu ((k:Int)+1) b then (k:Int)+1 else Ee a b m1 ((k:Int)+1+1))=R):=Lib.hid HI.out
   generalize cu ((k:Int)+1) a=p1 at *
   generalize cu ((k:Int)+1) b=p2 at *
   have hle:(k:Int)+1≤5:=by omega
   cases p1 <;> cases p2 <;> (go_wp2_with fail;repeat' (first
    | (go_at_call 112;(with_reducible refine (HC1.out _).mono ?_);rintro e wa ⟨rfl,hwa⟩;obtain rfl:=hwa.symm;clear hwa;go_wp2_with fail)
    | (go_at_call 112;(with_reducible refine (HC2.out _).mono ?_);rintro e wa ⟨rfl,hwa⟩;obtain rfl:=hwa.symm;clear hwa;go_wp2_with fail)
    | (go_ret;exact ⟨fp HS2.out,HB.out⟩)
    | (go_roundg m1;(case measure=>omega);(case rel=>exact ⟨k+1,by go_num,by omega,by omega,Lib.hid (by have h:=HS2.out;simpa using h),HB⟩))))
  ·obtain rfl:k=5:=by omega
   obtain rfl:gk=0:=by omega
   have HS2:Hid (0=R):=Lib.hid HI.out
   go_wp2_with fail
   go_ret
   exact ⟨fp HS2.out,HB.out⟩
theorem Cy (r:Rs) (a b c d:Int) (w:World):Calls prog 226 #[r.val,.agg #[.int .i64 a,.int .i64 b],.agg #[.int .i64 c,.int .i64 d]] w (gV w (bG r ⟨a,b⟩ ⟨c,d⟩).val):=by
 have H1:=Lib.hid (fun W=>fv r a b W)
 have H2:=Lib.hid (fun W=>fv r c d W)
 have H3:=Lib.hid (fun W=>iL r a b c d W)
 have H4:=Lib.hid (fun W=>iL r c d a b W)
 have H5:=Lib.hid (fun W=>Ef a c W)
 have HS:(bif bK r ⟨a,b⟩ && bK r ⟨c,d⟩ then (bif aY r ⟨a,b⟩ ⟨c,d⟩ then (⟨a,b⟩:Am) else bif aY r ⟨c,d⟩ ⟨a,b⟩ then ⟨c,d⟩ else ⟨pj a c,0⟩) else ⟨0,0⟩)=bG r ⟨a,b⟩ ⟨c,d⟩:=rfl
 generalize bG r ⟨a,b⟩ ⟨c,d⟩=R at *
 generalize bK r ⟨a,b⟩=p1 at *
 generalize bK r ⟨c,d⟩=p2 at *
 generalize aY r ⟨a,b⟩ ⟨c,d⟩=p3 at *
 generalize aY r ⟨c,d⟩ ⟨a,b⟩=p4 at *
 generalize pj a c=sp at *
 obtain ⟨nm,kd,un,h⟩:=r
 unfold Rs.val at *
 dsimp only at H1 H2 H3 H4 ⊢
 cases p1 <;> cases p2 <;> cases p3 <;> cases p4
 all_goals
  obtain rfl:=HS.symm
  unfold Am.val
  dsimp only [cond_true,cond_false,Bool.and_true,Bool.and_false,Bool.false_and]
  go_enter func226,ntmps226
  go_wp2_with fail
  repeat' (first
   | (go_at_call 244;(with_reducible refine (H1.out _).mono ?_);rintro e wa1 ⟨rfl,hb_wa1⟩;obtain ⟨hc_wa1,hf_wa1⟩:=bh hb_wa1;have hs_wa1:=hb_wa1.size;(try simp at hs_wa1);have hz_wa1_w_0:w.heap.size<wa1.heap.size:=(by omega);have hz_wa1_w_1:w.heap.size+1<wa1.heap.size:=(by omega);have hz_wa1_w_2:w.heap.size+1+1<wa1.heap.size:=(by omega);have hz_wa1_w_3:w.heap.size+1+1+1<wa1.heap.size:=(by omega);clear hs_wa1;have HB_wa1:=Lib.hid hb_wa1;clear hb_wa1;go_wp2_with fail)
   | (go_at_call 244;(with_reducible refine (H2.out _).mono ?_);rintro e wa2 ⟨rfl,hb_wa2⟩;obtain ⟨hc_wa2,hf_wa2⟩:=bh hb_wa2;have hs_wa2:=hb_wa2.size;(try simp at hs_wa2);have hz_wa2_w_0:w.heap.size<wa2.heap.size:=(by omega);have hz_wa2_w_1:w.heap.size+1<wa2.heap.size:=(by omega);have hz_wa2_w_2:w.heap.size+1+1<wa2.heap.size:=(by omega);have hz_wa2_w_3:w.heap.size+1+1+1<wa2.heap.size:=(by omega);clear hs_wa2;have HB_wa2:=Lib.hid hb_wa2;clear hb_wa2;go_wp2_with fail)
   | (go_at_call 225;(with_reducible refine (H3.out _).mono ?_);rintro e wa3 ⟨rfl,hb_wa3⟩;obtain ⟨hc_wa3,hf_wa3⟩:=bh hb_wa3;have hs_wa3:=hb_wa3.size;(try simp at hs_wa3);have hz_wa3_w_0:w.heap.size<wa3.heap.size:=(by omega);have hz_wa3_w_1:w.heap.size+1<wa3.heap.size:=(by omega);have hz_wa3_w_2:w.heap.size+1+1<wa3.heap.size:=(by omega);have hz_wa3_w_3:w.heap.size+1+1+1<wa3.heap.size:=(by omega);clear hs_wa3;have HB_wa3:=Lib.hid hb_wa3;clear hb_wa3;go_wp2_with fail)
   | (go_at_call 225;(with_reducible refine (H4.out _).mono ?_);rintro e wa4 ⟨rfl,hb_wa4⟩;obtain ⟨hc_wa4,hf_wa4⟩:=bh hb_wa4;have hs_wa4:=hb_wa4.size;(try simp at hs_wa4);have hz_wa4_w_0:w.heap.size<wa4.heap.size:=(by omega);have hz_wa4_w_1:w.heap.size+1<wa4.heap.size:=(by omega);have hz_wa4_w_2:w.heap.size+1+1<wa4.heap.size:=(by omega);have hz_wa4_w_3:w.heap.size+1+1+1<wa4.heap.size:=(by omega);clear hs_wa4;have HB_wa4:=Lib.hid hb_wa4;clear hb_wa4;go_wp2_with fail)
   | (go_at_call 245;refine (H5.out _).mono ?_;rintro e wa5 ⟨rfl,hb_wa5⟩;obtain ⟨hc_wa5,hf_wa5⟩:=bh hb_wa5;have hs_wa5:=hb_wa5.size;(try simp at hs_wa5);have hz_wa5_w_0:w.heap.size<wa5.heap.size:=(by omega);have hz_wa5_w_1:w.heap.size+1<wa5.heap.size:=(by omega);have hz_wa5_w_2:w.heap.size+1+1<wa5.heap.size:=(by omega);have hz_wa5_w_3:w.heap.size+1+1+1<wa5.heap.size:=(by omega);clear hs_wa5;have HB_wa5:=Lib.hid hb_wa5;clear hb_wa5;go_wp2_with fail)
   | (refine bodyPost_ret_by (v:=_) ?_ rfl ⟨rfl,by exact aw⟩;rw [mC rfl];go_simp))
end Go.Proofs.YtdaajdflefnjfaaGreat
