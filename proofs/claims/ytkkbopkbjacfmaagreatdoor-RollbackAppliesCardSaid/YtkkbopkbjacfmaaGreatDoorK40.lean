/- Part K40 of a proof of statements of chapter 15 (no condition). -/
import Derived.Test.YtkkbopkbjacfmaaGreatDoorK35
import Derived.Test.YtkkbopkbjacfmaaGreatDoorK37
set_option linter.unusedVariables false
set_option linter.unusedSimpArgs false
set_option maxRecDepth 100000
set_option maxHeartbeats 64000000
namespace Go.Proofs.YtkkbopkbjacfmaaGreatDoor
open Go.RowKit Go.Proofs.Tryz
instance:ARR prog 192 2 22 1 [.slice none 0 0,.slice none 0 0]:=by
 have h:(prog.info? 192).bind (·.zero)=some (.agg #[.slice none 0 0,.slice none 0 0]):=by kernel_rfl
 refine ⟨by kernel_rfl,by kernel_rfl,?_⟩;obtain ⟨i,h1,h2⟩:=Option.bind_eq_some_iff.1 h;exact ⟨i,_,h1,h2,rfl⟩
instance:TI prog 192 true 2:=.of (by kernel_rfl)
instance:TZ prog 192 [.slice none 0 0,.slice none 0 0]:=.of (by kernel_rfl) rfl
theorem PJ (L:List Sv):FSpec prog 135 [.one (.sl ji L)] [] [0] (.c (.clo 221 [0])) [(0,some (.box 117 [.sl ji L]))]:=by
 refine aS func135 ?_;repeat' (first|refine az ?_ ?_|(refine aa 0 rfl ?_;refine sx (dm (ks:=[1]) rfl rfl) ?_)|refine ay ?_|exact aA|refine ax fun hb=>?_|(refine cn (qf [(0,1)]) ?_;exact ak))
section
variable {P:Program} {Q:Exit->Act->World->Prop} {s:Mst} {c0:Ctx}
theorem Bf {w:World} {S:Nat->Prop} {ρ:Nat->Value} {args:List V0} {vs:List Value} {nt:Nat} (hS:∀b,S b->b<w.heap.size) (ha:All2 (V0.rep w S ρ) args vs) (hok:args.all (fun x=>V0.in_ [] x)=true) (hn:args.length<=nt) (hp:PinW w fun _=>False) :
  Rp { w0:=w,S:=S,X:=fun _=>False,nt:=nt,K:=[],ρ0:=ρ,hS:=hS,hX:=fun _ h=>h.elim,hpin:=hp } (Ox args []) ρ { tmps:=vs.toArray++Array.replicate (nt-vs.toArray.size) undef,defers:=[] } w:=by
 have hlen:=ha.length;have hF0:∀b,S b->Fz { w0:=w,S:=S,X:=fun _=>False,nt:=nt,K:=[],ρ0:=ρ,hS:=hS,hX:=fun _ h=>h.elim,hpin:=hp } (Ox args []).h ρ w b/\w.heap[b]? = w.heap[b]?:=fun b hb=>⟨⟨.inl hb,hS b hb,fun k bx hk=>by cases hk⟩,rfl⟩;refine ⟨rfl,?_,Frx.refl _ _,fun i=>?_,fun k b hk=>(by cases hk),fun k b g hk hg=>(by cases hk),fun k k' b b' g hk hk' hg hg'=>(by cases hk),fun k hk=>(by cases hk),⟨fun k hk=>rfl,fun k i hk=>?_,fun k k' b hk hb2=>(by cases hb2)⟩⟩
 ·show (vs.toArray++Array.replicate (nt-vs.toArray.size) undef).size=nt;simp;omega
 ·show TV.rep _ _ _ (match args[i]? with|some x=>.v x|none=>.c .any) _;cases hi:args[i]? with
  | none=>trivial
  | some x =>
   obtain ⟨v,hv,hx⟩:=ha.get hi;have hil:i<vs.length:=(List.getElem?_eq_some_iff.1 hv).1;have e1:(vs.toArray++Array.replicate (nt-vs.toArray.size) undef).getD i undef=v:=by
    rw [Array.getD_eq_getD_getElem?,Array.getElem?_append_left (by simpa using hil)];simp [hv]
   show V0.rep _ _ _ x ((vs.toArray++Array.replicate (nt-vs.toArray.size) undef).getD i undef);rw [e1];exact hx.mono hF0 fun _ _=>rfl
 ·show TV.has k (match args[i]? with|some x=>.v x|none=>.c .any)=false;cases hi:args[i]? with
  | none=>rfl
  | some x =>
   cases h9:TV.has k (.v x) with
   | false=>rfl
   | true=>have:=V0.in_has (List.all_eq_true.1 hok x (List.mem_of_getElem? hi)) h9;simp [aI] at this
def GW (P:Program) (c0:Ctx) (Q:Exit->Act->World->Prop) (x:Code) (s:Mst):Prop:=∀(ρ:Nat->Value) (a:Act) (w:World),Rp c0 s ρ a w->x.wp P Q a w
theorem oB {x y:Code} {nt:Nat} {fn:Func} {res:TV} (hc:c0.nt=nt) (hk:c0.K=[]) (hF:∀s' ρ' a' w',sF P fn [] res [] .ret s'->Rp c0 s' ρ' a' w'->Q .ret a' w') (h:AW P nt [] x (mb (GW P c0 Q y) (sF P fn [] res [])) s):GW P c0 Q (.seq x y) s:=fun ρ a w hr=>by
 refine wp_seq (wp_mono (h c0 ρ a w hc hk hr) ?_);rintro e a' w' ⟨s',ρ',hq,hr'⟩;cases e with
 | normal=>exact hq ρ' a' w' hr'
 | ret=>exact hF s' ρ' a' w' hq hr'
 | _=>obtain ⟨h1|h1,_⟩:=hq <;> cases h1
theorem Gi {x y:Code} {nt:Nat} {fn:Func} {res:TV} (s2:Mst) (hc:c0.nt=nt) (hk:c0.K=[]) (hF:∀s' ρ' a' w',sF P fn [] res [] .ret s'->Rp c0 s' ρ' a' w'->Q .ret a' w') (h:AW P nt [] x (mb (fun s'=>Le nt [] s' s2) (sF P fn [] res [])) s) (h2:GW P c0 Q y s2):GW P c0 Q (.seq x y) s:=fun ρ a w hr=>by
 refine wp_seq (wp_mono (h c0 ρ a w hc hk hr) ?_);rintro e a' w' ⟨s',ρ',hq,hr'⟩;cases e with
 | normal =>
  obtain ⟨ρ2,hr2⟩:=hq c0 ρ' a' w' hc hk hr';exact h2 ρ2 a' w' hr2
 | ret=>exact hF s' ρ' a' w' hq hr'
 | _=>obtain ⟨h1|h1,_⟩:=hq <;> cases h1
theorem Bg {x:Code} (h:GW P c0 (Exit.noGoto Q) x s):GW P c0 Q (.scope x) s:=fun ρ a w hr=>wp_scope_straight (h ρ a w hr)
theorem I9 {x y:Code} (h:GW P c0 (Exit.then (y.wp P Q) Q) x s):GW P c0 Q (.seq x y) s:=fun ρ a w hr=>wp_seq (h ρ a w hr)
theorem PK {x:Code} {nt:Nat} {s':Mst} (hc:c0.nt=nt) (hk:c0.K=[]) (h:Le nt [] s s') (h1:GW P c0 Q x s'):GW P c0 Q x s:=fun ρ a w hr=>by
 obtain ⟨ρ',hr'⟩:=h c0 ρ a w hc hk hr;exact h1 ρ' a w hr'
theorem EF {fn:Func} {res:TV} {e:Exit} {ρ:Nat->Value} {a:Act} {w:World} (h:sF P fn [] res [] e s) (hr:Rp c0 s ρ a w) (hres:res.in_ []=true) (ρ2:Nat->Value) :
  ∃v,(results fn a.tmps).run P w = .ok v w/\res.rep w (fun b=>(c0.S b\/c0.w0.heap.size<=b)/\b<w.heap.size) ρ2 v:=by
 obtain ⟨_,xs,p,hxs,_,hpart,hle⟩:=h;obtain ⟨v,hv,hvr⟩:=ma hr hxs;have h1:=hpart.tv hr hle hvr;refine ⟨v,hv,h1.mono (fun b hb=>⟨⟨hb.1,hb.2.1⟩,rfl⟩) fun k hk=>?_⟩;have:=TV.in_has hres hk;simp [aI] at this
theorem pN {w:World} {F:Nat->Prop}:∀L:List Int,Reps fo w F L (L.map (Value.int .i64))
 | []=>rfl
 | _ :: l=>⟨_,_,rfl,rfl,pN l⟩
theorem s9 {w:World} {F:Nat->Prop}:∀{L:List Int} {xs:List Value},Reps fo w F L xs->xs=L.map (Value.int .i64)
 | [],_,h=>h
 | _ :: _,_,⟨cs,rest,e,h1,h2⟩=>by
  have h1:cs=[.int .i64 _]:=h1;rw [e,h1,s9 h2];rfl
theorem wh {t:Array Value} {i j:Nat} {v:Value}:(t.setIfInBounds i v).getD j undef=if i=j/\i<t.size then v else t.getD j undef:=by
 rw [Array.getD_eq_getD_getElem?,Array.getD_eq_getD_getElem?,Array.getElem?_setIfInBounds];by_cases h:i=j
 ·subst h;by_cases h2:i<t.size
  ·simp [h2]
  ·simp [h2]
 ·simp [h]
theorem ta {w:World} {base:Nat} {e:TypeId} {n m:Nat} {v:Value} {xs:List Value} (h:w.ownsRow base e n v m xs):w.ownsRow 0 e n v m xs:=⟨h.1,h.2.imp id fun ⟨g,cap,cur,e,_,r⟩=>⟨g,cap,cur,e,Nat.zero_le _,r⟩⟩
theorem zl {w:World} {base:Nat} {e:TypeId} {n m:Nat} {v:Value} {xs:List Value} (h:w.ownsRow 0 e n v m xs) (hb:∀g,kb v=some g->base<=g):w.ownsRow base e n v m xs:=⟨h.1,h.2.imp id fun ⟨g,cap,cur,e,_,r⟩=>⟨g,cap,cur,e,hb g (by rw [e];rfl),r⟩⟩
theorem pO {w w':World} {base:Nat} {e:TypeId} {n m:Nat} {v:Value} {xs:List Value} (h:w.ownsRow base e n v m xs) (hb:∀g,kb v=some g->g<w.heap.size->w'.heap[g]? = w.heap[g]?):w'.ownsRow base e n v m xs:=by
 refine ⟨h.1,?_⟩;rcases h.2 with hn|⟨g,cap,cur,hv,hg,hh,rest⟩
 ·exact .inl hn
 ·exact .inr ⟨g,cap,cur,hv,hg,by rw [hb g (by rw [hv];rfl) (Array.getElem?_eq_some_iff.1 hh).1];exact hh,rest⟩
theorem oC {w:World} {base:Nat} {e:TypeId} {n m:Nat} {v:Value} {xs:List Value} (h:w.ownsRow base e n v m xs) {g:Nat} (hg:kb v=some g):base<=g/\∃cur,w.heap[g]? = some (.cells cur e (0,0)):=by
 rcases h.2 with ⟨hv,_⟩|⟨g',cap,cur,hv,hb,hh,_⟩
 ·rw [hv] at hg;cases hg
 ·rw [hv] at hg;injection hg with hg;subst hg;exact ⟨hb,cur,hh⟩
end
theorem Ja {α:Type} {E:El α} [J:Dp E] {w:World} {F F':Nat->Prop} {ρ ρ':Nat->Value} {k n:Nat} {e:TypeId} {m:List α} {cs:List D} (hb:(Box.box e cs).rep w F ρ (ρ k)) (hm:m.flatMap J.deep=cs) (hF:∀b,F b->F' b) (hF':∀g,kb (ρ k)=some g->F' g) (hn:m.length=n/\n<=maxLen) {v:Value} (hv:(D.slb k n).rep w F ρ v):(D.sl E m).rep w F' ρ' v:=by
 subst hm;obtain ⟨g,hg,rfl⟩:=hv;obtain ⟨g',vs,e1,h3,h4,_⟩:=hb;rw [hg] at e1;injection e1 with e1;injection e1 with e1;injection e1 with e1;subst e1;exact ⟨_,_,by rw [hn.1],⟨Nat.le_of_eq hn.1,hn.2⟩,vs,(gF h4).same (fun _ _=>rfl) hF,fun _=>⟨g,0,rfl,hF' g (by rw [hg];rfl),fun j u hu=>by rw [Nat.zero_add];exact h3.cellx j (by simpa using hu)⟩⟩
theorem Jo (d:Nat) (r:Rq) {b:Bool} (hB:qW r=b):FSpec prog 134 [r.a d] [] [] (.b b) []:=by
 refine aS func134 ?_;have kE:=zm d r.expr;repeat' (first|refine az ?_ ?_|refine fV ?_|refine ay ?_|exact aA|refine ax fun hb=>?_)
 all_goals (refine eR ?_;rw [<-hB];simp [qW, *];try omega)
theorem LN (d:Nat) (p:Pc) (g:Lg) (kind label:Int) (hk:(kind=0/\∃A,cd p.led label=(g,A,0))\/(kind≠0/\g=Lg.zero)) (hg:g.entries.length<=p.led.entries.length) (h72:p.led.entries.length<=72) (hc:0<=p.cost/\p.cost<=1000) {R:Opn} (hR:Kd p g label=R):FSpec prog 136 [p.a d,lD kind,lD label] [] [] (.v R.a) []:=by
 refine aS func136 ?_;unfold Kd je at hR;obtain ⟨E,hE⟩:=qGe (p.led.entries.drop g.entries.length);have hEl:E.length<=72:=by rw [<-hE];simp;omega
 have hE2:p.led.entries.drop ((g.entries.length:Int)).toNat=E:=by rw [Int.toNat_natCast];exact hE
 have hEl2:(p.led.entries.length:Int)-g.entries.length+1=(E.length:Int)+1:=by
  have:E.length=p.led.entries.length-g.entries.length:=by rw [<-hE];simp
  omega
 rw [hE,hEl2] at hR;have hmul : -9223372036854775808<=p.cost*((E.length:Int)+1)/\p.cost*((E.length:Int)+1)<=9223372036854775807:=by
  obtain ⟨k,hk⟩:∃k:Int,(E.length:Int)+1=k:=⟨_,rfl⟩;rw [hk];have k1:0<=k:=by omega
  have k2:k<=73:=by omega
  have m1:=Int.mul_nonneg hc.1 k1;have m2:p.cost*k<=1000*73:=Int.mul_le_mul hc.2 k2 k1 (by omega);omega
 obtain ⟨B,hB⟩:=qGe ((bif p.waiting then (cR p.req.expr).map (·.name) else []));obtain ⟨N,hN⟩:=qGe (fm (fm [] (E.map (·.name))) B);have h8:=dE p.req.expr;have hBl:B.length<=8:=by
  rw [<-hB];cases p.waiting with
  | true=>simp;omega
  | false=>simp
 have hNs:fM (fR (E.map (·.name)++B))=N:=by rw [Gu,yc,hN]
 have hNl:N.length<=80:=by
  rw [<-hNs];have:=li ((fR (E.map (·.name)++B)).map bs);simp [fM,fR] at this ⊢;omega
 rw [hB,hN] at hR;obtain ⟨M,hM⟩:∃M:List Tm,N.map (fun n=>(⟨n,aw g.entries n⟩:Tm))=M:=⟨_,rfl⟩;rw [hM] at hR;obtain rfl:R=⟨p.proc,label,p.cost*((E.length:Int)+1),M⟩:=hR.symm;clear hR hN hE hEl2;rcases hk with ⟨rfl,A,hU⟩|⟨hk0,hz⟩
 case' inl =>
  have kU:=PP p.led label hU;repeat' (first|refine az ?_ ?_|refine aa 9 rfl (cC [] kU ?_)|(refine aa 14 rfl ?_;refine sx (dl (z:=(g.entries.length:Int)) rfl rfl rfl rfl (by omega) (by omega) hE2) ?_)|refine ay ?_|exact aA|(refine ax fun hb=>?_;first|(exact absurd rfl hb)|skip))
 case' inr =>
  have he1:g.entries=[]:=by rw [hz];rfl
  have he2:g.saves=[]:=by rw [hz];rfl
  have hE2:p.led.entries.drop (((0:Nat):Int)).toNat=E:=by rw [<-hE2,he1];rfl
  repeat' (first|refine az ?_ ?_|(refine aa 14 rfl ?_;refine sx (dl (z:=((0:Nat):Int)) rfl rfl rfl rfl (by omega) (by simp) hE2) ?_)|refine ay ?_|exact aA|(refine ax fun hb=>?_;first|(exact absurd hb hk0)|skip))
 all_goals
  refine bK 9 1000 9 eJ rfl rfl rfl ?_;refine ab (fun i=>i<=E.length) (fun i=>bC [3,6,7,1000] [(2,.v (lD label)),(3,.c (.ptr 3 0)),(6,.c (.ptr 6 0)),(7,.c (.ptr 7 0)),(8,.c (.sl jp E)),(9,.c (.own 1000)),(34,.c (.sl jp E)),(35,.i E.length),(36,.i i)] [(3,.box 121 (p.d d)),(6,.box 46 [.sc (.int .i64 0),.sc (.int .i64 0),.sc (.int .i64 0),.sc (.int .i64 0),.sc (.int .i64 0),.sc (.slice none 0 0)]),(7,.box 119 [.sl jp g.entries,.sl ji g.saves]),(1000,.arr 9 eJ ((E.take i).map (·.name)))]) (fun i=>E.length-i) 0 (Nat.zero_le _) (by first|(rw [he1,he2];exact aL)|exact aL|fail) ?_;intro i hi;by_cases hlt:i<E.length
  case pos =>
   obtain ⟨e,he⟩:∃e,E[i]? = some e:=⟨_,qGg hlt⟩;have ee:=qGs he;have hnx:(E.take i).map (·.name)++[e.name]=(E.take (i+1)).map (·.name):=by rw [List.take_succ_eq_append_getElem hlt,ee];simp
   have hTl:((E.take i).map (·.name)).length<=72:=by simp;omega
   generalize (E.take i).map (·.name)=T at *
   repeat' (first|refine az ?_ ?_|(refine aa 8 rfl ?_;refine aK (ae rfl rfl (av rfl rfl) (aB [e.name] rfl rfl rfl rfl) rfl aE aE) rfl rfl rfl ?_)|refine ay ?_|exact aA|refine ax fun hb=>?_)
   refine ⟨i+1,hlt,by omega,?_⟩;rw [<-hnx];exact a8 (qf [(1000,44)])
  rw [List.take_of_length_le (by omega)];obtain ⟨T,hT⟩:=qGe (E.map (·.name));have hTl:T.length<=72:=by rw [<-hT];simp;omega
  rw [hT] at hNs ⊢;clear hT;cases hw:p.waiting
  case' true =>
   rw [hw,qCt] at hB;obtain ⟨Q,hQ⟩:=qGe (cR p.req.expr);rw [hQ] at hB h8;have kA:=NZ d p.req.expr hQ;refine ao ?_;refine ab (fun i=>i<=Q.length) (fun i=>bC [3,6,7,1000] [(2,.v (lD label)),(3,.c (.ptr 3 0)),(6,.c (.ptr 6 0)),(7,.c (.ptr 7 0)),(8,.c (.sl jp E)),(9,.c (.own 1000)),(51,.c (.sl da Q)),(52,.i Q.length),(53,.i i)] [(3,.box 121 (p.d d)),(6,.box 46 [.sc (.int .i64 0),.sc (.int .i64 0),.sc (.int .i64 0),.sc (.int .i64 0),.sc (.int .i64 0),.sc (.slice none 0 0)]),(7,.box 119 [.sl jp g.entries,.sl ji g.saves]),(1000,.arr 9 eJ (T++(Q.take i).map (·.name)))]) (fun i=>Q.length-i) 0 (Nat.zero_le _) (by rw [List.take_zero,List.map_nil,List.append_nil];exact aL) ?_;intro j hj;by_cases hlj:j<Q.length
   case pos =>
    obtain ⟨a,ha⟩:∃a,Q[j]? = some a:=⟨_,qGg hlj⟩;have ea:=qGs ha;have hnx:(T++(Q.take j).map (·.name))++[a.name]=T++(Q.take (j+1)).map (·.name):=by rw [List.take_succ_eq_append_getElem hlj,ea];simp
    have hTl:(T++(Q.take j).map (·.name)).length<=80:=by simp;omega
    generalize T++(Q.take j).map (·.name)=U at *
    repeat' (first|refine az ?_ ?_|(refine aa 8 rfl ?_;refine aK (ae rfl rfl (av rfl rfl) (aB [a.name] rfl rfl rfl rfl) rfl aE aE) rfl rfl rfl ?_)|refine ay ?_|exact aA|refine ax fun hb=>?_)
    refine ⟨j+1,hlj,by omega,?_⟩;rw [<-hnx];exact a8 (qf [(1000,61)])
   rw [List.take_of_length_le (by omega),hB];have hUl:(T++B).length<=80:=by simp;omega
   generalize T++B=U at *
   have kS:=Jq U (by omega);have kC:=Jr (fR U) (by simp [fR];omega);rw [hNs] at kC;repeat' (first|refine az ?_ ?_|(refine aa 9 rfl ?_;first|(refine cH (qf [(0,1000)]) kS ?_)|(refine cH (qf [(0,1000)]) kC ?_))|(refine aa 10 rfl ?_;refine sx (o0 rfl rfl rfl (IntWalk.i64_in _ hmul)) ?_)|refine ay ?_|exact aA|refine ax fun hb=>?_)
  case' false =>
   rw [hw,qCf] at hB;subst hB;rw [List.append_nil] at hNs;have kS:=Jq T (by omega);have kC:=Jr (fR T) (by simp [fR];omega);rw [hNs] at kC;repeat' (first|refine az ?_ ?_|(refine aa 9 rfl ?_;first|(refine cH (qf [(0,1000)]) kS ?_)|(refine cH (qf [(0,1000)]) kC ?_))|(refine aa 10 rfl ?_;refine sx (o0 rfl rfl rfl (IntWalk.i64_in _ hmul)) ?_)|refine ay ?_|exact aA|(refine ax fun hb=>?_;first|(cases hw.symm.trans hb;done)|skip))
  all_goals
   refine eG 14 5 1001 63 da rfl rfl rfl rfl ?_;refine ab (fun y:Nat×List Tm=>y.1<=N.length/\y.2.length=y.1/\y.2++(N.drop y.1).map (fun n=>(⟨n,aw g.entries n⟩:Tm))=M) (fun y=>bC [6,7,14,1001] [(6,.c (.ptr 6 0)),(7,.c (.ptr 7 0)),(14,.c (.ptr 14 0)),(76,.c (.sl eJ N)),(77,.i N.length),(78,.i y.1)] [(6,.box 46 [.sc (.int .i64 0),.sc (.int .i64 0),.sc (.int .i64 0),.sc (.int .i64 0),.sc (.int .i64 0),.sc (.slice none 0 0)]),(7,.box 119 [.sl jp g.entries,.sl ji g.saves]),(14,.box 46 [.sc (.int .i64 p.proc.site),.sc (.int .i64 p.proc.inc),.sc (.int .i64 p.proc.num),.sc (.int .i64 label),.sc (.int .i64 (p.cost*((E.length:Int)+1))),.own 1001]),(1001,.arr 63 da y.2)]) (fun y=>N.length-y.1) (0,[]) ⟨Nat.zero_le _,rfl,hM⟩ aL ?_;clear hM;rintro ⟨i,Y⟩ ⟨hi,hYl,hs⟩;dsimp only at *
   by_cases hlt:i<N.length
   ·obtain ⟨n,hn⟩:∃n,N[i]? = some n:=⟨_,qGg hlt⟩;have en1:=qGs hn;rw [qDc hlt,en1,List.map_cons] at hs;obtain ⟨a,ha⟩:=qGe (aw g.entries n);have kH:=PN g n ha;rw [ha] at hs;repeat' (first|refine az ?_ ?_|(refine aa 8 rfl ?_;refine aK (ae rfl rfl (av rfl rfl) (aB [⟨n,a⟩] rfl rfl rfl rfl) rfl aE aE) rfl rfl rfl ?_)|refine aa 9 rfl (cB [] kH ?_)|refine ay ?_|exact aA|refine ax fun hb=>?_)
    refine ⟨(i+1,Y++[⟨n,a⟩]),⟨by dsimp only;omega,by simp [hYl],?_⟩,by dsimp only;omega,?_⟩
    ·exact Ry
    ·exact a8 (qf [(1001,90)])
   ·rw [qDn (by omega)] at hs;obtain rfl:Y=M:=by rw [<-hs];simp
    exact QY
theorem Ju (p:Pc) (L:List Int) {O:List Opn} (hg:qT p.led=true) (hLs:L=p.led.saves.reverse.map (·.label)) (hO:vU p=O):∀kd:Nat,kd<2->∃row:List Int,[D.sl fo L,D.sl fo [-1]][kd]? = some (.sl fo row)/\(fun k=>if k=0 then 0 else if k=1 then L.length else L.length+1) kd+row.length=(fun k=>if k=0 then 0 else if k=1 then L.length else L.length+1) (kd+1)/\row.length<=L.length+1/\
  ∀(j:Nat) (h:j<row.length),∃g,((((kd:Nat):Int)=0/\∃A,cd p.led row[j]=(g,A,0))\/(((kd:Nat):Int)≠0/\g=Lg.zero))/\g.entries.length<=p.led.entries.length/\O[(fun k=>if k=0 then 0 else if k=1 then L.length else L.length+1) kd+j]? = some (Kd p g row[j])
 | 0,_=>by
  refine ⟨L,rfl,by simp,by omega,fun j h=>?_⟩;subst hLs;have hj:j<p.led.saves.reverse.length:=by simpa using h
  obtain ⟨A,hU,hle⟩:=rk hg (s:=p.led.saves.reverse[j]) (List.mem_reverse.1 (List.getElem_mem hj));refine ⟨bw p.led p.led.saves.reverse[j].label,.inl ⟨rfl,A,by rw [List.getElem_map];exact hU⟩,hle,?_⟩;rw [<-hO];simp only [if_pos,Nat.zero_add];unfold vU;rw [List.getElem?_append_left (by simpa using hj),List.getElem?_map,qGg hj,List.getElem_map];rfl
 | 1,_=>by
  refine ⟨[-1],rfl,by simp,by simp,fun j h=>?_⟩;obtain rfl:j=0:=by simpa using h
  refine ⟨Lg.zero,.inr ⟨by decide,rfl⟩,Nat.zero_le _,?_⟩;rw [<-hO,hLs];unfold vU;simp
 | n+2,h=>absurd h (by omega)
theorem Jv (d:Nat) (p:Pc) {R:List Opn} (hR:ie p=R):FSpec prog 60 [p.a d] [] [] (.c (.sl vS R)) []:=by
 refine gS (fun b W=>by kernel_rfl) rfl fun w S ρ vs hp hS ha=>?_;refine callsIn_wide.1 (callsIn_of_wp_marks (n:=8) func60 rfl trivial ?_);refine wpIn_wide.2 ?_;have hr0:=Bf (nt:=80) hS ha rfl (qNl rfl) hp;generalize hc0:({ w0:=w,S:=S,X:=fun _=>False,nt:=80,K:=[],ρ0:=ρ,hS:=hS,hX:=fun _ h=>h.elim,hpin:=hp }:Ctx)=c0 at hr0;have cS:c0.S=S:=by rw [<-hc0]
 have cW:c0.w0=w:=by rw [<-hc0]
 have cX:∀b,¬c0.X b:=by rw [<-hc0];exact fun _ h=>h
 have cN:c0.nt=80:=by rw [<-hc0]
 have cK:c0.K=[]:=by rw [<-hc0]
 have cD:c0.dfr=[]:=by rw [<-hc0]
 refine (?_:GW _ c0 _ _ _) _ _ _ hr0;clear hr0 ha;obtain ⟨QM,hQM⟩:∃QM,bodyPostM Fence.wide 8 prog f60 (fun e w'=>∃v,e=Ending.returned v/\Below w.heap.size w w'/\(TV.c (.sl vS R)).rep w' (Gr S w.heap.size w') ρ v)=QM:=⟨_,rfl⟩;have hF:∀s' ρ' a' w',sF prog f60 [] (TV.c (.sl vS R)) [] .ret s'->Rp c0 s' ρ' a' w'->QM .ret a' w':=fun s' ρ' a' w' hf hr=>by
  obtain ⟨v,hv,hrep⟩:=EF hf hr rfl ρ;have hd:=hr.dfr;rw [cD] at hd;rw [<-hQM];show LeavesInM _ _ _ _ _ _ a'.defers _ _;rw [hd];have h3:=hr.frm;rw [cW] at h3;refine ⟨v,hv,v,rfl,⟨h3.os,h3.tape,h3.output,h3.size,fun b hb=>h3.keep b hb (cX b)⟩,hrep.mono (fun b hb=>⟨⟨hb.2,?_⟩,rfl⟩) fun _ _=>rfl⟩;have:=hb.1;rw [cS,cW] at this;exact this
 rw [hQM];unfold ie at hR;obtain ⟨v,hv⟩:=qGe (gm p.proc);obtain ⟨g,hg⟩:=qGe (qT p.led);obtain ⟨q,hq⟩:=qGe (qW p.req);have kV:FSpec prog 107 [p.proc.a] [] [] (.b v) []:=hv▸oD p.proc;have kG:FSpec prog 133 [.ag [.sl jp p.led.entries,.sl ji p.led.saves]] [] [] (.b g) []:=EI p.led.entries p.led.saves hg;have kQ:FSpec prog 134 [p.req.a d] [] [] (.b q) []:=Jo d p.req hq;rw [hv,hg,hq] at hR;by_cases hA:v=true/\(1<=p.cost/\p.cost<=1000)/\g=true/\(p.waiting=true->q=true)
 case neg =>
  obtain rfl:R=[]:=by
   rw [<-hR];cases hh:v && decide (1<=p.cost) && decide (p.cost<=1000) && g && (!p.waiting || q) with
   | false=>rfl
   | true =>
    simp only [qBa,Bool.or_eq_true,decide_eq_true_eq,Bool.not_eq_true'] at hh;exact absurd ⟨hh.1.1.1.1,⟨hh.1.1.1.2,hh.1.1.2⟩,hh.1.2,fun hw=>by
     rcases hh.2 with h|h
     ·rw [hw] at h;cases h
     ·exact h⟩ hA
  clear hR hv hg hq;refine oB cN cK hF ?_;refine ao ?_;refine Bg (oB cN cK hF ?_);cases v with
  | false =>
   exact QY
  | true =>
   by_cases hc:p.cost<1
   ·exact QY
   by_cases hc2:1000<p.cost
   ·exact QY
   cases g with
   | false =>
    exact QY
   | true =>
    cases hw:p.waiting with
    | false=>exact absurd ⟨rfl,⟨by omega,by omega⟩,rfl,fun h=>by rw [hw] at h;cases h⟩ hA
    | true =>
     cases q with
     | true=>exact absurd ⟨rfl,⟨by omega,by omega⟩,rfl,fun _=>rfl⟩ hA
     | false =>
      refine ao ?_;refine oB cN cK hF ?_;exact QY
 obtain ⟨rfl,⟨hc1,hc2⟩,rfl,hwq⟩:=hA;rw [qDt hc1,qDt hc2,show (!p.waiting || q)=true by cases hw:p.waiting with|false=>rfl|true=>rw [hwq hw];rfl] at hR;have hR:(bif (vU p).all iT then vU p else [])=R:=hR;obtain ⟨h72,h4⟩:=gK hg;refine oB cN cK hF ?_;refine ao ?_;refine Bg (oB cN cK hF ?_);refine ao ?_;refine Gi (bC [1] [(1,.c (.ptr 1 0))] [(1,.box 121 (p.d d))]) cN cK hF ?_ ?_
 ·cases hw:p.waiting with
  | true =>
   have hq1:=hwq hw;subst hq1;refine ao ?_;exact aL
  | false =>
   refine ao ?_;exact aL
 refine oB cN cK hF ?_;repeat' (first|refine az ?_ ?_|(refine aa 12 rfl ?_;refine sx (wT rfl rfl rfl) ?_)|refine ay ?_|exact aA|refine ax fun hb=>?_)
 refine I9 (oB cN cK hF ?_);have kB:=PJ p.led.saves;repeat' (first|refine az ?_ ?_|refine aa 9 rfl (cH (qf [(0,1045)]) kB ?_)|refine ay ?_|exact aA|refine ax fun hb=>?_)
 refine PK cN cK (s':=bC [1,3,40,1045] [(1,.c (.ptr 1 0)),(3,.c (.ptr 3 0)),(45,.c (.clo 221 [1045]))] [(1,.box 121 (p.d d)),(3,.box 192 [.sc (.slice none 0 0),.slb 40 1]),(40,.box 3 [.sc (.int .i64 (-1))]),(1045,.box 117 [.sl ji p.led.saves])]) aL ?_;clear kB;intro ρ1 a1 w1 hr;generalize hsA:bC [1,3,40,1045] [(1,.c (.ptr 1 0)),(3,.c (.ptr 3 0)),(45,.c (.clo 221 [1045]))] [(1,.box 121 (p.d d)),(3,.box 192 [.sc (.slice none 0 0),.slb 40 1]),(40,.box 3 [.sc (.int .i64 (-1))]),(1045,.box 117 [.sl ji p.led.saves])]=sA at hr;have i1:sA.h 1=some (.box 121 (p.d d)):=by rw [<-hsA];rfl
 have i3:sA.h 3=some (.box 192 [.sc (.slice none 0 0),.slb 40 1]):=by rw [<-hsA];rfl
 have i40:sA.h 40=some (.box 3 [.sc (.int .i64 (-1))]):=by rw [<-hsA];rfl
 have iB:sA.h 1045=some (.box 117 [.sl ji p.led.saves]):=by rw [<-hsA];rfl
 have u1:sA.t 1 = .c (.ptr 1 0):=by rw [<-hsA];rfl
 have u3:sA.t 3 = .c (.ptr 3 0):=by rw [<-hsA];rfl
 have u45:sA.t 45 = .c (.clo 221 [1045]):=by rw [<-hsA];rfl
 clear hsA;obtain ⟨gB,vB,eB,bB,rB,_⟩:=hr.hp 1045 _ iB;obtain ⟨AB,capB,rfl,lB,RB⟩:∃A cap,vB=[.slice A p.led.saves.length cap]/\(p.led.saves.length<=cap/\cap<=maxLen)/\RowsAt ji w1 (Fz c0 sA.h ρ1 w1) A p.led.saves:=by
  match vB,rB with
  | [_],⟨⟨A,cap,rfl,h1,h2⟩,_⟩=>exact ⟨A,cap,rfl,h1,h2⟩
 obtain ⟨g40,v40,e40,b40,r40,_⟩:=hr.hp 40 _ i40;obtain rfl:v40=[.int .i64 (-1)]:=by
  match v40,r40 with
  | [_],⟨h,_⟩=>rw [show _=_ from h]
 obtain ⟨g3,v3,e3,b3,r3,_⟩:=hr.hp 3 _ i3;obtain rfl:v3=[.slice none 0 0,.slice (some ⟨g40,0,none⟩) 1 1]:=by
  match v3,r3 with
  | [x,y],⟨h,⟨g',h1,h2⟩,_⟩ =>
   rw [e40] at h1;injection h1 with h1;injection h1 with h1;injection h1 with h1;subst h1;rw [show x=_ from h,h2]
 obtain ⟨g1,v1,e1,b1,r1,o1⟩:=hr.hp 1 _ i1;have n13:g1≠g3:=fun h=>by have:=hr.dis 1 3 _ _ g1 i1 i3 (by rw [e1];rfl) (by rw [e3,h];rfl);cases this
 have nB3:gB≠g3:=fun h=>by have:=hr.dis 1045 3 _ _ gB iB i3 (by rw [eB];rfl) (by rw [e3,h];rfl);cases this
 have n403:g40≠g3:=fun h=>by have:=hr.dis 40 3 _ _ g40 i40 i3 (by rw [e40];rfl) (by rw [e3,h];rfl);cases this
 have n401:g40≠g1:=fun h=>by have:=hr.dis 40 1 _ _ g40 i40 i1 (by rw [e40];rfl) (by rw [e1,h];rfl);cases this
 have l1:=b1.lt;have l3:=b3.lt;have l40:=b40.lt;have lB':=bB.lt;have t3:a1.tmps.getD 3 undef = .pointer (some ⟨g3,0,none⟩):=by
  have h:=hr.tmp 3;rw [u3] at h;obtain ⟨g',h1,h2⟩:=h;rw [e3] at h1;exact Rm
 have t1:a1.tmps.getD 1 undef = .pointer (some ⟨g1,0,none⟩):=by
  have h:=hr.tmp 1;rw [u1] at h;obtain ⟨g',h1,h2⟩:=h;rw [e1] at h1;exact Rm
 have t45:a1.tmps.getD 45 undef = .func (.func 221) #[] #[.pointer (some ⟨gB,0,none⟩)]:=by
  have h:=hr.tmp 45;rw [u45] at h;obtain ⟨cv,h1,h2⟩:=h
  match cv,h2 with
  | [x],⟨h3,_⟩=>rw [h1,show x=_ from h3,eB]
 have hsz:a1.tmps.size=80:=hr.siz.trans cN;have hz3:∀b,Fz c0 sA.h ρ1 w1 b->b≠g3/\b≠g1/\b<w1.heap.size:=fun b hb=>⟨fun h=>hb.2.2 3 _ i3 (by rw [e3,h];rfl),fun h=>hb.2.2 1 _ i1 (by rw [e1,h];rfl),hb.2.1⟩;have mW:w.heap.size<=w1.heap.size:=by have:=hr.frm.size;rw [cW] at this;exact this
 have mG:w.heap.size<=g3:=by
  rcases hr.inb 3 _ g3 i3 (by rw [e3];rfl) with h|h
  ·exact absurd h (cX _)
  ·rw [cW] at h;exact h
 have hkW:∀W:World,KpT (fun b=>b<w1.heap.size/\b≠g3) w1 W->∀X:Nat->Prop,(∀b,b<w.heap.size->X b->False)->PinW W X:=fun W hk X hX=>hp.sub (fun b hb _=>(hk b ⟨by omega,by omega⟩).trans (by
  have h7:=hr.frm.keep b (by rw [cW];exact hb) (cX b);rw [cW] at h7;exact h7)) hX
 refine wp_block (wpIn_wide.1 (wpIn_rangeFunc_ownH (n:=8) rfl (by decide) (gf:=221) (lb:=#[.pointer (some ⟨gB,0,none⟩)]) t45 trivial (enters_of func221 (by kernel_rfl) rfl)
  (Gh 7 (by decide) gB p.led.saves (by omega) (fun b=>b<w1.heap.size/\b≠g3) (Fz c0 sA.h ρ1 w1) w1 AB capB (bB.cell 0) RB (fun b hb=>⟨⟨(hz3 b hb).2.2,(hz3 b hb).1⟩,(hz3 b hb).2.2⟩) ⟨lB',nB3⟩ lB')
  (fun h k b hb=>(k b hb).trans (h b hb)) (fun W l o o' hl _ _ _ b hb=>World.putObj_heap_other (by have:=hb.1;omega)) (Below.refl _ _) (fun _=>rfl)
  (fun pre W=>(∃v,Blk W g3 192 #[v,.slice (some ⟨g40,0,none⟩) 1 1]/\W.ownsRow w1.heap.size 3 1 v pre.length (pre.map fun x=>.int .i64 x.2.label))/\KpT (fun b=>b<w1.heap.size/\b≠g3) w1 W/\W.os=w1.os/\W.tape=w1.tape/\W.output=w1.output/\w1.heap.size<=W.heap.size)
  (fun _ _ _=>False)
  ?hI (fun _ _ _ _ _ hs _ _=>hs) ⟨⟨.slice none 0 0,b3,rfl,.inl ⟨rfl,rfl⟩⟩,fun _ _=>rfl,rfl,rfl,rfl,Nat.le_refl _⟩
  (fun x a' W=>a'.defers=[]/\a'.tmps.size=80/\a'.tmps.getD 3 undef = .pointer (some ⟨g3,0,none⟩)/\∃Bx,w1.heap.size<=Bx/\a'.tmps.getD 5 undef = .pointer (some ⟨Bx,0,none⟩)/\Blk W Bx 197 #[.int .i64 x.2.label,.int .i64 x.2.at_])
  ?hAx ?assign ?body ?done ?stop))
 case stop=>exact fun D c pre W _ _ h _=>h.elim
 case hI =>
  rintro pre W W' row ⟨⟨v,hv,ho⟩,hk,h1,h2,h3,h4⟩ hg hrow;have hne:∀b cs t z,W.heap[b]? = some (.cells cs t z)->some b≠row:=fun b cs t z hb e=>by
   obtain ⟨_,o,ho,hc⟩:=hrow b e.symm;rw [hb] at ho;cases ho
   cases hc
  refine ⟨⟨v,(hg.block g3 hv.lt (hne _ _ _ _ hv)).trans hv,pO ho fun b hb hlt=>?_⟩,fun b hb=>(hg.block b (by have:=hb.1;omega) fun e=>by have:=(hrow b e.symm).1;have:=hb.1;omega).trans (hk b hb),hg.os.trans h1,hg.tape.trans h2,hg.output.trans h3,Nat.le_trans h4 hg.size⟩;obtain ⟨_,cur,hcur⟩:=oC ho hb;exact hg.block b hlt (hne _ _ _ _ hcur)
 case hAx =>
  rintro x a' _ W W' row ⟨h1,h2,h3,Bx,h4,h5,h6⟩ hg hrow;refine ⟨h1,h2,h3,Bx,h4,h5,(hg.block Bx h6.lt fun e=>?_).trans h6⟩;obtain ⟨_,o,ho,hc⟩:=hrow Bx e.symm;rw [show W.heap[Bx]? = _ from h6] at ho;cases ho
  cases hc
 case assign =>
  rintro l pre x W K ⟨⟨v,hv,ho⟩,hk,q1,q2,q3,q4⟩ hK;have hz:(#[46,47]:Array Nat).zip (I8 x) = #[(46,.int .i64 x.1),(47,.agg #[.int .i64 x.2.label,.int .i64 x.2.at_])]:=by first|rfl|simp [I8,Array.zip]
  rw [hz];simp only [List.foldl_toArray',List.foldl_cons,List.foldl_nil,List.size_toArray,List.length_cons,List.length_nil];obtain ⟨A0,hA0⟩:=qGe ((a1.tmps.setIfInBounds 46 (.int .i64 x.1)).setIfInBounds 47 (.agg #[.int .i64 x.2.label,.int .i64 x.2.at_]));have z1:A0.size=80:=by rw [<-hA0];simp [hsz]
  have z2:A0.getD 3 undef = .pointer (some ⟨g3,0,none⟩):=by rw [<-hA0,wh,wh];simp [t3]
  have z3:A0.getD 47 undef = .agg #[.int .i64 x.2.label,.int .i64 x.2.at_]:=by rw [<-hA0,wh];simp [hsz]
  rw [hA0];have hpW:PinW W (fun _=>False):=hkW W hk _ fun _ _ h=>h;have hr2:Rp { w0:=W,S:=fun b=>b<W.heap.size,X:=fun _=>False,nt:=80,K:=[3],ρ0:=fun _=>.pointer (some ⟨g3,0,none⟩),hS:=fun _ h=>h,hX:=fun _ h=>h.elim,hpin:=hpW } (bC [3] [(3,.c (.ptr 3 0)),(47,.v (.ag [.sc (.int .i64 x.2.label),.sc (.int .i64 x.2.at_)]))] []) (fun _=>.pointer (some ⟨g3,0,none⟩)) { tmps:=A0,defers:=[] } W :=
   ⟨rfl,z1,Frx.refl _ _,fun t=>nk (ts:=[(3,.c (.ptr 3 0)),(47,.v (.ag [.sc (.int .i64 x.2.label),.sc (.int .i64 x.2.at_)]))]) ⟨⟨g3,rfl,z2⟩,⟨[_,_],z3,rfl,rfl,trivial⟩,trivial⟩ t,fun k b hk=>(by cases hk),fun k b g hk=>(by cases hk),fun k k' b b' g hk=>(by cases hk),fun k hk=>⟨rfl,by rw [List.mem_singleton.1 hk];rfl⟩,Da rfl⟩
  refine wpIn_mono (pM (nt:=80) (K:=fun s'=>s'.t 3 = .c (.ptr 3 0)/\s'.t 5 = .c (.ptr 5 0)/\s'.h 5=some (.box 197 [.sc (.int .i64 x.2.label),.sc (.int .i64 x.2.at_)])) rfl rfl rfl ?_ hr2) ?_
  ·refine ao ?_;exact ⟨rfl,rfl,rfl⟩
  rintro e a' W' ⟨rfl,s',ρ',⟨c3,c5,c6⟩,hr'⟩;have hfr:=hr'.frm;have hkp:∀b,b<W.heap.size->W'.heap[b]? = W.heap[b]?:=fun b hb=>hfr.keep b hb id;obtain ⟨gx,vx,ex,bx,rx,_⟩:=hr'.hp 5 _ c6;obtain rfl:vx=[.int .i64 x.2.label,.int .i64 x.2.at_]:=by
   match vx,rx with
   | [_,_],⟨h,h',_⟩=>rw [show _=_ from h,show _=_ from h']
  refine hK a' W' ⟨hfr.size,fun k o _ hko _=>(hkp k (Array.getElem?_eq_some_iff.1 hko).1).trans hko⟩ (fun b hb=>hkp b (Nat.lt_of_lt_of_le hb.1 q4)) ⟨⟨v,(hkp g3 hv.lt).trans hv,pO ho fun b _ hlt=>hkp b hlt⟩,fun b hb=>(hkp b (Nat.lt_of_lt_of_le hb.1 q4)).trans (hk b hb),hfr.os.trans q1,hfr.tape.trans q2,hfr.output.trans q3,Nat.le_trans q4 hfr.size⟩ ⟨hr'.dfr,hr'.siz,?_,gx,?_,?_,bx⟩
  ·have h:=hr'.tmp 3;rw [c3] at h;obtain ⟨g',h1,h2⟩:=h;rw [(hr'.ent 3 (by simp)).1] at h1;exact Rm
  ·rcases hr'.inb 5 _ gx c6 (by rw [ex];rfl) with h|h
   ·exact h.elim
   ·exact Nat.le_trans q4 h
  ·have h:=hr'.tmp 5;rw [c5] at h;obtain ⟨g',h1,h2⟩:=h;rw [ex] at h1;exact Rm
 case body =>
  rintro l pre x a' W hl ⟨r,hrec⟩ ⟨⟨v,hv,ho⟩,hk,q1,q2,q3,q4⟩ ⟨hd,hs,h3,Bx,hBx,h5,hbx⟩ hlen;have hvb:∀b,kb v=some b->w1.heap.size<=b/\∃cur,W.heap[b]? = some (.cells cur 3 (0,0)):=fun b hb=>oC ho hb;have hvo:v.oneCell'=true:=by
   rcases ho.2 with ⟨rfl,_⟩|⟨g,cap,cur,rfl,_⟩ <;> rfl
  have qD:∀b,kb v=some b->b≠Bx:=fun b hb e=>by
   obtain ⟨_,cur,hcur⟩:=hvb b hb;rw [e,show W.heap[Bx]? = _ from hbx] at hcur;injection hcur with hcur;injection hcur with _ hcur;exact absurd hcur (by decide)
  obtain ⟨ρb,hρb⟩:∃ρb:Nat->Value,(fun k=>bif k.beq 3 then .pointer (some ⟨g3,0,none⟩) else bif k.beq 5 then .pointer (some ⟨Bx,0,none⟩) else v)=ρb:=⟨_,rfl⟩;have p3:ρb 3 = .pointer (some ⟨g3,0,none⟩):=by rw [<-hρb];rfl
  have p5:ρb 5 = .pointer (some ⟨Bx,0,none⟩):=by rw [<-hρb];rfl
  have pv:ρb 1000=v:=by rw [<-hρb];rfl
  clear hρb;have hll:(pre.map fun x=>x.2.label).length=pre.length:=List.length_map _;have hg3B:g3≠Bx:=by omega
  have hcas:∀(k:Nat) (b:Box),(bC [3,5,1000] [(3,.c (.ptr 3 0)),(5,.c (.ptr 5 0))] [(3,.box 192 [.own 1000,.sc (.slice (some ⟨g40,0,none⟩) 1 1)]),(5,.box 197 [.sc (.int .i64 x.2.label),.sc (.int .i64 x.2.at_)]),(1000,.arr 3 fo (pre.map fun x=>x.2.label))]).h k=some b->(k=3/\b = .box 192 [.own 1000,.sc (.slice (some ⟨g40,0,none⟩) 1 1)])\/(k=5/\b = .box 197 [.sc (.int .i64 x.2.label),.sc (.int .i64 x.2.at_)])\/(k=1000/\b = .arr 3 fo (pre.map fun x=>x.2.label)):=fun k b h=>by
   have h2:=(bS h).2;simp only [List.mem_cons,List.not_mem_nil,or_false,Prod.mk.injEq] at h2;exact h2
  have hpB:PinW W (fun b=>b=g3\/b=Bx\/kb v=some b):=hkW W hk _ fun b hb h=>by
   rcases h with rfl|rfl|h
   ·omega
   ·omega
   ·have:=(hvb _ h).1;omega
  have hr2:Rp { w0:=W,S:=fun b=>b<W.heap.size,X:=fun b=>b=g3\/b=Bx\/kb v=some b,nt:=80,K:=[3],ρ0:=ρb,hS:=fun _ h=>h,hX:=fun b h=>by rcases h with rfl|rfl|h;exact hv.lt;exact hbx.lt;exact (Array.getElem?_eq_some_iff.1 (hvb b h).2.choose_spec).1,hpin:=hpB } (bC [3,5,1000] [(3,.c (.ptr 3 0)),(5,.c (.ptr 5 0))] [(3,.box 192 [.own 1000,.sc (.slice (some ⟨g40,0,none⟩) 1 1)]),(5,.box 197 [.sc (.int .i64 x.2.label),.sc (.int .i64 x.2.at_)]),(1000,.arr 3 fo (pre.map fun x=>x.2.label))]) ρb a' W:=by
   refine ⟨hd,hs,Frx.refl _ _,fun t=>nk (ts:=[(3,.c (.ptr 3 0)),(5,.c (.ptr 5 0))]) ⟨⟨g3,p3,h3⟩,⟨Bx,p5,h5⟩,trivial⟩ t,fun k b hkb=>?_,fun k b g hkb hg=>?_,fun k k' b b' g hkb hkb' hg hg'=>?_,fun k hk=>⟨rfl,by rw [List.mem_singleton.1 hk];rfl⟩,Da rfl⟩
   ·rcases hcas k b hkb with ⟨rfl,rfl⟩|⟨rfl,rfl⟩|⟨rfl,rfl⟩
    ·exact ⟨g3,[v,_],p3,hv,⟨pv.symm,rfl,trivial⟩,by intro u hu;simp at hu;rcases hu with rfl|rfl;exact hvo;rfl⟩
    ·exact ⟨Bx,[_,_],p5,hbx,⟨rfl,rfl,trivial⟩,by intro u hu;simp at hu;rcases hu with rfl|rfl <;> rfl⟩
    ·refine ⟨_,?_,pN _⟩;rw [pv,hll,List.map_map];exact ta ho
   ·rcases hcas k b hkb with ⟨rfl,rfl⟩|⟨rfl,rfl⟩|⟨rfl,rfl⟩
    ·rw [p3] at hg;injection hg with hg;exact .inl (.inl hg.symm)
    ·rw [p5] at hg;injection hg with hg;exact .inl (.inr (.inl hg.symm))
    ·rw [pv] at hg;exact .inl (.inr (.inr hg))
   ·have hne:∀{a b:Nat},kb (ρb 3)=some a->kb (ρb 5)=some b->a≠b:=fun h h'=>by
     rw [p3] at h;rw [p5] at h';injection h with h;injection h' with h';rw [<-h,<-h'];exact hg3B
    have hnv3:∀{a b:Nat},kb (ρb 3)=some a->kb (ρb 1000)=some b->a≠b:=fun h h'=>by
     rw [p3] at h;rw [pv] at h';have h:g3=_:=Option.some.inj h;have:=(hvb _ h').1;omega
    have hnv5:∀{a b:Nat},kb (ρb 5)=some a->kb (ρb 1000)=some b->a≠b:=fun h h'=>by
     rw [p5] at h;rw [pv] at h';injection h with h;rw [<-h];exact (qD _ h').symm
    rcases hcas k b hkb with ⟨rfl,_⟩|⟨rfl,_⟩|⟨rfl,_⟩ <;> rcases hcas k' b' hkb' with ⟨rfl,_⟩|⟨rfl,_⟩|⟨rfl,_⟩ <;> first|rfl|exact absurd rfl (hne hg hg')|exact absurd rfl (hne hg' hg)|exact absurd rfl (hnv3 hg hg')|exact absurd rfl (hnv3 hg' hg)|exact absurd rfl (hnv5 hg hg')|exact absurd rfl (hnv5 hg' hg)
  have hl4:(pre.map fun x=>x.2.label).length<4:=by rw [hll];omega
  obtain ⟨L,hL⟩:∃L,(pre.map fun x=>x.2.label)=L:=⟨_,rfl⟩;rw [hL] at hr2 hl4;clear hcas;refine wpIn_block (wpIn_mono (pM (nt:=80) (K:=fun s'=>s'.h 3=some (.box 192 [.own 53,.sc (.slice (some ⟨g40,0,none⟩) 1 1)])/\s'.h 53=some (.arr 3 fo (L++[x.2.label]))) rfl rfl rfl ?_ hr2) ?_)
  ·repeat' (first
    | refine az ?_ ?_
    | (refine aa 6 rfl ?_;refine sx (wU (i:=0) rfl rfl rfl rfl (by decide) rfl) ?_)
    | (refine aa 8 rfl ?_;refine aK (ae rfl rfl (av rfl rfl) (aB [x.2.label] rfl rfl rfl rfl) rfl aE aE) rfl rfl rfl ?_)
    | refine ay ?_
    | exact aA|refine ax fun hb=>?_)
   exact ⟨rfl,rfl⟩
  rintro e a2 W' ⟨rfl,s',ρ',⟨c3,c53⟩,hr'⟩;have hfr:=hr'.frm;have hkp:∀b,b<W.heap.size->¬(b=g3\/b=Bx\/kb v=some b)->W'.heap[b]? = W.heap[b]?:=fun b hb hn=>hfr.keep b hb hn;have hρ3:ρ' 3 = .pointer (some ⟨g3,0,none⟩):=((hr'.ent 3 (by simp)).1).trans p3;obtain ⟨ga,va,ea,ba,ra,_⟩:=hr'.hp 3 _ c3;rw [hρ3] at ea;injection ea with ea;injection ea with ea;injection ea with ea;subst ea;obtain rfl:va=[ρ' 53,.slice (some ⟨g40,0,none⟩) 1 1]:=by
   match va,ra with
   | [_,_],⟨h,h',_⟩=>rw [show _=_ from h,show _=_ from h']
  obtain ⟨xs,o2,rp2⟩:=hr'.hp 53 _ c53;rw [s9 rp2] at o2;have hkT:KpT (fun b=>b<w1.heap.size/\b≠g3) W W':=fun b hb=>hkp b (Nat.lt_of_lt_of_le hb.1 q4) fun h=>by
   have h1:=hb.1;rcases h with h|h|h
   ·exact hb.2 h
   ·omega
   ·have:=(hvb b h).1;omega
  refine ⟨⟨hfr.size,fun k o _ hko hno=>(hkp k (Array.getElem?_eq_some_iff.1 hko).1 fun h=>?_).trans hko⟩,hkT,⟨ρ' 53,ba,?_⟩,fun b hb=>(hkT b hb).trans (hk b hb),hfr.os.trans q1,hfr.tape.trans q2,hfr.output.trans q3,Nat.le_trans q4 hfr.size⟩
  ·rcases h with rfl|rfl|h
   ·rw [show W.heap[k]? = _ from hv] at hko;cases hko;cases hno
   ·rw [show W.heap[k]? = _ from hbx] at hko;cases hko;cases hno
   ·obtain ⟨_,cur,hcur⟩:=hvb k h;rw [hcur] at hko;cases hko;cases hno
  ·have e1:(L++[x.2.label]).length=(pre++[x]).length:=by rw [<-hL];simp
   have e2:(L++[x.2.label]).map (Value.int .i64)=(pre++[x]).map fun x=>Value.int .i64 x.2.label:=by rw [<-hL];simp
   rw [e1,e2] at o2;refine zl o2 fun g hg=>?_;rcases hr'.inb 53 _ g c53 hg with h|h
   ·rcases h with h|h|h
    ·have:=hr'.dis 3 53 _ _ g c3 c53 (by rw [hρ3,h];rfl) hg;cases this
    ·omega
    ·exact (hvb g h).1
   ·exact Nat.le_trans q4 h
 case done =>
  rintro D ys W hD hys ⟨⟨v,hv,ho⟩,hk,q1,q2,q3,q4⟩ hDef;show Code.wp _ _ _ _ _;have hDl:D<W.heap.size:=(Array.getElem?_eq_some_iff.1 hDef).1;have hvb:∀b,kb v=some b->w1.heap.size<=b/\∃cur,W.heap[b]? = some (.cells cur 3 (0,0)):=fun b hb=>oC ho hb;have hvo:v.oneCell'=true:=by
   rcases ho.2 with ⟨rfl,_⟩|⟨g,cap,cur,rfl,_⟩ <;> rfl
  have m1:w.heap.size<=g1:=by
   rcases hr.inb 1 _ g1 i1 (by rw [e1];rfl) with h|h
   ·exact absurd h (cX _)
   ·rw [cW] at h;exact h
  have m3:w.heap.size<=g3:=by
   rcases hr.inb 3 _ g3 i3 (by rw [e3];rfl) with h|h
   ·exact absurd h (cX _)
   ·rw [cW] at h;exact h
  have m40:w.heap.size<=g40:=by
   rcases hr.inb 40 _ g40 i40 (by rw [e40];rfl) with h|h
   ·exact absurd h (cX _)
   ·rw [cW] at h;exact h
  have mw:w.heap.size<=w1.heap.size:=by have:=hr.frm.size;rw [cW] at this;exact this
  obtain ⟨L,hL⟩:∃L,ys.map (fun x=>x.2.label)=L:=⟨_,rfl⟩;have hLs:L=p.led.saves.reverse.map (·.label):=by rw [<-hL,<-hys,List.map_map];rfl
  have ho2:W.ownsRow w1.heap.size 3 1 v L.length (L.map (Value.int .i64)):=by
   rw [<-hL,List.length_map,List.map_map];exact ho
  have hpC:PinW W (fun b=>b=g1\/b=g3):=hkW W hk _ fun b hb h=>by rcases h with rfl|rfl <;> omega
  obtain ⟨c2,hc2⟩:∃c2:Ctx,({ w0:=W,S:=fun b=>(b<W.heap.size/\b≠D)/\(S b\/w.heap.size<=b),X:=fun b=>b=g1\/b=g3,nt:=80,K:=[],ρ0:=ρ1,hS:=fun _ h=>h.1.1,hX:=fun b h=>by rcases h with rfl|rfl;exact ⟨⟨by omega,by omega⟩,.inr m1⟩;exact ⟨⟨by omega,by omega⟩,.inr m3⟩,dfr:=[{ target:=.collected D,args:=#[] }],hpin:=hpC }:Ctx)=c2:=⟨_,rfl⟩;have d1:c2.w0=W:=by rw [<-hc2]
  have d2:c2.S=fun b=>(b<W.heap.size/\b≠D)/\(S b\/w.heap.size<=b):=by rw [<-hc2]
  have d3:c2.X=fun b=>b=g1\/b=g3:=by rw [<-hc2]
  have d4:c2.nt=80:=by rw [<-hc2]
  have d5:c2.K=[]:=by rw [<-hc2]
  have d6:c2.dfr=[{ target:=.collected D,args:=#[] }]:=by rw [<-hc2]
  clear hc2;obtain ⟨sB,hsB⟩:=qGe (bC [1,3] [(1,.c (.ptr 1 0)),(3,.c (.ptr 3 0))] [(1,.box 121 (p.d d)),(3,.box 192 [.sl fo L,.sl fo [-1]])]);have hcas:∀(k:Nat) (b:Box),sB.h k=some b->(k=1/\b = .box 121 (p.d d))\/(k=3/\b = .box 192 [.sl fo L,.sl fo [-1]]):=fun k b h=>by
   rw [<-hsB] at h;have h2:=(bS h).2;simp only [List.mem_cons,List.not_mem_nil,or_false,Prod.mk.injEq] at h2;exact h2
  have hfz:∀b,b<W.heap.size->b≠D->(S b\/w.heap.size<=b)->b≠g1->b≠g3->Fz c2 sB.h ρ1 W b:=fun b h1 h2 h3 h4 h5=>⟨.inl (by rw [d2];exact ⟨⟨h1,h2⟩,h3⟩),h1,fun k bx hkb hg=>by
   rcases hcas k bx hkb with ⟨rfl,_⟩|⟨rfl,_⟩
   ·rw [e1] at hg;exact h4 (Option.some.inj hg).symm
   ·rw [e3] at hg;exact h5 (Option.some.inj hg).symm⟩
  have hold:∀b,Fz c0 sA.h ρ1 w1 b->Fz c2 sB.h ρ1 W b/\W.heap[b]? = w1.heap[b]?:=fun b hb=>by
   obtain ⟨k1,k2,k3⟩:=hz3 b hb;refine ⟨hfz b (by omega) (by omega) ?_ k2 k1,hk b ⟨k3,k1⟩⟩;have:=hb.1;rw [cS,cW] at this;exact this
  have hr2:Rp c2 sB ρ1 { a1 with defers:={ target:=.collected D,args:=#[] } :: a1.defers } W:=by
   refine ⟨?_,?_,by rw [d1];exact Frx.refl _ _,fun t=>?_,fun k b hkb=>?_,fun k b g hkb hg=>?_,fun k k' b b' g hkb hkb' hg hg'=>?_,fun k hk=>(by rw [d5] at hk;cases hk),by rw [<-hsB];exact Da rfl⟩
   ·rw [d6];show _ :: a1.defers=_;rw [hr.dfr,cD]
   ·rw [d4];exact hsz
   ·rw [<-hsB];exact nk (ts:=[(1,.c (.ptr 1 0)),(3,.c (.ptr 3 0))]) ⟨⟨g1,e1,t1⟩,⟨g3,e3,t3⟩,trivial⟩ t
   ·rcases hcas k b hkb with ⟨rfl,rfl⟩|⟨rfl,rfl⟩
    ·exact ⟨g1,v1,e1,(hk g1 ⟨l1,n13⟩).trans b1,r1.imp fun a b _ h=>Go.Proofs.YtkkbopkbjacfmaaGreatDoor.D.rep.mono h hold fun _ _=>rfl,o1⟩
    ·refine ⟨g3,[v,_],e3,hv,⟨?_,?_,trivial⟩,by intro u hu;simp at hu;rcases hu with rfl|rfl;exact hvo;rfl⟩
     ·obtain ⟨A,cap,hA,hcp,hrow⟩:=dP (ρ:=ρ1) (F:=Fz c2 sB.h ρ1 W) (⟨_,ta ho2,pN L⟩:(Box.arr 3 fo L).rep W (Fz c2 sB.h ρ1 W) ρ1 v);refine ⟨A,cap,hA,hcp,?_⟩;rcases Nat.eq_zero_or_pos L.length with hz|hz
      ·obtain rfl:L=[]:=List.eq_nil_of_length_eq_zero hz;exact RowsAt.nil _ _ _ _
      ·obtain ⟨gq,xs,rfl,hlt,hre,hce,_⟩:=hrow hz;obtain ⟨k1,cur,k2⟩:=hvb gq (by rw [hA];rfl);exact ⟨xs,hre,fun _=>⟨gq,0,rfl,hfz gq hlt (fun h=>by rw [h,hDef] at k2;cases k2) (.inr (by omega)) (by omega) (by omega),fun j u hu=>by rw [Nat.zero_add];exact hce j u hu⟩⟩
     ·refine ⟨some ⟨g40,0,none⟩,1,rfl,⟨Nat.le_refl _,by decide⟩,[.int .i64 (-1)],pN [-1],fun _=>⟨g40,0,rfl,hfz g40 (by omega) (by omega) (.inr m40) n401 n403,fun j u hu=>?_⟩⟩;have h9:Blk W g40 3 #[.int .i64 (-1)]:=(hk g40 ⟨l40,n403⟩).trans b40;rw [Nat.zero_add,h9.cell j];simpa using hu
   ·rw [d3];rcases hcas k b hkb with ⟨rfl,rfl⟩|⟨rfl,rfl⟩
    ·rw [e1] at hg;exact .inl (.inl (Option.some.inj hg).symm)
    ·rw [e3] at hg;exact .inl (.inr (Option.some.inj hg).symm)
   ·rcases hcas k b hkb with ⟨rfl,rfl⟩|⟨rfl,rfl⟩ <;> rcases hcas k' b' hkb' with ⟨rfl,rfl⟩|⟨rfl,rfl⟩
    ·rfl
    ·rw [e1] at hg;rw [e3] at hg';exact absurd ((Option.some.inj hg).trans (Option.some.inj hg').symm) n13
    ·rw [e3] at hg;rw [e1] at hg';exact absurd ((Option.some.inj hg').trans (Option.some.inj hg).symm) n13
    ·rfl
  have hend:∀e a' W',(∃s' ρ',sF prog f60 [] (TV.c (.sl vS R)) [] e s'/\Rp c2 s' ρ' a' W')->Exit.noGoto QM e a' W':=by
   rintro e a' W' ⟨s',ρ',hf,hr'⟩;obtain ⟨vv,hvv,hrep⟩:=EF hf hr' rfl ρ;have hfr:=hr'.frm;rw [d1,d3] at hfr;have hD':W'.heap[D]? = some (.deferred (some [])):=(hfr.keep D hDl (by rintro (h|h) <;> omega)).trans hDef;have hdf:=hr'.dfr;rw [d6] at hdf;have hq:LeavesInM Fence.wide 8 prog f60 a'.tmps (fun e w'=>∃v,e=Ending.returned v/\Below w.heap.size w w'/\(TV.c (.sl vS R)).rep w' (Gr S w.heap.size w') ρ v) a'.defers .returning W':=by
    rw [hdf];have hres:∀w9,(results f60 a'.tmps).run prog w9 = .ok (a'.tmps.getD 2 undef) w9:=fun w9=>results_tmp rfl _ _ _;rw [hres W'] at hvv;injection hvv with hvv;refine ⟨by simp,.inl ⟨D,_,rfl,run_takeDeferred hD',_,hres _,_,rfl,⟨?_,?_,?_,?_,fun b hb=>?_⟩,?_⟩⟩
    ·exact hfr.os.trans (q1.trans (by have:=hr.frm.os;rw [cW] at this;exact this))
    ·exact hfr.tape.trans (q2.trans (by have:=hr.frm.tape;rw [cW] at this;exact this))
    ·exact hfr.output.trans (q3.trans (by have:=hr.frm.output;rw [cW] at this;exact this))
    ·rw [World.putObj_size];have:=hfr.size;omega
    ·rw [World.putObj_heap_other (by omega),hfr.keep b (by omega) (by rintro (h|h) <;> omega),hk b ⟨by omega,by omega⟩];have:=hr.frm.keep b (by rw [cW];exact hb) (cX b);rw [cW] at this;exact this
    ·rw [hvv];refine hrep.mono (fun b hb=>⟨⟨by rw [World.putObj_size];exact hb.2,?_⟩,World.putObj_heap_other ?_⟩) fun _ _=>rfl
     ·rcases hb.1 with h|h
      ·rw [d2] at h;exact h.2
      ·rw [d1] at h;exact .inr (by omega)
     ·rcases hb.1 with h|h
      ·rw [d2] at h;exact h.1.2
      ·rw [d1] at h;omega
   rcases hf.1 with rfl|rfl
   ·rw [<-hQM];exact hq
   ·rw [<-hQM];exact hq
  refine wp_mono ((?_:AW prog 80 [] _ (sF prog f60 [] (TV.c (.sl vS R)) []) sB) c2 ρ1 _ W d4 d5 hr2) hend;obtain ⟨O,hO⟩:=qGe (vU p);rw [hO] at hR;have hrows:=Ju p L hg hLs hO;obtain ⟨off,hoff⟩:∃off:Nat->Nat,(fun k=>if k=0 then 0 else if k=1 then L.length else L.length+1)=off:=⟨_,rfl⟩;rw [hoff] at hrows;have f0:off 0=0:=by rw [<-hoff];rfl
  have f2:off 2=L.length+1:=by rw [<-hoff];rfl
  have hOl:O.length=L.length+1:=by rw [<-hO,hLs];simp [vU]
  have hL4:L.length<=4:=by rw [hLs];simp;omega
  rw [<-hsB];clear hend hr2 hold hfz hcas hsB ho2 hLs hoff hDef hvb ho hv hk hz3 b1 b3 b40 bB r1 o1 rB r40 r3 RB hF hQM hr;repeat' (first|refine az ?_ ?_|refine ay ?_|exact aA|refine ax fun hb=>?_|((with_reducible refine Aa ?_)))
  refine bK 6 1000 46 vS rfl rfl rfl ?_;refine ab (fun kd:Nat=>kd<=2/\(O.take (off kd)).all iT=true) (fun kd=>bC [1,1000] [(1,.c (.ptr 1 0)),(6,.c (.own 1000)),(55,.v (.ag [.sl fo L,.sl fo [-1]])),(56,.i kd)] [(1,.box 121 (p.d d)),(1000,.arr 46 vS (O.take (off kd)))]) (fun kd=>2-kd) 0 ⟨Nat.zero_le _,by rw [f0];rfl⟩ (by rw [f0];exact aL) ?_;rintro kd ⟨hkd,hall⟩;by_cases hlt:kd<2
  case neg =>
   obtain rfl:kd=2:=by omega
   rw [f2,List.take_of_length_le (by omega)] at hall ⊢;rw [hall] at hR;obtain rfl:R=O:=hR.symm;repeat' (first|refine az ?_ ?_|refine ay ?_|exact aA|refine ax fun hb=>?_|exact aT|fail)
  obtain ⟨row,hrow,hoff1,hrl,hel⟩:=hrows kd hlt;repeat' (first|refine az ?_ ?_|(refine aa 0 rfl ?_;refine sx (wV rfl rfl rfl rfl (by omega) hrow) ?_)|refine ay ?_|exact aA|refine ax fun hb=>?_)
  refine ab (fun j:Nat=>j<=row.length/\(O.take (off kd+j)).all iT=true) (fun j=>bC [1,1000] [(1,.c (.ptr 1 0)),(6,.c (.own 1000)),(7,.i kd),(55,.v (.ag [.sl fo L,.sl fo [-1]])),(56,.i kd),(60,.c (.sl fo row)),(61,.i row.length),(62,.i j)] [(1,.box 121 (p.d d)),(1000,.arr 46 vS (O.take (off kd+j)))]) (fun j=>row.length-j) 0 ⟨Nat.zero_le _,hall⟩ aL ?_;clear hall;rintro j ⟨hj,hall⟩;by_cases hlj:j<row.length
  case neg =>
   obtain rfl:j=row.length:=by omega
   rw [hoff1] at hall ⊢;repeat' (first|refine az ?_ ?_|refine ay ?_|exact aA|refine ax fun hb=>?_)
   refine ⟨kd+1,⟨by omega,hall⟩,by omega,?_⟩;exact aL
  obtain ⟨gl,hgk,hgl,hOj⟩:=hel j hlj;obtain ⟨lb,hlb⟩:=qGe (row[j]);have hrj:row[j]? = some lb:=by rw [qGg hlj,hlb]
  rw [hlb] at hgk hOj;obtain ⟨X,hX⟩:=qGe (Kd p gl lb);have kO:=LN d p gl kd lb hgk hgl h72 ⟨by omega,hc2⟩ hX;rw [hX] at hOj;obtain ⟨bx,hbx⟩:=qGe (iT X);have kX:=pR X hbx;have hOlt:off kd+j<O.length:=(List.getElem?_eq_some_iff.1 hOj).1;have hXe:O[off kd+j]=X:=(List.getElem?_eq_some_iff.1 hOj).2;have hnx:O.take (off kd+j)++[X]=O.take (off kd+(j+1)):=by rw [<-Nat.add_assoc,List.take_succ_eq_append_getElem hOlt,hXe]
  have htl:(O.take (off kd+j)).length<=5:=by rw [List.length_take];omega
  cases bx with
  | false =>
   obtain rfl:R=[]:=by
    rw [<-hR];cases hh:O.all iT with
    | false=>rfl
    | true =>
     have:=List.all_eq_true.1 hh X (hXe▸List.getElem_mem hOlt);rw [hbx] at this;cases this
   clear hnx hXe hOlt hOj hgk hgl hX hR hel hrows hoff1 hall;generalize O.take (off kd+j)=Tk at *
   repeat' (first|refine az ?_ ?_|(refine aa 9 rfl ?_;first|(refine cC [] kO ?_)|(refine cB [] kX ?_))|refine ay ?_|exact aA|refine ax fun hb=>?_|exact aT|fail)
  | true =>
   have hall2:(O.take (off kd+(j+1))).all iT=true:=by rw [<-hnx,List.all_append,hall];simp [hbx]
   clear hXe hOlt hOj hgk hgl hX hR hel hrows hoff1 hall;generalize O.take (off kd+j)=Tk at *
   repeat' (first|refine az ?_ ?_|(refine aa 8 rfl ?_;refine aK (ae rfl rfl (av rfl rfl) (aB [X] rfl rfl rfl rfl) rfl aE aE) rfl rfl rfl ?_)|(refine aa 9 rfl ?_;first|(refine cC [] kO ?_)|(refine cB [] kX ?_))|refine ay ?_|exact aA|refine ax fun hb=>?_)
   refine ⟨j+1,⟨by omega,hall2⟩,by omega,?_⟩;rw [<-hnx];exact a8 (qf [(1000,76)])
theorem Qv (b:List UInt8) (o:Opn) (hb:b.length<=100000000) {R:List UInt8} (hR:b++BF o=R):FSpec prog 62 [LQ b,o.a] [] [] (.c (.sl cw R)) []:=by
 refine aS func62 ?_;have kC:=LR b (by omega);obtain ⟨v,hv⟩:=qGe (iT o);have kV:=pR o hv;unfold BF at hR;rw [hv] at hR;cases v with
 | false =>
  obtain rfl:R=b:=by rw [<-hR];simp
  exact QY
 | true =>
  obtain ⟨p1,p2,p3,p4,p5⟩:=yd hv;have hatm:=zw p5;clear p5;rw [qCt] at hR;have hw1:=JC (o.label+1) (by omega) (by omega);have hw2:=JC o.cost (by omega) (by omega);have hw3:=JC (o.lower.length:Int) (by omega) (by omega);have e3:((o.lower.length:Int)).toNat=o.lower.length:=by omega
  rw [e3] at hw3;obtain ⟨n1,hn1⟩:∃n,(o.label+1).toNat=n:=⟨_,rfl⟩;obtain ⟨n2,hn2⟩:∃n,o.cost.toNat=n:=⟨_,rfl⟩;have l1:n1<=100:=by omega
  have l2:n2<=1073741824:=by omega
  rw [hn1] at hw1 hR;rw [hn2] at hw2 hR;obtain ⟨B1,hB1⟩:∃B,b++wK o.proc=B:=⟨_,rfl⟩;have q1:B1.length<=100000100:=by
   rw [<-hB1];have:=JB o.proc p1;simp;omega
  obtain ⟨B2,hB2⟩:∃B,B1++bp n1=B:=⟨_,rfl⟩;have q2:B2.length<=100000110:=by rw [<-hB2];have:=lj (v:=n1) (by omega);simp;omega
  obtain ⟨B3,hB3⟩:∃B,B2++bp n2=B:=⟨_,rfl⟩;have q3:B3.length<=100000120:=by rw [<-hB3];have:=lj (v:=n2) (by omega);simp;omega
  obtain ⟨B4,hB4⟩:∃B,B3++bp o.lower.length=B:=⟨_,rfl⟩;have q4:B4.length<=100000130:=by rw [<-hB4];have:=lj (v:=o.lower.length) (by omega);simp;omega
  have k1:=Jz b o.proc (by omega) hB1;have k2:=mB B1 n1 (by omega) (by omega) hB2;have k3:=mB B2 n2 (by omega) (by omega) hB3;have k4:=mB B3 o.lower.length (by omega) (by omega) hB4;have hR4:B4++oG o.lower=R:=by rw [<-hR,<-hB4,<-hB3,<-hB2,<-hB1];simp only [List.append_assoc]
  clear hR hB1 hB2 hB3 hB4 hn1 hn2;repeat' (first|refine az ?_ ?_|(refine aa 0 rfl ?_;first|refine sx (eu rfl underlying3 underlying204 rfl hw1) ?_|refine sx (eu rfl underlying3 underlying204 rfl hw2) ?_|refine sx (eu rfl underlying3 underlying204 rfl hw3) ?_)|(refine aa 9 rfl ?_;first|(refine cC [] kC ?_)|(refine cB [] kV ?_)|(refine cC [] k1 ?_)|(refine cC [] k2 ?_)|(refine cC [] k3 ?_)|(refine cC [] k4 ?_))|refine ay ?_|exact aA|refine ax fun hb=>?_)
  refine ab (fun y:Nat×List UInt8=>y.1<=o.lower.length/\y.2.length<=100000130+50*y.1/\y.2++oG (o.lower.drop y.1)=R) (fun y=>bC [] [(0,.c (.sl cw y.2)),(35,.c (.sl da o.lower)),(36,.i o.lower.length),(37,.i y.1)] []) (fun y=>o.lower.length-y.1) (0,B4) ⟨Nat.zero_le _,by dsimp only;omega,hR4⟩ aL ?_;clear hR4 k1 k2 k3 k4 kV kC hw1 hw2 hw3 hb;rintro ⟨i,B⟩ ⟨hi,hBl,hs⟩;dsimp only at *
  by_cases hlt:i<o.lower.length
  ·obtain ⟨a,ha⟩:∃a,o.lower[i]? = some a:=⟨_,qGg hlt⟩;have ea:=qGs ha;obtain ⟨z1,z2⟩:=hatm a (ea▸List.getElem_mem hlt);have z3:=wv z1;obtain ⟨m0,m1,m2,m3⟩:=ye z2;rw [qDc hlt,ea] at hs;have hs:B++(bp a.name.size++a.name.data.toList++bp a.am.mode.toNat++bp a.am.units.toNat++oG (o.lower.drop (i+1)))=R:=hs;have hw1:=JC a.am.mode m0 (by omega);have hw2:=JC a.am.units m2 (by omega);obtain ⟨n1,hn1⟩:∃n,a.am.mode.toNat=n:=⟨_,rfl⟩;obtain ⟨n2,hn2⟩:∃n,a.am.units.toNat=n:=⟨_,rfl⟩;have l1:n1<=8:=by omega
   have l2:n2<=8:=by omega
   rw [hn1] at hw1 hs;rw [hn2] at hw2 hs;obtain ⟨B1,hB1⟩:∃X,B++bp a.name.size++a.name.data.toList=X:=⟨_,rfl⟩;have q1:B1.length<=100000130+50*i+22:=by rw [<-hB1];have:=lj (v:=a.name.size) (by omega);have h9:a.name.data.toList.length=a.name.size:=(by simp);simp only [List.length_append];omega
   obtain ⟨B2,hB2⟩:∃X,B1++bp n1=X:=⟨_,rfl⟩;have q2:B2.length<=100000130+50*i+32:=by rw [<-hB2];have:=lj (v:=n1) (by omega);simp;omega
   obtain ⟨B3,hB3⟩:∃X,B2++bp n2=X:=⟨_,rfl⟩;have q3:B3.length<=100000130+50*i+42:=by rw [<-hB3];have:=lj (v:=n2) (by omega);simp;omega
   have k1:=JA B a.name (by omega) (by omega) hB1;have k2:=mB B1 n1 (by omega) (by omega) hB2;have k3:=mB B2 n2 (by omega) (by omega) hB3;have hs3:B3++oG (o.lower.drop (i+1))=R:=by rw [<-hs,<-hB3,<-hB2,<-hB1];simp only [List.append_assoc]
   clear hs hB1 hB2 hB3 hn1 hn2;repeat' (first|refine az ?_ ?_|(refine aa 0 rfl ?_;first|refine sx (eu rfl underlying3 underlying204 rfl hw1) ?_|refine sx (eu rfl underlying3 underlying204 rfl hw2) ?_)|(refine aa 9 rfl ?_;first|(refine cC [] k1 ?_)|(refine cC [] k2 ?_)|(refine cC [] k3 ?_))|refine ay ?_|exact aA|refine ax fun hb=>?_)
   refine ⟨(i+1,B3),⟨by dsimp only;omega,by dsimp only;omega,hs3⟩,by dsimp only;omega,?_⟩;exact aL
  ·rw [qDn (by omega)] at hs;obtain rfl:B=R:=by rw [<-hs];simp [oG]
   exact QY
theorem Od (o:Opn):FSpec prog 65 [o.a,o.a] [] [] (.b true) []:=by
 refine aS func65 ?_;have kA:=lh o.lower o.lower;rw [qDt rfl] at kA;exact QY
def LV:Pc:=⟨⟨0,1,1⟩,10,⟨[⟨nA,⟨0,0⟩,⟨3,0⟩⟩,⟨nA,⟨3,0⟩,⟨5,0⟩⟩],[⟨1,1⟩]⟩,true,⟨.mk 0 ⟨nB,⟨5,0⟩⟩ [],0,0⟩,0,0⟩
def Do:Opn:=⟨⟨0,1,1⟩,1,20,[⟨nA,⟨3,0⟩⟩,⟨nB,⟨0,0⟩⟩]⟩
def PX:Opn:=⟨⟨0,1,1⟩,-1,30,[⟨nA,⟨0,0⟩⟩,⟨nB,⟨0,0⟩⟩]⟩
theorem LW:ie LV=[Do,PX]:=by kernel_rfl
theorem MO:iT Do=true:=by kernel_rfl
theorem JH:FSpec prog 61 [] [] [] (.v (LV.a 0)) []:=by
 refine gS (fun b W=>by kernel_rfl) rfl fun w S ρ vs hp hS ha=>?_;obtain rfl:vs=[]:=by
  cases vs with
  | nil=>rfl
  | cons=>exact ha.elim
 refine calls_of_wp func61 rfl ?_;have hr0:=Bf (nt:=20) (args:=[]) (vs:=[]) hS ha rfl (Nat.zero_le _) hp;have kP:FSpec prog 102 [lD 0] [] [] (.v (Pr.a ⟨0,1,1⟩)) []:=by have:=ri 0;rw [show iR 0=⟨0,1,1⟩ from by decide] at this;exact this
 refine wp_mono ((?_:AW prog 20 [] _ (fun e s'=>e = .ret/\s'.t 0 = .c (.ptr 0 0)/\s'.h 0=some (.box 121 [.sc (.int .i64 0),.sc (.int .i64 1),.sc (.int .i64 1),.sc (.int .i64 10),.slb 15 2,.slb 17 1,.sc (.bool true),.sc (.int .i64 0),.sc (.string nB),.sc (.int .i64 5),.sc (.int .i64 0),.sc (.slice none 0 0),.sc (.int .i64 0),.sc (.int .i64 0),.sc (.int .i64 0),.sc (.int .i64 0)])/\s'.h 15=some (.box 200 [.sc (.string nA),.sc (.int .i64 0),.sc (.int .i64 0),.sc (.int .i64 3),.sc (.int .i64 0),.sc (.string nA),.sc (.int .i64 3),.sc (.int .i64 0),.sc (.int .i64 5),.sc (.int .i64 0)])/\s'.h 17=some (.box 197 [.sc (.int .i64 1),.sc (.int .i64 1)])) (Ox [] [])) _ _ _ w rfl rfl hr0) ?_
 ·refine ao ?_;exact ⟨rfl,rfl,rfl,rfl,rfl⟩
 rintro e a' w' ⟨s',ρ',⟨rfl,t0,h0,h15,h17⟩,hr⟩;obtain ⟨v,hv,hrep⟩:=ma hr (fn:=f61) (xs:=[_]) ⟨.row (P:=prog) t0 h0 rfl,trivial⟩;have hfr:=hr.frm;refine ⟨hr.dfr,v,hv,v,rfl,⟨hfr.os,hfr.tape,hfr.output,hfr.size,fun b hb=>hfr.keep b hb id⟩,?_⟩;obtain ⟨cs,rfl,hA⟩:=hrep;have hF:∀b,Fz { w0:=w,S:=S,X:=fun _=>False,nt:=20,K:=[],ρ0:=ρ,hS:=hS,hX:=fun _ h=>h.elim,hpin:=hp } s'.h ρ' w' b->Gr S w.heap.size w' b:=fun b hb=>⟨hb.2.1,hb.1⟩;have hG:∀k bx,s'.h k=some bx->∀g,kb (ρ' k)=some g->Gr S w.heap.size w' g:=fun k bx hk g hg=>⟨hr.ltb hk hg,(hr.inb k bx g hk hg).imp (fun h=>h.elim) id⟩
 match cs,hA with
 | [c0,c1,c2,c3,c4,c5,c6,c7,c8,c9,c10,c11,c12,c13,c14,c15],⟨k0,k1,k2,k3,k4,k5,k6,k7,k8,k9,k10,k11,k12,k13,k14,k15,_⟩ =>
  refine ⟨_,rfl,k0,k1,k2,k3,Ja (E:=jp) (hr.hp 15 _ h15) rfl hF (hG 15 _ h15) ⟨rfl,by decide⟩ k4,Ja (E:=ji) (hr.hp 17 _ h17) rfl hF (hG 17 _ h17) ⟨rfl,by decide⟩ k5,k6,k7,k8,k9,k10,⟨none,0,k11,by decide,RowsAt.nil _ _ _ _⟩,k12,k13,k14,k15,trivial⟩
theorem BM:FSpec prog 19 [] [] [] (.b true) []:=by
 refine aS func19 ?_;have kE:=JH;have kO:=Jv 0 LV LW;have kP:=Qv [] Do (by decide) rfl;have hR:=BL MO [];rw [List.append_nil] at hR;obtain ⟨B,hB⟩:=qGe (BF Do);have hBl:B.length<=1000:=by rw [<-hB];decide +kernel
 rw [List.nil_append,hB] at kP;rw [hB] at hR;have kT:=PW B (by omega) (JF B) hR;have kV:=pR Do MO;have kS:=Od Do;obtain ⟨X1,hX1⟩:∃X,Do=X:=⟨_,rfl⟩;obtain ⟨X2,hX2⟩:∃X,PX=X:=⟨_,rfl⟩;have a1:X1.label=1:=by rw [<-hX1];rfl
 have a2:X1.cost=20:=by rw [<-hX1];rfl
 have a3:X1.lower.length=2:=by rw [<-hX1];rfl
 have a4:X2.label = -1:=by rw [<-hX2];rfl
 have a5:X2.cost=30:=by rw [<-hX2];rfl
 have a6:X2.lower.length=2:=by rw [<-hX2];rfl
 obtain ⟨A1,hA1,a7⟩:∃A1,X1.lower[(0:Int).toNat]? = some A1/\A1.am.mode=3:=by rw [<-hX1];exact ⟨_,rfl,rfl⟩
 rw [hX1] at kP hR kT kV kS kO hB;rw [hX2] at kO;obtain ⟨L2,hL2⟩:=qGe ([X1,X2]);have l0:L2[(0:Int).toNat]? = some X1:=by rw [<-hL2];rfl
 have l1:L2[(1:Int).toNat]? = some X2:=by rw [<-hL2];rfl
 have l2:L2.length=2:=by rw [<-hL2];rfl
 rw [hL2] at kO;generalize LV=ep at kE kO;clear hL2 hX1 hX2 hB hR;exact QY
end Go.Proofs.YtkkbopkbjacfmaaGreatDoor
