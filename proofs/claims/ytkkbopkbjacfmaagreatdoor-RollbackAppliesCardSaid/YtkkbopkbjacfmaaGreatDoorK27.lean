/- Part K27 of a proof of statements of chapter 15 (no condition). -/
import Derived.Test.YtkkbopkbjacfmaaGreatDoorK20
import Derived.Test.YtkkbopkbjacfmaaGreatDoorK16
import Derived.HandedShaped
set_option linter.unusedVariables false
set_option linter.unusedSimpArgs false
set_option maxRecDepth 100000
set_option maxHeartbeats 64000000
namespace Go.Proofs.YtkkbopkbjacfmaaGreatDoor
open Go.RowKit Go.Proofs.Tryz
section
variable {H:Type} {enc:TypeId×Value->H}
theorem ub {a:Assume} {C:Checked} {os:Os} {f:FuncId} {fn:Func} {s:ChangeSpec} {conds:List PathCond} {apart fresh handsOn again:Bool} {X:World->Array Value->Prop}
  (hX:∀(w w':World) (args:Array Value),w.heap=w'.heap->X w args->X w' args)
  (own:ownKnob C.prog.godebug=none) (started:os.Started) (noInit:C.prog.inits.idxOf? f=none) (hfn:C.prog.funcs[f]? = some fn)
  (witness:∃(w:World) (tape:Tape) (i:Input),w.os=os/\(w.forCall tape i).Shaped C.prog/\i.vars=[]/\Input.okWide C.prog (w.forCall tape i) .any w.heap.size f i/\
   ((s.pre enc C.prog fn conds apart (w.forCall tape i).memory i.args/\X (w.forCall tape i).memory i.args)/\sizedMet enc C.prog fn (OpenSpec.ofChange s) apart (w.forCall tape i).memory i.args)/\a.holds C.prog (lone (Frame.enter C.prog f i.args .normal) [] (w.forCall tape i)))
  (contract:∀(W:World) (base:Nat) (args:Array Value) (ds gs:List (DataW H)) (before:List MemPlace),
   (∀(j:Nat) t v,fn.params[j]? = some t->args[j]? = some v->Value.okWide C.prog W .any base t v)->
   DataW.Whole enc C.prog fn.params.toList s.vars apart W args.toList ds gs before->
   conds.all (PathCond.test C.prog ⟨fn.params.toList,ds,s.plain.varTypes C.prog,gs⟩)=true->
   (DataW.weightsEach C.prog (fn.params.toList++s.plain.varTypes C.prog) (ds++gs)).all (·<=reachBytes)=true->X W args->
   W.ShapedOpen C.prog->
   Calls C.prog f args W fun e W'=>∃v,e = .returned v/\s.post enc C.prog fn apart fresh handsOn again W args v W') :
  ReturnsInHanded a C os f .any (fun w args=>(s.pre enc C.prog fn conds apart w args/\X w args)/\sizedMet enc C.prog fn (OpenSpec.ofChange s) apart w args) (s.post enc C.prog fn apart fresh handsOn again):=by
 refine returnsInHanded_of_calls own started noInit witness ?_;intro w tape i _ hsh _ hok hpre _;obtain ⟨_,_,_,fn',hfn',_,_,_,_,hval⟩:=hok;have e:fn'=fn:=Option.some.inj (hfn'.symm.trans hfn);subst e;obtain ⟨⟨⟨ds,gs,before,hw,hc⟩,hx⟩,hz⟩:=hpre;have hw':=DataW.Whole.of_heap (w':=w.forCall tape i) (by rfl) hw;refine (contract (w.forCall tape i) w.heap.size i.args ds gs before hval hw' hc (hz.weights hw) (hX _ _ _ (by rfl) hx) hsh).mono fun e W' ⟨v,he,hp⟩=>?_;subst he;exact ChangeSpec.post_blind hp
end
def Qf (d:Nat):V0:=.ag [.sc (.int .i64 0),.sc (.string ⟨#[]⟩),.sc (.int .i64 0),.sc (.int .i64 0),.sl (qF d) []]
theorem CV (d:Nat) (x:Ex):FSpec prog 172 [x.a d,Qf d] [] [] (.b (KV x)) []:=by
 refine aS func172 ?_;obtain ⟨b,hB⟩:=qGe (KV x);rw [hB];by_cases hk:x.k=0
 case neg =>
  obtain rfl:b=false:=by rw [<-hB];simp [KV,hk]
  exact QY
 by_cases ha:x.atom=lp
 case neg =>
  obtain rfl:b=false:=by rw [<-hB];simp [KV,ha]
  exact QY
 by_cases hn:x.kids.length=0
 case neg =>
  obtain rfl:b=false:=by
   rw [<-hB];cases h:x.kids with
   | nil=>rw [h] at hn;simp at hn
   | cons=>simp [KV,h]
  repeat' (first|refine az ?_ ?_|refine ay ?_|exact aA|(refine ax fun hb=>?_;first|(exact absurd (by simpa using hb) hn)|skip)|exact aT|fail)
 have hn2:x.kids=[]:=List.eq_nil_of_length_eq_zero hn;obtain rfl:b=true:=by rw [<-hB];simp [KV,hk,ha,hn2]
 repeat' (first|refine az ?_ ?_|refine ay ?_|exact aA|(refine ax fun hb=>?_;first|(exact absurd hn (by simpa using hb))|skip))
 refine ab (fun _:Unit=>True) (fun _=>bC [2] [(2,.c (.ptr 2 0)),(5,.i 0)] [(2,.box 66 (x.d d))]) (fun _=>0) () trivial aL ?_;rintro _ -
 exact QY
def Qg (d:Nat):V0:=.ag [.sc (.int .i64 0),.sc (.string ⟨#[]⟩),.sc (.int .i64 0),.sc (.int .i64 0),.sl (qF d) [],.sc (.int .i64 0),.sc (.int .i64 0)]
theorem FW (d:Nat) (r:Rq):FSpec prog 233 [r.a d,Qg d] [] [] (.b (No r)) []:=by
 refine aS func233 ?_;obtain ⟨b,hB⟩:=qGe (No r);rw [hB];have:=CV d r.expr;repeat' (first|refine az ?_ ?_|refine fV ?_|refine ay ?_|exact aA|refine ax fun hb=>?_)
 all_goals (refine eR ?_;rw [<-hB];simp [No, *];try rfl)
theorem vy (d:Nat) (r:Rq):FSpec prog 152 [r.a d] [] [] (.b (qW r)) []:=by
 refine aS func152 ?_;obtain ⟨b,hB⟩:=qGe (qW r);rw [hB];have:=CS d r.expr;repeat' (first|refine az ?_ ?_|refine fV ?_|refine ay ?_|exact aA|refine ax fun hb=>?_)
 all_goals (refine eR ?_;rw [<-hB];simp [qW, *];try omega)
theorem mn (d:Nat) (x:Ex) {b:Bool} {L:List Tm} (h:nZ x=b) (h2:cR x=L):FSpec prog 173 [x.a d] [] [] (.tup [.one (.sl da L),.one (.sc (.bool b))]) []:=h▸h2▸pw d x
def FX (set:List Bool) (n i:Nat):List Bool:=(List.range n).map fun k=>decide (k<i) && set.getD k false
theorem O5 (set:List Bool) (n:Nat):FX set n 0=List.replicate n false:=by
 unfold FX;apply List.ext_getElem
 ·simp
 ·intro i h1 h2;simp
theorem K3 (set:List Bool) {n i:Nat} (hi:i<n):(FX set n i).set i (set.getD i false)=FX set n (i+1):=by
 unfold FX;apply List.ext_getElem
 ·simp
 ·intro k h1 h2;rw [List.getElem_set];split
  ·next e=>subst e;simp
  ·next e =>
   simp only [List.getElem_map,List.getElem_range];congr 1
   rw [Bool.eq_iff_iff];simp;omega
theorem K4 (set:List Bool) (n:Nat):FX set n n=(List.range n).map fun i=>set.getD i false:=by
 unfold FX;apply List.map_congr_left
 intro i hi;rw [List.mem_range] at hi;simp [hi]
theorem K5 (set:List Bool) (n i:Nat):(FX set n i).length=n:=by simp [FX]
theorem NE (d:Nat) (x:Ex) (set:List Bool) (hset:set.length<=1000):FSpec prog 274 [x.a d,.one (.sl eI set)] [] [] (.c (.sl eI (dj x set))) []:=by
 refine aS func274 ?_;have hmk:prog.underlying 112=some (.slice 4):=underlying112;have hib:(prog.info? 4).map (fun i=>(i.zero,i.size,i.bytes))=some (some (.bool false),1,1):=by kernel_rfl
 cases hv:nZ x with
 | false =>
  have hL:=yz hv;have hp:dj x set=[]:=by simp [dj,fu,hv,hL]
  rw [hp];repeat' (first|refine az ?_ ?_|refine aa 9 rfl (cC [] (mn d x hv hL) ?_)|(refine aa 20 rfl ?_;refine aK (jM (E:=eI) (y0:=false) hmk hib rfl (by decide) rfl (fun _ _=>rfl) rfl rfl rfl rfl (by first|omega|simp)) rfl rfl rfl ?_)|refine ay ?_|exact aA|refine ax fun hb=>?_|exact aT|fail)
 | true =>
  obtain ⟨hsh,_,h8,_,_⟩:=ux hv;obtain ⟨L,hL⟩:=qGe (cR x);rw [hL] at h8;cases hh:Cu (fN L set) x with
  | false =>
   have hp:dj x set=List.replicate L.length false:=by simp [dj,fu,hv,hL,hh]
   rw [hp];repeat' (first|refine az ?_ ?_|(refine aa 9 rfl ?_;first|(refine cC [] (mn d x hv hL) ?_)|(refine cB [] (y4 d x L set hsh (by omega) hset) ?_))|(refine aa 20 rfl ?_;refine aK (jM (E:=eI) (y0:=false) hmk hib rfl (by decide) rfl (fun _ _=>rfl) rfl rfl rfl rfl (by first|omega|simp)) rfl rfl rfl ?_)|refine ay ?_|exact aA|refine ax fun hb=>?_|exact aT|fail)
  | true =>
   have hp:dj x set=iM x L L.length (FX set L.length L.length):=by rw [K4];simp [dj,fu,hv,hL,hh]
   rw [hp];repeat' (first|refine az ?_ ?_|(refine aa 9 rfl ?_;first|(refine cC [] (mn d x hv hL) ?_)|(refine cB [] (y4 d x L set hsh (by omega) hset) ?_))|(refine aa 20 rfl ?_;refine aK (jM (E:=eI) (y0:=false) hmk hib rfl (by decide) rfl (fun _ _=>rfl) rfl rfl rfl rfl (by first|omega|simp)) rfl rfl rfl ?_)|refine ay ?_|exact aA|refine ax fun hb=>?_)
   refine ab (fun i=>i<=L.length) (fun i=>bC [2,1000] [(1,.c (.sl eI set)),(2,.c (.ptr 2 0)),(5,.c (.sl da L)),(7,.c (.own 1000)),(8,.i i)] [(2,.box 66 (x.d d)),(1000,.arr 4 eI (FX set L.length i))]) (fun i=>L.length-i) 0 (Nat.zero_le _) (by rw [O5];exact a8 (qf [(1000,17)])) ?_;intro i hi;have hpl:=K5 set L.length i;by_cases hlt:i<L.length
   ·have hst:=K3 set hlt;by_cases hsi:i<set.length
    ·rw [show set.getD i false=set[i] by simp [List.getD_eq_getElem?_getD,hsi]] at hst;repeat' (first|refine az ?_ ?_|refine ay ?_|(refine aa 4 rfl ?_;refine bW (aM (z:=set[i]) rfl rfl rfl rfl (by first|assumption|exact qGg (by omega)) rfl rfl rfl rfl (qNl rfl) rfl rfl) rfl rfl rfl ?_)|exact aA|refine ax fun hb=>?_)
     exact RD
    ·rw [show set.getD i false=false by simp [List.getD_eq_getElem?_getD,hsi]] at hst;repeat' (first|refine az ?_ ?_|refine ay ?_|(refine aa 4 rfl ?_;refine bW (aM (z:=false) rfl rfl rfl rfl (by first|assumption|exact qGg (by omega)) rfl rfl rfl rfl (qNl rfl) rfl rfl) rfl rfl rfl ?_)|exact aA|refine ax fun hb=>?_)
     exact RD
   ·obtain rfl:i=L.length:=by omega
    refine ao ?_;refine ab (fun y:Nat×List Bool=>y.1<=L.length/\y.2.length=L.length/\iM x L y.1 y.2=iM x L L.length (FX set L.length L.length)) (fun y=>bC [2,1000] [(2,.c (.ptr 2 0)),(5,.c (.sl da L)),(7,.c (.own 1000)),(9,.i ((y.1:Int)-1))] [(2,.box 66 (x.d d)),(1000,.arr 4 eI y.2)]) (fun y=>y.1) (L.length,FX set L.length L.length) ⟨Nat.le_refl _,hpl,rfl⟩ aL ?_;rintro ⟨k,out⟩ ⟨hk,hol,hs⟩;dsimp only at *
    rcases Nat.eq_zero_or_pos k with h0|h0
    ·subst h0;rw [<-hs,show iM x L 0 out=out from rfl];exact QY
    ·obtain ⟨j,rfl⟩:∃j,k=j+1:=⟨k-1,by omega⟩;obtain ⟨z,hz⟩:=qGe ((((j+1:Nat):Int)-1).toNat);have hzj:z=j:=by omega
     obtain ⟨v,hgv⟩:∃v,out[(((j+1:Nat):Int)-1).toNat]? = some v:=⟨_,qGg (by omega)⟩;have hgj:out.getD j false=v:=by rw [hz,hzj] at hgv;simp [List.getD_eq_getElem?_getD,hgv]
     have hstep:iM x L (j+1) out=iM x L j (bif out.getD j false then out.set j (!Cu (fN L (out.set j false)) x) else out):=rfl;rw [hstep,hgj] at hs;cases v with
     | false =>
      refine ao ?_;refine ⟨(j,out),⟨by dsimp only;omega,hol,hs⟩,by dsimp only;omega,?_⟩;exact aL
     | true =>
      have hl1:(out.set (((j+1:Nat):Int)-1).toNat false).length=L.length:=by rw [List.length_set,hol]
      rw [show out.set j false=out.set (((j+1:Nat):Int)-1).toNat false by rw [hz,hzj]] at hs;repeat' (first|refine az ?_ ?_|refine aa 9 rfl (cB [1000] (y4 d x L (out.set (((j+1:Nat):Int)-1).toNat false) hsh (by omega) (by omega)) ?_)|refine ay ?_|(refine aa 4 rfl ?_;first|(refine bW (aM (z:=false) rfl rfl rfl rfl (by first|assumption|exact qGg (by omega)) rfl rfl rfl rfl (qNl rfl) rfl rfl) rfl rfl rfl ?_)|(refine bW (aM (z:=!Cu (fN L (out.set (((j+1:Nat):Int)-1).toNat false)) x) rfl rfl rfl rfl (by first|assumption|exact qGg (by omega)) rfl rfl rfl rfl (qNl rfl) rfl rfl) rfl rfl rfl ?_))|exact aA|refine ax fun hb=>?_)
      refine ⟨(j,out.set j (!Cu (fN L (out.set (((j+1:Nat):Int)-1).toNat false)) x)),⟨by dsimp only;omega,by simp [hol],hs⟩,by dsimp only;omega,?_⟩;dsimp only;rw [show out.set j (!Cu (fN L (out.set (((j+1:Nat):Int)-1).toNat false)) x)=(out.set (((j+1:Nat):Int)-1).toNat false).set (((j+1:Nat):Int)-1).toNat (!Cu (fN L (out.set (((j+1:Nat):Int)-1).toNat false)) x) by rw [List.set_set,hz,hzj]];exact aL
def gA (s:List Sv) (i:Nat):Int:=if i=0 then 0 else (s[i-1]?.map (·.at_)).getD 0
theorem Lm (l:List En) (s:List Sv):FSpec prog 151 [.ag [.sl jp l,.sl ji s]] [] [] (.b (lA l s)) []:=by
 refine aS func151 ?_;obtain ⟨b,hB⟩:=qGe (lA l s);rw [hB];refine aP (fun c ρ a w hr=>cG (t:=0) (i:=0) hr rfl rfl) (fun hl0_0=>?_);refine aP (fun c ρ a w hr=>cG (t:=0) (i:=1) hr rfl rfl) (fun hl0_1=>?_);by_cases h72:l.length<=72
 case neg =>
  obtain rfl:b=false:=by rw [<-hB];simp [lA,h72]
  exact QY
 by_cases h4:s.length<=4
 case neg =>
  obtain rfl:b=false:=by rw [<-hB];simp [lA,h4]
  exact QY
 refine ao ?_;refine ab (fun i=>i<=l.length/\gj (l.take i) (l.drop i)=gj [] l) (fun i=>bC [1] [(1,.c (.ptr 1 0)),(3,.i i)] [(1,.box 119 [.sl jp l,.sl ji s])]) (fun i=>l.length-i) 0 ⟨Nat.zero_le _,by simp⟩ aL ?_;rintro i ⟨hi,hs⟩;by_cases hlt:i<l.length
 ·obtain ⟨e,he⟩:=qGe (l[i]);have hge:l[i]? = some e:=by rw [qGg hlt,he]
  have hst:gj [] l=(bU e.name.toList && decide (e.before=aw (l.take i) e.name) && dx e.before e.after && gj (l.take (i+1)) (l.drop (i+1))):=by
   rw [<-hs,qDc hlt,he,List.take_succ_eq_append_getElem hlt,he];rfl
  by_cases hok:bU e.name.toList=true/\e.before=aw (l.take i) e.name/\dx e.before e.after=true
  ·obtain ⟨k1,k2,k3⟩:=hok;have:=vm e.name;have:=jk (l.take i) e.name;have:=It e.before e.after;refine ao ?_;refine ⟨i+1,⟨by omega,?_⟩,by omega,?_⟩
   ·rw [hst,k1,k3];simp [k2]
   ·exact aL
  ·obtain rfl:b=false:=by
    rw [<-hB];have:gj [] l=false:=by
     rw [hst];cases h1:bU e.name.toList with
     | false=>rfl
     | true =>
      cases h3:dx e.before e.after with
      | false=>simp
      | true =>
       have:e.before≠aw (l.take i) e.name:=fun h=>hok ⟨h1,h,h3⟩;simp [this]
    simp [lA,this]
   have hok1:bU e.name.toList=true->e.before=aw (l.take i) e.name->dx e.before e.after=true->False:=fun a b c=>hok ⟨a,b,c⟩;clear hok;have:=vm e.name;have:=jk (l.take i) e.name;have:=It e.before e.after;repeat' (first|refine az ?_ ?_|refine fV ?_|refine ay ?_|exact aA|(refine ax fun hb=>?_;first|(exact (hok1 (by assumption) (by assumption) (by assumption)).elim)|skip)|exact aT|fail)
 have hE:gj [] l=true:=by rw [<-hs,qDn (by omega)];rfl
 by_cases h8:(bt l).length<=8
 case neg =>
  obtain rfl:b=false:=by rw [<-hB];simp [lA,h8]
  have:=vG l (by omega);exact QY
 have:=vG l (by omega);refine ao ?_;refine ab (fun i=>i<=s.length/\ny s l.length i (gA s i) (s.drop i)=ny s l.length 0 0 s) (fun i=>bC [1] [(1,.c (.ptr 1 0)),(5,.i i)] [(1,.box 119 [.sl jp l,.sl ji s])]) (fun i=>s.length-i) 0 ⟨Nat.zero_le _,rfl⟩ aL ?_;clear hs hi hlt;rintro j ⟨hj,hs⟩;have hBB:b=ny s l.length 0 0 s:=by rw [<-hB];simp [lA,h72,h4,hE,h8]
 by_cases hlt:j<s.length
 case neg =>
  obtain rfl:b=true:=by rw [hBB,<-hs,qDn (by omega)];rfl
  exact QY
 obtain ⟨x,hx⟩:=qGe (s[j]);have hgx:s[j]? = some x:=by rw [qGg hlt,hx]
 have hst:ny s l.length 0 0 s=(decide (1<=x.label) && decide (x.label<=99) && decide (0<=x.at_) && decide (x.at_<=l.length) && decide (gA s j<=x.at_) && decide (aO x.label 0 s=(j:Int)) && ny s l.length (j+1) x.at_ (s.drop (j+1))):=by
  rw [<-hs,qDc hlt,hx];rfl
 have hnx:gA s (j+1)=x.at_:=by simp [gA,hgx]
 by_cases hok:(1<=x.label/\x.label<=99)/\(0<=x.at_/\x.at_<=l.length)/\gA s j<=x.at_/\aO x.label 0 s=(j:Int)
 ·obtain ⟨⟨k1,k2⟩,⟨k3,k4⟩,k5,k6⟩:=hok;have hgo:ny s l.length (j+1) (gA s (j+1)) (s.drop (j+1))=ny s l.length 0 0 s:=by rw [hst,hnx];simp [k1,k2,k3,k4,k5,k6]
  rcases Nat.eq_zero_or_pos j with h0|h0
  ·subst h0;have:=kz s x.label;refine ao ?_;refine ⟨0+1,⟨by omega,hgo⟩,by omega,?_⟩;exact aL
  ·obtain ⟨y,hy⟩:∃y,s[((j:Int)-1).toNat]? = some y:=⟨_,qGg (by omega)⟩;have hp:gA s j=y.at_:=by
    have e:((j:Int)-1).toNat=j-1:=by omega
    rw [e] at hy;simp [gA,hy,show j≠0 by omega]
   have:=kz s x.label;refine ao ?_;refine ⟨j+1,⟨by omega,hgo⟩,by omega,?_⟩;exact aL
 ·have hok1:1<=x.label->x.label<=99->0<=x.at_->x.at_<=l.length->gA s j<=x.at_->aO x.label 0 s=(j:Int)->False:=fun a b c d e f=>hok ⟨⟨a,b⟩,⟨c,d⟩,e,f⟩;obtain rfl:b=false:=by
   rw [hBB,hst];cases hh:(decide (1<=x.label) && decide (x.label<=99) && decide (0<=x.at_) && decide (x.at_<=l.length) && decide (gA s j<=x.at_) && decide (aO x.label 0 s=(j:Int))) with
   | false=>rfl
   | true =>
    simp only [qBa,decide_eq_true_eq] at hh;exact (hok1 hh.1.1.1.1.1 hh.1.1.1.1.2 hh.1.1.1.2 hh.1.1.2 hh.1.2 hh.2).elim
  clear hok;rcases Nat.eq_zero_or_pos j with h0|h0
  ·subst h0;have hp:gA s 0=0:=rfl;have:=kz s x.label;exact Rn
  ·obtain ⟨y,hy⟩:∃y,s[((j:Int)-1).toNat]? = some y:=⟨_,qGg (by omega)⟩;have hp:gA s j=y.at_:=by
    have e:((j:Int)-1).toNat=j-1:=by omega
    rw [e] at hy;simp [gA,hy,show j≠0 by omega]
   have:=kz s x.label;exact Rn
def Pa (R:Lg×Int):TV:=.tup [R.1.a,.one (.sc (.int .i64 R.2))]
theorem gK {l:List En} {s:List Sv} (h:lA l s=true):l.length<=72/\s.length<=4:=by
 simp only [lA,qBa,decide_eq_true_eq] at h;exact ⟨h.1.1.1.1,h.1.1.1.2⟩
theorem co (g:Lg):FSpec prog 151 [g.a] [] [] (.b (qT g)) []:=Lm g.entries g.saves
theorem Ln (g:Lg) (e:En) {R:Lg×Int} (hR:ij g e=R):FSpec prog 275 [g.a,e.a] [] [] (Pa R) []:=by
 refine aS func275 ?_;cases hV:qT g with
 | false =>
  obtain rfl:R=(.zero,2):=by rw [<-hR];simp [ij,hV]
  have:=co g;refine ao ?_
  (refine gG (qf []) ?_;exact ak)
 | true =>
  obtain ⟨h1,h2⟩:=gK hV;cases hV2:qT ⟨g.entries++[e],g.saves⟩ with
  | false =>
   obtain rfl:R=(.zero,1):=by rw [<-hR];simp [ij,hV,hV2]
   exact Rc
  | true =>
   obtain rfl:R=(⟨g.entries++[e],g.saves⟩,0):=by rw [<-hR];simp [ij,hV,hV2]
   exact Rc
theorem Pb (g:Lg) (n:Int) {R:Lg×Int} (hR:iH g n=R):FSpec prog 186 [g.a,.one (.sc (.int .i64 n))] [] [] (Pa R) []:=by
 refine aS func186 ?_;cases hV:qT g with
 | false =>
  obtain rfl:R=(.zero,2):=by rw [<-hR];simp [iH,hV]
  have:=co g;refine ao ?_
  (refine gG (qf []) ?_;exact ak)
 | true =>
  obtain ⟨h1,h2⟩:=gK hV;by_cases hn:1<=n/\n<=99
  case neg =>
   obtain rfl:R=(.zero,1):=by
    rw [<-hR];unfold iH;rw [hV];have:(decide (1<=n) && decide (n<=99))=false:=by rw [Bool.and_eq_false_iff];simp;omega
    rw [this];rfl
   have:=co g;repeat' (first|refine az ?_ ?_|refine fV ?_|refine ay ?_|exact aA|refine ax fun hb=>?_|(refine gG (qf []) ?_;exact ak))
  obtain ⟨hn1,hn2⟩:=hn;by_cases hf:0<=aO n 0 g.saves
  case pos =>
   obtain rfl:R=(.zero,11):=by rw [<-hR];simp [iH,hV,hn1,hn2,hf]
   have:=co g;have:=kz g.saves n;refine ao ?_
   (refine gG (qf []) ?_;exact ak)
  by_cases h4:g.saves.length=4
  case pos =>
   obtain rfl:R=(.zero,4):=by rw [<-hR];simp [iH,hV,hn1,hn2,hf,h4]
   have:=co g;have:=kz g.saves n;refine ao ?_
   (refine gG (qf []) ?_;exact ak)
  obtain rfl:R=(⟨g.entries,g.saves++[⟨n,g.entries.length⟩]⟩,0):=by rw [<-hR];simp [iH,hV,hn1,hn2,hf,h4]
  repeat' (first|refine az ?_ ?_|(refine aa 8 rfl ?_;refine aK (ae rfl rfl (av rfl rfl) (aB [⟨n,g.entries.length⟩] rfl rfl rfl rfl) rfl aE aE) rfl rfl rfl ?_)|(refine aa 9 rfl ?_;first|(refine cB [] (co g) ?_)|(refine cB [] (kz g.saves n) ?_))|refine ay ?_|exact aA|refine ax fun hb=>?_|(refine gG (qf []) ?_;exact ak))
theorem CZ (g:Lg) (h72:g.entries.length<=72):FSpec prog 232 [g.a] [] [] (.c (.sl da (iJ g))) []:=by
 refine aS func232 ?_;have hnl:(bt g.entries).length<=72:=by
  have:∀(l:List En) (acc:List ByteArray),(dy acc l).length<=acc.length+l.length:=by
   intro l;induction l with
   | nil=>intro acc;simp [dy]
   | cons e l ih =>
    intro acc;rw [kY];cases dZ e.name acc with
    | true=>have:=ih acc;simp;omega
    | false=>have:=ih (ii e.name acc);rw [jP] at this;simp;omega
  have:=this g.entries [];simp at this;exact Nat.le_trans this h72
 have:=vG g.entries (by omega);refine ao ?_;obtain ⟨N,hN⟩:=qGe (bt g.entries);rw [hN] at hnl;obtain ⟨F,hF⟩:∃F:List ByteArray->List Tm,F=fun L=>(L.map fun m=>(⟨m,aw g.entries m⟩:Tm)).filter fun a=>!aJ a.am:=⟨_,rfl⟩;have hH:iJ g=F N:=by rw [hF,<-hN];rfl
 rw [hH,hN];refine bK 3 1000 63 da rfl rfl rfl ?_;refine ab (fun x:Nat×List Tm=>x.1<=N.length/\x.2.length<=x.1/\x.2++F (N.drop x.1)=F N) (fun x=>bC [1,1000] [(1,.c (.ptr 1 0)),(3,.c (.own 1000)),(4,.c (.sl eJ N)),(5,.i x.1)] [(1,.box 119 [.sl jp g.entries,.sl ji g.saves]),(1000,.arr 63 da x.2)]) (fun x=>N.length-x.1) (0,[]) ⟨Nat.zero_le _,Nat.le_refl _,rfl⟩ aL ?_;rintro ⟨i,acc⟩ ⟨hi,hal,hs⟩;dsimp only at *
 by_cases hlt:i<N.length
 ·have e:F (N.drop i)=(bif aJ (aw g.entries N[i]) then [] else [⟨N[i],aw g.entries N[i]⟩])++F (N.drop (i+1)):=by
   rw [qDc hlt,hF];dsimp only;rw [List.map_cons,List.filter_cons];cases aJ (aw g.entries N[i]) <;> rfl
  rw [e] at hs;repeat' (first|refine az ?_ ?_|(refine aa 8 rfl ?_;refine aK (ae rfl rfl (av rfl rfl) (aB [⟨N[i],aw g.entries N[i]⟩] rfl rfl rfl rfl) rfl aE aE) rfl rfl rfl ?_)|refine aa 9 rfl (cB [] (jk g.entries N[i]) ?_)|refine ay ?_|exact aA|refine ax fun hb=>?_)
  ·refine ⟨(i+1,acc++[⟨N[i],aw g.entries N[i]⟩]),⟨by dsimp only;omega,by simp;omega,?_⟩,by dsimp only;omega,?_⟩
   ·rw [<-hs];simp [aJ,hb]
   ·exact a8 (qf [(1000,34)])
  ·refine ⟨(i+1,acc),⟨by dsimp only;omega,by dsimp only;omega,?_⟩,by dsimp only;omega,?_⟩
   ·rw [<-hs];simp [aJ,hb]
   ·exact aL
 ·have e:acc=F N:=by rw [<-hs,qDn (by omega)];simp [hF]
  refine ao ?_;rw [<-e];exact Rd
theorem Er {all:List Sv} {n:Int}:∀{l:List Sv} {k:Nat} {a:Int},ny all n k a l=true->∀x∈l,0<=x.at_/\x.at_<=n
 | [],_,_,_=>by simp
 | s :: l,k,a,h=>by
  simp only [ny,qBa,decide_eq_true_eq] at h;intro x hx;rcases List.mem_cons.1 hx with rfl|hx
  ·exact ⟨h.1.1.1.1.2,h.1.1.1.2⟩
  ·exact Er h.2 x hx
theorem C0 {l:List En} {s:List Sv} (h:lA l s=true):∀x∈s,0<=x.at_/\x.at_<=l.length:=by
 simp only [lA,qBa] at h;exact Er h.2
theorem gV:∀(l:List En) (acc:List ByteArray),(dy acc l).length<=acc.length+l.length
 | [],acc=>by simp [dy]
 | e :: l,acc=>by
  rw [kY];cases dZ e.name acc with
  | true=>have:=gV l acc;simp;omega
  | false=>have:=gV l (ii e.name acc);rw [jP] at this;simp;omega
def Pd (R:Lg×List Tm×Int):TV:=.tup [R.1.a,.one (.sl da R.2.1),.one (.sc (.int .i64 R.2.2))]
theorem Lp (l:List Sv) (n:Int) {k:Int} (h:aO n 0 l=k):FSpec prog 242 [.one (.sl ji l),.one (.sc (.int .i64 n))] [] [] (.i k) []:=h▸kz l n
theorem My (g:Lg) (n:Int) {R:Lg×List Tm×Int} (hR:cd g n=R):FSpec prog 153 [g.a,.one (.sc (.int .i64 n))] [] [] (Pd R) []:=by
 refine aS func153 ?_;cases hV:qT g with
 | false =>
  obtain rfl:R=(.zero,[],2):=by rw [<-hR];simp [cd,hV]
  have:=co g;refine ao ?_
  (refine fk (qf []) ?_;exact ak)
 | true =>
  obtain ⟨h1,h2⟩:=gK hV;have hat:=C0 hV;by_cases hf:n≠0/\aO n 0 g.saves<0
  case pos =>
   obtain ⟨hn0,hf⟩:=hf;obtain rfl:R=(.zero,[],10):=by rw [<-hR];simp [cd,hV,hn0,hf]
   have:=co g;have:=kz g.saves n;refine ao ?_
   (refine fk (qf []) ?_;exact ak)
  obtain ⟨at_,sv,hX,ha1,ha2,hs1,hs2,hcase⟩:∃(at_:Int) (sv:Nat),bw g n=⟨g.entries.take at_.toNat,g.saves.take sv⟩/\0<=at_/\at_<=g.entries.length/\0<=sv/\sv<=g.saves.length/\((n=0/\at_=0/\sv=0)\/(n≠0/\∃i,∃hi:i<g.saves.length,aO n 0 g.saves=(i:Int)/\g.saves[i].at_=at_/\sv=i+1)):=by
   by_cases hn:n=0
   ·exact ⟨0,0,by simp [bw,hn],by omega,by omega,by omega,by omega,.inl ⟨hn,rfl,rfl⟩⟩
   ·obtain ⟨i,hi,he,_⟩:=ja (n:=n) (l:=g.saves) (k:=0) (by by_cases h:aO n 0 g.saves<0;exact absurd ⟨hn,h⟩ hf;omega);have he2:aO n 0 g.saves=(i:Int):=by rw [he];simp
    have:=hat _ (List.getElem_mem hi);exact ⟨g.saves[i].at_,i+1,by simp [bw,hn,he2,hi,List.getD_eq_getElem?_getD],this.1,this.2,by omega,by omega,.inr ⟨hn,i,hi,he2,rfl,rfl⟩⟩
  have hl1:(g.entries.take at_.toNat).length=at_.toNat:=by simp;omega
  obtain ⟨N,hN⟩:=qGe (bt (g.entries.drop at_.toNat));have hNl:N.length<=72:=by
   rw [<-hN];have:=gV (g.entries.drop at_.toNat) [];simp at this;unfold bt;omega
  obtain rfl:R=(⟨g.entries.take at_.toNat,g.saves.take sv⟩,N.map fun m=>⟨m,aw (g.entries.take at_.toNat) m⟩,0):=by
   rw [<-hR];unfold cd;rw [hX,hV,hl1,hN];rcases hcase with ⟨rfl,_⟩|⟨h0,i,hi,he,_⟩
   ·simp
   ·have hi0:¬((i:Int)<0):=by omega
    simp [h0,he,hi0]
  clear hR hf hX;rcases hcase with ⟨rfl,rfl,rfl⟩|⟨h0,i,hi,he,rfl,rfl⟩
  ·skip
   have:=co g;have:=vG (g.entries.drop (Int.toNat 0)) (by simp;omega);refine ao ?_;refine bK 11 1000 63 da rfl rfl rfl ?_;obtain ⟨X,hXg⟩:∃X:Lg,X=⟨g.entries.take (Int.toNat 0),g.saves.take 0⟩:=⟨_,rfl⟩;refine ab (fun x:Nat×List Tm=>x.1<=N.length/\x.2.length=x.1/\x.2++((N.drop x.1).map fun m=>(⟨m,aw (g.entries.take (Int.toNat 0)) m⟩:Tm))=N.map fun m=>⟨m,aw (g.entries.take (Int.toNat 0)) m⟩) (fun x=>bC [4,10,1000,1001,1002] [(4,.c (.ptr 4 0)),(10,.c (.ptr 10 0)),(11,.c (.own 1000)),(12,.c (.sl eJ N)),(13,.i x.1)] [(4,.box 119 [.sc (.slice none 0 0),.sc (.slice none 0 0)]),(10,.box 119 [.sl jp (g.entries.take (Int.toNat 0)),.sl ji (g.saves.take 0)]),(1000,.arr 63 da x.2)]) (fun x=>N.length-x.1) (0,[]) ⟨Nat.zero_le _,rfl,rfl⟩ (by rw [<-hN];exact aL) ?_;rintro ⟨k,acc⟩ ⟨hk,hal,hs⟩;dsimp only at *
   by_cases hlt:k<N.length
   ·rw [qDc hlt,List.map_cons] at hs;repeat' (first|refine az ?_ ?_|(refine aa 8 rfl ?_;refine aK (ae rfl rfl (av rfl rfl) (aB [⟨N[k],aw (g.entries.take (Int.toNat 0)) N[k]⟩] rfl rfl rfl rfl) rfl aE aE) rfl rfl rfl ?_)|refine aa 9 rfl (cB [] (jk (g.entries.take (Int.toNat 0)) N[k]) ?_)|refine ay ?_|exact aA|refine ax fun hb=>?_)
    refine ⟨(k+1,acc++[⟨N[k],aw (g.entries.take (Int.toNat 0)) N[k]⟩]),⟨by dsimp only;omega,by simp;omega,by dsimp only;rw [<-hs];simp⟩,by dsimp only;omega,?_⟩;exact a8 (qf [(1000,73)])
   ·have e:acc=N.map fun m=>⟨m,aw (g.entries.take (Int.toNat 0)) m⟩:=by rw [<-hs,qDn (by omega)];simp
    rw [<-e];refine ao ?_
    (refine fk (qf []) ?_;exact ak)
  ·skip
   have:=co g;have:=Lp g.saves n he;have:=vG (g.entries.drop g.saves[i].at_.toNat) (by simp;omega);refine ao ?_;refine bK 11 1000 63 da rfl rfl rfl ?_;obtain ⟨X,hXg⟩:∃X:Lg,X=⟨g.entries.take g.saves[i].at_.toNat,g.saves.take (i+1)⟩:=⟨_,rfl⟩;refine ab (fun x:Nat×List Tm=>x.1<=N.length/\x.2.length=x.1/\x.2++((N.drop x.1).map fun m=>(⟨m,aw (g.entries.take g.saves[i].at_.toNat) m⟩:Tm))=N.map fun m=>⟨m,aw (g.entries.take g.saves[i].at_.toNat) m⟩) (fun x=>bC [4,10,1000,1001,1002] [(4,.c (.ptr 4 0)),(10,.c (.ptr 10 0)),(11,.c (.own 1000)),(12,.c (.sl eJ N)),(13,.i x.1)] [(4,.box 119 [.sc (.slice none 0 0),.sc (.slice none 0 0)]),(10,.box 119 [.sl jp (g.entries.take g.saves[i].at_.toNat),.sl ji (g.saves.take (i+1))]),(1000,.arr 63 da x.2)]) (fun x=>N.length-x.1) (0,[]) ⟨Nat.zero_le _,rfl,rfl⟩ (by rw [<-hN];exact aL) ?_;rintro ⟨k,acc⟩ ⟨hk,hal,hs⟩;dsimp only at *
   by_cases hlt:k<N.length
   ·rw [qDc hlt,List.map_cons] at hs;repeat' (first|refine az ?_ ?_|(refine aa 8 rfl ?_;refine aK (ae rfl rfl (av rfl rfl) (aB [⟨N[k],aw (g.entries.take g.saves[i].at_.toNat) N[k]⟩] rfl rfl rfl rfl) rfl aE aE) rfl rfl rfl ?_)|refine aa 9 rfl (cB [] (jk (g.entries.take g.saves[i].at_.toNat) N[k]) ?_)|refine ay ?_|exact aA|refine ax fun hb=>?_)
    refine ⟨(k+1,acc++[⟨N[k],aw (g.entries.take g.saves[i].at_.toNat) N[k]⟩]),⟨by dsimp only;omega,by simp;omega,by dsimp only;rw [<-hs];simp⟩,by dsimp only;omega,?_⟩;exact a8 (qf [(1000,73)])
   ·have e:acc=N.map fun m=>⟨m,aw (g.entries.take g.saves[i].at_.toNat) m⟩:=by rw [<-hs,qDn (by omega)];simp
    rw [<-e];refine ao ?_
    (refine fk (qf []) ?_;exact ak)
theorem Qt (g:Lg) (i j:Nat) (hi:i<=g.entries.length) (hj:j<=g.saves.length) (h1:g.entries.length<=100000) (h2:g.saves.length<=100000) {E':List En} {S':List Sv} (hE:g.entries.take i=E') (hS:g.saves.take j=S'):FSpec prog 310 [g.a,.one (.sc (.int .i64 i)),.one (.sc (.int .i64 j))] [] [1,2] (.v (.ag [.own 1,.own 2])) [(1,some (.arr 200 jp E')),(2,some (.arr 197 ji S'))]:=by
 refine aS func310 ?_;have hEl:E'.length<=100000:=by rw [<-hE];simp;omega
 have hSl:S'.length<=100000:=by rw [<-hS];simp;omega
 have hE2:(g.entries.take i).drop 0=E':=hE;have hS2:(g.saves.take j).drop 0=S':=hS;repeat' (first|refine az ?_ ?_|(refine aa 14 rfl ?_;first|refine sx (uQ rfl rfl rfl (.inr ⟨rfl,rfl⟩) rfl rfl (Nat.zero_le _) hi hE2) ?_|refine sx (uQ rfl rfl rfl (.inr ⟨rfl,rfl⟩) rfl rfl (Nat.zero_le _) hj hS2) ?_)|refine ay ?_|exact aA|refine ax fun hb=>?_|(refine cn (qf [(1,12),(2,18)]) ?_;exact ak))
end Go.Proofs.YtkkbopkbjacfmaaGreatDoor
