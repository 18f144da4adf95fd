/- Part K14 of a proof of statements of chapter 15 (no condition). -/
import Derived.Test.YtkkbopkbjacfmaaGreatDoorRows
import Derived.Test.YtkkbopkbjacfmaaGreatDoorK12
set_option linter.unusedVariables false
set_option linter.unusedSimpArgs false
set_option maxRecDepth 100000
set_option maxHeartbeats 64000000
namespace Go.Proofs.YtkkbopkbjacfmaaGreatDoor
open Go.RowKit Go.Proofs.Tryz
section
open Go.WideShapes Go.ChangeShapes Go.Deep
section
variable {H:Type} {enc:TypeId×Value->H} {P:Program}
theorem nE {f:Func} {s:ChangeSpec} {apart fresh handsOn again:Bool} {W W':World} {args:Array Value} {v:Value} {ds gs:List (DataW H)} {before pa pv:List MemPlace}
  (hW:DataW.Whole enc P f.params.toList s.vars apart W args.toList ds gs before)
  (hres:∀(b:Nat) (sp:Nat->Bool) (hd:Bool),DataW.TrodAll enc P W' b sp hd f.resultTypes.toList (v.resultList f.resultTypes.size) (s.fn H (ds++gs)).results [])
  (hargs:∀sp:Nat->Bool,(∀p∈before,sp p.block=true)->DataW.TrodAll enc P W' 0 sp true f.params.toList args.toList (s.fn H (ds++gs)).args pa)
  (hvars:∀sp:Nat->Bool,(∀p∈before,sp p.block=true)->DataW.TrodVars enc P W' sp s.vars (s.fn H (ds++gs)).vars pv)
  (hps:before=pa++pv) (hb:Below W.heap.size W W')
  (hok:∀(j:Nat) (t:TypeId) (r:Value),f.resultTypes[j]? = some t->(v.resultList f.resultTypes.size)[j]? = some r->Value.okWide P W' .any 0 t r) :
  s.post enc P f apart fresh handsOn again W args v W':=by
 have hlt:∀p∈before,p.block<W.heap.size:=fun p hp=>hW.lt p hp;have hold:∀p∈before,(fun b=>decide (b<W.heap.size)) p.block=true:=fun p hp=>by simpa using hlt p hp
 refine ⟨ds,gs,before,[],pa,pv,hW,hres _ _ _,hargs _ hold,hvars _ hold,World.keptBut_mono (fun p hp=>⟨hp,?_⟩) (hb.frame (·∈before)),fun _=>?_⟩
 ·rw [hps,List.mem_append] at hp;exact Or.inr hp
 ·obtain ⟨_,_,_,_,_,hz,hn⟩:=hW;refine ⟨hok,_,_,([]++pa)++pv,⟨[]++pa,pv,trodAll_append (hargs _ (fun _ _=>rfl)) (hres _ _ _),hvars _ (fun _ _=>rfl),rfl,?_,?_⟩,?_⟩
  ·intro b off hp;have hin:MemPlace.cell b off∈before:=by rw [hps];simpa using hp
   rw [hb.frozen (hlt _ hin)];exact hz b off hin
  ·intro ha;have:=hn ha;rw [hps] at this;simpa using this
  ·intro p hp _;rw [hps];simpa using hp
end
theorem Tryz.own:ownKnob prog.godebug=none:=by kernel_rfl
theorem laidOut:laidOutB prog=true:=by kernel_rfl
end
def CT (p:Option Pr) (x:Pr):Bool:=match p with|none=>true|some y=>decide (bH y x<0)
def NB (x:Nd):Bool:=gm x.proc && nZ x.expr && decide (0<=x.gen) && decide (x.gen<=1073741824)
def oo:Option Pr->List Nd->Bool
 | _,[]=>true
 | p,x :: l=>NB x && CT p x.proc && oo (some x.proc) l
theorem fd (p:Option Pr) (x:Nd) (l:List Nd):oo p (x :: l)=(NB x && CT p x.proc && oo (some x.proc) l):=rfl
def vo (l:List Nd) (k:Nat):Option Pr:=if k=0 then none else (l[k-1]?).map (·.proc)
theorem vq (l:List Nd):vo l 0=none:=rfl
theorem vr {l:List Nd} {k:Nat} {x:Nd} (h:k<l.length) (hx:l[k]=x):vo l (k+1)=some x.proc:=by
 unfold vo;rw [if_neg (by omega),Nat.add_sub_cancel,qGg h,hx];rfl
theorem xJ {l:List Nd} {k:Nat} {x:Nd} (h0:0<k) (h:k-1<l.length) (hx:l[k-1]=x):vo l k=some x.proc:=by
 unfold vo;rw [if_neg (by omega),qGg h,hx];rfl
def bb (s:Ws):Bool:=cM s.queues && decide (s.needs.length<=8) && oo none s.needs && decide ((aR s).length<=8)
theorem kK {l:List Qu} (h:cM l=true):l.length<=8/\∀q∈l,fq q:=by
 unfold cM at h;simp only [qBa,decide_eq_true_eq] at h;exact ⟨h.1,uq l none h.2⟩
def oq (s:Ws) (p:Pr):List Bool:=match lr s.needs p with
 | none=>[]
 | some x=>bif bb s then (cR x.expr).map (fun a=>!ml a.name p s.queues) else []
end Go.Proofs.YtkkbopkbjacfmaaGreatDoor
