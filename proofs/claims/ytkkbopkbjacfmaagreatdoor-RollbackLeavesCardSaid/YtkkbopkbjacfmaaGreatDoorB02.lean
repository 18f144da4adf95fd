/- Part B02 of a proof of statements of chapter 15 (no condition). -/
import Derived.Test.YtkkbopkbjacfmaaGreatDoorB01
set_option linter.unusedVariables false
set_option linter.unusedSimpArgs false
set_option maxRecDepth 100000
set_option maxHeartbeats 64000000
namespace Go.Proofs.YtkkbopkbjacfmaaGreatDoor
open Go.RowKit Go.Proofs.Tryz
section
open Go.ChangeShapes Go.WideShapes Go.ChangeAt
theorem lH (os:Os) (started:os.Started) (H:Type) (enc:TypeId×Value->H) :
  ReturnsInHanded {} checked os 5 .any (fun w args=>(Rows.rollbackLeavesSpec.pre enc prog Tryz.f5 [] false w args/\laidMetH prog jt w)/\sizedMet enc prog Tryz.f5 (OpenSpec.ofChange Rows.rollbackLeavesSpec) false w args) (Rows.rollbackLeavesSpec.post enc prog Tryz.f5 false true false false):=by
 refine ub (C:=checked) (X:=fun w _=>laidMetH prog jt w) (fun _ _ _ hh h=>h.of_heap hh) Tryz.own started (by kernel_rfl) func5
  (ChangeSpec.witness_shaped (enc:=enc) (C:=checked) (os:=os) (X:=fun w _=>laidMetH prog jt w) false (World.laidAll prog os jt) #[.slice none 0 0,.slice none 0 0] 8 (World.laidAll_os _ _ _) (World.shaped_of_ZipB (by kernel_rfl) (by kernel_rfl)) (by kernel_rfl) (by kernel_rfl) (by kernel_rfl) (xg os _)) ?_
 intro W base args ds gs before hval0 hW hcnd hreach hL hshp;have hLay:=DH hL hshp;have hval:∀(j:Nat) t v,Tryz.f5.params[j]? = some t->args[j]? = some v->Value.okWide prog W .any base t v:=hval0;have hW':=hW;obtain ⟨p,q,hA0,hV,rfl,hfz,hnd⟩:=hW;have hA:DataW.TrodAll enc prog W 0 (fun _=>true) true Tryz.f5.params.toList args.toList ds p:=hA0;rw [params5] at hA hval;obtain ⟨v0,v1,d0,d1,p0,p1,rfl,rfl,rfl,h0,h1⟩:=trodAll_two hA;obtain ⟨rfl,rfl⟩:=trodVars_none hV;obtain ⟨x0,r0⟩:=oe (hval 0 22 v0 rfl rfl) h0;obtain ⟨x1,r1⟩:=oe (hval 1 22 v1 rfl rfl) h1;refine ((DE x0 x1).calls rfl (w:=W) (S:=Lo W.heap.size) (ρ:=fun _=>undef) (vs:=[v0,v1]) (fun _ h=>h) ⟨hLay,fun h=>h⟩ ⟨r0 _,r1 _,trivial⟩).mono fun e W' ⟨v9,he,hb,hv9⟩=>?_;obtain rfl:v9 = .bool true:=hv9;subst he;have hlt:∀x∈p0++p1,x.block<W.heap.size:=fun x hx=>hW'.lt x (by simpa using hx);exact ⟨_,rfl,nE (pa:=p0++p1) (pv:=[]) hW' (fun _ _ _=>trodAll_mk1 (shut_bool underlying4 true))
  (fun sp hsp=>trodAll_mk2 (WideElems.Trod_stays laidOut (by kernel_rfl) (of_decide_eq_true (by kernel_rfl)) h0 (fun x hx=>hb.same (hlt x (by simp [hx]))) (fun x hx=>hsp x (by simp [hx]))) (WideElems.Trod_stays laidOut (by kernel_rfl) (of_decide_eq_true (by kernel_rfl)) h1 (fun x hx=>hb.same (hlt x (by simp [hx]))) (fun x hx=>hsp x (by simp [hx]))))
  (fun _ _=>rfl) (by simp) hb (ok_one (by kernel_rfl) rfl (okWide_bool_mk underlying4 true))⟩
end
end Go.Proofs.YtkkbopkbjacfmaaGreatDoor
