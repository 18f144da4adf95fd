/- Part A02 of a proof of statements of chapter 15 (no condition). -/
import Derived.Test.YtkkbopkbjacfmaaGreatDoorA01
set_option linter.unusedVariables false
set_option linter.unusedSimpArgs false
set_option maxRecDepth 100000
set_option maxHeartbeats 64000000
namespace Go.Proofs.YtkkbopkbjacfmaaGreatDoor
open Go.RowKit Go.Proofs.Tryz
section
open Go.ChangeShapes Go.WideShapes Go.ChangeAt
theorem rollbackApplies_lifted (os:Os) (started:os.Started) (H:Type) (enc:TypeId×Value->H) :
  ReturnsInHanded {} checked os 4 .any (fun w args=>(Rows.rollbackAppliesSpec.pre enc prog Tryz.f4 [] false w args/\laidMetH prog jt w)/\sizedMet enc prog Tryz.f4 (OpenSpec.ofChange Rows.rollbackAppliesSpec) false w args) (Rows.rollbackAppliesSpec.post enc prog Tryz.f4 false true false false):=by
 refine ub (C:=checked) (X:=fun w _=>laidMetH prog jt w) (fun _ _ _ hh h=>h.of_heap hh) Tryz.own started (by kernel_rfl) Tryz.func4
  (ChangeSpec.witness_shaped (enc:=enc) (C:=checked) (os:=os) (X:=fun w _=>laidMetH prog jt w) false (World.laidAll prog os jt) #[.agg #[.slice none 0 0,.slice none 0 0],.agg #[.int .i64 0,.int .i64 0,.int .i64 0,.int .i64 0,.int .i64 0,.slice none 0 0],.slice none 0 0,.slice none 0 0] 8 (World.laidAll_os _ _ _) (World.shaped_of_ZipB (by kernel_rfl) (by kernel_rfl)) (by kernel_rfl) (by kernel_rfl) (by kernel_rfl) (xg os _)) ?_
 intro W base args ds gs before hval0 hW hcnd hreach hL hshp;have hLay:=DH hL hshp;have hval:∀(j:Nat) t v,Tryz.f4.params[j]? = some t->args[j]? = some v->Value.okWide prog W .any base t v:=hval0;have hW':=hW;obtain ⟨p,q,hA0,hV,rfl,hfz,hnd⟩:=hW;have hA:DataW.TrodAll enc prog W 0 (fun _=>true) true Tryz.f4.params.toList args.toList ds p:=hA0;rw [Tryz.params4] at hA hval;obtain ⟨v0,v1,v2,v3,d0,d1,d2,d3,p0,p1,p2,p3,rfl,rfl,rfl,h0,h1,h2,h3⟩:=trodAll_four hA;obtain ⟨rfl,rfl⟩:=trodVars_none hV;obtain ⟨x0,D0,r0⟩:=open_wsV (hval 0 28 v0 rfl rfl) h0;obtain ⟨x1,r1⟩:=open_opV (hval 1 46 v1 rfl rfl) h1;obtain ⟨x2,r2⟩:=oe (hval 2 22 v2 rfl rfl) h2;obtain ⟨x3,r3⟩:=oe (hval 3 22 v3 rfl rfl) h3;refine ((kLawApplies (max D0 2) (Nat.le_max_right _ _) x0 x1 x2 x3).calls rfl (w:=W) (S:=Lo W.heap.size) (ρ:=fun _=>undef) (vs:=[v0,v1,v2,v3]) (fun _ h=>h) ⟨hLay,fun h=>h⟩ ⟨Ws.up (Nat.le_max_left _ _) (r0 _),r1 _,r2 _,r3 _,trivial⟩).mono fun e W' ⟨v9,he,hb,hv9⟩=>?_;obtain rfl:v9 = .bool true:=hv9;subst he;have hlt:∀x∈p0++p1++p2++p3,x.block<W.heap.size:=fun x hx=>hW'.lt x (by simpa using hx);exact ⟨_,rfl,nE (pa:=p0++p1++p2++p3) (pv:=[]) hW' (fun _ _ _=>trodAll_mk1 (shut_bool underlying4 true))
  (fun sp hsp=>by rw [List.append_assoc,List.append_assoc];exact trodAll_mk4 (WideElems.Trod_stays laidOut (by kernel_rfl) (of_decide_eq_true (by kernel_rfl)) h0 (fun x hx=>hb.same (hlt x (by simp [hx]))) (fun x hx=>hsp x (by simp [hx]))) (WideElems.Trod_stays laidOut (by kernel_rfl) (of_decide_eq_true (by kernel_rfl)) h1 (fun x hx=>hb.same (hlt x (by simp [hx]))) (fun x hx=>hsp x (by simp [hx]))) (WideElems.Trod_stays laidOut (by kernel_rfl) (of_decide_eq_true (by kernel_rfl)) h2 (fun x hx=>hb.same (hlt x (by simp [hx]))) (fun x hx=>hsp x (by simp [hx]))) (WideElems.Trod_stays laidOut (by kernel_rfl) (of_decide_eq_true (by kernel_rfl)) h3 (fun x hx=>hb.same (hlt x (by simp [hx]))) (fun x hx=>hsp x (by simp [hx]))))
  (fun _ _=>rfl) (by simp) hb (ok_one (by kernel_rfl) rfl (okWide_bool_mk underlying4 true))⟩
end
end Go.Proofs.YtkkbopkbjacfmaaGreatDoor
