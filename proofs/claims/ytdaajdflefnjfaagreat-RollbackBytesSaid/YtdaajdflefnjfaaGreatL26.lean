/- Part 26 of 26 of the proof of rollbackBytes_holds (no condition). -/
import Derived.Test.YtdaajdflefnjfaaGreatL25
import Derived.Test.YtdaajdflefnjfaaGreatChecked
set_option linter.unusedVariables false
set_option linter.unusedSimpArgs false
set_option maxRecDepth 100000
set_option maxHeartbeats 64000000
namespace Go.Proofs.YtdaajdflefnjfaaGreat
open Go.RowKit Go.Proofs.Tryz
section
open Go.ChangeShapes Go.WideShapes Go.ChangeAt
theorem lw (os:Os) (started:os.Started) (H:Type) (enc:TypeId×Value→H) :
  ReturnsInHanded {} checked os 4 .any (Rows.rollbackBytesSpec.pre6 enc prog f4 Rows.rollbackBytesRow.domain false) (Rows.rollbackBytesSpec.post enc prog f4 false true false false):=by
 refine returnsInHanded_of_change (C:=checked) Tryz.own started (by kernel_rfl) func4
  (ChangeSpec.witness6 (enc:=enc) (C:=checked) false ⟨#[],#[.agg #[.int .i64 0,.int .i64 0,.int .i64 0,.int .i64 0,.int .i64 0,.slice none 0 0],.slice none 0 0,.slice none 0 0],[]⟩ 8 (by kernel_rfl) (by kernel_rfl) (by kernel_rfl) (by kernel_rfl)) ?_
 intro W base args ds gs before hval0 hW hcnd _
 have hval:∀(j:Nat) t v,f4.params[j]? = some t→args[j]? = some v→Value.okWide prog W .any base t v:=hval0
 have hW':=hW
 obtain ⟨p,q,hA0,hV,rfl,hfz,hnd⟩:=hW
 have hA:DataW.TrodAll enc prog W 0 (fun _=>true) true f4.params.toList args.toList ds p:=hA0
 rw [params4] at hA hval
 obtain ⟨v0,v1,v2,d0,d1,d2,p0,p1,p2,rfl,rfl,rfl,h0,h1,h2⟩:=trodAll_three hA
 obtain ⟨rfl,rfl⟩:=trodVars_none hV
 obtain ⟨x0,r0⟩:=Ew (hval 0 41 v0 rfl rfl) h0
 obtain ⟨x1,r1⟩:=xT (hval 1 56 v1 rfl rfl) h1
 obtain ⟨x2,r2⟩:=zL (hval 2 42 v2 rfl rfl) h2
 refine ((C9 x0 x1 x2).calls rfl (w:=W) (S:=Lo W.heap.size) (ρ:=fun _=>undef) (vs:=[v0,v1,v2]) (fun _ h=>h) ⟨r0 _,r1 _,r2 _,trivial⟩).mono fun e W' ⟨v9,he,hb,hv9⟩=>?_
 obtain rfl:v9 = .bool true:=hv9
 subst he
 have hlt:∀x∈p0++p1++p2,x.block<W.heap.size:=fun x hx=>hW'.lt x (by simpa using hx)
 exact ⟨_,rfl,tl (pa:=p0++p1++p2) (pv:=[]) hW' (fun _ _ _=>trodAll_mk1 (shut_bool underlying4 true))
  (fun sp hsp=>by rw [List.append_assoc];exact trodAll_mk3 (WideElems.Trod_stays laidOut (by kernel_rfl) (of_decide_eq_true (by kernel_rfl)) h0 (fun x hx=>hb.same (hlt x (by simp [hx]))) (fun x hx=>hsp x (by simp [hx]))) (WideElems.Trod_stays laidOut (by kernel_rfl) (of_decide_eq_true (by kernel_rfl)) h1 (fun x hx=>hb.same (hlt x (by simp [hx]))) (fun x hx=>hsp x (by simp [hx]))) (WideElems.Trod_stays laidOut (by kernel_rfl) (of_decide_eq_true (by kernel_rfl)) h2 (fun x hx=>hb.same (hlt x (by simp [hx]))) (fun x hx=>hsp x (by simp [hx]))))
  (fun _ _=>rfl) (by simp) hb (ok_one (by kernel_rfl) rfl (okWide_bool_mk underlying4 true))⟩
theorem rollbackBytes_holds:Rows.RollbackBytesSaid :=
 OpenClaim.holds_of_wide 4 f4 rfl rfl rfl rfl rfl rfl rfl ⟨rfl,rfl,rfl,rfl,rfl⟩ rfl rfl rfl rfl rfl (by kernel_rfl) func4 (by kernel_rfl)
  (of_decide_eq_true (by kernel_rfl)) (by unfold Func.isWrapper;rw [if_neg (of_decide_eq_false (by kernel_rfl))];exact ⟨rfl,rfl⟩)
  (fun os started H enc _=>lw os started H enc)
end
end Go.Proofs.YtdaajdflefnjfaaGreat
