/- Part K10 of a proof of statements of chapter 15 (no condition). -/
import Derived.Test.YtkkbopkbjacfmaaGreatDoorK06
import Derived.Deep.RegionLaw
import Derived.Carry
import Derived.SizedLaws
import Derived.JoinedTies
import Derived.KernelRfl
import Derived.Lib.SmallJoins
import Derived.ProofKit
import GoSem.Claim
import GoSem.ClaimJoined
import GoSem.ClaimMapViews
set_option linter.unusedVariables false
set_option linter.unusedSimpArgs false
set_option maxRecDepth 100000
set_option maxHeartbeats 64000000
namespace Go.Proofs
open Go.Shelf
def Tryz.sortProcs_ren:Go.Shelf.Ren:=⟨fun|6=>200|15=>208|14=>288|28=>304|29=>305|20=>332|21=>333|22=>334|23=>335|24=>336|25=>337|26=>338|27=>339|46=>363|47=>342|48=>343|49=>364|50=>365|57=>381|n=>n,fun|22=>31|24=>42|25=>142|3=>3|39=>175|0=>0|53=>336|55=>204|4=>4|46=>329|45=>328|50=>333|5=>5|9=>9|66=>367|70=>316|76=>387|77=>352|n=>n,fun|n=>n⟩
theorem Tryz.sortProcs:Go.Proofs.SlLaysF0.n6 Tryz.prog Tryz.sortProcs_ren:={
 mixed:=by kernel_rfl
 f6:=⟨Tryz.f200.name,by decide,Tryz.func200.trans (congrArg some (by kernel_rfl))⟩
 f14:=⟨Tryz.f288.name,by decide,Tryz.func288.trans (congrArg some (by kernel_rfl))⟩
 f15:=Tryz.func208.trans (congrArg some (by kernel_rfl))
 f20:=⟨Tryz.f332.name,by decide,Tryz.func332.trans (congrArg some (by kernel_rfl))⟩
 f21:=⟨Tryz.f333.name,by decide,Tryz.func333.trans (congrArg some (by kernel_rfl))⟩
 f22:=⟨Tryz.f334.name,by decide,Tryz.func334.trans (congrArg some (by kernel_rfl))⟩
 f23:=⟨Tryz.f335.name,by decide,Tryz.func335.trans (congrArg some (by kernel_rfl))⟩
 f24:=⟨Tryz.f336.name,by decide,Tryz.func336.trans (congrArg some (by kernel_rfl))⟩
 f25:=⟨Tryz.f337.name,by decide,Tryz.func337.trans (congrArg some (by kernel_rfl))⟩
 f26:=⟨Tryz.f338.name,by decide,Tryz.func338.trans (congrArg some (by kernel_rfl))⟩
 f27:=⟨Tryz.f339.name,by decide,Tryz.func339.trans (congrArg some (by kernel_rfl))⟩
 f28:=Tryz.func304.trans (congrArg some (by kernel_rfl))
 f29:=Tryz.func305.trans (congrArg some (by kernel_rfl))
 f46:=⟨Tryz.f363.name,by decide,Tryz.func363.trans (congrArg some (by kernel_rfl))⟩
 f47:=Tryz.func342.trans (congrArg some (by kernel_rfl))
 f48:=Tryz.func343.trans (congrArg some (by kernel_rfl))
 f49:=⟨Tryz.f364.name,by decide,Tryz.func364.trans (congrArg some (by kernel_rfl))⟩
 f50:=⟨Tryz.f365.name,by decide,Tryz.func365.trans (congrArg some (by kernel_rfl))⟩
 f57:=⟨Tryz.f381.name,by decide,Tryz.func381.trans (congrArg some (by kernel_rfl))⟩
 t0:=Tryz.underlying0
 a0:=Tryz.isAgg0
 z0:=Tryz.sizeOf0
 v0:=Tryz.zeroValue0
 t3:=Tryz.underlying3
 a3:=Tryz.isAgg3
 z3:=Tryz.sizeOf3
 v3:=Tryz.zeroValue3
 t4:=Tryz.underlying4
 a4:=Tryz.isAgg4
 z4:=Tryz.sizeOf4
 v4:=Tryz.zeroValue4
 t5:=Tryz.underlying5
 a5:=Tryz.isAgg5
 z5:=Tryz.sizeOf5
 v5:=Tryz.zeroValue5
 t9:=Tryz.underlying9
 a9:=Tryz.isAgg9
 z9:=Tryz.sizeOf9
 v9:=Tryz.zeroValue9
 t22:=Tryz.underlying31
 a22:=Tryz.isAgg31
 z22:=Tryz.sizeOf31
 v22:=Tryz.zeroValue31
 t25:=Tryz.underlying142
 a25:=Tryz.isAgg142
 z25:=Tryz.sizeOf142
 v25:=Tryz.zeroValue142
 t39:=Tryz.underlying175
 a39:=Tryz.isAgg175
 z39:=Tryz.sizeOf175
 v39:=Tryz.zeroValue175
 t45:=Tryz.underlying328
 a45:=Tryz.isAgg328
 z45:=Tryz.sizeOf328
 v45:=Tryz.zeroValue328
 t46:=Tryz.underlying329
 a46:=Tryz.isAgg329
 z46:=Tryz.sizeOf329
 v46:=Tryz.zeroValue329
 t50:=Tryz.underlying333
 a50:=Tryz.isAgg333
 z50:=Tryz.sizeOf333
 v50:=Tryz.zeroValue333
 t53:=Tryz.underlying336
 a53:=Tryz.isAgg336
 z53:=Tryz.sizeOf336
 v53:=Tryz.zeroValue336
 t55:=Tryz.underlying204
 a55:=Tryz.isAgg204
 z55:=Tryz.sizeOf204
 v55:=Tryz.zeroValue204
 t66:=Tryz.underlying367
 a66:=Tryz.isAgg367
 z66:=Tryz.sizeOf367
 v66:=Tryz.zeroValue367
 t70:=Tryz.underlying316
 a70:=Tryz.isAgg316
 z70:=Tryz.sizeOf316
 v70:=Tryz.zeroValue316
 t76:=Tryz.underlying387
 a76:=Tryz.isAgg387
 z76:=Tryz.sizeOf387
 v76:=Tryz.zeroValue387
 t77:=Tryz.underlying352
 a77:=Tryz.isAgg352
 z77:=Tryz.sizeOf352
 v77:=Tryz.zeroValue352 }
end Go.Proofs
namespace Go.Proofs.YtkkbopkbjacfmaaGreatDoor
open Go.RowKit Go.Proofs.Tryz
section
open Go.Shelf
theorem Ch (a b c x y z:Int) (w:World):Calls prog 164 #[.agg #[.int .i64 a,.int .i64 b,.int .i64 c],.agg #[.int .i64 x,.int .i64 y,.int .i64 z]] w fun e w'=>e = .returned (.int .i64 (bH ⟨a,b,c⟩ ⟨x,y,z⟩))/\∃os,w'=Go.Sort.grow w os:=by
 have i0:∀w:World,(Instr.index 228 (.agg #[.int .i64 a,.int .i64 b,.int .i64 c]) (.int .i64 0)).run prog w = .ok (.int .i64 a) w:=fun _=>by kernel_rfl
 have i1:∀w:World,(Instr.index 228 (.agg #[.int .i64 a,.int .i64 b,.int .i64 c]) (.int .i64 1)).run prog w = .ok (.int .i64 b) w:=fun _=>by kernel_rfl
 have i2:∀w:World,(Instr.index 228 (.agg #[.int .i64 a,.int .i64 b,.int .i64 c]) (.int .i64 2)).run prog w = .ok (.int .i64 c) w:=fun _=>by kernel_rfl
 obtain ⟨r,hr⟩:=qGe (bH ⟨a,b,c⟩ ⟨x,y,z⟩);rw [hr];have HR:=Lib.hid hr;clear hr
 go_enter func164,ntmps164
 go_wp2
 go_rounds 4
 all_goals go_ret
 all_goals refine ⟨tO ?_,_,by rw [Go.Sort.alloc_eq_grow,Go.Sort.alloc_eq_grow,Go.Sort.grow_grow]⟩
 all_goals rw [<-HR.out]
 all_goals rcases dg ⟨a,b,c⟩ ⟨x,y,z⟩ with ⟨h,e⟩|⟨h,e⟩|⟨h,e⟩ <;> rw [e] <;> first|rfl|(exfalso;unfold fS at h;simp only at h;omega)|(exfalso;simp only [Pr.mk.injEq] at h;omega)
theorem G9 (p q:Pr) (w:World):Calls prog 74 #[p.val,q.val] w fun e w'=>e = .returned (.int .i64 (bH p q))/\∃os,w'=Go.Sort.grow w os:=by
 obtain ⟨a,b,c⟩:=p;obtain ⟨x,y,z⟩:=q;have HC:=Lib.hid (fun w=>Ch a b c x y z w);obtain ⟨r,hr⟩:=qGe (bH ⟨a,b,c⟩ ⟨x,y,z⟩);rw [hr] at HC ⊢;clear hr;unfold Pr.val
 go_enter func74,ntmps74
 go_wp2_with fail
 refine (HC.out _).mono ?_;rintro e w1 ⟨rfl,os,rfl⟩;go_wp2
 go_ret
 exact ⟨rfl,_,by rw [Go.Sort.alloc_eq_grow,Go.Sort.alloc_eq_grow,Go.Sort.grow_grow,Go.Sort.grow_grow]⟩
theorem uk {x y:Pr}:ltOf bH x y=true↔fS x y:=by
 unfold ltOf;rw [decide_eq_true_iff,eX]
theorem xl {x y:Pr}:ltOf bH x y=false↔¬fS x y:=by
 unfold ltOf;rw [decide_eq_false_iff_not,eX]
theorem Ha:Go.Sort.SWO (ltOf bH) where
 irrefl x:=xl.2 (bz x)
 trans x y z h1 h2:=uk.2 (cq (uk.1 h1) (uk.1 h2))
 ntrans x y z h1 h2:=by
  rw [xl] at *
  intro h3;rcases ig x y with h|h|h
  ·exact h1 h
  ·subst h;exact h2 h3
  ·exact h2 (cq h h3)
theorem Ci (x y:Pr) (h1:ltOf bH x y=false) (h2:ltOf bH y x=false):x=y:=by
 unfold ltOf at h1 h2;rw [decide_eq_false_iff_not,eX] at h1 h2;rcases ig x y with h|h|h
 ·exact absurd h h1
 ·exact h
 ·exact absurd h h2
theorem yv {w0:World} {base:Nat} {v:Value} {l:List Pr} (w:World) (hown:OwnRows eh 42 w base v l) (hb:Below base w0 w) (hsz:l.length<4611686018427387904) :
  Calls prog 200 #[v,.func (.func 74) #[] #[]] w fun e w'=>e = .returned (.tuple #[])/\OwnRows eh 42 w' base v (l.mergeSort fun x y=>!decide (bH y x<0))/\Below base w0 w':=by
 rcases Nat.eq_zero_or_pos l.length with h0|h0
 ·obtain ⟨A,cap,rfl,_,_,_,_⟩:=hown.form2;obtain rfl:=List.eq_nil_of_length_eq_zero h0;refine (AnyF.slices_SortFunc_none { sortProcs with } A cap _ w).mono ?_;rintro e w' ⟨rfl,rfl⟩;exact ⟨rfl,by simpa using hown,hb⟩
 ·obtain ⟨g,cap,rfl,hg,hg2,_,_,_,_⟩:=hown.addr h0;have eg:∀args w,(callFunc 74 args).run prog w = .ok (.enter 74 args) w:=enters_of func74 (by kernel_rfl) rfl;have hcmp:CmpLays prog 74 #[] Pr.cells 3 bH g 0 l.toArray.size w:=fun _ _ _ _ x y=>(G9 x y _).mono fun e w' ⟨he,os,hw⟩=>⟨he,0,os,hw⟩;have:=AnyQ.slices_SortFunc_total sortProcs 3 isAgg42 sizeOf42 Pr.cells (fun _=>rfl) (by intro x u hu;simp [Pr.cells] at hu;rcases hu with rfl|rfl|rfl <;> rfl) bH Ha 74 #[] g 0 cap l.toArray w eg hcmp hown.holdsK hg2 hsz Ci;refine Calls.mono this ?_;rintro e w' ⟨rfl,n,os,rfl⟩;exact ⟨rfl,hown.sorted hg2 (by simp) n os,yu hb hg hg2 n _ os⟩
end
theorem wM (A:Option Addr) (cap:Nat) (l:List Pr) (w:World) (hm:l.length<=68719476736) (hr:RowsAt eh w (Lo w.heap.size) A l) :
  Calls prog 113 #[.slice A l.length cap] w (iz eh 42 w (dw l)):=by
 have HR:Hid (RowsAt eh w (ym w (.slice none 0 0)) A l):=Lib.hid (hr.same (fun b hb=>rfl) fun b hb=>⟨hb,fun e=>by cases e⟩);have HN:Hid (OwnRows eh 42 w w.heap.size (.slice none 0 0) []):=Lib.hid (OwnRows.nil _ _ _ _ (Nat.le_refl _));have HL:Hid (dw l=Lib.compact (l.mergeSort fun x y=>!decide (bH y x<0))):=Lib.hid rfl;rw [HL.out];have HM:=Lib.hid hm;clear hr hm HL
 go_enter func113,ntmps113
 go_wp2_with (at_builtin;refine lJ P1 rfl (.const (.slice none 0 0)) (.tmp 4) rfl _ w.heap.size _ [] l l.length rfl A cap rfl HN.out rfl HR.out (by have:=HM.out;simp [maxLen];omega) (by have:=HM.out;simp;omega) ?_;intro v1 w1 hown1 hb1 _;rw [List.nil_append] at hown1;have HOWN1:=Lib.hid hown1;have HB1:=Lib.hid hb1;clear hown1 hb1)
 refine (yv _ HOWN1.out HB1.out (by have:=HM.out;omega)).mono ?_;rintro e w2 ⟨rfl,hown2,hb2⟩;have HOWN2:=Lib.hid hown2;have HB2:=Lib.hid hb2;clear hown2 hb2;go_wp2_with fail
 refine (zQ _ HOWN2.out HB2.out (by rw [List.length_mergeSort];have:=HM.out;omega)).mono ?_;rintro e w3 ⟨v3,rfl,hown3,hb3⟩;have HOWN3:=Lib.hid hown3;have HB3:=Lib.hid hb3;clear hown3 hb3;go_wp2_with fail
 go_ret
 exact ⟨_,rfl,HOWN3.out,HB3.out⟩
def dW (q:Qu):List Pr:=dw (cL q.holds++nu q)
def bV (n:ByteArray):Nat->List Qu->Int
 | _,[]=>-1
 | k,q :: l=>bif q.res.name.toList == n.toList then (k:Int) else bV n (k+1) l
theorem fI (n:ByteArray) (k:Nat) (q:Qu) (l:List Qu):bV n k (q :: l)=bif q.res.name.toList == n.toList then (k:Int) else bV n (k+1) l:=rfl
def iD:List Qu->List Pr
 | []=>[]
 | q :: l=>dW q++iD l
def fq (q:Qu):Prop:=q.holds.length<=8/\q.convs.length<=8/\q.waits.length<=8
theorem nW {q:Qu} (h:fq q):(dW q).length<=24:=by
 unfold dW;have h1:=mJ (cL q.holds++nu q);have h2:(cL q.holds++nu q).length=q.holds.length+(q.convs.length+q.waits.length):=by simp [cL,nu,bR]
 have:=h.1;have:=h.2.1;have:=h.2.2;omega
theorem oS:∀(l:List Qu),(∀q∈l,fq q)->(iD l).length<=l.length*24
 | [],_=>by simp [iD]
 | q :: l,h=>by
  have h1:=oS l fun x hx=>h x (by simp [hx]);have h2:=nW (h q (by simp));simp only [iD,List.length_append,List.length_cons];omega
def aD (l:List Qu):List Pr:=dw (iD l)
structure Nd where
 proc:Pr
 expr:Ex
 gen:Int
def B9 (d:Nat):El Nd where
 n:=9
 pos:=by decide
 rep:=fun w S x cs=>∃A cap,cs=[.int .i64 x.proc.site,.int .i64 x.proc.inc,.int .i64 x.proc.num,.int .i64 x.expr.k,.string x.expr.atom.name,.int .i64 x.expr.atom.am.mode,.int .i64 x.expr.atom.am.units,.slice A x.expr.kids.length cap,.int .i64 x.gen]/\(x.expr.kids.length<=cap/\cap<=maxLen)/\RowsAt (qF d) w S A x.expr.kids
 len:=fun h=>by obtain ⟨A,cap,rfl,_⟩:=h;rfl
 one:=fun h=>by obtain ⟨A,cap,rfl,_⟩:=h;intro u hu;simp at hu;rcases hu with rfl|rfl|rfl|rfl|rfl|rfl|rfl|rfl|rfl <;> rfl
 same:=fun h hk hS=>by
  obtain ⟨A,cap,e,h1,h2⟩:=h;exact ⟨A,cap,e,h1,h2.same hk hS⟩
structure Ws where
 queues:List Qu
 needs:List Nd
def lV (l:List Nd):List Pr:=l.map (·.proc)
def aR (s:Ws):List Pr:=dw (aD s.queues++lV s.needs)
theorem uy {l:List Qu} (h:∀q∈l,fq q):(aD l).length<=l.length*24:=Nat.le_trans (mJ _) (oS l h)
section
open Go.WideShapes Go.ChangeShapes Go.Deep Go.Joins
theorem Reps.map {α:Type} {E E':El α} {w:World} {S:Nat->Prop} (hf:∀x cs,E.rep w S x cs->E'.rep w S x cs):∀{l:List α} {xs:List Value},Reps E w S l xs->Reps E' w S l xs
 | [],_,h=>h
 | _ :: _,_,h=>by
  obtain ⟨cs,rest,rfl,h1,h2⟩:=h;exact ⟨cs,rest,rfl,hf _ _ h1,Reps.map hf h2⟩
theorem RowsAt.map {α:Type} {E E':El α} {w:World} {S:Nat->Prop} {A:Option Addr} {l:List α} (hf:∀x cs,E.rep w S x cs->E'.rep w S x cs) (h:RowsAt E w S A l):RowsAt E' w S A l:=by
 obtain ⟨xs,h1,h2⟩:=h;exact ⟨xs,h1.map hf,h2⟩
theorem Hj:∀{d d':Nat} {w:World} {S:Nat->Prop} {x:Ex} {cs:List Value},d<=d'->(qF d).rep w S x cs->(qF d').rep w S x cs
 | 0,_,_,_,_,_,_,h=>h.elim
 | d+1,0,_,_,_,_,hd,_=>absurd hd (by omega)
 | d+1,d'+1,_,_,_,_,hd,h=>by
  obtain ⟨A,cap,rfl,h1,h2,h3⟩:=h;exact ⟨A,cap,rfl,h1,h2,h3.map fun _ _ hx=>Hj (by omega) hx⟩
section
variable {H:Type} {enc:TypeId×Value->H} {w:World} {base:Nat} {spare:Nat->Bool} {held:Bool}
end
end
def lr:List Nd->Pr->Option Nd
 | [],_=>none
 | x :: l,p=>bif decide (x.proc=p) then some x else lr l p
theorem vt (x:Nd) (l:List Nd) (p:Pr):lr (x :: l) p=bif decide (x.proc=p) then some x else lr l p:=rfl
def ml (n:ByteArray) (p:Pr):List Qu->Bool
 | []=>false
 | q :: l=>bif q.res.name.toList == n.toList then (ah q p).isSome else ml n p l
theorem CU (n:ByteArray) (p:Pr) (q:Qu) (l:List Qu):ml n p (q :: l)=bif q.res.name.toList == n.toList then (ah q p).isSome else ml n p l:=rfl
theorem vu (n:ByteArray) (p:Pr):∀(l:List Qu) (k:Nat),(bV n k l = -1/\ml n p l=false)\/∃i,∃h:i<l.length,bV n k l=((k+i:Nat):Int)/\ml n p l=(ah l[i] p).isSome/\l[i].res.name=n
 | [],_=>.inl ⟨rfl,rfl⟩
 | x :: l,k=>by
  rw [fI,CU];by_cases h:(x.res.name.toList == n.toList)=true
  ·rw [h];exact .inr ⟨0,by simp,rfl,rfl,toList_inj (by simpa using h)⟩
  ·simp only [Bool.not_eq_true] at h;rw [h];rcases vu n p l (k+1) with ⟨h1,h2⟩|⟨i,hi,h1,h2,h3⟩
   ·exact .inl ⟨h1,h2⟩
   ·exact .inr ⟨i+1,by simp;omega,by rw [qCf,h1];congr 1;omega,by rw [qCf,h2];rfl,h3⟩
end Go.Proofs.YtkkbopkbjacfmaaGreatDoor
