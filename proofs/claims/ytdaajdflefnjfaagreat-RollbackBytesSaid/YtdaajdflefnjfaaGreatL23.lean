/- Part 23 of 24 of the proof of rollbackBytes_holds (no condition). -/
import Derived.Test.YtdaajdflefnjfaaGreatL22
import Derived.Test.YtdaajdflefnjfaaGreatL21
import Derived.Lib.SliceRun
import Derived.Laws.BytesString
set_option linter.unusedVariables false
set_option linter.unusedSimpArgs false
set_option maxRecDepth 100000
set_option maxHeartbeats 64000000
namespace Go.Proofs.YtdaajdflefnjfaaGreat
open Go.RowKit Go.Proofs.Tryz
theorem me {α:Type} {E:El α} {w:World} {S:Nat→Prop} {A:Option Addr} {l:List α} (h:RowsAt E w S A l):A=none→l.length=0:=fun e=>by
 obtain ⟨xs,_,h2⟩:=h
 rcases Nat.eq_zero_or_pos l.length with h0|h0
 ·exact h0
 ·obtain ⟨b,off,h3,_⟩:=h2 h0
  rw [e] at h3
  cases h3
abbrev yB (l:List UInt8):V0:=.one (.sl aQ l)
abbrev uV (n:Nat):V0:=.one (.sc (.int .u64 (n:Int)))
theorem ln (l:List UInt8) (v:Nat) (hv:v<18446744073709551616) (hl:l.length≤1000000000) {R:List UInt8} (hR:l++aK v=R):FSpec prog 46 [yB l,uV v] [] [] (.c (.sl aQ R)) []:=by
 subst hR
 exact aS (fun b W=>by kernel_rfl) rfl fun w S ρ vs hS h=>by
  match vs,h with
  | [_,_],⟨⟨A,c,rfl,hc,hr⟩,rfl,_⟩=>exact (lj A c l v w hv (me hr) hc.1 hc.2 (by omega) (hr.lo hS)).mono fun _ _=>ig
theorem jf (l:List UInt8) (v:Nat) (hv:v<18446744073709551616) (hl:l.length≤1000000000) {R:List UInt8} (hR:l++aK v=R):FSpec prog 42 [yB l,uV v] [] [] (.c (.sl aQ R)) []:=by
 subst hR
 exact aS (fun b W=>by kernel_rfl) rfl fun w S ρ vs hS h=>by
  match vs,h with
  | [_,_],⟨⟨A,c,rfl,hc,hr⟩,rfl,_⟩=>exact (gL A c l v w hv (by omega) (hr.lo hS)).mono fun _ _=>ig
theorem FH (l:List UInt8) (p:Pr) (hl:l.length≤1000000000) {R:List UInt8} (hR:l++ml p=R):FSpec prog 45 [yB l,p.a] [] [] (.c (.sl aQ R)) []:=by
 subst hR
 exact aS (fun b W=>by kernel_rfl) rfl fun w S ρ vs hS h=>by
  match vs,h with
  | [_,_],⟨⟨A,c,rfl,hc,hr⟩,h1,_⟩=>rw [Pr.open h1];exact (yy A c l p w (by omega) (hr.lo hS)).mono fun _ _=>ig
theorem CY (l:List UInt8) (p:Pr) (hp:fI p=true) (hl:l.length≤1000000000) {R:List UInt8} (hR:l++ml p=R):FSpec prog 41 [yB l,p.a] [] [] (.c (.sl aQ R)) []:=by
 subst hR
 exact aS (fun b W=>by kernel_rfl) rfl fun w S ρ vs hS h=>by
  match vs,h with
  | [_,_],⟨⟨A,c,rfl,hc,hr⟩,h1,_⟩=>rw [Pr.open h1];exact (wA A c l p w hp (by omega) (hr.lo hS)).mono fun _ _=>ig
theorem FI (l:List UInt8) (s:ByteArray) (hl:l.length≤1000000000) (hs:s.size≤1000000000) {R:List UInt8} (hR:l++aK s.size++s.data.toList=R):FSpec prog 47 [yB l,.one (.sc (.string s))] [] [] (.c (.sl aQ R)) []:=by
 subst hR
 exact aS (fun b W=>by kernel_rfl) rfl fun w S ρ vs hS h=>by
  match vs,h with
  | [_,_],⟨⟨A,c,rfl,hc,hr⟩,rfl,_⟩=>exact (yz A c l s w (me hr) hc.1 hc.2 hl hs (hr.lo hS)).mono fun _ _=>ig
theorem CZ (l:List UInt8) (s:ByteArray) (hl:l.length≤1000000000) (hs:s.size≤1000000000) {R:List UInt8} (hR:l++aK s.size++s.data.toList=R):FSpec prog 43 [yB l,.one (.sc (.string s))] [] [] (.c (.sl aQ R)) []:=by
 subst hR
 exact aS (fun b W=>by kernel_rfl) rfl fun w S ρ vs hS h=>by
  match vs,h with
  | [_,_],⟨⟨A,c,rfl,hc,hr⟩,rfl,_⟩=>exact (wC A c l s w (me hr) hc.1 hc.2 hl hs (hr.lo hS)).mono fun _ _=>ig
def FJ (n k:Nat) (e:Int):TV:=.tup [.one (.sc (.int .u64 (n:Int))),.one (.sc (.int .i64 (k:Int))),.one (.sc (.int .i64 e))]
theorem uS {w w':World} {S:Nat→Prop} {ρ:Nat→Value} {l:List UInt8} {e:Ending} (h:e = .returned (oE l)∧w'=w):∃v,e = .returned v∧Below w.heap.size w w'∧(FJ (aD l).1 (aD l).2.1 (aD l).2.2).rep w' (Gr S w.heap.size w') ρ v :=
 ⟨_,h.1,by rw [h.2];exact Below.refl _ _,_,rfl,rfl,rfl,rfl,trivial⟩
theorem IH (l:List UInt8) (hl:l.length≤1000000000) {n k:Nat} {x:Int} (hx:aD l=(n,k,x)):FSpec prog 91 [yB l] [] [] (FJ n k x) []:=by
 obtain ⟨rfl,rfl,rfl⟩:(aD l).1=n∧(aD l).2.1=k∧(aD l).2.2=x:=by rw [hx];exact ⟨rfl,rfl,rfl⟩
 exact aS (fun b W=>by kernel_rfl) rfl fun w S ρ vs hS h=>by
  match vs,h with
  | [_],⟨⟨A,c,rfl,hc,hr⟩,_⟩=>exact (ta A _ c l w (by omega) (hr.lo hS)).mono fun _ _=>uS
theorem FK (l:List UInt8) (hl:l.length≤1000000000) {n k:Nat} {x:Int} (hx:aD l=(n,k,x)):FSpec prog 94 [yB l] [] [] (FJ n k x) []:=by
 obtain ⟨rfl,rfl,rfl⟩:(aD l).1=n∧(aD l).2.1=k∧(aD l).2.2=x:=by rw [hx];exact ⟨rfl,rfl,rfl⟩
 exact aS (fun b W=>by kernel_rfl) rfl fun w S ρ vs hS h=>by
  match vs,h with
  | [_],⟨⟨A,c,rfl,hc,hr⟩,_⟩=>exact (pP A _ c l w (by omega) (hr.lo hS)).mono fun _ _=>uS
def FL (p:Pr) (k:Nat) (e:Int):TV:=.tup [p.a,.one (.sc (.int .i64 (k:Int))),.one (.sc (.int .i64 e))]
theorem uT {w w':World} {S:Nat→Prop} {ρ:Nat→Value} {x:Pr×Nat×Int} {e:Ending} (h:BB w (fN x) e w'):∃v,e = .returned v∧Below w.heap.size w w'∧(FL x.1 x.2.1 x.2.2).rep w' (Gr S w.heap.size w') ρ v :=
 ⟨_,h.1,h.2,_,rfl,⟨_,rfl,rfl,rfl,rfl,trivial⟩,rfl,rfl,trivial⟩
theorem Lt (l:List UInt8) (hl:l.length≤1000000000) {p:Pr} {k:Nat} {x:Int} (hx:bO l=(p,k,x)):FSpec prog 90 [yB l] [] [] (FL p k x) []:=by
 obtain ⟨rfl,rfl,rfl⟩:(bO l).1=p∧(bO l).2.1=k∧(bO l).2.2=x:=by rw [hx];exact ⟨rfl,rfl,rfl⟩
 exact aS (fun b W=>by kernel_rfl) rfl fun w S ρ vs hS h=>by
  match vs,h with
  | [_],⟨⟨A,c,rfl,hc,hr⟩,_⟩=>exact (FG A c l w hc.1 hc.2 (by omega) (hr.lo hS)).mono fun _ _=>uT
theorem JU (l:List UInt8) (hl:l.length≤1000000000) {p:Pr} {k:Nat} {x:Int} (hx:bO l=(p,k,x)):FSpec prog 93 [yB l] [] [] (FL p k x) []:=by
 obtain ⟨rfl,rfl,rfl⟩:(bO l).1=p∧(bO l).2.1=k∧(bO l).2.2=x:=by rw [hx];exact ⟨rfl,rfl,rfl⟩
 exact aS (fun b W=>by kernel_rfl) rfl fun w S ρ vs hS h=>by
  match vs,h with
  | [_],⟨⟨A,c,rfl,hc,hr⟩,_⟩=>exact (CX A c l w hc.1 hc.2 (by omega) (hr.lo hS)).mono fun _ _=>uT
theorem Ah (A:Option Addr) (cap:Nat) (l:List UInt8) (w:World) (hm:l.length≤1000000000) (hr:RowsAt aQ w (Lo w.heap.size) A l) :
  Calls prog 44 #[.slice A l.length cap] w (jk aQ 5 w l):=by
 have hA:=me hr
 have q:∀(w:World) (a:Option Addr) (n c n' c':Nat),(binOp .eql 56 (.slice a n c) (.slice none n' c')).run prog w = .ok (.bool a.isNone) w:=fun w a n c n' c'=>Lib.run_eql_slice_nil w _ _ a n c n' c' eS.under
 cases A with
 | none =>
  obtain rfl:=List.eq_nil_of_length_eq_zero (hA rfl)
  clear hA hr hm
  go_enter func44,ntmps44
  go_wp2
  go_ret
  exact ⟨_,rfl,OwnRows.nil _ _ _ _ (Nat.le_refl _),Below.refl _ _⟩
 | some a =>
  clear hA
  have hown:OwnRows aQ 5 (w.alloc (.cells #[] 5)) w.heap.size (.slice (some ⟨w.heap.size,0,none⟩) 0 0) []:=⟨by simp,[],World.ownsRow_lit w #[] 0 (Nat.le_refl _) (by simp [maxLen]) rfl,rfl⟩
  have hra:RowsAt aQ (w.alloc (.cells #[] 5)) (qI (w.alloc (.cells #[] 5)) (.slice (some ⟨w.heap.size,0,none⟩) 0 0)) (some a) l:=hr.same (fun b hb=>Below.heap_alloc w _ b hb) fun b hb=>⟨Nat.lt_of_lt_of_le hb (by simp),fun e=>by simp [Value.ownBlock] at e;have:b<w.heap.size:=hb;omega⟩
  have HO:=Lib.hid hown
  have HR:=Lib.hid hra
  have HM:=Lib.hid hm
  clear hown hra hr hm
  go_enter func44,ntmps44
  go_wp2_with (at_builtin;refine uZ eS rfl (.tmp 5) (.tmp 6) rfl _ w.heap.size _ [] l l.length rfl (some a) cap rfl HO.out rfl HR.out (by have:=HM.out;simp [maxLen];omega) (by have:=HM.out;simp;omega) ?_;intro v2 w2 hown2 hb2 hs2;have HO2:=Lib.hid hown2;have HB2:=Lib.hid hb2;clear hown2 hb2 hs2)
  go_ret
  exact ⟨_,rfl,HO2.out,(Below.al (Below.refl _ w) _).trans HB2.out⟩
theorem H6 (l:List UInt8) (hl:l.length≤1000000000):FSpec prog 44 [yB l] [] [] (.c (.sl aQ l)) [] :=
 aS (fun b W=>by kernel_rfl) rfl fun w S ρ vs hS h=>by
  match vs,h with
  | [_],⟨⟨A,c,rfl,hc,hr⟩,_⟩=>exact (Ah A c l w hl (hr.lo hS)).mono fun _ _=>ig
instance:Dp aQ:=ed _ _ _ _ _
instance:ST prog aQ 56 5 1:=⟨eS⟩
def FM (a:Tm):List UInt8:=aK a.name.size++a.name.data.toList++aK a.am.mode.toNat++aK a.am.units.toNat
def ip:List Tm→List UInt8
 | []=>[]
 | a :: l=>FM a++ip l
def lp (o:Opn):List UInt8:=bif mS o then ml o.proc++aK (o.label+1).toNat++aK o.cost.toNat++aK o.lower.length++ip o.lower else []
theorem dm {v:Nat} (h:v<18446744073709551616):(aK v).length≤10:=eG 9 v (by
 have e70:(2:Nat) ^ (7*(9+1))=1180591620717411303424:=by decide
 omega)
theorem td (p:Pr) (h:fI p=true):(ml p).length≤30:=by
 unfold ml
 rw [if_pos h]
 unfold mE
 obtain ⟨a0,a1,b0,b1,c0,c1⟩:=fX.1 h
 have h1:=dm (v:=p.site.toNat) (by omega)
 have h2:=dm (v:=p.inc.toNat) (by omega)
 have h3:=dm (v:=p.num.toNat) (by omega)
 simp
 omega
theorem oK:∀{l:List Tm} {o:Option ByteArray},tG o l=true→∀a∈l,bJ a.name.toList=true∧(a.am=⟨0,0⟩∨aZ a.am=true)
 | [],_,_=>by simp
 | x :: l,o,h=>by
  rw [px] at h
  simp only [Bool.and_eq_true,Bool.or_eq_true] at h
  intro a ha
  rcases List.mem_cons.1 ha with rfl|ha
  ·exact ⟨h.1.1.1,h.1.1.2.imp of_decide_eq_true id⟩
  ·exact oK h.2 a ha
theorem mf {o:Opn} (h:mS o=true):fI o.proc=true∧(o.label = -1∨1≤o.label∧o.label≤99)∧(1≤o.cost∧o.cost≤1073741824)∧o.lower.length≤8∧tG none o.lower=true:=by
 unfold mS at h
 simp only [Bool.and_eq_true,Bool.or_eq_true,decide_eq_true_eq] at h
 exact ⟨h.1.1.1.1.1,h.1.1.1.1.2,⟨h.1.1.1.2,h.1.1.2⟩,h.1.2,h.2⟩
theorem mg {a:Am} (h:a=⟨0,0⟩∨aZ a=true):0≤a.mode∧a.mode≤8∧0≤a.units∧a.units≤8:=by
 rcases h with rfl|h
 ·decide
 ·rcases cw h with ⟨h1,h2⟩|⟨h1,h2,h3⟩
  ·rw [fe] at h1;omega
  ·omega
theorem jM {n:ByteArray} (h:bJ n.toList=true):n.size≤12:=by
 have:n.toList.length=n.size:=j5 n
 unfold bJ at h
 simp only [Bool.and_eq_true,decide_eq_true_eq] at h
 omega
theorem tM (z:Int) (h0:0≤z) (h1:z≤9000000000000000000):IntKind.u64.wrap z=((z.toNat:Nat):Int):=by
 rw [Int.toNat_of_nonneg h0]
 exact IntWalk.u64_in _ (by omega)
theorem Lu (b:List UInt8) (o:Opn) (hb:b.length≤100000000) {R:List UInt8} (hR:b++lp o=R):FSpec prog 16 [yB b,o.a] [] [] (.c (.sl aQ R)) []:=by
 refine aX func16 ?_
 have kC:=H6 b (by omega)
 obtain ⟨v,hv⟩:∃v,mS o=v:=⟨_,rfl⟩
 have kV:=qY o hv
 unfold lp at hR
 rw [hv] at hR
 cases v with
 | false =>
  obtain rfl:R=b:=by rw [←hR];simp
  repeat' (first
   | refine ah ?_ ?_
   | (refine aa 9 rfl ?_;first
    | (refine cC [] (kC) ?_)
    | (refine cB [] (kV) ?_))
   | refine af ?_
   | exact ai|refine ae fun hb=>?_
   | (refine aE (qf []) ?_;exact ab))
 | true =>
  obtain ⟨p1,p2,p3,p4,p5⟩:=mf hv
  have hatm:=oK p5
  clear p5
  rw [cond_true] at hR
  have hw1:=tM (o.label+1) (by omega) (by omega)
  have hw2:=tM o.cost (by omega) (by omega)
  have hw3:=tM (o.lower.length:Int) (by omega) (by omega)
  have e3:((o.lower.length:Int)).toNat=o.lower.length:=by omega
  rw [e3] at hw3
  obtain ⟨n1,hn1⟩:∃n,(o.label+1).toNat=n:=⟨_,rfl⟩
  obtain ⟨n2,hn2⟩:∃n,o.cost.toNat=n:=⟨_,rfl⟩
  have l1:n1≤100:=by omega
  have l2:n2≤1073741824:=by omega
  rw [hn1] at hw1 hR
  rw [hn2] at hw2 hR
  obtain ⟨B1,hB1⟩:∃B,b++ml o.proc=B:=⟨_,rfl⟩
  have q1:B1.length≤100000100:=by
   rw [←hB1]
   have:=td o.proc p1
   simp;omega
  obtain ⟨B2,hB2⟩:∃B,B1++aK n1=B:=⟨_,rfl⟩
  have q2:B2.length≤100000110:=by rw [←hB2];have:=dm (v:=n1) (by omega);simp;omega
  obtain ⟨B3,hB3⟩:∃B,B2++aK n2=B:=⟨_,rfl⟩
  have q3:B3.length≤100000120:=by rw [←hB3];have:=dm (v:=n2) (by omega);simp;omega
  obtain ⟨B4,hB4⟩:∃B,B3++aK o.lower.length=B:=⟨_,rfl⟩
  have q4:B4.length≤100000130:=by rw [←hB4];have:=dm (v:=o.lower.length) (by omega);simp;omega
  have k1:=FH b o.proc (by omega) hB1
  have k2:=ln B1 n1 (by omega) (by omega) hB2
  have k3:=ln B2 n2 (by omega) (by omega) hB3
  have k4:=ln B3 o.lower.length (by omega) (by omega) hB4
  have hR4:B4++ip o.lower=R:=by rw [←hR,←hB4,←hB3,←hB2,←hB1];simp only [List.append_assoc]
  clear hR hB1 hB2 hB3 hB4 hn1 hn2
  repeat' (first
   | refine ah ?_ ?_
   | (refine aa 0 rfl ?_;first|refine sx (bt rfl underlying3 underlying96 rfl hw1) ?_|refine sx (bt rfl underlying3 underlying96 rfl hw2) ?_|refine sx (bt rfl underlying3 underlying96 rfl hw3) ?_)
   | (refine aa 9 rfl ?_;first
    | (refine cC [] (kC) ?_)
    | (refine cB [] (kV) ?_)
    | (refine cC [] (k1) ?_)
    | (refine cC [] (k2) ?_)
    | (refine cC [] (k3) ?_)
    | (refine cC [] (k4) ?_))
   | refine af ?_
   | exact ai|refine ae fun hb=>?_)
  refine ak (fun y:Nat×List UInt8=>y.1≤o.lower.length∧y.2.length≤100000130+50*y.1∧y.2++ip (o.lower.drop y.1)=R) (fun y=>bH [] [(0,.c (.sl aQ y.2)),(35,.c (.sl cr o.lower)),(36,.i o.lower.length),(37,.i y.1)] []) (fun y=>o.lower.length-y.1) (0,B4) ⟨Nat.zero_le _,by dsimp only;omega,hR4⟩ (by exact ao (qf [])) ?_
  clear hR4 k1 k2 k3 k4 kV kC hw1 hw2 hw3 hb
  rintro ⟨i,B⟩ ⟨hi,hBl,hs⟩
  dsimp only at *
  by_cases hlt:i<o.lower.length
  ·obtain ⟨a,ha⟩:∃a,o.lower[i]? = some a:=⟨_,List.getElem?_eq_getElem hlt⟩
   have ea:o.lower[i]=a:=(List.getElem?_eq_some_iff.1 ha).2
   obtain ⟨z1,z2⟩:=hatm a (ea▸List.getElem_mem hlt)
   have z3:=jM z1
   obtain ⟨m0,m1,m2,m3⟩:=mg z2
   rw [List.drop_eq_getElem_cons hlt,ea] at hs
   have hs:B++(aK a.name.size++a.name.data.toList++aK a.am.mode.toNat++aK a.am.units.toNat++ip (o.lower.drop (i+1)))=R:=hs
   have hw1:=tM a.am.mode m0 (by omega)
   have hw2:=tM a.am.units m2 (by omega)
   obtain ⟨n1,hn1⟩:∃n,a.am.mode.toNat=n:=⟨_,rfl⟩
   obtain ⟨n2,hn2⟩:∃n,a.am.units.toNat=n:=⟨_,rfl⟩
   have l1:n1≤8:=by omega
   have l2:n2≤8:=by omega
   rw [hn1] at hw1 hs
   rw [hn2] at hw2 hs
   obtain ⟨B1,hB1⟩:∃X,B++aK a.name.size++a.name.data.toList=X:=⟨_,rfl⟩
   have q1:B1.length≤100000130+50*i+22:=by rw [←hB1];have:=dm (v:=a.name.size) (by omega);have h9:a.name.data.toList.length=a.name.size:=(by simp);simp only [List.length_append];omega
   obtain ⟨B2,hB2⟩:∃X,B1++aK n1=X:=⟨_,rfl⟩
   have q2:B2.length≤100000130+50*i+32:=by rw [←hB2];have:=dm (v:=n1) (by omega);simp;omega
   obtain ⟨B3,hB3⟩:∃X,B2++aK n2=X:=⟨_,rfl⟩
   have q3:B3.length≤100000130+50*i+42:=by rw [←hB3];have:=dm (v:=n2) (by omega);simp;omega
   have k1:=FI B a.name (by omega) (by omega) hB1
   have k2:=ln B1 n1 (by omega) (by omega) hB2
   have k3:=ln B2 n2 (by omega) (by omega) hB3
   have hs3:B3++ip (o.lower.drop (i+1))=R:=by rw [←hs,←hB3,←hB2,←hB1];simp only [List.append_assoc]
   clear hs hB1 hB2 hB3 hn1 hn2
   repeat' (first
    | refine ah ?_ ?_
    | (refine aa 0 rfl ?_;first|refine sx (bt rfl underlying3 underlying96 rfl hw1) ?_|refine sx (bt rfl underlying3 underlying96 rfl hw2) ?_)
    | (refine aa 9 rfl ?_;first
     | (refine cC [] (k1) ?_)
     | (refine cC [] (k2) ?_)
     | (refine cC [] (k3) ?_))
    | refine af ?_
    | exact ai|refine ae fun hb=>?_)
   refine ⟨(i+1,B3),⟨by dsimp only;omega,by dsimp only;omega,hs3⟩,by dsimp only;omega,?_⟩
   exact ao (qf [])
  ·rw [List.drop_eq_nil_of_le (by omega)] at hs
   obtain rfl:B=R:=by rw [←hs];simp [ip]
   repeat' (first
    | refine ah ?_ ?_
    | refine af ?_
    | exact ai|refine ae fun hb=>?_
    | (refine aE (qf []) ?_;exact ab))
def oL (l:List UInt8):ByteArray:=⟨l.toArray⟩
theorem yC:∀(l:List UInt8) (s:ByteArray),((l.map fun c=>(c.toNat:Int)).foldl (fun r n=>r.push (UInt8.ofNat n.toNat)) s)=⟨s.data++l.toArray⟩
 | [],s=>by simp
 | c :: l,s=>by
  show ((l.map fun c=>(c.toNat:Int)).foldl (fun r n=>r.push (UInt8.ofNat n.toNat)) (s.push (UInt8.ofNat ((c.toNat:Int)).toNat)))=_
  rw [yC l]
  have e:UInt8.ofNat ((c.toNat:Int)).toNat=c:=by simp
  rw [e]
  obtain ⟨d⟩:=s
  show (⟨d.push c++l.toArray⟩:ByteArray)=⟨d++(c :: l).toArray⟩
  congr 1
  apply Array.ext'
  simp
theorem te:∀l:List UInt8,(l.map fun c=>[Value.int .u8 (c.toNat:Int)]).flatten=(l.map fun c=>(c.toNat:Int)).map (Value.int .u8)
 | []=>rfl
 | c :: l=>by rw [List.map_cons,List.flatten_cons,te l];rfl
theorem q7 {P:Program} {o:Oper} {s:Mst} {src dst e:TypeId} {x:Operand} {l:List UInt8} (ho:o.op = .convert src dst x) (hs:P.underlying src=some (.slice e)) (he:P.underlying e=some (.int .u8)) (hd:P.underlying dst=some .string) (hx:s.ev x = .c (.sl aQ l)) {r:ByteArray} (hr0:oL l=r):LOp P o s [] ⟨.c (.sc (.string r)),[],[]⟩ :=
 bc fun c st ρ a w hr h1 _=>by
  subst hr0
  have e1:=h1 x (by simp [ho,Op.operands])
  have hv:=hr.ev x
  rw [e1,hx] at hv
  obtain ⟨A,cap,hv,hcap,xs,hx1,hx2⟩:=hv
  refine ⟨.string (oL l),?_,rfl,fun k hk=>by simp [TV.has,V0.has,D.has] at hk⟩
  have hrun:(Conv.bytesToString (.slice A l.length cap)).run P w = .ok (.string (oL l)) w:=by
   rcases Nat.eq_zero_or_pos l.length with h0|h0
   ·obtain rfl:=List.eq_nil_of_length_eq_zero h0
    cases A with
    | none=>rfl
    | some a =>
     have:=run_bytesToString (P:=P) w a 0 cap [] (by
      have hc:=run_firstCells_some (P:=P) w 1 0 a 0 cap [] rfl (fun j v h=>by simp at h)
      exact hc)
     exact this
   ·obtain ⟨b,off,rfl,_,hcell⟩:=hx2 h0
    have hxs:=Reps.plain hx1
    have hxs2:xs=(l.map fun c=>(c.toNat:Int)).map (Value.int .u8):=by
     rw [hxs,←te]
    have hc:=run_firstCells_some (P:=P) w 1 l.length ⟨b,off,none⟩ l.length cap xs (by rw [hxs2];simp) (fun j v h=>by rw [dt];exact hcell j v h)
    have hc2:(loadCells ⟨b,off,none⟩ l.length).run P w = .ok ((l.map fun c=>(c.toNat:Int)).map (Value.int .u8)).toArray w:=by
     rw [←hxs2]
     have:(loadCells ⟨b,off,none⟩ (l.length*1)).run P w = .ok xs.toArray w:=hc
     rwa [Nat.mul_one] at this
    rw [run_bytesToString w _ _ _ _ hc2,yC]
    show _=Result.ok (Value.string ⟨l.toArray⟩) w
    congr 2
    show (⟨#[]++l.toArray⟩:ByteArray)=_
    congr 1
    simp
  unfold execOp
  rw [ho]
  simp only [hv,Sem.run_bind,run_convert_bytes_string w src dst e A l.length cap hs he hd,hrun,Result.andThen_ok,Sem.run_pure]
def dA (l:List UInt8):ByteArray×Nat×Int:=bif !decide ((aD l).2.2=0) then (.empty,0,(aD l).2.2) else bif decide (1024<(aD l).1) then (.empty,0,3) else bif decide (l.length<(aD l).2.1+(aD l).1) then (.empty,0,5) else (oL ((l.drop (aD l).2.1).take (aD l).1),(aD l).2.1+(aD l).1,0)
def II (t:ByteArray) (k:Nat) (e:Int):TV:=.tup [.one (.sc (.string t)),.one (.sc (.int .i64 (k:Int))),.one (.sc (.int .i64 e))]
theorem bI {α β γ:Type} {a a':α} {b b':β} {c c':γ} (h:(a,b,c)=(a',b',c')):a=a'∧b=b'∧c=c':=by injection h with h1 h2;injection h2 with h2 h3;exact ⟨h1,h2,h3⟩
theorem Lv (l:List UInt8) (hl:l.length≤1000000000) {T:ByteArray} {K:Nat} {E:Int} (hX:dA l=(T,K,E)):FSpec prog 92 [yB l] [] [] (II T K E) []:=by
 refine aX func92 ?_
 have xI:=bi l
 unfold dA at hX
 obtain ⟨⟨n,k,e⟩,hu⟩:∃x,aD l=x:=⟨_,rfl⟩
 have kU:=IH l hl hu
 rw [hu] at hX xI
 dsimp only at hX xI
 obtain ⟨b1,b2,b3⟩:=xI
 by_cases he:e=0
 case neg =>
  rw [decide_eq_false he] at hX
  obtain ⟨rfl,rfl,rfl⟩:=bI hX
  repeat' (first
   | refine ah ?_ ?_
   | refine aa 9 rfl (cB [] (kU) ?_)
   | refine af ?_
   | exact ai|(refine ae fun hb=>?_;first|(exact absurd hb he)|skip)
   | (refine eR (qf []) ?_;exact ab))
 subst he
 obtain ⟨b4,b5,b6⟩:=b2 rfl
 rw [decide_eq_true rfl] at hX
 by_cases h1:1024<n
 ·rw [decide_eq_true h1] at hX
  obtain ⟨rfl,rfl,rfl⟩:=bI hX
  repeat' (first
   | refine ah ?_ ?_
   | refine aa 9 rfl (cB [] (kU) ?_)
   | refine af ?_
   | exact ai|refine ae fun hb=>?_
   | (refine eR (qf []) ?_;exact ab))
 rw [decide_eq_false h1] at hX
 have hcv:IntKind.i64.wrap (n:Int)=(n:Int):=IntWalk.i64_in _ (by omega)
 by_cases h2:l.length<k+n
 ·rw [decide_eq_true h2] at hX
  obtain ⟨rfl,rfl,rfl⟩:=bI hX
  repeat' (first
   | refine ah ?_ ?_
   | (refine aa 0 rfl ?_;refine sx (bt rfl underlying96 underlying3 rfl hcv) ?_)
   | refine aa 9 rfl (cB [] (kU) ?_)
   | refine af ?_
   | exact ai|refine ae fun hb=>?_
   | (refine eR (qf []) ?_;exact ab))
 rw [decide_eq_false h2] at hX
 obtain ⟨L',hL'⟩:∃L',(l.take (k+n)).drop k=L':=⟨_,rfl⟩
 have hL2:(l.drop k).take n=L':=by rw [←hL',List.drop_take];congr 1;omega
 rw [hL2] at hX
 obtain ⟨S,hS⟩:∃S,oL L'=S:=⟨_,rfl⟩
 rw [hS] at hX
 obtain ⟨rfl,rfl,rfl⟩:=bI hX
 repeat' (first
  | refine ah ?_ ?_
  | (refine aa 0 rfl ?_;first|refine sx (q7 rfl underlying56 underlying5 underlying9 rfl hS) ?_|refine sx (bt rfl underlying96 underlying3 rfl hcv) ?_)
  | refine aa 9 rfl (cB [] (kU) ?_)
  | (refine aa 14 rfl ?_;refine sx (lG (lo:=k) (hi:=k+n) rfl rfl rfl (.inl ⟨_,rfl,rfl⟩) (.inl ⟨_,rfl,rfl⟩) (by omega) (by omega) hL') ?_)
  | refine af ?_
  | exact ai|refine ae fun hb=>?_
  | (refine eR (qf []) ?_;exact ab))
theorem Lw (l:List UInt8) (hl:l.length≤1000000000) {T:ByteArray} {K:Nat} {E:Int} (hX:dA l=(T,K,E)):FSpec prog 124 [yB l] [] [] (II T K E) []:=by
 refine aX func124 ?_
 have xI:=bi l
 unfold dA at hX
 obtain ⟨⟨n,k,e⟩,hu⟩:∃x,aD l=x:=⟨_,rfl⟩
 have kU:=FK l hl hu
 rw [hu] at hX xI
 dsimp only at hX xI
 obtain ⟨b1,b2,b3⟩:=xI
 by_cases he:e=0
 case neg =>
  rw [decide_eq_false he] at hX
  obtain ⟨rfl,rfl,rfl⟩:=bI hX
  repeat' (first
   | refine ah ?_ ?_
   | refine aa 9 rfl (cB [] (kU) ?_)
   | refine af ?_
   | exact ai|(refine ae fun hb=>?_;first|(exact absurd hb he)|skip)
   | (refine eR (qf []) ?_;exact ab))
 subst he
 obtain ⟨b4,b5,b6⟩:=b2 rfl
 rw [decide_eq_true rfl] at hX
 by_cases h1:1024<n
 ·rw [decide_eq_true h1] at hX
  obtain ⟨rfl,rfl,rfl⟩:=bI hX
  repeat' (first
   | refine ah ?_ ?_
   | refine aa 9 rfl (cB [] (kU) ?_)
   | refine af ?_
   | exact ai|refine ae fun hb=>?_
   | (refine eR (qf []) ?_;exact ab))
 rw [decide_eq_false h1] at hX
 have hcv:IntKind.i64.wrap (n:Int)=(n:Int):=IntWalk.i64_in _ (by omega)
 by_cases h2:l.length<k+n
 ·rw [decide_eq_true h2] at hX
  obtain ⟨rfl,rfl,rfl⟩:=bI hX
  repeat' (first
   | refine ah ?_ ?_
   | (refine aa 0 rfl ?_;refine sx (bt rfl underlying96 underlying3 rfl hcv) ?_)
   | refine aa 9 rfl (cB [] (kU) ?_)
   | refine af ?_
   | exact ai|refine ae fun hb=>?_
   | (refine eR (qf []) ?_;exact ab))
 rw [decide_eq_false h2] at hX
 obtain ⟨L',hL'⟩:∃L',(l.take (k+n)).drop k=L':=⟨_,rfl⟩
 have hL2:(l.drop k).take n=L':=by rw [←hL',List.drop_take];congr 1;omega
 rw [hL2] at hX
 obtain ⟨S,hS⟩:∃S,oL L'=S:=⟨_,rfl⟩
 rw [hS] at hX
 obtain ⟨rfl,rfl,rfl⟩:=bI hX
 repeat' (first
  | refine ah ?_ ?_
  | (refine aa 0 rfl ?_;first|refine sx (q7 rfl underlying56 underlying5 underlying9 rfl hS) ?_|refine sx (bt rfl underlying96 underlying3 rfl hcv) ?_)
  | refine aa 9 rfl (cB [] (kU) ?_)
  | (refine aa 14 rfl ?_;refine sx (lG (lo:=k) (hi:=k+n) rfl rfl rfl (.inl ⟨_,rfl,rfl⟩) (.inl ⟨_,rfl,rfl⟩) (by omega) (by omega) hL') ?_)
  | refine af ?_
  | exact ai|refine ae fun hb=>?_
  | (refine eR (qf []) ?_;exact ab))
def Bu (l:List UInt8) (limit over:Int):Int:=bif decide ((aD l).2.2=0) && decide (limit<((aD l).1:Int)) then over else (aD l).2.2
def ir (all:List UInt8) (at_:Nat) (err limit over:Int):Int×Nat×Int:=bif !decide (err=0) then (0,at_,err) else bif !decide (Bu (all.drop at_) limit over=0) then (0,at_,Bu (all.drop at_) limit over) else (((aD (all.drop at_)).1:Int),at_+(aD (all.drop at_)).2.1,0)
def uU (all:List UInt8) (at_:Nat) (err:Int):ByteArray×Nat×Int:=bif !decide (err=0) then (.empty,at_,err) else ((dA (all.drop at_)).1,at_+(dA (all.drop at_)).2.1,(dA (all.drop at_)).2.2)
theorem iP {all:List UInt8} {at_:Nat} {err limit over v e:Int} {k:Nat} (h:ir all at_ err limit over=(v,k,e)) (ha:at_≤all.length) (ho:over≠0):k≤all.length∧(err≠0→e≠0)∧(0≤limit→0≤v∧v≤limit):=by
 unfold ir at h
 by_cases he:err=0
 ·rw [decide_eq_true he] at h
  by_cases h1:Bu (all.drop at_) limit over=0
  ·rw [decide_eq_true h1] at h
   obtain ⟨rfl,rfl,rfl⟩:=bI h
   have h2:(aD (all.drop at_)).2.2=0∧¬limit<((aD (all.drop at_)).1:Int):=by
    unfold Bu at h1
    by_cases h3:(aD (all.drop at_)).2.2=0
    ·refine ⟨h3,fun h4=>?_⟩
     rw [decide_eq_true h3,decide_eq_true h4] at h1
     exact ho h1
    ·rw [decide_eq_false h3] at h1
     exact absurd h1 h3
   have hb:=(bi (all.drop at_)).2.1 h2.1
   rw [List.length_drop] at hb
   exact ⟨by omega,fun h=>absurd he h,fun h0=>⟨by omega,by omega⟩⟩
  ·rw [decide_eq_false h1] at h
   obtain ⟨rfl,rfl,rfl⟩:=bI h
   exact ⟨ha,fun h=>absurd he h,fun h0=>⟨Int.le_refl _,h0⟩⟩
 ·rw [decide_eq_false he] at h
  obtain ⟨rfl,rfl,rfl⟩:=bI h
  exact ⟨ha,fun h=>h,fun h0=>⟨Int.le_refl _,h0⟩⟩
abbrev JV (all:List UInt8) (at_:Nat) (err:Int):Box:=.box 101 [.sl aQ all,.sc (.int .i64 (at_:Int)),.sc (.int .i64 err)]
theorem oM (all:List UInt8) (at_:Nat) (err limit over:Int) (hl:all.length≤1000000000) (ha:at_≤all.length) (h0:0≤limit) (h1:limit≤1073741824) (ho:over≠0) {v e:Int} {k:Nat} (hR:ir all at_ err limit over=(v,k,e)):FSpec prog 49 [.one (.ptr 0 0),.one (.sc (.int .i64 limit)),.one (.sc (.int .i64 over))] [(0,JV all at_ err)] [] (.c (.sc (.int .i64 v))) [(0,some (JV all k e))]:=by
 refine aX func49 ?_
 unfold ir at hR
 by_cases he:err=0
 case neg =>
  rw [decide_eq_false he] at hR
  obtain ⟨rfl,rfl,rfl⟩:=bI hR
  repeat' (first
   | refine ah ?_ ?_
   | refine af ?_
   | exact ai|(refine ae fun hb=>?_;first|(exact absurd hb he)|skip)
   | (refine aE (qf []) ?_;exact ab))
 subst he
 rw [decide_eq_true rfl] at hR
 have hR:(bif !decide (Bu (all.drop at_) limit over=0) then (0,at_,Bu (all.drop at_) limit over) else (((aD (all.drop at_)).1:Int),at_+(aD (all.drop at_)).2.1,0))=(v,k,e):=hR
 obtain ⟨D',hD'⟩:∃D',all.drop at_=D':=⟨_,rfl⟩
 have hD2:all.drop ((at_:Int)).toNat=D':=by rw [Int.toNat_natCast];exact hD'
 have hDl:D'.length=all.length-at_:=by rw [←hD'];simp
 rw [hD'] at hR
 have xI:=bi D'
 unfold Bu at hR
 obtain ⟨⟨n,m,x⟩,hu⟩:∃x,aD D'=x:=⟨_,rfl⟩
 have kU:=IH D' (by omega) hu
 rw [hu] at hR xI
 dsimp only at hR xI
 obtain ⟨b1,b2,b3⟩:=xI
 have hw:IntKind.u64.wrap limit=limit:=IntWalk.u64_in _ (by omega)
 by_cases hx:x=0
 case neg =>
  rw [decide_eq_false hx] at hR
  have hR:(bif !decide (x=0) then (0,at_,x) else ((n:Int),at_+m,0))=(v,k,e):=hR
  rw [decide_eq_false hx] at hR
  obtain ⟨rfl,rfl,rfl⟩:=bI hR
  repeat' (first
   | refine ah ?_ ?_
   | (refine aa 0 rfl ?_;refine sx (bt rfl underlying3 underlying96 rfl hw) ?_)
   | refine aa 9 rfl (cB [] (kU) ?_)
   | (refine aa 14 rfl ?_;refine sx (bg (z:=(at_:Int)) rfl rfl rfl rfl (by omega) (by omega) hD2) ?_)
   | refine af ?_
   | exact ai|(refine ae fun hb=>?_;first|(exact absurd hb hx)|(exact absurd rfl hb)|skip)
   | (refine aE (qf []) ?_;exact ab))
 subst hx
 obtain ⟨c1,c2,c3⟩:=b2 rfl
 by_cases hlt:limit<(n:Int)
 ·rw [decide_eq_true hlt] at hR
  have hR:(bif !decide (over=0) then (0,at_,over) else ((n:Int),at_+m,0))=(v,k,e):=hR
  rw [decide_eq_false ho] at hR
  obtain ⟨rfl,rfl,rfl⟩:=bI hR
  repeat' (first
   | refine ah ?_ ?_
   | (refine aa 0 rfl ?_;refine sx (bt rfl underlying3 underlying96 rfl hw) ?_)
   | refine aa 9 rfl (cB [] (kU) ?_)
   | (refine aa 14 rfl ?_;refine sx (bg (z:=(at_:Int)) rfl rfl rfl rfl (by omega) (by omega) hD2) ?_)
   | refine af ?_
   | exact ai|(refine ae fun hb=>?_;first|(exact absurd hb ho)|skip)
   | (refine aE (qf []) ?_;exact ab))
 ·rw [decide_eq_false hlt] at hR
  have hR:((n:Int),at_+m,(0:Int))=(v,k,e):=hR
  obtain ⟨rfl,rfl,rfl⟩:=bI hR
  have hcv:IntKind.i64.wrap (n:Int)=(n:Int):=IntWalk.i64_in _ (by omega)
  repeat' (first
   | refine ah ?_ ?_
   | (refine aa 0 rfl ?_;first|refine sx (bt rfl underlying3 underlying96 rfl hw) ?_|refine sx (bt rfl underlying96 underlying3 rfl hcv) ?_)
   | refine aa 9 rfl (cB [] (kU) ?_)
   | (refine aa 14 rfl ?_;refine sx (bg (z:=(at_:Int)) rfl rfl rfl rfl (by omega) (by omega) hD2) ?_)
   | refine af ?_
   | exact ai|refine ae fun hb=>?_
   | (refine aE (qf []) ?_;exact ab))
theorem Lx (all:List UInt8) (at_:Nat) (err:Int) (hl:all.length≤1000000000) (ha:at_≤all.length) {t:ByteArray} {e:Int} {k:Nat} (hR:uU all at_ err=(t,k,e)) (hk:k≤all.length):FSpec prog 50 [.one (.ptr 0 0)] [(0,JV all at_ err)] [] (.c (.sc (.string t))) [(0,some (JV all k e))]:=by
 refine aX func50 ?_
 unfold uU at hR
 by_cases he:err=0
 case neg =>
  rw [decide_eq_false he] at hR
  obtain ⟨rfl,rfl,rfl⟩:=bI hR
  repeat' (first
   | refine ah ?_ ?_
   | refine af ?_
   | exact ai|(refine ae fun hb=>?_;first|(exact absurd hb he)|skip)
   | (refine aE (qf []) ?_;exact ab))
 subst he
 rw [decide_eq_true rfl] at hR
 obtain ⟨D',hD'⟩:∃D',all.drop at_=D':=⟨_,rfl⟩
 have hD2:all.drop ((at_:Int)).toNat=D':=by rw [Int.toNat_natCast];exact hD'
 have hDl:D'.length=all.length-at_:=by rw [←hD'];simp
 rw [hD'] at hR
 obtain ⟨⟨n,m,x⟩,hu⟩:∃x,dA D'=x:=⟨_,rfl⟩
 have kU:=Lv D' (by omega) hu
 rw [hu] at hR
 have hR:(n,at_+m,x)=(t,k,e):=hR
 obtain ⟨rfl,rfl,rfl⟩:=bI hR
 repeat' (first
  | refine ah ?_ ?_
  | refine aa 9 rfl (cB [] (kU) ?_)
  | (refine aa 14 rfl ?_;refine sx (bg (z:=(at_:Int)) rfl rfl rfl rfl (by omega) (by omega) hD2) ?_)
  | refine af ?_
  | exact ai|refine ae fun hb=>?_
  | (refine aE (qf []) ?_;exact ab))
theorem Ly (all:List UInt8) (at_:Nat) (err:Int) (hl:all.length≤1000000000) (ha:at_≤all.length) {p:Pr} {e:Int} {m:Nat} (hR:bO (all.drop at_)=(p,m,e)) (hk:at_+m≤all.length):FSpec prog 48 [.one (.ptr 0 0)] [(0,JV all at_ err)] [] (.v p.a) [(0,some (JV all (at_+m) e))]:=by
 refine aX func48 ?_
 obtain ⟨D',hD'⟩:∃D',all.drop at_=D':=⟨_,rfl⟩
 have hD2:all.drop ((at_:Int)).toNat=D':=by rw [Int.toNat_natCast];exact hD'
 have hDl:D'.length=all.length-at_:=by rw [←hD'];simp
 rw [hD'] at hR
 have kP:=Lt D' (by omega) hR
 repeat' (first
  | refine ah ?_ ?_
  | refine aa 9 rfl (cB [] (kP) ?_)
  | (refine aa 14 rfl ?_;refine sx (bg (z:=(at_:Int)) rfl rfl rfl rfl (by omega) (by omega) hD2) ?_)
  | refine af ?_
  | exact ai|refine ae fun hb=>?_
  | (refine aE (qf []) ?_;exact ab))
def fG (all:List UInt8) (s:Nat×Int):Tm×Nat×Int :=
 let t:=uU all s.1 s.2
 let m:=ir all t.2.1 t.2.2 1073741824 16
 let u:=ir all m.2.1 m.2.2 1073741824 16
 (⟨t.1,⟨m.1,u.1⟩⟩,u.2.1,u.2.2)
def jN (all:List UInt8):Nat→Nat×Int→List Tm→List Tm×Nat×Int
 | 0,s,acc=>(acc,s.1,s.2)
 | n+1,s,acc=>bif decide (s.2=0) then jN all n (fG all s).2 (acc++[(fG all s).1]) else (acc,s.1,s.2)
def FN:Opn:=⟨⟨0,0,0⟩,0,0,[]⟩
def oN (o:Opn) (k:Nat) (e:Int):Opn×Nat×Int:=bif decide (e=0) && mS o then (o,k,0) else (FN,0,bif decide (e=0) then 2 else e)
def jg (all:List UInt8):Opn×Nat×Int :=
 let p:=bO all
 let a:=ir all p.2.1 p.2.2 1073741824 16
 let c:=ir all a.2.1 a.2.2 1073741824 16
 let n:=ir all c.2.1 c.2.2 8 4
 let g:=jN all n.1.toNat n.2 []
 oN ⟨p.1,a.1-1,c.1,g.1⟩ g.2.1 g.2.2
def IJ (o:Opn) (k:Nat) (e:Int):TV:=.tup [o.a,.one (.sc (.int .i64 (k:Int))),.one (.sc (.int .i64 e))]
theorem FP (l:List UInt8):(dA l).2.1≤l.length:=by
 unfold dA
 by_cases h1:(aD l).2.2=0
 ·rw [decide_eq_true h1]
  by_cases h2:1024<(aD l).1
  ·rw [decide_eq_true h2];exact Nat.zero_le _
  ·rw [decide_eq_false h2]
   by_cases h3:l.length<(aD l).2.1+(aD l).1
   ·rw [decide_eq_true h3];exact Nat.zero_le _
   ·rw [decide_eq_false h3]
    show (aD l).2.1+(aD l).1≤_
    omega
 ·rw [decide_eq_false h1];exact Nat.zero_le _
theorem FQ {all:List UInt8} {at_:Nat} {err:Int} (ha:at_≤all.length):(uU all at_ err).2.1≤all.length:=by
 unfold uU
 cases decide (err=0) with
 | false=>exact ha
 | true =>
  have:=FP (all.drop at_)
  rw [List.length_drop] at this
  show at_+(dA (all.drop at_)).2.1≤_
  omega
theorem Bv (all:List UInt8) (hl:all.length≤1000000000) (hp8:(bO all).2.1≤all.length) {o:Opn} {k:Nat} {e:Int} (hR:jg all=(o,k,e)):FSpec prog 17 [yB all] [] [] (IJ o k e) []:=by
 refine aX func17 ?_
 unfold jg at hR
 obtain ⟨⟨p,k0,e0⟩,hp⟩:∃x,bO all=x:=⟨_,rfl⟩
 rw [hp] at hR hp8
 dsimp only at hR hp8
 have kP:=Ly all 0 0 hl (Nat.zero_le _) hp (by omega)
 rw [Nat.zero_add] at kP
 obtain ⟨⟨v1,k1,e1⟩,h1⟩:∃x,ir all k0 e0 1073741824 16=x:=⟨_,rfl⟩
 have kA:=oM all k0 e0 1073741824 16 hl hp8 (by omega) (by omega) (by omega) h1
 obtain ⟨a1,_,a2⟩:=iP h1 hp8 (by omega)
 rw [h1] at hR
 dsimp only at hR
 obtain ⟨⟨v2,k2,e2⟩,h2⟩:∃x,ir all k1 e1 1073741824 16=x:=⟨_,rfl⟩
 have kB:=oM all k1 e1 1073741824 16 hl a1 (by omega) (by omega) (by omega) h2
 obtain ⟨b1,_,b2⟩:=iP h2 a1 (by omega)
 rw [h2] at hR
 dsimp only at hR
 obtain ⟨⟨v3,k3,e3⟩,h3⟩:∃x,ir all k2 e2 8 4=x:=⟨_,rfl⟩
 have kC:=oM all k2 e2 8 4 hl b1 (by omega) (by omega) (by omega) h3
 obtain ⟨c1,_,c2⟩:=iP h3 b1 (by omega)
 rw [h3] at hR
 dsimp only at hR
 obtain ⟨n,rfl⟩:∃n:Nat,v3=n:=⟨v3.toNat,(Int.toNat_of_nonneg (c2 (by omega)).1).symm⟩
 have hn8:n≤8:=by have:=(c2 (by omega)).2;omega
 have ha2:=a2 (by omega)
 rw [Int.toNat_natCast] at hR
 obtain ⟨⟨G,K,E⟩,hG⟩:∃x,jN all n (k3,e3) []=x:=⟨_,rfl⟩
 rw [hG] at hR
 dsimp only at hR
 clear hp h1 h2 h3 a2 b2 c2
 repeat' (first
  | refine ah ?_ ?_
  | (refine aa 9 rfl ?_;first
   | (refine cH (qf [(0,11)]) (kP) ?_)
   | (refine cH (qf [(0,11)]) (kA) ?_)
   | (refine cH (qf [(0,11)]) (kB) ?_)
   | (refine cH (qf [(0,11)]) (kC) ?_))
  | refine af ?_
  | exact ai|refine ae fun hb=>?_)
 refine fC 6 5 1000 31 cr rfl rfl rfl rfl ?_
 refine ak (fun y:Nat×(Nat×Int)×List Tm=>y.2.1.1≤all.length∧y.2.2.length+y.1≤8∧jN all y.1 y.2.1 y.2.2=(G,K,E)) (fun y=>bH [2,6,11,1000] [(2,.c (.ptr 2 0)),(5,.c (.ptr 11 0)),(6,.c (.ptr 6 0)),(7,.i y.1)] [(2,.box 41 [.sc (.int .i64 0),.sc (.int .i64 0),.sc (.int .i64 0),.sc (.int .i64 0),.sc (.int .i64 0),.sc (.slice none 0 0)]),(6,.box 41 [.sc (.int .i64 p.site),.sc (.int .i64 p.inc),.sc (.int .i64 p.num),.sc (.int .i64 (v1-1)),.sc (.int .i64 v2),.own 1000]),(11,JV all y.2.1.1 y.2.1.2),(1000,.arr 31 cr y.2.2)]) (fun y=>y.1) (n,(k3,e3),[]) ⟨c1,by dsimp only;simp;omega,hG⟩ (by exact ao (qf [])) ?_
 clear kP kA kB kC hG
 rintro ⟨m,⟨at_,err⟩,acc⟩ ⟨hat,hm8,hs⟩
 dsimp only at *
 by_cases hgo:m=0∨err≠0
 ·have hend:(acc,at_,err)=(G,K,E):=by
   rw [←hs]
   cases m with
   | zero=>rfl
   | succ m =>
    have:err≠0:=hgo.resolve_left (by omega)
    show _=bif decide (err=0) then _ else _
    rw [decide_eq_false this]
    rfl
  obtain ⟨rfl,rfl,rfl⟩:=bI hend
  have hgo2:0<(m:Int)→err=0→False:=fun h1 h2=>by rcases hgo with h|h;omega;exact h h2
  unfold oN at hR
  obtain ⟨b,hb0⟩:∃b,mS ⟨p,v1-1,v2,acc⟩=b:=⟨_,rfl⟩
  have kV:=qY _ hb0
  rw [hb0] at hR
  clear hs hend hgo
  by_cases he:err=0
  ·subst he
   rw [decide_eq_true rfl] at hR
   cases b with
   | true =>
    have hR:((⟨p,v1-1,v2,acc⟩:Opn),at_,(0:Int))=(o,k,e):=hR
    obtain ⟨rfl,rfl,rfl⟩:=bI hR
    repeat' (first
     | refine ah ?_ ?_
     | refine aa 9 rfl (cB [1000] (kV) ?_)
     | refine af ?_
     | exact ai|(refine ae fun hb=>?_;first|(exact (hgo2 (by omega) rfl).elim)|skip)
     | (refine eR (qf []) ?_;exact ab))
   | false =>
    have hR:(FN,0,(2:Int))=(o,k,e):=hR
    obtain ⟨rfl,rfl,rfl⟩:=bI hR
    repeat' (first
     | refine ah ?_ ?_
     | refine aa 9 rfl (cB [1000] (kV) ?_)
     | refine af ?_
     | exact ai|(refine ae fun hb=>?_;first|(exact (hgo2 (by omega) rfl).elim)|skip)
     | (refine eR (qf []) ?_;exact ab))
  ·rw [decide_eq_false he] at hR
   have hR:(FN,0,err)=(o,k,e):=hR
   obtain ⟨rfl,rfl,rfl⟩:=bI hR
   repeat' (first
    | refine ah ?_ ?_
    | refine aa 9 rfl (cB [1000] (kV) ?_)
    | refine af ?_
    | exact ai|(refine ae fun hb=>?_;first|(exact absurd hb he)|(exact absurd (by assumption) he)|skip)
    | (refine eR (qf []) ?_;exact ab))
 ·obtain ⟨hm0,he0⟩:m≠0∧err=0:=⟨fun h=>hgo (.inl h),Classical.byContradiction fun h=>hgo (.inr h)⟩
  subst he0
  obtain ⟨j,rfl⟩:∃j,m=j+1:=⟨m-1,by omega⟩
  have hs:jN all j (fG all (at_,0)).2 (acc++[(fG all (at_,0)).1])=(G,K,E):=hs
  unfold fG at hs
  have hk1:=FQ (err:=0) hat
  obtain ⟨⟨t,q1,f1⟩,h1⟩:∃x,uU all at_ 0=x:=⟨_,rfl⟩
  rw [h1] at hk1
  have kT:=Lx all at_ 0 hl hat h1 hk1
  dsimp only at hs
  rw [h1] at hs
  dsimp only at hs hk1
  obtain ⟨⟨u1,q2,f2⟩,h2⟩:∃x,ir all q1 f1 1073741824 16=x:=⟨_,rfl⟩
  have kM:=oM all q1 f1 1073741824 16 hl hk1 (by omega) (by omega) (by omega) h2
  obtain ⟨hk2,_,_⟩:=iP h2 hk1 (by omega)
  rw [h2] at hs
  dsimp only at hs
  obtain ⟨⟨u2,q3,f3⟩,h3⟩:∃x,ir all q2 f2 1073741824 16=x:=⟨_,rfl⟩
  have kU:=oM all q2 f2 1073741824 16 hl hk2 (by omega) (by omega) (by omega) h3
  obtain ⟨hk3,_,_⟩:=iP h3 hk2 (by omega)
  rw [h3] at hs
  dsimp only at hs
  clear h1 h2 h3 hgo
  repeat' (first
   | refine ah ?_ ?_
   | (refine aa 8 rfl ?_;refine aM (aj rfl rfl (ax rfl rfl) (aB [⟨t,⟨u1,u2⟩⟩] rfl rfl rfl rfl) rfl aC aC) rfl rfl rfl ?_)
   | (refine aa 9 rfl ?_;first
    | (refine cH (qf [(0,11)]) (kT) ?_)
    | (refine cH (qf [(0,11)]) (kM) ?_)
    | (refine cH (qf [(0,11)]) (kU) ?_))
   | refine af ?_
   | exact ai|refine ae fun hb=>?_)
  refine ⟨(j,(q3,f3),acc++[⟨t,⟨u1,u2⟩⟩]),⟨hk3,by simp;omega,hs⟩,by dsimp only;omega,?_⟩
  exact ao (qf [(1000,50)])
theorem yD:∀(f i v:Nat) (l:List UInt8),(bo f i v l).2.2=0→i<(bo f i v l).2.1
 | 0,i,v,l,h=>by simp [bo] at h
 | f+1,i,v,[],h=>by simp [bo] at h
 | f+1,i,v,c :: r,h=>by
  unfold bo at h ⊢
  split at h
  ·exact absurd h (by decide)
  ·next h1 =>
   simp only [if_neg h1]
   split at h
   ·next h2=>simp only [if_pos h2];exact Nat.lt_succ_self _
   ·next h2 =>
    simp only [if_neg h2]
    have:=yD f (i+1) _ r h
    omega
theorem tf:∀(f i v:Nat) (l:List UInt8) (j:Nat),(bo f i v l).2.2=0→(bo f i v l).2.1≤i+j→bo f i v (l.take j)=bo f i v l
 | 0,i,v,l,j,h,_=>by simp [bo] at h
 | f+1,i,v,[],j,h,_=>by simp [bo] at h
 | f+1,i,v,c :: r,j,h,hj=>by
  cases j with
  | zero=>exact absurd (yD _ _ _ _ h) (by omega)
  | succ j =>
   rw [List.take_succ_cons]
   unfold bo at h hj ⊢
   split at h
   ·exact absurd h (by decide)
   ·next h1 =>
    simp only [if_neg h1] at hj ⊢
    split at h
    ·next h2=>simp only [if_pos h2]
    ·next h2 =>
     simp only [if_neg h2] at hj ⊢
     exact tf f (i+1) _ r j h (by omega)
theorem uW:∀(f i v:Nat) (l:List UInt8) (j:Nat),(bo f i v l).2.2=0→i+j<(bo f i v l).2.1→bo f i v (l.take j)=(0,0,5)
 | 0,i,v,l,j,h,_=>by simp [bo] at h
 | f+1,i,v,[],j,h,_=>by simp [bo] at h
 | f+1,i,v,c :: r,j,h,hj=>by
  cases j with
  | zero=>rfl
  | succ j =>
   rw [List.take_succ_cons]
   unfold bo at h hj ⊢
   split at h
   ·exact absurd h (by decide)
   ·next h1 =>
    simp only [if_neg h1] at hj ⊢
    split at h
    ·next h2 =>
     simp only [if_pos h2] at hj
     omega
    ·next h2 =>
     simp only [if_neg h2] at hj ⊢
     exact uW f (i+1) _ r j h (by omega)
theorem dH {l:List UInt8} {v n j:Nat} (h:aD l=(v,n,0)) (hj:n≤j):aD (l.take j)=(v,n,0):=by
 have h':bo 10 0 0 l=(v,n,0):=h
 exact (tf 10 0 0 l j (by rw [h']) (by rw [h'];simpa using hj)).trans h'
theorem jh {l:List UInt8} {v n j:Nat} (h:aD l=(v,n,0)) (hj:j<n):aD (l.take j)=(0,0,5):=by
 have h':bo 10 0 0 l=(v,n,0):=h
 exact uW 10 0 0 l j (by rw [h']) (by rw [h'];simpa using hj)
theorem FR {all:List UInt8} {at_ n m:Nat} {limit over:Int} (h:aD (all.drop at_)=(n,m,0)) (hl:¬limit<(n:Int)):ir all at_ 0 limit over=((n:Int),at_+m,0):=by
 unfold ir Bu
 rw [h]
 dsimp only
 rw [decide_eq_false hl]
 rfl
theorem C0 {all:List UInt8} {at_:Nat} {limit over:Int} (h:aD (all.drop at_)=(0,0,5)):ir all at_ 0 limit over=(0,at_,5):=by
 unfold ir Bu
 rw [h]
 rfl
theorem gM {all:List UInt8} {at_:Nat} {err limit over:Int} (he:err≠0):ir all at_ err limit over=(0,at_,err):=by
 unfold ir
 rw [decide_eq_false he]
 rfl
theorem ng {all:List UInt8} {at_ k:Nat} {err limit over v:Int} (h:ir all at_ err limit over=(v,k,0)) (ho:over≠0):err=0∧∃n m,aD (all.drop at_)=(n,m,0)∧¬limit<(n:Int)∧v=n∧k=at_+m:=by
 unfold ir at h
 by_cases he:err=0
 ·rw [decide_eq_true he] at h
  by_cases h1:Bu (all.drop at_) limit over=0
  ·rw [decide_eq_true h1] at h
   obtain ⟨rfl,rfl,_⟩:=bI h
   unfold Bu at h1
   obtain ⟨⟨n,m,x⟩,hu⟩:∃x,aD (all.drop at_)=x:=⟨_,rfl⟩
   rw [hu] at h1
   dsimp only at h1
   by_cases h3:x=0
   ·subst h3
    rw [decide_eq_true rfl] at h1
    by_cases h4:limit<(n:Int)
    ·rw [decide_eq_true h4] at h1
     exact absurd h1 ho
    ·exact ⟨he,n,m,hu,h4,by rw [hu],by rw [hu]⟩
   ·rw [decide_eq_false h3] at h1
    exact absurd h1 h3
  ·rw [decide_eq_false h1] at h
   obtain ⟨_,_,h⟩:=bI h
   exact absurd h h1
 ·rw [decide_eq_false he] at h
  obtain ⟨_,_,h⟩:=bI h
  exact absurd h he
theorem lq {all:List UInt8} {at_ k K:Nat} {err limit over v:Int} (h:ir all at_ err limit over=(v,k,0)) (ho:over≠0) (hk:k≤K):ir (all.take K) at_ err limit over=(v,k,0):=by
 obtain ⟨rfl,n,m,hu,hl,rfl,rfl⟩:=ng h ho
 exact FR (by rw [List.drop_take];exact dH hu (by omega)) hl
theorem oO {all:List UInt8} {at_ k K:Nat} {err limit over v:Int} (h:ir all at_ err limit over=(v,k,0)) (ho:over≠0) (h1:at_≤K) (hk:K<k):ir (all.take K) at_ err limit over=(0,at_,5):=by
 obtain ⟨rfl,n,m,hu,hl,rfl,rfl⟩:=ng h ho
 exact C0 (by rw [List.drop_take];exact jh hu (by omega))
theorem oP {all D:List UInt8} {at_ n:Nat} {limit over:Int} (h:all.drop at_=aK n++D) (hn:n<2 ^ 64) (hl:¬limit<(n:Int)):ir all at_ 0 limit over=((n:Int),at_+(aK n).length,0)∧all.drop (at_+(aK n).length)=D:=by
 refine ⟨FR (by rw [h];exact iS hn D) hl,?_⟩
 rw [←List.drop_drop,h,List.drop_left]
theorem yE {l:List UInt8} {n q:Nat} (h:aD l=(n,q,0)) (h1:¬1024<n) (h2:¬l.length<q+n):dA l=(oL ((l.drop q).take n),q+n,0):=by
 unfold dA
 rw [h]
 dsimp only
 rw [decide_eq_false h1,decide_eq_false h2]
 rfl
theorem yF {l:List UInt8} {t:ByteArray} {m:Nat} (h:dA l=(t,m,0)):∃n q,aD l=(n,q,0)∧¬1024<n∧¬l.length<q+n∧t=oL ((l.drop q).take n)∧m=q+n:=by
 unfold dA at h
 obtain ⟨⟨n,q,x⟩,hu⟩:∃x,aD l=x:=⟨_,rfl⟩
 rw [hu] at h
 dsimp only at h
 by_cases h1:x=0
 ·subst h1
  rw [decide_eq_true rfl] at h
  by_cases h2:1024<n
  ·rw [decide_eq_true h2] at h
   obtain ⟨_,_,h⟩:=bI h
   exact absurd h (by decide)
  ·rw [decide_eq_false h2] at h
   by_cases h3:l.length<q+n
   ·rw [decide_eq_true h3] at h
    obtain ⟨_,_,h⟩:=bI h
    exact absurd h (by decide)
   ·rw [decide_eq_false h3] at h
    obtain ⟨rfl,rfl,_⟩:=bI h
    exact ⟨n,q,hu,h2,h3,rfl,rfl⟩
 ·rw [decide_eq_false h1] at h
  obtain ⟨_,_,h⟩:=bI h
  exact absurd h h1
theorem Ai {l:List UInt8} {t:ByteArray} {m j:Nat} (h:dA l=(t,m,0)) (hj:m≤j):dA (l.take j)=(t,m,0):=by
 obtain ⟨n,q,hu,h1,h2,rfl,rfl⟩:=yF h
 rw [yE (dH hu (by omega:q≤j)) h1 (by rw [List.length_take];omega),List.drop_take,List.take_take,Nat.min_eq_left (by omega)]
theorem C1 {l:List UInt8} {t:ByteArray} {m j:Nat} (h:dA l=(t,m,0)) (hj:j<m):dA (l.take j)=(.empty,0,5):=by
 obtain ⟨n,q,hu,h1,h2,rfl,rfl⟩:=yF h
 unfold dA
 by_cases hq:j<q
 ·rw [jh hu hq]
  rfl
 ·rw [dH hu (by omega)]
  dsimp only
  have hlt:(l.take j).length<q+n:=by rw [List.length_take];omega
  rw [decide_eq_false h1,decide_eq_true hlt]
  rfl
theorem wE {all:List UInt8} {at_:Nat} {t:ByteArray} {m:Nat} {e:Int} (h:dA (all.drop at_)=(t,m,e)):uU all at_ 0=(t,at_+m,e):=by
 unfold uU
 rw [h]
 rfl
theorem H7 {all:List UInt8} {at_:Nat} {err:Int} (he:err≠0):uU all at_ err=(.empty,at_,err):=by
 unfold uU
 rw [decide_eq_false he]
 rfl
theorem JW {all:List UInt8} {at_ k:Nat} {err:Int} {t:ByteArray} (h:uU all at_ err=(t,k,0)):err=0∧∃m,dA (all.drop at_)=(t,m,0)∧k=at_+m:=by
 by_cases he:err=0
 ·subst he
  obtain ⟨⟨x,m,e⟩,hu⟩:∃x,dA (all.drop at_)=x:=⟨_,rfl⟩
  rw [wE hu] at h
  obtain ⟨rfl,rfl,rfl⟩:=bI h
  exact ⟨rfl,m,hu,rfl⟩
 ·rw [H7 he] at h
  obtain ⟨_,_,h⟩:=bI h
  exact absurd h he
theorem yG (s:ByteArray):oL s.data.toList=s:=rfl
theorem H8 {all D:List UInt8} {at_:Nat} {s:ByteArray} (h:all.drop at_=aK s.size++(s.data.toList++D)) (hn:s.size≤1024):uU all at_ 0=(s,at_+((aK s.size).length+s.size),0)∧all.drop (at_+((aK s.size).length+s.size))=D:=by
 have hl:s.data.toList.length=s.size:=rfl
 have hu:aD (all.drop at_)=(s.size,(aK s.size).length,0):=by rw [h];exact iS (by omega) _
 have hd:(all.drop at_).drop (aK s.size).length=s.data.toList++D:=by rw [h,List.drop_left]
 refine ⟨wE ?_,?_⟩
 ·rw [yE hu (by omega) (by rw [h];simp only [List.length_append];omega),hd,←hl,List.take_left,yG]
 ·rw [←List.drop_drop,←List.drop_drop,hd,←hl,List.drop_left]
theorem lr {l:List UInt8} {p:Pr} {m:Nat} (h:bO l=(p,m,0)):∃a b c n1 n2 n3,aD l=(a,n1,0)∧aD (l.drop n1)=(b,n2,0)∧aD (l.drop (n1+n2))=(c,n3,0)∧qJ a b c (n1+n2+n3)=(p,m,0)∧m=n1+n2+n3:=by
 obtain ⟨⟨a,n1,x1⟩,h1⟩:∃x,aD l=x:=⟨_,rfl⟩
 by_cases e1:x1=0
 case neg =>
  rw [oH h1 e1] at h
  obtain ⟨_,_,h⟩:=bI h
  exact absurd h e1
 subst e1
 obtain ⟨⟨b,n2,x2⟩,h2⟩:∃x,aD (l.drop n1)=x:=⟨_,rfl⟩
 by_cases e2:x2=0
 case neg =>
  rw [oI h1 h2 e2] at h
  obtain ⟨_,_,h⟩:=bI h
  exact absurd h e2
 subst e2
 obtain ⟨⟨c,n3,x3⟩,h3⟩:∃x,aD (l.drop (n1+n2))=x:=⟨_,rfl⟩
 by_cases e3:x3=0
 case neg =>
  rw [oJ h1 h2 h3 e3] at h
  obtain ⟨_,_,h⟩:=bI h
  exact absurd h e3
 subst e3
 rw [io h1 h2 h3] at h
 refine ⟨a,b,c,n1,n2,n3,h1,h2,h3,h,?_⟩
 unfold qJ at h
 split at h
 ·obtain ⟨_,h,_⟩:=bI h
  exact h.symm
 ·obtain ⟨_,_,h⟩:=bI h
  exact absurd h (by decide)
theorem Aj {l:List UInt8} {p:Pr} {m j:Nat} (h:bO l=(p,m,0)) (hj:m≤j):bO (l.take j)=(p,m,0):=by
 obtain ⟨a,b,c,n1,n2,n3,h1,h2,h3,h4,rfl⟩:=lr h
 rw [io (dH h1 (by omega)) (by rw [List.drop_take];exact dH h2 (by omega)) (by rw [List.drop_take];exact dH h3 (by omega))]
 exact h4
theorem C2 {l:List UInt8} {p:Pr} {m j:Nat} (h:bO l=(p,m,0)) (hj:j<m):bO (l.take j)=(eF,0,5):=by
 obtain ⟨a,b,c,n1,n2,n3,h1,h2,h3,h4,rfl⟩:=lr h
 by_cases c1:j<n1
 ·exact oH (jh h1 c1) (by decide)
 ·by_cases c2:j<n1+n2
  ·exact oI (dH h1 (by omega)) (by rw [List.drop_take];exact jh h2 (by omega)) (by decide)
  ·exact oJ (dH h1 (by omega)) (by rw [List.drop_take];exact dH h2 (by omega)) (by rw [List.drop_take];exact jh h3 (by omega)) (by decide)
theorem ls (l:List UInt8):(bO l).2.1≤l.length:=by
 obtain ⟨⟨p,m,e⟩,h⟩:∃x,bO l=x:=⟨_,rfl⟩
 rw [h]
 show m≤l.length
 by_cases he:e=0
 ·subst he
  obtain ⟨a,b,c,n1,n2,n3,h1,h2,h3,h4,rfl⟩:=lr h
  have b1:=(bi l).2.1 (by rw [h1])
  have b2:=(bi (l.drop n1)).2.1 (by rw [h2])
  have b3:=(bi (l.drop (n1+n2))).2.1 (by rw [h3])
  rw [h1] at b1
  rw [h2,List.length_drop] at b2
  rw [h3,List.length_drop] at b3
  dsimp only at b1 b2 b3
  omega
 ·unfold bO qJ at h
  dsimp only at h
  split at h
  ·obtain ⟨_,rfl,_⟩:=bI h
   exact Nat.zero_le _
  ·split at h
   ·obtain ⟨_,rfl,_⟩:=bI h
    exact Nat.zero_le _
   ·split at h
    ·obtain ⟨_,rfl,_⟩:=bI h
     exact Nat.zero_le _
    ·split at h
     ·obtain ⟨_,_,h⟩:=bI h
      exact absurd h.symm he
     ·obtain ⟨_,rfl,_⟩:=bI h
      exact Nat.zero_le _
theorem fH (all:List UInt8) (n:Nat) (at_:Nat) {e:Int} (he:e≠0) (acc:List Tm):jN all n (at_,e) acc=(acc,at_,e):=by
 cases n with
 | zero=>rfl
 | succ n =>
  show (bif decide (e=0) then _ else _)=_
  rw [decide_eq_false he]
  rfl
theorem gS {all:List UInt8} {at_ q1 q2 q3:Nat} {t:ByteArray} {u1 u2 f1 f2 f3:Int} {e:Int} (h1:uU all at_ e=(t,q1,f1)) (h2:ir all q1 f1 1073741824 16=(u1,q2,f2)) (h3:ir all q2 f2 1073741824 16=(u2,q3,f3)):fG all (at_,e)=(⟨t,⟨u1,u2⟩⟩,q3,f3):=by
 unfold fG
 dsimp only
 rw [h1]
 dsimp only
 rw [h2]
 dsimp only
 rw [h3]
theorem gT {all:List UInt8} {n at_ q3:Nat} {x:Tm} {f3:Int} {acc:List Tm} (h:fG all (at_,0)=(x,q3,f3)):jN all (n+1) (at_,0) acc=jN all n (q3,f3) (acc++[x]):=by
 show (bif decide ((0:Int)=0) then jN all n (fG all (at_,0)).2 (acc++[(fG all (at_,0)).1]) else _)=_
 rw [h]
 rfl
theorem Ak {all D:List UInt8} {at_:Nat} {a:Tm} (h:all.drop at_=FM a++D) (hn:a.name.size≤1024) (hm:0≤a.am.mode∧a.am.mode≤8) (hu:0≤a.am.units∧a.am.units≤8):fG all (at_,0)=(a,at_+(FM a).length,0)∧all.drop (at_+(FM a).length)=D:=by
 unfold FM at h
 have hl:a.name.data.toList.length=a.name.size:=rfl
 obtain ⟨r1,d1⟩:=H8 (D:=aK a.am.mode.toNat++(aK a.am.units.toNat++D)) (by rw [h];simp only [List.append_assoc]) hn
 obtain ⟨r2,d2⟩:=oP (limit:=1073741824) (over:=16) d1 (by omega) (by omega)
 obtain ⟨r3,d3⟩:=oP (limit:=1073741824) (over:=16) d2 (by omega) (by omega)
 have hL:at_+(FM a).length=at_+((aK a.name.size).length+a.name.size)+(aK a.am.mode.toNat).length+(aK a.am.units.toNat).length:=by
  unfold FM
  simp only [List.length_append]
  omega
 refine ⟨?_,by rw [hL];exact d3⟩
 rw [gS r1 r2 r3,hL,Int.toNat_of_nonneg hm.1,Int.toNat_of_nonneg hu.1]
theorem yH {all D:List UInt8}:∀(l:List Tm) (at_:Nat) (acc:List Tm),all.drop at_=ip l++D→(∀a∈l,bJ a.name.toList=true∧(a.am=⟨0,0⟩∨aZ a.am=true))→jN all l.length (at_,0) acc=(acc++l,at_+(ip l).length,0)
 | [],at_,acc,_,_=>by
  show (acc,at_,(0:Int))=(acc++[],at_+0,0)
  rw [List.append_nil]
  rfl
 | a :: l,at_,acc,h,ha=>by
  obtain ⟨hn,hm⟩:=ha a (List.mem_cons_self ..)
  have hs:=mg hm
  have hz:=jM hn
  obtain ⟨r,d⟩:=Ak (a:=a) (D:=ip l++D) (by rw [h];show FM a++ip l++D=_;rw [List.append_assoc]) (by omega) ⟨hs.1,by omega⟩ ⟨hs.2.2.1,hs.2.2.2⟩
  show jN all (l.length+1) (at_,0) acc=_
  rw [gT r,yH l _ _ d fun b hb=>ha b (List.mem_cons_of_mem _ hb)]
  show (acc++[a]++l,_,(0:Int))=(acc++a :: l,at_+(FM a++ip l).length,0)
  rw [List.append_assoc,List.length_append,Nat.add_assoc]
  rfl
theorem iq {all:List UInt8} {p:Pr} {v1 v2 v3 e0 e1 e2 e3:Int} {k0 k1 k2 k3:Nat} (h0:bO all=(p,k0,e0)) (h1:ir all k0 e0 1073741824 16=(v1,k1,e1)) (h2:ir all k1 e1 1073741824 16=(v2,k2,e2)) (h3:ir all k2 e2 8 4=(v3,k3,e3)) {G:List Tm} {K:Nat} {E:Int} (h4:jN all v3.toNat (k3,e3) []=(G,K,E)):jg all=oN ⟨p,v1-1,v2,G⟩ K E:=by
 unfold jg
 rw [h0]
 dsimp only
 rw [h1]
 dsimp only
 rw [h2]
 dsimp only
 rw [h3]
 dsimp only
 rw [h4]
theorem lv {o:Opn} (hv:mS o=true) (raw:List UInt8):jg (lp o++raw)=(o,(lp o).length,0):=by
 obtain ⟨p1,p2,p3,p4,p5⟩:=mf hv
 have hatm:=oK p5
 obtain ⟨all,hall⟩:∃a,lp o++raw=a:=⟨_,rfl⟩
 have hP:lp o=mE o.proc++(aK (o.label+1).toNat++(aK o.cost.toNat++(aK o.lower.length++ip o.lower))):=by
  unfold lp ml
  rw [hv,cond_true,if_pos p1]
  simp only [List.append_assoc]
 have e0:all=mE o.proc++(aK (o.label+1).toNat++(aK o.cost.toNat++(aK o.lower.length++(ip o.lower++raw)))):=by
  rw [←hall,hP]
  simp only [List.append_assoc]
 have r0:bO all=(o.proc,(mE o.proc).length,0):=by rw [e0];exact BC p1 _
 have d0:all.drop (mE o.proc).length=aK (o.label+1).toNat++(aK o.cost.toNat++(aK o.lower.length++(ip o.lower++raw))):=by rw [e0,List.drop_left]
 obtain ⟨r1,d1⟩:=oP (limit:=1073741824) (over:=16) d0 (by omega) (by omega)
 obtain ⟨r2,d2⟩:=oP (limit:=1073741824) (over:=16) d1 (by omega) (by omega)
 obtain ⟨r3,d3⟩:=oP (limit:=8) (over:=4) d2 (by omega) (by omega)
 have r4:=yH o.lower _ [] d3 hatm
 rw [List.nil_append] at r4
 rw [Int.toNat_of_nonneg (by omega)] at r1 r2
 rw [hall,iq r0 r1 r2 r3 r4]
 have eo:(⟨o.proc,o.label+1-1,o.cost,o.lower⟩:Opn)=o:=by
  obtain ⟨a,b,c,d⟩:=o
  simp only [Opn.mk.injEq,true_and,and_true]
  omega
 rw [eo,hP]
 unfold oN
 rw [hv]
 show (o,_,(0:Int))=_
 simp only [List.length_append,Nat.add_assoc]
theorem yI {all:List UInt8} {K:Nat}:∀(n at_:Nat) (acc:List Tm) {G:List Tm} {E:Nat},jN all n (at_,0) acc=(G,E,0)→at_≤K→K<E→∃acc' k',jN (all.take K) n (at_,0) acc=(acc',k',5)
 | 0,at_,acc,G,E,h,h1,h2=>by
  obtain ⟨_,rfl,_⟩:=bI (show (acc,at_,(0:Int))=(G,E,0) from h)
  omega
 | n+1,at_,acc,G,E,h,h1,h2=>by
  obtain ⟨⟨t,q1,f1⟩,r1⟩:∃x,uU all at_ 0=x:=⟨_,rfl⟩
  obtain ⟨⟨u1,q2,f2⟩,r2⟩:∃x,ir all q1 f1 1073741824 16=x:=⟨_,rfl⟩
  obtain ⟨⟨u2,q3,f3⟩,r3⟩:∃x,ir all q2 f2 1073741824 16=x:=⟨_,rfl⟩
  rw [gT (gS r1 r2 r3)] at h
  have hf3:f3=0:=Classical.byContradiction fun hf=>by
   rw [fH _ _ _ hf] at h
   obtain ⟨_,_,h⟩:=bI h
   exact hf h
  subst hf3
  obtain ⟨rfl,_⟩:=ng r3 (by decide)
  obtain ⟨rfl,_⟩:=ng r2 (by decide)
  obtain ⟨_,m,hm,rfl⟩:=JW r1
  by_cases c1:K<at_+m
  ·have s1:uU (all.take K) at_ 0=(.empty,at_+0,5):=wE (by rw [List.drop_take];exact C1 hm (by omega))
   exact ⟨_,_,(gT (gS s1 (gM (by decide)) (gM (by decide)))).trans (fH _ _ _ (by decide) _)⟩
  have s1:uU (all.take K) at_ 0=(t,at_+m,0):=wE (by rw [List.drop_take];exact Ai hm (by omega))
  by_cases c2:K<q2
  ·exact ⟨_,_,(gT (gS s1 (oO r2 (by decide) (by omega) c2) (gM (by decide)))).trans (fH _ _ _ (by decide) _)⟩
  have s2:=lq r2 (by decide) (Nat.le_of_not_lt c2)
  by_cases c3:K<q3
  ·exact ⟨_,_,(gT (gS s1 s2 (oO r3 (by decide) (by omega) c3))).trans (fH _ _ _ (by decide) _)⟩
  have s3:=lq r3 (by decide) (Nat.le_of_not_lt c3)
  obtain ⟨acc',k',hk⟩:=yI n q3 _ h (by omega) h2
  exact ⟨acc',k',(gT (gS s1 s2 s3)).trans hk⟩
theorem fW (o:Opn) (k:Nat) {e:Int} (he:e≠0):oN o k e=(FN,0,e):=by
 unfold oN
 rw [decide_eq_false he]
 rfl
theorem C3 {all:List UInt8} {o:Opn} {E K:Nat} (h:jg all=(o,E,0)) (hK:K<E):jg (all.take K)=(FN,0,5):=by
 obtain ⟨⟨p,k0,e0⟩,r0⟩:∃x,bO all=x:=⟨_,rfl⟩
 obtain ⟨⟨v1,k1,e1⟩,r1⟩:∃x,ir all k0 e0 1073741824 16=x:=⟨_,rfl⟩
 obtain ⟨⟨v2,k2,e2⟩,r2⟩:∃x,ir all k1 e1 1073741824 16=x:=⟨_,rfl⟩
 obtain ⟨⟨v3,k3,e3⟩,r3⟩:∃x,ir all k2 e2 8 4=x:=⟨_,rfl⟩
 obtain ⟨⟨G,F,e4⟩,r4⟩:∃x,jN all v3.toNat (k3,e3) []=x:=⟨_,rfl⟩
 rw [iq r0 r1 r2 r3 r4] at h
 have h4:e4=0:=Classical.byContradiction fun hf=>by
  rw [fW _ _ hf] at h
  obtain ⟨_,_,h⟩:=bI h
  exact hf h
 subst h4
 have hF:F=E:=by
  unfold oN at h
  cases hb:mS ⟨p,v1-1,v2,G⟩ with
  | true =>
   rw [hb] at h
   obtain ⟨_,h,_⟩:=bI (show (_,F,(0:Int))=_ from h)
   exact h
  | false =>
   rw [hb] at h
   obtain ⟨_,_,h⟩:=bI (show (FN,0,(2:Int))=_ from h)
   exact absurd h (by decide)
 subst hF
 have h3:e3=0:=Classical.byContradiction fun hf=>by
  rw [fH _ _ _ hf] at r4
  obtain ⟨_,_,h⟩:=bI r4
  exact hf h
 subst h3
 obtain ⟨rfl,_⟩:=ng r3 (by decide)
 obtain ⟨rfl,_⟩:=ng r2 (by decide)
 obtain ⟨rfl,_⟩:=ng r1 (by decide)
 have go5:∀{n k k':Nat} {G':List Tm} {p':Pr} {a b:Int},jN (all.take K) n (k,5) []=(G',k',5)→oN ⟨p',a,b,G'⟩ k' 5=(FN,0,5):=fun _=>fW _ _ (by decide)
 by_cases c0:K<k0
 ·rw [iq (C2 r0 c0) (gM (by decide)) (gM (by decide)) (gM (by decide)) (fH _ _ _ (by decide) _)]
  exact fW _ _ (by decide)
 have s0:=Aj r0 (Nat.le_of_not_lt c0)
 by_cases c1:K<k1
 ·rw [iq s0 (oO r1 (by decide) (by omega) c1) (gM (by decide)) (gM (by decide)) (fH _ _ _ (by decide) _)]
  exact fW _ _ (by decide)
 have s1:=lq r1 (by decide) (Nat.le_of_not_lt c1)
 by_cases c2:K<k2
 ·rw [iq s0 s1 (oO r2 (by decide) (by omega) c2) (gM (by decide)) (fH _ _ _ (by decide) _)]
  exact fW _ _ (by decide)
 have s2:=lq r2 (by decide) (Nat.le_of_not_lt c2)
 by_cases c3:K<k3
 ·rw [iq s0 s1 s2 (oO r3 (by decide) (by omega) c3) (fH _ _ _ (by decide) _)]
  exact fW _ _ (by decide)
 have s3:=lq r3 (by decide) (Nat.le_of_not_lt c3)
 obtain ⟨acc',k',hk⟩:=yI v3.toNat k3 [] r4 (by omega) hK
 rw [iq s0 s1 s2 s3 hk]
 exact fW _ _ (by decide)
theorem FS {o:Opn} (K:Nat) (hK:K<(lp o).length):jg ((lp o).take K)=(FN,0,5):=by
 cases hv:mS o with
 | false =>
  unfold lp at hK
  rw [hv] at hK
  exact absurd hK (Nat.not_lt_zero _)
 | true =>
  have:=lv hv []
  rw [List.append_nil] at this
  exact C3 this hK
theorem Al (o:Opn):FSpec prog 18 [o.a,o.a] [] [] (.b true) []:=by
 refine aX func18 ?_
 have kA:=sS o.lower o.lower
 rw [decide_eq_true rfl] at kA
 repeat' (first
  | refine ah ?_ ?_
  | refine aa 9 rfl (cB [] (kA) ?_)
  | refine af ?_
  | exact ai|(refine ae fun hb=>?_;first|(exact absurd rfl hb)|skip)
  | (refine aE (qf []) ?_;exact ab))
def Ia:Pc:=⟨⟨0,1,1⟩,10,⟨[⟨nA,⟨0,0⟩,⟨3,0⟩⟩,⟨nA,⟨3,0⟩,⟨5,0⟩⟩],[⟨1,1⟩]⟩,true,⟨.mk 0 ⟨nB,⟨5,0⟩⟩ [],0,0⟩,0,0⟩
def An:Opn:=⟨⟨0,1,1⟩,1,20,[⟨nA,⟨3,0⟩⟩,⟨nB,⟨0,0⟩⟩]⟩
def Lz:Opn:=⟨⟨0,1,1⟩,-1,30,[⟨nA,⟨0,0⟩⟩,⟨nB,⟨0,0⟩⟩]⟩
theorem Ib:mx Ia=[An,Lz]:=by kernel_rfl
theorem IK:mS An=true:=by kernel_rfl
theorem FT {α:Type} {E:El α} [J:Dp E] {w:World} {F F':Nat→Prop} {ρ ρ':Nat→Value} {k n:Nat} {e:TypeId} {m:List α} {cs:List D} (hb:(Box.box e cs).rep w F ρ (ρ k)) (hm:m.flatMap J.deep=cs) (hF:∀b,F b→F' b) (hF':∀g,kb (ρ k)=some g→F' g) (hn:m.length=n∧n≤maxLen) {v:Value} (hv:(D.slb k n).rep w F ρ v):(D.sl E m).rep w F' ρ' v:=by
 subst hm
 obtain ⟨g,hg,rfl⟩:=hv
 obtain ⟨g',vs,e1,h3,h4,_⟩:=hb
 rw [hg] at e1
 injection e1 with e1
 injection e1 with e1
 injection e1 with e1
 subst e1
 exact ⟨_,_,by rw [hn.1],⟨Nat.le_of_eq hn.1,hn.2⟩,vs,(fZ h4).same (fun _ _=>rfl) hF,fun _=>⟨g,0,rfl,hF' g (by rw [hg];rfl),fun j u hu=>by rw [Nat.zero_add];exact h3.cellx j (by simpa using hu)⟩⟩
theorem FU:FSpec prog 20 [] [] [] (.v (Ia.a 0)) []:=by
 refine aS (fun b W=>by kernel_rfl) rfl fun w S ρ vs hS ha=>?_
 obtain rfl:vs=[]:=by
  cases vs with
  | nil=>rfl
  | cons=>exact ha.elim
 refine calls_of_wp func20 rfl ?_
 have hr0:=yi (nt:=20) (args:=[]) (vs:=[]) hS ha rfl (Nat.zero_le _)
 have kP:FSpec prog 55 [jX 0] [] [] (.v (Pr.a ⟨0,1,1⟩)) []:=by have:=pI 0;rw [show il 0=⟨0,1,1⟩ from by decide] at this;exact this
 refine wp_mono ((?_:AW prog 20 [] _ (fun e s'=>e = .ret∧s'.t 0 = .c (.ptr 0 0)∧s'.h 0=some (.box 38 [.sc (.int .i64 0),.sc (.int .i64 1),.sc (.int .i64 1),.sc (.int .i64 10),.slb 15 2,.slb 17 1,.sc (.bool true),.sc (.int .i64 0),.sc (.string nB),.sc (.int .i64 5),.sc (.int .i64 0),.sc (.slice none 0 0),.sc (.int .i64 0),.sc (.int .i64 0),.sc (.int .i64 0),.sc (.int .i64 0)])∧s'.h 15=some (.box 112 [.sc (.string nA),.sc (.int .i64 0),.sc (.int .i64 0),.sc (.int .i64 3),.sc (.int .i64 0),.sc (.string nA),.sc (.int .i64 3),.sc (.int .i64 0),.sc (.int .i64 5),.sc (.int .i64 0)])∧s'.h 17=some (.box 80 [.sc (.int .i64 1),.sc (.int .i64 1)])) (J7 [] [])) _ _ _ w rfl rfl hr0) ?_
 ·repeat' (first
   | refine ah ?_ ?_
   | refine aa 9 rfl (cB [] (kP) ?_)
   | refine af ?_
   | exact ai|refine ae fun hb=>?_)
  exact ⟨rfl,rfl,rfl,rfl,rfl⟩
 rintro e a' w' ⟨s',ρ',⟨rfl,t0,h0,h15,h17⟩,hr⟩
 obtain ⟨v,hv,hrep⟩:=km hr (fn:=Tryz.f20) (xs:=[_]) ⟨.row (P:=prog) t0 h0 rfl,trivial⟩
 have hfr:=hr.frm
 refine ⟨hr.dfr,v,hv,v,rfl,⟨hfr.os,hfr.tape,hfr.output,hfr.size,fun b hb=>hfr.keep b hb id⟩,?_⟩
 obtain ⟨cs,rfl,hA⟩:=hrep
 have hF:∀b,Fz { w0:=w,S:=S,X:=fun _=>False,nt:=20,K:=[],ρ0:=ρ,hS:=hS,hX:=fun _ h=>h.elim } s'.h ρ' w' b→Gr S w.heap.size w' b:=fun b hb=>⟨hb.2.1,hb.1⟩
 have hG:∀k bx,s'.h k=some bx→∀g,kb (ρ' k)=some g→Gr S w.heap.size w' g:=fun k bx hk g hg=>⟨hr.ltb hk hg,(hr.inb k bx g hk hg).imp (fun h=>h.elim) id⟩
 match cs,hA with
 | [c0,c1,c2,c3,c4,c5,c6,c7,c8,c9,c10,c11,c12,c13,c14,c15],⟨k0,k1,k2,k3,k4,k5,k6,k7,k8,k9,k10,k11,k12,k13,k14,k15,_⟩ =>
  refine ⟨_,rfl,k0,k1,k2,k3,FT (E:=iR) (hr.hp 15 _ h15) rfl hF (hG 15 _ h15) ⟨rfl,by decide⟩ k4,FT (E:=iN) (hr.hp 17 _ h17) rfl hF (hG 17 _ h17) ⟨rfl,by decide⟩ k5,k6,k7,k8,k9,k10,⟨none,0,k11,by decide,RowsAt.nil _ _ _ _⟩,k12,k13,k14,k15,trivial⟩
theorem FV:FSpec prog 7 [] [] [] (.b true) []:=by
 refine aX func7 ?_
 have kE:=FU
 have kO:=FD 0 Ia Ib
 have kP:=Lu [] An (by decide) rfl
 have hR:=lv IK []
 rw [List.append_nil] at hR
 obtain ⟨B,hB⟩:∃B,lp An=B:=⟨_,rfl⟩
 have hBl:B.length≤1000:=by rw [←hB];decide +kernel
 rw [List.nil_append,hB] at kP
 rw [hB] at hR
 have kT:=Bv B (by omega) (ls B) hR
 have kV:=qY An IK
 have kS:=Al An
 obtain ⟨X1,hX1⟩:∃X,An=X:=⟨_,rfl⟩
 obtain ⟨X2,hX2⟩:∃X,Lz=X:=⟨_,rfl⟩
 have a1:X1.label=1:=by rw [←hX1];rfl
 have a2:X1.cost=20:=by rw [←hX1];rfl
 have a3:X1.lower.length=2:=by rw [←hX1];rfl
 have a4:X2.label = -1:=by rw [←hX2];rfl
 have a5:X2.cost=30:=by rw [←hX2];rfl
 have a6:X2.lower.length=2:=by rw [←hX2];rfl
 obtain ⟨A1,hA1,a7⟩:∃A1,X1.lower[(0:Int).toNat]? = some A1∧A1.am.mode=3:=by rw [←hX1];exact ⟨_,rfl,rfl⟩
 rw [hX1] at kP hR kT kV kS kO hB
 rw [hX2] at kO
 obtain ⟨L2,hL2⟩:∃L2,[X1,X2]=L2:=⟨_,rfl⟩
 have l0:L2[(0:Int).toNat]? = some X1:=by rw [←hL2];rfl
 have l1:L2[(1:Int).toNat]? = some X2:=by rw [←hL2];rfl
 have l2:L2.length=2:=by rw [←hL2];rfl
 rw [hL2] at kO
 generalize Ia=ep at kE kO
 clear hL2 hX1 hX2 hB hR
 repeat' (first
  | refine ah ?_ ?_
  | (refine aa 9 rfl ?_;first
   | (refine cC [] (kE) ?_)
   | (refine cC [] (kO) ?_)
   | (refine cC [] (kP) ?_)
   | (refine cC [] (kT) ?_)
   | (refine cB [] (kV) ?_)
   | (refine cB [] (kS) ?_))
  | refine af ?_
  | exact ai|(refine ae fun hb=>?_;first|(omega)|(exact absurd rfl hb)|skip)
  | (refine aE (qf []) ?_;exact ab))
end Go.Proofs.YtdaajdflefnjfaaGreat
