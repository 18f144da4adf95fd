/- Part 25 of 25 of the proof of rollbackOptions_holds (no condition). -/
import Derived.Test.YtdaajdflefnjfaaGreatK24
import Derived.Test.YtdaajdflefnjfaaGreatChecked
import Derived.Deep.RegionWith
import Derived.Lib.SliceRun
import Derived.Laws.BytesString
set_option linter.unusedVariables false
set_option linter.unusedSimpArgs false
set_option maxRecDepth 100000
set_option maxHeartbeats 64000000
namespace Go.Proofs.YtdaajdflefnjfaaGreat
open Go.RowKit Go.Proofs.Tryz
def L0 (s:Ws) (p:Pr):Bool:=match Ey s.needs p with
 | none=>true
 | some n=>eV n.expr (JO s p)
def I6 (s:Ws):List Pr:=bif !sk s then [] else (Dw s).filter (L0 s)
def M4 (p:Pr) (q:Qu):Qu:=bif eF q p then { (bg q p).1 with gen:=q.gen } else q
def M5 (s:Ws) (p:Pr):Ws:=⟨s.queues.map (M4 p),s.needs.filter fun n=>!decide (n.proc=p)⟩
def RedOk:Nat→Ws→Prop
 | 0,s=>sk s=true∧I6 s=[]
 | n+1,s=>sk s=true∧∀p l,I6 s=p :: l→RedOk n (M5 s p)
theorem RedOk.v {n:Nat} {s:Ws} (h:RedOk n s):sk s=true:=by cases n <;> exact h.1
def Nd.d (d:Nat) (x:Nd):List D:=[.sc (.int .i64 x.proc.site),.sc (.int .i64 x.proc.inc),.sc (.int .i64 x.proc.num),.sc (.int .i64 x.expr.k),.sc (.string x.expr.atom.name),.sc (.int .i64 x.expr.atom.am.mode),.sc (.int .i64 x.expr.atom.am.units),.sl (oN d) x.expr.kids,.sc (.int .i64 x.gen)]
def Nd.a (d:Nat) (x:Nd):V0:=.ag (x.d d)
instance (d:Nat):Dp (L1 d) where
 deep:=Nd.d d
 get:=by
  rintro w F ρ x cs ⟨A,c,rfl,h1,h2⟩
  exact ⟨rfl,rfl,rfl,rfl,rfl,rfl,rfl,⟨A,c,rfl,h1,h2⟩,rfl,trivial⟩
 put:=by
  intro w F ρ x cs h
  match cs,h with
  | [_,_,_,_,_,_,_,_,_],⟨rfl,rfl,rfl,rfl,rfl,rfl,rfl,⟨A,c,rfl,h1,h2⟩,rfl,_⟩=>exact ⟨A,c,rfl,h1,h2⟩
 nok:=fun _ _=>rfl
instance (d:Nat):ST prog (L1 d) 90 148 96:=⟨ElTB.mk' underlying90 (.agg #[.int .i64 0,.int .i64 0,.int .i64 0,.int .i64 0,.string ⟨#[]⟩,.int .i64 0,.int .i64 0,.slice none 0 0,.int .i64 0]) 9 96 (by kernel_rfl) rfl rfl⟩
def Ws.d (d:Nat) (s:Ws):List D:=[.sl lX s.queues,.sl (L1 d) s.needs]
def Ws.a (d:Nat) (s:Ws):V0:=.ag (s.d d)
instance:ST prog nu 87 23 24:=⟨ElTB.mk' underlying87 (.agg #[.int .i64 0,.int .i64 0,.int .i64 0]) 3 24 (by kernel_rfl) rfl rfl⟩
theorem Iw {P:Program} {o:Oper} {s:Mst} {t t':TypeId} {x y:Operand} {a b:Bool} (hT:P.underlying t=some .bool) (ho:o.op = .binOp .eql t x y t') (hx:s.ev x = .b a) (hy:s.ev y = .b b):LOp P o s [] ⟨.b (a == b),[],[]⟩ :=
 fy (by rw [ho];rfl) hx hy fun ev w hx hy=>by simp [execOp,ho,hx,hy,eqGuard,binOp,run_equal_bool w t a b hT]
theorem F0 {s:Mst} {α:Type} {E:El α} [J:Dp E] {x:Operand} {k n:Nat} {e:TypeId} {cs:List D} (l:List α) (hx:s.ev x = .c (.slb k n)) (hk:s.h k=some (.box e cs)) (hl:l.flatMap J.deep=cs) (hn:l.length=n) (hm:n≤maxLen):DN s E e x l (some k) :=
 ⟨fun k' h=>by injection h with h;subst h;exact ⟨_,hk⟩,fun c st ρ a w hr he h2=>by
  have hv:=hr.ev x
  rw [he,hx] at hv
  obtain ⟨g,hg,hv⟩:=hv
  subst hl
  subst hn
  obtain ⟨vs,hB,hA,_⟩:=hr.box ((h2 k rfl).trans hk) hg
  have hre:=eI hA
  have hlen:=hre.length
  refine ⟨_,vs,hv,⟨hlen,.inr ⟨g,l.length,vs.toArray,rfl,Nat.zero_le _,hB,Nat.le_refl _,hm,by simpa using hlen,by rw [←hlen];simp⟩⟩,hre,fun g' hg'=>⟨k,rfl,?_⟩⟩
  rw [hg]
  exact hg'⟩
theorem Kq (l:List Int) {b:Bool} (hb0:decide (l.length≤300)=b):FSpec prog 5 [.one (.sl fk l)] [] [] (.b b) []:=by
 refine bJ func5 ?_
 repeat' (first
  | refine af ?_ ?_
  | refine en ?_
  | exact ah|refine ae fun hb=>?_)
 refine pp ?_
 rw [←hb0]
 congr 1
 exact decide_eq_decide.2 (by omega)
theorem yZ (d:Nat) (hd:2≤d) (p:Pc) (o:Opn) (l:List Int):FSpec prog 3 [p.a d,o.a,.one (.sl fk l)] [] [] (.b true) []:=by
 refine bJ func3 ?_
 have kA:=FZ
 obtain ⟨bl,hbl⟩:∃b,decide (l.length≤300)=b:=⟨_,rfl⟩
 have kL:=Kq l hbl
 obtain ⟨bf,hbf⟩:∃b,uL 5 p.req.expr=b:=⟨_,rfl⟩
 have kF:=FW 5 (by decide) d p.req.expr hbf
 cases bl with
 | false =>
  repeat' (first
   | refine af ?_ ?_
   | (refine aa 9 rfl ?_;first
    | (refine cB [] (kL) ?_)
    | (refine cB [] (kA) ?_))
   | refine en ?_
   | exact ah|(refine ae fun hb=>?_;first|(exact absurd rfl hb)|skip)
   | (refine aP (qf []) ?_;exact ab))
 | true =>
  have hl:=of_decide_eq_true hbl
  have kC:=Fh d hd l hl
  have hcl:=Fi l
  generalize yr l=C at kC hcl
  repeat' (first
   | refine af ?_ ?_
   | (refine aa 8 rfl ?_;refine sx (ak rfl rfl (F0 [p] rfl rfl (by simp;rfl) rfl (by decide)) (vq rfl) rfl (by (try simp only [List.length_cons,List.length_nil,maxLen]);omega) (by (try simp only [List.length_cons,List.length_nil,maxLen]);omega)) ?_)
   | (refine aa 9 rfl ?_;first
    | (refine cB [] (kL) ?_)
    | (refine cB [] (kF) ?_)
    | (refine cB [] (kA) ?_)
    | (refine cC [] (kC) ?_))
   | refine en ?_
   | exact ah|refine ae fun hb=>?_
   | (refine aP (qf []) ?_;exact ab))
  refine sd 48 rfl ?_
  obtain ⟨LP,hLP⟩:∃LP,[p]++C.procs=LP:=⟨_,rfl⟩
  have hLl:LP.length≤9:=by rw [←hLP];simp;omega
  rw [hLP]
  clear hLP kC hcl hbf hbl kF kL
  refine ao (fun i:Nat=>i≤LP.length) (fun i=>cy [3,4] [(3,.c (.ptr 3 0)),(4,.c (.ptr 4 0)),(7,.c (.sl (sa d) LP)),(8,.i i)] [(3,.box 38 (p.d d)),(4,.box 41 o.d)]) (fun i=>LP.length-i) 0 (Nat.zero_le _) (by exact ap (qf [])) ?_
  intro i hi
  by_cases hlt:i<LP.length
  case neg =>
   have kV1:=mo o rfl
   have kV2:=Bg o rfl
   generalize nk o=b at kV1 kV2
   cases b <;>
   repeat' (first
    | refine af ?_ ?_
    | (refine aa 9 rfl ?_;first
     | (refine cB [] (kA) ?_)
     | (refine cB [] (kV1) ?_)
     | (refine cB [] (kV2) ?_))
    | (refine aa 10 rfl ?_;refine sx (Iw underlying4 rfl rfl rfl) ?_)
    | refine en ?_
    | exact ah|(refine ae fun hb=>?_;first|(exact absurd rfl hb)|skip)
    | (refine aP (qf []) ?_;exact ab))
  obtain ⟨x,hx⟩:∃x,LP[i]? = some x:=⟨_,List.getElem?_eq_getElem hlt⟩
  obtain ⟨R,hR⟩:∃R,lC x=R:=⟨_,rfl⟩
  have kP:=yH d x hR
  have kQ:=EG d x hR
  have kS:=Is R
  obtain ⟨hall,hasc⟩:=Fg x
  have hR5:=Ac x
  rw [hR] at hall hasc hR5
  clear hR
  repeat' (first
   | refine af ?_ ?_
   | (refine aa 9 rfl ?_;first
    | (refine cC [] (kP) ?_)
    | (refine cC [] (kQ) ?_)
    | (refine cB [] (kS) ?_))
   | refine en ?_
   | exact ah|(refine ae fun hb=>?_;first|(exact absurd rfl hb)|skip))
  refine ao (fun k:Nat=>k≤R.length) (fun k=>cy [3,4] [(3,.c (.ptr 3 0)),(4,.c (.ptr 4 0)),(7,.c (.sl (sa d) LP)),(8,.i i),(10,.c (.sl uh R)),(11,.i k)] [(3,.box 38 (p.d d)),(4,.box 41 o.d)]) (fun k=>R.length-k) 0 (Nat.zero_le _) (by exact ap (qf [])) ?_
  clear kP kQ kS
  intro k hk
  by_cases hlk:k<R.length
  case neg =>
   repeat' (first
    | refine af ?_ ?_
    | refine en ?_
    | exact ah|refine ae fun hb=>?_)
   refine ⟨i+1,hlt,by omega,?_⟩
   exact ap (qf [])
  obtain ⟨y,hy⟩:∃y,R[k]? = some y:=⟨_,List.getElem?_eq_getElem hlk⟩
  have ey:R[k]=y:=(List.getElem?_eq_some_iff.1 hy).2
  have kV:=mo y (hall y (ey▸List.getElem_mem hlk))
  rcases Nat.eq_zero_or_pos k with hk0|hk0
  ·subst hk0
   repeat' (first
    | refine af ?_ ?_
    | refine aa 9 rfl (cB [] (kV) ?_)
    | refine en ?_
    | exact ah|(refine ae fun hb=>?_;first|(exact absurd rfl hb)|(omega)|skip))
   refine ⟨0+1,hlk,by omega,?_⟩
   exact ap (qf [])
  ·have hz1:((k:Int)-1).toNat<R.length:=by omega
   obtain ⟨z,hz⟩:∃z,R[((k:Int)-1).toNat]? = some z:=⟨_,List.getElem?_eq_getElem hz1⟩
   have ez:R[((k:Int)-1).toNat]=z:=(List.getElem?_eq_some_iff.1 hz).2
   have hle:z.cost≤y.cost:=by
    have:=List.pairwise_iff_getElem.1 hasc (((k:Int)-1).toNat) k hz1 hlk (by omega)
    rw [ez,ey] at this
    exact this
   repeat' (first
    | refine af ?_ ?_
    | refine aa 9 rfl (cB [] (kV) ?_)
    | refine en ?_
    | exact ah|(refine ae fun hb=>?_;first|(exact absurd rfl hb)|(omega)|skip))
   refine ⟨k+1,hlk,by omega,?_⟩
   exact ap (qf [])
section
open Go.ChangeShapes Go.WideShapes Go.ChangeAt
theorem jU (os:Os) (started:os.Started) (H:Type) (enc:TypeId×Value→H) :
  ReturnsInHanded {} checked os 3 .any (Rows.rollbackOptionsSpec.pre6 enc prog Tryz.f3 Rows.rollbackOptionsRow.domain false) (Rows.rollbackOptionsSpec.post enc prog Tryz.f3 false true false false):=by
 refine returnsInHanded_of_change (C:=checked) Tryz.own started (by kernel_rfl) func3
  (ChangeSpec.witness6 (enc:=enc) (C:=checked) false ⟨#[],#[.agg #[.int .i64 0,.int .i64 0,.int .i64 0,.int .i64 0,.slice none 0 0,.slice none 0 0,.bool false,.int .i64 0,.string ⟨#[]⟩,.int .i64 0,.int .i64 0,.slice none 0 0,.int .i64 0,.int .i64 0,.int .i64 0,.int .i64 0],.agg #[.int .i64 0,.int .i64 0,.int .i64 0,.int .i64 0,.int .i64 0,.slice none 0 0],.slice none 0 0],[]⟩ 8 (by kernel_rfl) (by kernel_rfl) (by kernel_rfl) (by kernel_rfl)) ?_
 intro W base args ds gs before hval0 hW hcnd _
 have hval:∀(j:Nat) t v,Tryz.f3.params[j]? = some t→args[j]? = some v→Value.okWide prog W .any base t v:=hval0
 have hW':=hW
 obtain ⟨p,q,hA0,hV,rfl,hfz,hnd⟩:=hW
 have hA:DataW.TrodAll enc prog W 0 (fun _=>true) true Tryz.f3.params.toList args.toList ds p:=hA0
 rw [params3] at hA hval
 obtain ⟨v0,v1,v2,d0,d1,d2,p0,p1,p2,rfl,rfl,rfl,h0,h1,h2⟩:=trodAll_three hA
 obtain ⟨rfl,rfl⟩:=trodVars_none hV
 obtain ⟨x0,D,r0⟩:=ED (hval 0 38 v0 rfl rfl) h0
 obtain ⟨x1,r1⟩:=EF (hval 1 41 v1 rfl rfl) h1
 obtain ⟨x2,r2⟩:=zR (hval 2 42 v2 rfl rfl) h2
 refine ((yZ (max D 2) (Nat.le_max_right _ _) x0 x1 x2).calls rfl (w:=W) (S:=Lo W.heap.size) (ρ:=fun _=>undef) (vs:=[v0,v1,v2]) (fun _ h=>h) ⟨Pc.up (Nat.le_max_left _ _) (r0 _),r1 _,r2 _,trivial⟩).mono fun e W' ⟨v9,he,hb,hv9⟩=>?_
 obtain rfl:v9 = .bool true:=hv9
 subst he
 have hlt:∀x∈p0++p1++p2,x.block<W.heap.size:=fun x hx=>hW'.lt x (by simpa using hx)
 exact ⟨_,rfl,tk (pa:=p0++p1++p2) (pv:=[]) hW' (fun _ _ _=>trodAll_mk1 (shut_bool underlying4 true))
  (fun sp hsp=>by rw [List.append_assoc];exact trodAll_mk3 (WideElems.Trod_stays laidOut (by kernel_rfl) (of_decide_eq_true (by kernel_rfl)) h0 (fun x hx=>hb.same (hlt x (by simp [hx]))) (fun x hx=>hsp x (by simp [hx]))) (WideElems.Trod_stays laidOut (by kernel_rfl) (of_decide_eq_true (by kernel_rfl)) h1 (fun x hx=>hb.same (hlt x (by simp [hx]))) (fun x hx=>hsp x (by simp [hx]))) (WideElems.Trod_stays laidOut (by kernel_rfl) (of_decide_eq_true (by kernel_rfl)) h2 (fun x hx=>hb.same (hlt x (by simp [hx]))) (fun x hx=>hsp x (by simp [hx]))))
  (fun _ _=>rfl) (by simp) hb (ok_one (by kernel_rfl) rfl (okWide_bool_mk underlying4 true))⟩
theorem rollbackOptions_holds:Rows.RollbackOptionsSaid :=
 OpenClaim.holds_of_wide 3 Tryz.f3 rfl rfl rfl rfl rfl rfl rfl ⟨rfl,rfl,rfl,rfl,rfl⟩ rfl rfl rfl rfl rfl (by kernel_rfl) func3 (by kernel_rfl)
  (of_decide_eq_true (by kernel_rfl)) (by unfold Func.isWrapper;rw [if_neg (of_decide_eq_false (by kernel_rfl))];exact ⟨rfl,rfl⟩)
  (fun os started H enc _=>jU os started H enc)
end
end Go.Proofs.YtdaajdflefnjfaaGreat
