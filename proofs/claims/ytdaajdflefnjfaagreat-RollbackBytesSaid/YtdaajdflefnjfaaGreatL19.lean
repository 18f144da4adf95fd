/- Part 19 of 24 of the proof of rollbackBytes_holds (no condition). -/
import Derived.Test.YtdaajdflefnjfaaGreatL18
import Derived.RangeFuncNested
import Derived.RangeFuncBox
import Derived.RangeFuncLeaves
import Derived.RangeFuncBound
import Derived.RangeFuncCalls
import Derived.Shelf.Abstract
import Derived.Shelf.RegionOpen
import Derived.OwnWalkIn
import Derived.TacticsInMore
import Derived.LoopNIn
import Derived.LoopIn
import Derived.Maps.OwnSet
import Derived.Maps.RangeRun
set_option linter.unusedVariables false
set_option linter.unusedSimpArgs false
set_option maxRecDepth 100000
set_option maxHeartbeats 64000000
namespace Go.Proofs.YtdaajdflefnjfaaGreat
open Go.RowKit Go.Proofs.Tryz
theorem La (l:List Rs) (hc:CatOk l):FSpec prog 60 [.one (.sl fJ l)] [] [] (.tup [.one (.sl ji (l.map jZ)),.one (.sc (.int .i64 0))]) []:=by
 refine aX func60 ?_
 have h8:=hc.len
 have kV:=mb l hc
 repeat' (first
  | refine ah ?_ ?_
  | refine aa 9 rfl (cB [] (kV) ?_)
  | refine af ?_
  | exact ai|refine ae fun hb=>?_)
 refine cc 4 1000 165 ji rfl rfl rfl ?_
 refine ak (fun y:Nat×List Qu=>y.1≤l.length∧y.2=(l.take y.1).map jZ) (fun y=>bH [1000] [(0,.c (.sl fJ l)),(4,.c (.own 1000)),(5,.i y.1)] [(1000,.arr 165 ji y.2)]) (fun y=>l.length-y.1) (0,[]) ⟨Nat.zero_le _,rfl⟩ (by exact ao (qf [])) ?_
 rintro ⟨i,T⟩ ⟨hi,hT⟩
 dsimp only at *
 have hTl:T.length=i:=by rw [hT];simp;omega
 by_cases hlt:i<l.length
 ·obtain ⟨r,hr⟩:∃r,l[i]? = some r:=⟨_,List.getElem?_eq_getElem hlt⟩
  have er:l[i]=r:=(List.getElem?_eq_some_iff.1 hr).2
  repeat' (first
   | refine ah ?_ ?_
   | (refine aa 8 rfl ?_;refine sx (aj rfl rfl (ax rfl rfl) (xK [jZ r] rfl rfl rfl) rfl aC aC) ?_)
   | refine af ?_
   | exact ai|refine ae fun hb=>?_)
  refine ⟨(i+1,T++[jZ r]),⟨by dsimp only;omega,?_⟩,by dsimp only;omega,?_⟩
  ·dsimp only
   rw [hT,List.take_succ_eq_append_getElem hlt,er]
   simp
  ·exact ao (qf [(1000,22)])
 ·obtain rfl:T=l.map jZ:=by rw [hT,List.take_of_length_le (by omega)]
  repeat' (first
   | refine ah ?_ ?_
   | refine af ?_
   | exact ai|refine ae fun hb=>?_
   | (refine iG (qf []) ?_;exact ab))
theorem Lb (d:Nat) (l:List Rs) (hc:CatOk l):FSpec prog 22 [.one (.sl fJ l)] [] [] (.tup [(Cs.mk 0 (l.map jZ) []).a d,.one (.sc (.int .i64 0))]) []:=by
 refine aX func22 ?_
 have kT:=La l hc
 repeat' (first
  | refine ah ?_ ?_
  | refine aa 9 rfl (cC [] (kT) ?_)
  | refine af ?_
  | exact ai|refine ae fun hb=>?_
  | (refine iG (qf []) ?_;exact ab))
theorem CH (c:Cs) (k:Cm) (l:List Cm):x8 c (k :: l)=x8 (bif decide ((Ch c k).2.2=0) then (Ch c k).1 else c) l:=rfl
theorem Lc (c:Cs) (ks:List Cm) {W:Cs} (hW:x8 c ks=W):FSpec prog 23 [c.a 2,.one (.sl (IB 2) ks)] [] [] (.v (W.a 2)) []:=by
 refine aX func23 ?_
 refine aR (fun c ρ a w hr=>cu (t:=1) hr rfl) (fun hl1=>?_)
 repeat' (first
  | refine ah ?_ ?_
  | refine af ?_
  | exact ai|refine ae fun hb=>?_)
 refine ak (fun y:Nat×Cs=>y.1≤ks.length∧x8 y.2 (ks.drop y.1)=W) (fun y=>bH [2,4] [(1,.c (.sl (IB 2) ks)),(2,.c (.ptr 2 0)),(4,.c (.ptr 4 0)),(5,.i y.1)] [(2,.box 49 (y.2.d 2)),(4,.box 49 [.sc (.int .i64 0),.sc (.slice none 0 0),.sc (.slice none 0 0)])]) (fun y=>ks.length-y.1) (0,c) ⟨Nat.zero_le _,hW⟩ (by exact ao (qf [])) ?_
 clear hW c
 rintro ⟨i,c⟩ ⟨hi,hs⟩
 dsimp only at *
 by_cases hlt:i<ks.length
 ·obtain ⟨k,hk⟩:∃k,ks[i]? = some k:=⟨_,List.getElem?_eq_getElem hlt⟩
  have ek:ks[i]=k:=(List.getElem?_eq_some_iff.1 hk).2
  rw [List.drop_eq_getElem_cons hlt,ek,CH] at hs
  obtain ⟨R,hR⟩:∃R,Ch c k=R:=⟨_,rfl⟩
  have kD:=ME 2 c k hR
  rw [hR] at hs
  by_cases h0:R.2.2=0
  ·rw [decide_eq_true h0,cond_true] at hs
   repeat' (first
    | refine ah ?_ ?_
    | refine aa 9 rfl (cC [] (kD) ?_)
    | refine af ?_
    | exact ai|(refine ae fun hb=>?_;first|(exact absurd h0 hb)|skip))
   refine ⟨(i+1,R.1),⟨by dsimp only;omega,hs⟩,by dsimp only;omega,?_⟩
   exact ao (qf [])
  ·rw [decide_eq_false h0,cond_false] at hs
   repeat' (first
    | refine ah ?_ ?_
    | refine aa 9 rfl (cC [] (kD) ?_)
    | refine af ?_
    | exact ai|(refine ae fun hb=>?_;first|(exact absurd hb h0)|skip))
   refine ⟨(i+1,c),⟨by dsimp only;omega,hs⟩,by dsimp only;omega,?_⟩
   exact ao (qf [])
 ·rw [List.drop_eq_nil_of_le (by omega)] at hs
  obtain rfl:c=W:=hs
  repeat' (first
   | refine ah ?_ ?_
   | refine af ?_
   | exact ai|refine ae fun hb=>?_
   | (refine aE (qf []) ?_;exact ab))
def yg (l:List Int):Cs:=x8 ⟨0,(iI l).1.map jZ,[]⟩ (iI l).2
theorem CJ (l:List Int) (hl:l.length≤300) (hc:CatOk (iI l).1) {W:Cs} (hW:yg l=W):FSpec prog 8 [.one (.sl fm l)] [] [] (.v (W.a 2)) []:=by
 refine aX func8 ?_
 unfold yg at hW
 obtain ⟨R,hR⟩:∃R,iI l=R:=⟨_,rfl⟩
 have kS:=E8 l hl hR
 rw [hR] at hc hW
 have kN:=Lb 2 R.1 hc
 have kR:=Lc _ _ hW
 repeat' (first
  | refine ah ?_ ?_
  | (refine aa 9 rfl ?_;first
   | (refine cC [] (kS) ?_)
   | (refine cC [] (kN) ?_)
   | (refine cC [] (kR) ?_))
  | refine af ?_
  | exact ai|refine ae fun hb=>?_
  | (refine aE (qf []) ?_;exact ab))
theorem Lf:nA.toList=[97]:=by rw [ByteArray.toList_eq];rfl
theorem JG:nB.toList=[98]:=by rw [ByteArray.toList_eq];rfl
theorem JH:nC.toList=[99]:=by rw [ByteArray.toList_eq];rfl
theorem JI:nD.toList=[100]:=by rw [ByteArray.toList_eq];rfl
theorem JJ:nP.toList=[112]:=by rw [ByteArray.toList_eq];rfl
theorem Lh:nQ.toList=[113]:=by rw [ByteArray.toList_eq];rfl
theorem pL {n:ByteArray} {k u h:Int} (hn:bJ n.toList=true) (hs:bb ⟨n,k,u,h⟩=true) (h0:0≤h) (h1:h<4):mm ⟨n,k,u,h⟩=true:=by
 unfold mm Rs.key
 rw [hs,decide_eq_true h0,decide_eq_true h1]
 simpa using hn
theorem Bh (l:List Int):CatOk (iI l).1:=by
 show CatOk (qN ⟨l,0⟩).1
 generalize (⟨l,0⟩:Tp)=t
 have b1:=t.v_in (m:=4) (by omega)
 have b2:=t.s.v_in (m:=4) (by omega)
 have b3:=t.s.s.v_in (m:=4) (by omega)
 have b4:=t.s.s.s.v_in (m:=4) (by omega)
 have b5:=t.s.s.s.s.v_in (m:=8) (by omega)
 have b6:=t.s.s.s.s.s.v_in (m:=4) (by omega)
 have b7:=t.s.s.s.s.s.s.v_in (m:=3) (by omega)
 have b8:=t.s.s.s.s.s.s.s.v_in (m:=4) (by omega)
 unfold qN
 dsimp only
 generalize t.s.s.s.s.s.s.s.v 4=v8 at *
 generalize t.s.s.s.s.s.s.v 3=v7 at *
 generalize t.s.s.s.s.s.v 4=v6 at *
 generalize t.s.s.s.s.v 8=v5 at *
 generalize t.s.s.s.v 4=v4 at *
 generalize t.s.s.v 4=v3 at *
 generalize t.s.v 4=v2 at *
 generalize t.v 4=v1 at *
 have hp:∀n v,0≤v→v<8→∀h,bb ⟨n,2,1+v,h⟩=true:=fun n v h1 h2 h=>by unfold bb;simp;omega
 refine ⟨by simp,fun x hx=>?_,fun i hi=>?_⟩
 ·simp only [List.mem_cons,List.not_mem_nil,or_false] at hx
  rcases hx with rfl|rfl|rfl|rfl|rfl|rfl
  ·exact pL (by rw [Lf];decide) rfl (by omega) (by omega)
  ·exact pL (by rw [JG];decide) rfl (by omega) (by omega)
  ·exact pL (by rw [JH];decide) rfl (by omega) (by omega)
  ·exact pL (by rw [JI];decide) rfl (by omega) (by omega)
  ·exact pL (by rw [JJ];decide) (hp _ _ (by omega) (by omega) _) (by omega) (by omega)
  ·exact pL (by rw [Lh];decide) (hp _ _ (by omega) (by omega) _) (by omega) (by omega)
 ·simp only [List.length_cons,List.length_nil] at hi
  unfold fy
  obtain rfl|rfl|rfl|rfl|rfl:i=0∨i=1∨i=2∨i=3∨i=4:=by omega
  ·show Op.bytesLess nA.toList nB.toList=true
   rw [Lf,JG];decide
  ·show Op.bytesLess nB.toList nC.toList=true
   rw [JG,JH];decide
  ·show Op.bytesLess nC.toList nD.toList=true
   rw [JH,JI];decide
  ·show Op.bytesLess nD.toList nP.toList=true
   rw [JI,JJ];decide
  ·show Op.bytesLess nP.toList nQ.toList=true
   rw [JJ,Lh];decide
theorem wo {r:Rs} (h:mm r=true):ar (jZ r)=true:=by
 have hs:bb r=true:=by unfold mm at h;simp only [Bool.and_eq_true] at h;exact h.1.1.2
 unfold ar et jZ
 simp only [h,Bool.true_and]
 have h1:tT r []=true:=by unfold tT;rw [hs];simp [tu,np,no,hs,iL]
 rw [h1]
 rfl
theorem zW {l:List Rs} (h:CatOk l):dO (l.map jZ)=true:=by
 have key:∀(m:List Rs) (o:Option ByteArray),(∀x∈m,mm x=true)→(∀i (h:i+1<m.length),fy (m[i]'(by omega)).name m[i+1].name=true)→(∀n,o=some n→∀x,m.head? = some x→fy n x.name=true)→nv o (m.map jZ)=true:=by
  intro m
  induction m with
  | nil=>intro _ _ _ _;rfl
  | cons x m ih =>
   intro o h1 h2 h3
   rw [List.map_cons,dw,wo (h1 x (by simp))]
   have e:J5 o (jZ x).res.name=true:=by
    cases o with
    | none=>rfl
    | some n=>exact h3 n rfl x rfl
   rw [e]
   refine ih _ (fun y hy=>h1 y (by simp [hy])) (fun i hi=>?_) fun n hn y hy=>?_
   ·have:=h2 (i+1) (by simpa using hi)
    simpa using this
   ·cases m with
    | nil=>cases hy
    | cons z m =>
     have:=h2 0 (by simp)
     simp only [List.head?_cons,Option.some.injEq] at hy
     subst hy
     injection hn with hn
     subst hn
     show fy x.name z.name=true
     simpa using this
 unfold dO
 rw [key l none h.ok h.asc (fun n hn=>by cases hn)]
 simp [h.len]
theorem uH:dv []=[]:=by
 apply List.eq_nil_iff_forall_not_mem.2
 intro x hx
 rw [bw] at hx
 cases hx
theorem CK (l:List Rs):iW (l.map jZ)=[]:=by
 induction l with
 | nil=>rfl
 | cons x l ih=>show dv []++iW (l.map jZ)=[];rw [ih,uH];rfl
theorem zX {l:List Rs} (h:CatOk l):ez (l.map jZ)=true∧az (l.map jZ)=[]:=by
 have e:az (l.map jZ)=[]:=by unfold az;rw [CK,uH]
 refine ⟨?_,e⟩
 unfold ez
 rw [zW h,e]
 rfl
theorem yh {l:List Rs} (h:CatOk l):fB ⟨0,l.map jZ,[]⟩=true:=by
 obtain ⟨h1,h2⟩:=zX h
 unfold fB
 dsimp only
 rw [h1,h2]
 rfl
theorem JK {d d':Nat} (hd:d≤d') {w:World} {S:Nat→Prop} {x:Pc} {cs:List Value} (h:(tF d).rep w S x cs):(tF d').rep w S x cs:=by
 obtain ⟨A1,c1,A2,c2,A3,c3,e,h1,h2,h3,h4,h5,h6⟩:=h
 exact ⟨A1,c1,A2,c2,A3,c3,e,h1,h2,h3,h4,h5.map fun _ _ hx=>zc hd hx,h6⟩
theorem Cs.up {d d':Nat} (hd:d≤d') {w:World} {S:Nat→Prop} {ρ:Nat→Value} {c:Cs} {v:Value} (h:(c.a d).rep w S ρ v):(c.a d').rep w S ρ v:=by
 obtain ⟨cs,e,hA⟩:=h
 match cs,hA with
 | [_,_,_],⟨h1,h2,⟨A,cap,h3,h4,h5⟩,_⟩=>exact ⟨_,e,h1,h2,⟨A,cap,h3,h4,h5.map fun _ _ hx=>JK hd hx⟩,trivial⟩
theorem FSpec.up {P:Program} {f:FuncId} {args:List V0} {res res':TV} (h:FSpec P f args [] [] res []) (hok:AC args [] [] res []=true) (hok':AC args [] [] res' []=true) (hle:∀w S ρ v,res.rep w S ρ v→res'.rep w S ρ v):FSpec P f args [] [] res' [] :=
 aS h.en hok' fun w S ρ vs hS ha=>(h.calls hok hS ha).mono fun _ _ ⟨v,e,hb,hr⟩=>⟨v,e,hb,hle _ _ _ _ hr⟩
theorem Fb (d:Nat) (hd:2≤d) (l:List Int) (hl:l.length≤300):FSpec prog 8 [.one (.sl fm l)] [] [] (.v ((yg l).a d)) [] :=
 (CJ l hl (Bh l) rfl).up rfl rfl fun _ _ _ _ h=>Cs.up hd h
theorem Fc (l:List Int):(yg l).procs.length≤8:=(fh.1 (wi (iI l).2 _ (yh (Bh l)))).1.len
class ARR (P:Program) (t:TypeId) (n:outParam Nat) (e:outParam TypeId) (m:outParam Nat) (zs:outParam (List Value)):Prop where
 u:P.underlying t=some (.array n e)
 s:(P.info? e).map (·.size)=some m
 z:∃i v,P.info? t=some i∧i.zero=some v∧v.cells=zs.toArray
def Mj (m n i:Nat):Option (Nat×Nat):=some (i*m,m)
section
variable {P:Program} {o:Oper} {s:Mst}
theorem tH {t e:TypeId} {n m:Nat} {ps:Array (Nat×Operand)} {zs:List Value} {ds:List D} [I:ARR P t n e m zs] (ho:o.op = .build t ps) (hok:(cellsOf (dC s ps)).all (okD s.h)=true) (hd:mr (Mj m n) (zs.map D.sc) (dC s ps)=some ds) :
  LOp P o s (fQ (cellsOf (dC s ps))) ⟨.v (.ag ds),[],[]⟩ :=
 bc fun c st ρ a w hr h1 h2=>by
  have he:∀x∈ps.toList,st.ev x.2=s.ev x.2:=fun x hx=>h1 x.2 (by rw [ho];simp only [Op.operands];simpa using ⟨x.1,by simpa using hx⟩)
  obtain ⟨p1,p2⟩:=rH hr he hok h2
  obtain ⟨us,hf,hA⟩:=nL (Mj m n) (dC s ps) _ _ ds zs (ph hr he) (All2.scs zs) hd p1
  obtain ⟨i,v,z1,z2,z3⟩:=I.z
  obtain ⟨j,hj,hm⟩:∃j,P.info? e=some j∧j.size=m:=by
   have:=I.s
   cases h:P.info? e with
   | none=>simp [h] at this
   | some j=>exact ⟨j,rfl,by simpa [h] using this⟩
  subst hm
  refine ⟨.agg us.toArray,?_,⟨us,rfl,hA⟩,fun k hk=>?_⟩
  ·unfold execOp
   rw [ho]
   rw [show Mj j.size n=fun i=>some (i*j.size,j.size) from rfl,Array.toList_map] at hf
   simp [Instr.build,zeroValue,typeInfo,z1,z2,run_underlying I.u,z3,sizeOf,hj,hf]
  ·obtain ⟨x,hx,hk⟩:=List.any_eq_true.1 (show ds.any (D.has k)=true from hk)
   rcases i5 _ hd hx with h|h
   ·obtain ⟨v,_,rfl⟩:=List.mem_map.1 h
    cases hk
   ·exact p2 x h k hk
theorem tI {t e:TypeId} {x y:Operand} {n m k p i q:Nat} {kd:IntKind} {z:Int} {zs:List Value} [I:ARR P t n e m zs] (ho:o.op = .indexAddr t x y) (hx:s.ev x = .c (.ptr k p)) (hy:s.ev y = .c (.sc (.int kd z))) (hz:z=(i:Int)) (hi:i<n) (hq:p+i*m=q):LOp P o s [] ⟨.c (.ptr k q),[],[]⟩ :=
 bc fun c st ρ a w hr h1 _=>by
  have he:=h1 x (by simp [ho,Op.operands])
  have he2:=h1 y (by simp [ho,Op.operands])
  rw [hx] at he
  rw [hy] at he2
  have hv:=hr.ev x
  rw [he] at hv
  have hv2:=hr.ev y
  rw [he2] at hv2
  obtain ⟨g,hg,hv⟩:=hv
  have hv2:a.eval y = .int kd z:=hv2
  obtain ⟨j,hj,hm⟩:∃j,P.info? e=some j∧j.size=m:=by
   have:=I.s
   cases h:P.info? e with
   | none=>simp [h] at this
   | some j=>exact ⟨j,rfl,by simpa [h] using this⟩
  subst hm hz hq
  refine ⟨.pointer (some ⟨g,p+i*j.size,none⟩),?_,⟨g,hg,rfl⟩,fun k' hk=>hr.nf (x:=x) he hk⟩
  unfold execOp
  rw [ho]
  simp [Instr.indexAt,asIntOf,run_underlying I.u,sizeOf,typeInfo,hj,hi,dx,hv,hv2,Instr.sureAddr]
theorem tJ {t e:TypeId} {x y:Operand} {n i:Nat} {kd:IntKind} {z:Int} {zs:List Value} {l:List D} {d:D} [I:ARR P t n e 1 zs] [J:TI P e false 1] (ho:o.op = .index t x y) (hx:s.ev x = .v (.ag l)) (hy:s.ev y = .c (.sc (.int kd z))) (hz:z=(i:Int)) (hi:i<n) (hd:l[i]? = some d):LOp P o s [] ⟨.c d,[],[]⟩ :=
 bc fun c st ρ a w hr h1 _=>by
  have he:=h1 x (by simp [ho,Op.operands])
  have he2:=h1 y (by simp [ho,Op.operands])
  rw [hx] at he
  rw [hy] at he2
  have hv:=hr.ev x
  rw [he] at hv
  have hv2:=hr.ev y
  rw [he2] at hv2
  obtain ⟨cs,hv,hA⟩:=hv
  have hv2:a.eval y = .int kd z:=hv2
  obtain ⟨u,hu,hrep⟩:=hA.get hd
  obtain ⟨j,hj,hm⟩:∃j,P.info? e=some j∧j.size=1:=by
   have:=I.s
   cases h:P.info? e with
   | none=>simp [h] at this
   | some j=>exact ⟨j,rfl,by simpa [h] using this⟩
  obtain ⟨de,hu2,hd2⟩:=J.u
  subst hz
  refine ⟨u,?_,hrep,fun k' hk=>hr.nf (x:=x) he ?_⟩
  ·have hg:isAgg e=isAgg e:=rfl
   have hag:(isAgg e).run P w = .ok false w:=by
    unfold isAgg
    simp only [Sem.run_bind,run_underlying hu2,Result.andThen_ok]
    cases de <;> simp_all [Sem.run_pure]
   unfold execOp
   rw [ho]
   simp [Instr.index,asIntOf,run_underlying I.u,sizeOf,typeInfo,hj,hm,hi,hv,hv2,part,hag,hu]
  ·exact ke hd hk
theorem Fd {f:FuncId} {xs:Array Operand} {ks:List Nat} (ho:o.op = .makeFunc (.func f) #[] xs) (hx:xs.toList.map s.ev=ks.map fun k=>.c (.ptr k 0)):LOp P o s [] ⟨.c (.clo f ks),[],[]⟩ :=
 bc fun c st ρ a w hr h1 _=>by
  have h1':xs.toList.map st.ev=ks.map fun k=>TV.c (.ptr k 0):=by
   rw [←hx]
   exact List.map_congr_left fun x hx=>h1 x (by simp [ho,Op.operands];simpa using hx)
  have key:∀(l:List Operand) (ks:List Nat),l.map st.ev=ks.map (fun k=>TV.c (.ptr k 0))→All2 (fun k u=>u=ρ k) ks (l.map a.eval)∧∀k,(∃j∈ks,j.beq k=true)→st.f k=false:=by
   intro l
   induction l with
   | nil=>intro ks h;cases ks with
    | nil=>exact ⟨trivial,fun k ⟨j,hj,_⟩=>by cases hj⟩
    | cons=>simp at h
   | cons x l ih =>
    intro ks h
    cases ks with
    | nil=>simp at h
    | cons k ks =>
     simp only [List.map_cons,List.cons.injEq] at h
     obtain ⟨i1,i2⟩:=ih ks h.2
     have hv:=hr.ev x
     rw [h.1] at hv
     obtain ⟨g,hg,hv⟩:=hv
     have hnf:st.f k=false:=hr.nf (x:=x) h.1 (by simp [TV.has,V0.has,D.has])
     refine ⟨⟨?_,i1⟩,fun k' ⟨j,hj,hb⟩=>?_⟩
     ·show a.eval x=ρ k
      rw [hv,hg]
     ·rcases List.mem_cons.1 hj with rfl|hj
      ·rw [←Nat.eq_of_beq_eq_true hb];exact hnf
      ·exact i2 k' ⟨j,hj,hb⟩
  obtain ⟨k1,k2⟩:=key _ _ h1'
  refine ⟨.func (.func f) #[] (xs.map a.eval),?_,⟨xs.toList.map a.eval,by congr 1;apply Array.toList_inj.1;simp,k1⟩,fun k hk=>k2 k ?_⟩
  ·unfold execOp
   rw [ho]
   simp [Instr.makeFunc]
  ·obtain ⟨j,hj,hb⟩:=List.any_eq_true.1 (show (D.clo f ks).has k=true from hk)
   exact ⟨j,hj,hb⟩
variable {n l:Nat}
theorem zY {a:Act} {w:World} {K:Act→World→Prop} {Q:Exit→Act→World→Prop} (hd:∀c,o.op≠.defer c) (h:o.wp P a w K fun _ _ _=>False):o.wpIn (Fence.wide.inRound l) n P a w K Q:=by
 refine ⟨fun _ _=>trivial,?_⟩
 rw [show (Fence.wide.inRound l).round=some l from rfl,Oper.semAt_some l _ _ hd]
 unfold Oper.wp at h
 generalize (execOp a.eval o).run P w=r at *
 cases r with
 | ok nx w' =>
  cases nx with
  | value v=>exact h
  | skip=>exact h
  | defer d=>exact h
  | enter f args =>
   refine ⟨fun h=>(by cases h),CallsIn.inRound l (callsIn_wide.2 (Calls.mono h fun e w'' he=>?_))⟩
   cases e with
   | returned v=>exact he
   | panicked c=>exact he.elim
   | outgrown=>obtain ⟨_,_,hf⟩:=he;exact hf.elim
  | row r args=>exact ⟨fun h=>(by cases h),fun c cs _=>by obtain ⟨v,w'',r1,r2⟩:=h c cs;exact ⟨v,w'',r1,stepsIn_wide.2 r2⟩⟩
  | _=>exact h.elim
 | halt x w'=>cases x <;> simp only [Oper.upon] at h
theorem im {ops:Array Oper} {Q:Exit→Act→World→Prop} (c:Ctx):∀(L:List Oper) (fps:List (List Nat×List Nat)) (s:Mst) (K:Mst→Prop),(∀o∈L,∀d,o.op≠.defer d)→fp c.nt L=true→DW P ops L fps s K→(∀s' ρ' a' w',K s'→Rp c s' ρ' a' w'→Q .normal a' w')→
  ∀(ρ:Nat→Value) (a:Act) (w:World),Rp c s ρ a w→wpListIn (Fence.wide.inRound l) n P ops Q L a w
 | [],_,s,K,_,_,h,hQ,ρ,a,w,hr=>hQ s ρ a w h hr
 | o :: L,fps,s,K,hno,hnt,h,hQ,ρ,a,w,hr=>by
  obtain ⟨R,W,fps',_,g,hg,h1,h2⟩:=h
  have hnt':fp c.nt L=true:=by simp [fp] at hnt ⊢;exact hnt.2
  refine wpListIn_step fun K' hK'=>?_
  rw [hr.gd hg]
  cases g with
  | true =>
   obtain ⟨e,⟨he,hkw,hu⟩,hn⟩:=h1 rfl
   rw [if_pos rfl]
   have h3:=he c s ρ a w hr (fun _ _=>rfl) (fun _ _=>rfl) hu (fun d hd=>pe hnt (by simp) hd)
   refine zY (hno o (by simp)) (Oper.wp_post h3 ?_)
   rintro a' w' ⟨ρ',hr'⟩
   exact hK' _ _ (im c L fps' _ K (fun o ho=>hno o (by simp [ho])) hnt' hn hQ ρ' a' w' hr')
  | false =>
   rw [if_neg (by simp)]
   exact ⟨fun _ _=>trivial,hK' _ _ (im c L fps' _ K (fun o ho=>hno o (by simp [ho])) hnt' (h2 rfl) hQ ρ _ w (hr.put_any o.dst))⟩
theorem oy {id nt:Nat} {L:List Oper} {K:Mst→Prop} {c:Ctx} {ρ:Nat→Value} {a:Act} {w:World} (hno:L.all (fun o=>match o.op with | .defer _=>false|_=>true)=true) (hnt:fp nt L=true) (hc:c.nt=nt) (h:DA P L.toArray false L [] s K) (hr:Rp c s ρ a w) :
  (Code.region id L.toArray false).wpIn (Fence.wide.inRound l) n P (fun e a' w'=>e = .normal∧∃s' ρ',K s'∧Rp c s' ρ' a' w') a w:=by
 obtain ⟨fps,h1,_⟩:=h
 refine wpIn_region_lit (im c L fps s K (fun o ho d hd=>?_) (hc▸hnt) h1 (fun s' ρ' a' w' hk hr'=>⟨rfl,s',ρ',hk,hr'⟩) ρ a w hr)
 have:=List.all_eq_true.1 hno o ho
 rw [hd] at this
 cases this
def Li (U:List Nat) (ts:List (Nat×TV)) (hs:List (Nat×Box)):Bool:=ts.all (fun x=>x.2.in_ U) && hs.all (fun x=>x.2.in_ U) && IT U (av hs)
theorem zZ {U:List Nat} {ts:List (Nat×TV)} {hs:List (Nat×Box)} (hok:Li U ts hs=true):(bH U ts hs).Wf:=by
 simp only [Li,Bool.and_eq_true] at hok
 obtain ⟨⟨o1,o2⟩,o3⟩:=hok
 have hU:∀k,(!aF U k)=true→aF U k=false:=fun k h=>by simpa using h
 refine ⟨fun k hk=>?_,fun k t hk=>?_,fun k k' b hk hb=>?_⟩
 ·have hk:=hU k hk
  show g6 hs k=none
  cases h9:g6 hs k with
  | none=>rfl
  | some b=>rw [iZ o3 (bZ h9).1] at hk;cases hk
 ·have hk:=hU k hk
  show (pg ts t).has k=false
  have htg:∀(l:List (Nat×TV)) (n:Nat),(pg l n = .c .any)∨∃d,(n,d)∈l∧pg l n=d:=by
   intro l n
   induction l with
   | nil=>exact .inl rfl
   | cons x l ih =>
    obtain ⟨k,d⟩:=x
    simp only [pg]
    cases hk:k.beq n with
    | true=>rw [Nat.eq_of_beq_eq_true hk];exact .inr ⟨d,by simp,rfl⟩
    | false =>
     rcases ih with h|⟨d',h1,h2⟩
     ·exact .inl h
     ·exact .inr ⟨d',by simp [h1],h2⟩
  rcases htg ts t with h|⟨d,h1,h2⟩
  ·rw [h];rfl
  ·rw [h2]
   cases h9:d.has k with
   | false=>rfl
   | true=>rw [TV.in_has (List.all_eq_true.1 o1 (t,d) h1) h9] at hk;cases hk
 ·have hk:=hU k hk
  cases h9:b.has k with
  | false=>rfl
  | true=>rw [Box.in_has (List.all_eq_true.1 o2 (k',b) (bZ hb).2) h9] at hk;cases hk
def ID (w:World) (F:Nat→Prop) (ρ:Nat→Value) (a:Act):List (Nat×TV)→Prop
 | []=>True
 | (t,d) :: r=>d.rep w F ρ (a.tmps.getD t undef)∧ID w F ρ a r
theorem mc {w:World} {F:Nat→Prop} {ρ:Nat→Value} {a:Act}:∀{ts:List (Nat×TV)},ID w F ρ a ts→∀t,(pg ts t).rep w F ρ (a.tmps.getD t undef)
 | [],_,_=>trivial
 | (k,d) :: r,h,t=>by
  simp only [pg]
  cases hk:k.beq t with
  | true=>rw [←Nat.eq_of_beq_eq_true hk];exact h.1
  | false=>exact mc h.2 t
end
section
open Go.Shelf
attribute [local go_sem] Oper.semAt_some
abbrev BE:=Int×Sv
def Fe (x:BE):Array Value:=#[.int .i64 x.1,.agg #[.int .i64 x.2.label,.int .i64 x.2.at_]]
def bk (zs:List Sv) (k:Nat):List BE:=(List.range k).map fun j=>(((zs.length-1-j:Nat):Int),zs[zs.length-1-j]?.getD ⟨0,0⟩)
theorem HQ (zs:List Sv) (k:Nat):bk zs (k+1)=bk zs k++[(((zs.length-1-k:Nat):Int),zs[zs.length-1-k]?.getD ⟨0,0⟩)]:=by simp [bk,List.range_succ]
theorem CL (zs:List Sv) (k:Nat):(bk zs k).length=k:=by simp [bk]
theorem JL (zs:List Sv):(bk zs zs.length).map (·.2)=zs.reverse:=by
 apply List.ext_getElem
 ·simp [bk]
 ·intro i h1 h2
  simp only [bk,List.length_map,List.length_range] at h1
  simp only [bk,List.getElem_map,List.getElem_range,List.getElem_reverse]
  rw [List.getElem?_eq_getElem (by omega)]
  rfl
def KpT (T:Nat→Prop) (W W':World):Prop:=∀b,T b→W'.heap[b]? = W.heap[b]?
theorem KpT.cell {T:Nat→Prop} {W W':World} (h:KpT T W W') {b o:Nat} (hb:T b):W'.cell? ⟨b,o,none⟩=W.cell? ⟨b,o,none⟩:=by
 simp only [World.cell?,h b hb]
theorem HW (n:Nat) (hn:1≤n) (l Bs b off cap:Nat) (zs:List Sv) (hreach:zs.length*16≤140737488351232) (T:Nat→Prop) (hb:T b) (hB:T Bs) (J Jx:List BE→World→Prop)
  (hY:∀pre x W,J pre W→pre.length<zs.length→YieldAt Fence.wide (n-1) prog l (Fe x) W fun e W' =>
   (e = .returned (.bool true)∧J (pre++[x]) W'∧KpT T W W')∨(e = .returned (.bool false)∧Jx (pre++[x]) W'))
  (W:World) (hBs:W.cell? ⟨Bs,0,none⟩=some (.slice (some ⟨b,off,none⟩) zs.length cap))
  (hc:∀j (h:j<zs.length),W.cell? ⟨b,off+j*2,none⟩=some (.int .i64 (zs[j]?.getD ⟨0,0⟩).label)∧W.cell? ⟨b,off+j*2+1,none⟩=some (.int .i64 (zs[j]?.getD ⟨0,0⟩).at_)) (h0:J [] W) :
  CallsIn Fence.wide n prog 66 #[.func (.yield l) #[] #[],.pointer (some ⟨Bs,0,none⟩)] W fun e W'=>(∃v,e = .returned v)∧
   ((∃ys,ys.map (·.2)=zs.reverse∧J ys W')∨(∃pre,True∧Jx pre W')):=by
 refine callsIn_of_wp func66 rfl trivial ?_ rfl
 simp only [ntmps66,List.size_toArray,List.length_cons,List.length_nil,Nat.reduceAdd,Nat.reduceSub,Array.replicate_succ,Array.replicate_zero,List.push_toArray,List.append_toArray,List.nil_append,List.cons_append]
 gi_wp2
 gi_loopw [3] (fun i wr=>∃k:Nat,(k=zs.length∧i = .int .i64 (-1)∨∃m:Nat,m+1+k=zs.length∧i = .int .i64 (m:Int))∧J (bk zs k) wr∧KpT T W wr)
  (fun i _=>(intOf i+1).toNat)
 case atStart =>
  refine ⟨0,?_,h0,fun _ _=>rfl⟩
  rcases Nat.eq_zero_or_pos zs.length with h|h
  ·left;rw [h];exact ⟨rfl,by simp⟩
  ·right;exact ⟨zs.length-1,by omega,by congr 1;omega⟩
 case round =>
  obtain ⟨k,hik,hJs,hnx⟩:=hrel
  have hBs':=(hnx.cell hB).trans hBs
  rcases hik with ⟨rfl,rfl⟩|⟨m,hm,rfl⟩
  ·gi_wp2
   go_end0
   exact ⟨⟨_,rfl⟩,.inl ⟨_,JL zs,hJs⟩⟩
  ·have hlt:m<zs.length:=by omega
   have hcx1:=(hnx.cell hb).trans (hc m (by omega)).1
   have hcx2:=(hnx.cell hb).trans (hc m (by omega)).2
   have hbk:bk zs (k+1)=bk zs k++[((m:Int),zs[m]?.getD ⟨0,0⟩)]:=by
    rw [HQ,show zs.length-1-k=m by omega]
   obtain ⟨x,hx⟩:∃x,zs[m]?.getD ⟨0,0⟩=x:=⟨_,rfl⟩
   rw [hx] at hcx1 hcx2 hbk
   clear hx
   obtain ⟨fn,tmps,assign,body,hy,hR⟩:=hY _ ((m:Int),x) wr hJs (by rw [CL];omega)
   unfold Fe at hy
   dsimp only at hy
   gi_wp2
   refine hR.mono ?_
   rintro e W3 (⟨rfl,hJ3,hk3⟩|⟨rfl,hJx3⟩)
   ·gi_wp2
    go_roundw
    case rel =>
     refine ⟨k+1,?_,by rw [hbk];exact hJ3,fun b hb=>(hk3 b hb).trans (hnx b hb)⟩
     cases m with
     | zero=>left;exact ⟨by omega,by simp⟩
     | succ m=>right;exact ⟨m,by omega,by congr 1;omega⟩
    case measure=>first|(simp [intOf];done)|(simp [intOf];omega)
   ·gi_wp2
    refine bodyPost_ret (results_none rfl _ _ _) rfl ?_
    exact ⟨⟨_,rfl⟩,.inr ⟨_,trivial,hJx3⟩⟩
theorem HY (n l Bs:Nat) (A:Option Addr) (cap:Nat) (J:List BE→World→Prop) (W:World) (hBs:W.cell? ⟨Bs,0,none⟩=some (.slice A 0 cap)) (h0:J [] W) :
  CallsIn Fence.wide n prog 66 #[.func (.yield l) #[] #[],.pointer (some ⟨Bs,0,none⟩)] W fun e W'=>(∃v,e = .returned v)∧J [] W':=by
 refine callsIn_of_wp func66 rfl trivial ?_ rfl
 simp only [ntmps66,List.size_toArray,List.length_cons,List.length_nil,Nat.reduceAdd,Nat.reduceSub,Array.replicate_succ,Array.replicate_zero,List.push_toArray,List.append_toArray,List.nil_append,List.cons_append]
 gi_wp2
 gi_loopw [3] (fun i wr=>i = .int .i64 (-1)∧J [] wr) (fun _ _=>0)
 case atStart=>exact ⟨rfl,h0⟩
 case round =>
  obtain ⟨rfl,hJs⟩:=hrel
  gi_wp2
  go_end0
  exact ⟨⟨_,rfl⟩,hJs⟩
theorem CM (n:Nat) (hn:1≤n) (Bs:Nat) (zs:List Sv) (hreach:zs.length*16≤140737488351232) (T S:Nat→Prop) (w:World) (A:Option Addr) (cap:Nat) (hBs:w.cell? ⟨Bs,0,none⟩=some (.slice A zs.length cap)) (hR:RowsAt iN w S A zs) (hS:∀b,S b→T b∧b<w.heap.size) (hT:T Bs) (hlt:Bs<w.heap.size) :
  SeqStopsK Fence.wide n prog 66 #[.pointer (some ⟨Bs,0,none⟩)] Fe (KpT T) (fun ys=>ys.map (·.2)=zs.reverse) (fun _=>True) zs.length w:=fun l J Jx W hW _ _ hY h0=>by
 have hc':=(hW.cell (p:=⟨Bs,0,none⟩) hlt).trans hBs
 rcases Nat.eq_zero_or_pos zs.length with hz|hz
 ·obtain rfl:zs=[]:=List.eq_nil_of_length_eq_zero hz
  exact (HY n l Bs A cap J W hc' h0).mono fun e W' ⟨he,hj⟩=>⟨he,.inl ⟨[],rfl,hj⟩⟩
 ·obtain ⟨b,off,cs,rfl,hb,_,_⟩:=hR.get (i:=0) hz
  refine HW n hn l Bs b off cap zs hreach T (hS b hb).1 hT J Jx hY W hc' (fun j hj=>?_) h0
  obtain ⟨b',off',cs',e1,_,h5,h6⟩:=hR.getx hj rfl
  injection e1 with e1
  injection e1 with e1 e2
  subst e1
  subst e2
  have h5:cs'=[.int .i64 zs[j].label,.int .i64 zs[j].at_]:=h5
  subst h5
  rw [List.getElem?_eq_getElem hj,Option.getD_some]
  have k0:=h6 0 (by decide)
  have k1:=h6 1 (by decide)
  exact ⟨(hW.cell (p:=⟨b,off+j*2,none⟩) (hS b hb).2).trans k0,(hW.cell (p:=⟨b,off+j*2+1,none⟩) (hS b hb).2).trans k1⟩
end
instance:ARR prog 75 2 42 1 [.slice none 0 0,.slice none 0 0]:=by
 have h:(prog.info? 75).bind (·.zero)=some (.agg #[.slice none 0 0,.slice none 0 0]):=by kernel_rfl
 refine ⟨by kernel_rfl,by kernel_rfl,?_⟩
 obtain ⟨i,h1,h2⟩:=Option.bind_eq_some_iff.1 h
 exact ⟨i,_,h1,h2,rfl⟩
instance:TI prog 75 true 2:=.of (by kernel_rfl)
instance:TZ prog 75 [.slice none 0 0,.slice none 0 0]:=.of (by kernel_rfl) rfl
theorem Lj (L:List Sv):FSpec prog 27 [.one (.sl iN L)] [] [0] (.c (.clo 66 [0])) [(0,some (.box 25 [.sl iN L]))]:=by
 refine aX func27 ?_
 repeat' (first
  | refine ah ?_ ?_
  | (refine aa 0 rfl ?_;refine sx (Fd (ks:=[1]) rfl rfl) ?_)
  | refine af ?_
  | exact ai|refine ae fun hb=>?_
  | (refine aE (qf [(0,1)]) ?_;exact ab))
section
variable {P:Program} {Q:Exit→Act→World→Prop} {s:Mst} {c0:Ctx}
theorem yi {w:World} {S:Nat→Prop} {ρ:Nat→Value} {args:List V0} {vs:List Value} {nt:Nat} (hS:∀b,S b→b<w.heap.size) (ha:All2 (V0.rep w S ρ) args vs) (hok:args.all (fun x=>V0.in_ [] x)=true) (hn:args.length≤nt) :
  Rp { w0:=w,S:=S,X:=fun _=>False,nt:=nt,K:=[],ρ0:=ρ,hS:=hS,hX:=fun _ h=>h.elim } (J7 args []) ρ { tmps:=vs.toArray++Array.replicate (nt-vs.toArray.size) undef,defers:=[] } w:=by
 have hlen:=ha.length
 have hF0:∀b,S b→Fz { w0:=w,S:=S,X:=fun _=>False,nt:=nt,K:=[],ρ0:=ρ,hS:=hS,hX:=fun _ h=>h.elim } (J7 args []).h ρ w b∧w.heap[b]? = w.heap[b]?:=fun b hb=>⟨⟨.inl hb,hS b hb,fun k bx hk=>by cases hk⟩,rfl⟩
 refine ⟨rfl,?_,Frx.refl _ _,fun i=>?_,fun k b hk=>(by cases hk),fun k b g hk hg=>(by cases hk),fun k k' b b' g hk hk' hg hg'=>(by cases hk),fun k hk=>(by cases hk),⟨fun k hk=>rfl,fun k i hk=>?_,fun k k' b hk hb2=>(by cases hb2)⟩⟩
 ·show (vs.toArray++Array.replicate (nt-vs.toArray.size) undef).size=nt
  simp
  omega
 ·show TV.rep _ _ _ (match args[i]? with|some x=>.v x|none=>.c .any) _
  cases hi:args[i]? with
  | none=>trivial
  | some x =>
   obtain ⟨v,hv,hx⟩:=ha.get hi
   have hil:i<vs.length:=(List.getElem?_eq_some_iff.1 hv).1
   have e1:(vs.toArray++Array.replicate (nt-vs.toArray.size) undef).getD i undef=v:=by
    rw [Array.getD_eq_getD_getElem?,Array.getElem?_append_left (by simpa using hil)]
    simp [hv]
   show V0.rep _ _ _ x ((vs.toArray++Array.replicate (nt-vs.toArray.size) undef).getD i undef)
   rw [e1]
   exact hx.mono hF0 fun _ _=>rfl
 ·show TV.has k (match args[i]? with|some x=>.v x|none=>.c .any)=false
  cases hi:args[i]? with
  | none=>rfl
  | some x =>
   cases h9:TV.has k (.v x) with
   | false=>rfl
   | true=>have:=V0.in_has (List.all_eq_true.1 hok x (List.mem_of_getElem? hi)) h9;simp [aF] at this
def GW (P:Program) (c0:Ctx) (Q:Exit→Act→World→Prop) (x:Code) (s:Mst):Prop:=∀(ρ:Nat→Value) (a:Act) (w:World),Rp c0 s ρ a w→x.wp P Q a w
theorem mY {x y:Code} {nt:Nat} {fn:Func} {res:TV} (hc:c0.nt=nt) (hk:c0.K=[]) (hF:∀s' ρ' a' w',p7 P fn [] res [] .ret s'→Rp c0 s' ρ' a' w'→Q .ret a' w') (h:AW P nt [] x (kn (GW P c0 Q y) (p7 P fn [] res [])) s):GW P c0 Q (.seq x y) s:=fun ρ a w hr=>by
 refine wp_seq (wp_mono (h c0 ρ a w hc hk hr) ?_)
 rintro e a' w' ⟨s',ρ',hq,hr'⟩
 cases e with
 | normal=>exact hq ρ' a' w' hr'
 | ret=>exact hF s' ρ' a' w' hq hr'
 | _=>obtain ⟨h1|h1,_⟩:=hq <;> cases h1
theorem CN {x y:Code} {nt:Nat} {fn:Func} {res:TV} (s2:Mst) (hc:c0.nt=nt) (hk:c0.K=[]) (hF:∀s' ρ' a' w',p7 P fn [] res [] .ret s'→Rp c0 s' ρ' a' w'→Q .ret a' w') (h:AW P nt [] x (kn (fun s'=>Le nt [] s' s2) (p7 P fn [] res [])) s) (h2:GW P c0 Q y s2):GW P c0 Q (.seq x y) s:=fun ρ a w hr=>by
 refine wp_seq (wp_mono (h c0 ρ a w hc hk hr) ?_)
 rintro e a' w' ⟨s',ρ',hq,hr'⟩
 cases e with
 | normal =>
  obtain ⟨ρ2,hr2⟩:=hq c0 ρ' a' w' hc hk hr'
  exact h2 ρ2 a' w' hr2
 | ret=>exact hF s' ρ' a' w' hq hr'
 | _=>obtain ⟨h1|h1,_⟩:=hq <;> cases h1
theorem yj {x:Code} (h:GW P c0 (Exit.noGoto Q) x s):GW P c0 Q (.scope x) s:=fun ρ a w hr=>wp_scope_straight (h ρ a w hr)
theorem Ff {x y:Code} (h:GW P c0 (Exit.then (y.wp P Q) Q) x s):GW P c0 Q (.seq x y) s:=fun ρ a w hr=>wp_seq (h ρ a w hr)
theorem Lk {x:Code} {nt:Nat} {s':Mst} (hc:c0.nt=nt) (hk:c0.K=[]) (h:Le nt [] s s') (h1:GW P c0 Q x s'):GW P c0 Q x s:=fun ρ a w hr=>by
 obtain ⟨ρ',hr'⟩:=h c0 ρ a w hc hk hr
 exact h1 ρ' a w hr'
theorem Bi {fn:Func} {res:TV} {e:Exit} {ρ:Nat→Value} {a:Act} {w:World} (h:p7 P fn [] res [] e s) (hr:Rp c0 s ρ a w) (hres:res.in_ []=true) (ρ2:Nat→Value) :
  ∃v,(results fn a.tmps).run P w = .ok v w∧res.rep w (fun b=>(c0.S b∨c0.w0.heap.size≤b)∧b<w.heap.size) ρ2 v:=by
 obtain ⟨_,xs,p,hxs,_,hpart,hle⟩:=h
 obtain ⟨v,hv,hvr⟩:=km hr hxs
 have h1:=hpart.tv hr hle hvr
 refine ⟨v,hv,h1.mono (fun b hb=>⟨⟨hb.1,hb.2.1⟩,rfl⟩) fun k hk=>?_⟩
 have:=TV.in_has hres hk
 simp [aF] at this
theorem oz {w:World} {F:Nat→Prop}:∀L:List Int,Reps fm w F L (L.map (Value.int .i64))
 | []=>rfl
 | _ :: l=>⟨_,_,rfl,rfl,oz l⟩
theorem qA {w:World} {F:Nat→Prop}:∀{L:List Int} {xs:List Value},Reps fm w F L xs→xs=L.map (Value.int .i64)
 | [],_,h=>h
 | _ :: _,_,⟨cs,rest,e,h1,h2⟩=>by
  have h1:cs=[.int .i64 _]:=h1
  rw [e,h1,qA h2]
  rfl
theorem sT {t:Array Value} {i j:Nat} {v:Value}:(t.setIfInBounds i v).getD j undef=if i=j∧i<t.size then v else t.getD j undef:=by
 rw [Array.getD_eq_getD_getElem?,Array.getD_eq_getD_getElem?,Array.getElem?_setIfInBounds]
 by_cases h:i=j
 ·subst h
  by_cases h2:i<t.size
  ·simp [h2]
  ·simp [h2]
 ·simp [h]
theorem qB {w:World} {base:Nat} {e:TypeId} {n m:Nat} {v:Value} {xs:List Value} (h:w.ownsRow base e n v m xs):w.ownsRow 0 e n v m xs:=⟨h.1,h.2.imp id fun ⟨g,cap,cur,e,_,r⟩=>⟨g,cap,cur,e,Nat.zero_le _,r⟩⟩
theorem wt {w:World} {base:Nat} {e:TypeId} {n m:Nat} {v:Value} {xs:List Value} (h:w.ownsRow 0 e n v m xs) (hb:∀g,kb v=some g→base≤g):w.ownsRow base e n v m xs:=⟨h.1,h.2.imp id fun ⟨g,cap,cur,e,_,r⟩=>⟨g,cap,cur,e,hb g (by rw [e];rfl),r⟩⟩
theorem oA {w w':World} {base:Nat} {e:TypeId} {n m:Nat} {v:Value} {xs:List Value} (h:w.ownsRow base e n v m xs) (hb:∀g,kb v=some g→g<w.heap.size→w'.heap[g]? = w.heap[g]?):w'.ownsRow base e n v m xs:=by
 refine ⟨h.1,?_⟩
 rcases h.2 with hn|⟨g,cap,cur,hv,hg,hh,rest⟩
 ·exact .inl hn
 ·exact .inr ⟨g,cap,cur,hv,hg,by rw [hb g (by rw [hv];rfl) (Array.getElem?_eq_some_iff.1 hh).1];exact hh,rest⟩
theorem mZ {w:World} {base:Nat} {e:TypeId} {n m:Nat} {v:Value} {xs:List Value} (h:w.ownsRow base e n v m xs) {g:Nat} (hg:kb v=some g):base≤g∧∃cur,w.heap[g]? = some (.cells cur e (0,0)):=by
 rcases h.2 with ⟨hv,_⟩|⟨g',cap,cur,hv,hb,hh,_⟩
 ·rw [hv] at hg;cases hg
 ·rw [hv] at hg
  injection hg with hg
  subst hg
  exact ⟨hb,cur,hh⟩
end
theorem HZ {P:Program} {o:Oper} {s:Mst} {ts:Array TypeId} {x y:Operand} {a b:Int} (ho:o.op = .call { callee:=.builtin .max,args:=#[x,y],argTypes:=ts }) (hx:s.ev x = .i a) (hy:s.ev y = .i b):LOp P o s [] ⟨.i (max a b),[],[]⟩ :=
 fq (by rw [ho];rfl) hx hy fun ev w hx hy=>by
  have h:(if b > a then b else a)=max a b:=by rw [Int.max_def];split <;> split <;> omega
  simp [execOp,ho,hx,hy,resolve,invoke,builtin,Builtin.max_,Builtin.max2,h]
theorem z6 (s:ByteArray):FSpec prog 34 [.one (.sc (.string s))] [] [] (.b (bJ s.toList)) [] :=
 aS (fun b W=>by kernel_rfl) rfl fun w S ρ vs _ h=>by
  match vs,h with
  | [_],⟨rfl,_⟩=>exact (toZ s w).mono fun e w' h=>⟨_,h.1,by rw [h.2];exact Below.refl _ _,rfl⟩
theorem Fg (r:Rs) (x:Am):FSpec prog 196 [r.a,x.a] [] [] (.b (aH r x)) [] :=
 aS (fun b W=>by kernel_rfl) rfl fun w S ρ vs _ h=>by
  match vs,h with
  | [_,_],⟨h1,h2,_⟩=>rw [Rs.open h1,Am.open h2];exact (Df r _ _ w).mono fun _ _=>lM
theorem Ll:∀(x:Ex) (d lev n:Nat),lev≤5→n≤24→FSpec prog 138 [x.a d,iV lev,.one (.ptr 0 0)] [(0,.box 3 [.sc (.int .i64 n)])] [] (.i (iX x lev n).1) [(0,some (.box 3 [.sc (.int .i64 (iX x lev n).2)]))]:=by
 refine Ex.ind (fun k a l ih=>?_)
 intro d lev n hlev hn
 obtain ⟨r,hr⟩:∃r,iX (.mk k a l) lev n=r:=⟨_,rfl⟩
 rw [hr]
 rw [As] at hr
 show FSpec prog 138 [.ag (Ej d k a l),iV lev,.one (.ptr 0 0)] [(0,.box 3 [.sc (.int .i64 n)])] [] (.i r.1) [(0,some (.box 3 [.sc (.int .i64 r.2)]))]
 refine aX func138 ?_
 refine aR (fun c ρ a w hr=>lO (t:=0) (i:=4) hr rfl rfl) (fun hx=>?_)
 obtain ⟨hlen,hne⟩:=hx
 by_cases hc:4<lev∨24<n+1
 ·rw [if_pos hc] at hr
  obtain rfl:=hr
  repeat' (first
   | refine ah ?_ ?_
   | refine af ?_
   | exact ai|refine ae fun hb=>?_
   | (refine aE (qf []) ?_;exact ab))
  all_goals (exfalso;omega)
 rw [if_neg hc] at hr
 repeat' (first
  | refine ah ?_ ?_
  | refine af ?_
  | exact ai|refine ae fun hb=>?_)
 refine ak (fun x:Nat×Nat×Nat=>x.1≤l.length∧x.2.1≤24∧x.2.2≤5∧mq (l.drop x.1) lev x.2.1 x.2.2=r) (fun x=>bH [0] [(1,.i lev),(2,.c (.ptr 0 0)),(7,.i x.2.2),(25,.c (.sl (qP d) l)),(26,.i l.length),(27,.i x.1)] [(0,.box 3 [.sc (.int .i64 x.2.1)])]) (fun x=>l.length-x.1) (0,n+1,0) ⟨Nat.zero_le _,by dsimp only;omega,Nat.zero_le _,hr⟩ (by exact ao (qf [])) ?_
 rintro ⟨i,n1,m⟩ ⟨hi,hn1,hm,hs⟩
 dsimp only at *
 by_cases hlt:i<l.length
 case neg =>
  rw [List.drop_eq_nil_of_le (by omega)] at hs
  obtain rfl:=hs
  repeat' (first
   | refine ah ?_ ?_
   | refine af ?_
   | exact ai|refine ae fun hb=>?_
   | (refine aE (qf []) ?_;exact ab))
 rw [List.drop_eq_getElem_cons hlt,rl] at hs
 obtain ⟨e,rfl⟩:=hne (by omega)
 obtain ⟨⟨a1,n2⟩,h1⟩:∃p,iX l[i] (lev+1) n1=p:=⟨_,rfl⟩
 have h5:a1≤5∧(a1≠0→n2≤24):=by
  rcases At l[i] (lev+1) n1 with ⟨b1,b2,b3⟩|⟨b1,b2,b3⟩ <;> rw [h1] at *
  ·injection b3;omega
  ·dsimp only at b2;omega
 have kS:FSpec prog 138 [l[i].a e,iV ((lev:Int)+1),.one (.ptr 0 0)] [(0,.box 3 [.sc (.int .i64 n1)])] [] (.i a1) [(0,some (.box 3 [.sc (.int .i64 n2)]))]:=by
  have:=ih l[i] (List.getElem_mem hlt) e (lev+1) n1 (by omega) hn1
  rw [h1] at this
  exact this
 rw [h1] at hs
 dsimp only at hs
 clear ih h1
 repeat' (first
  | refine ah ?_ ?_
  | (refine aa 9 rfl ?_;first
   | (refine sx (HZ rfl rfl rfl) ?_)
   | (refine cH (qf [(0,0)]) (kS) ?_))
  | refine af ?_
  | exact ai|refine ae fun hb=>?_)
 ·obtain rfl:(0,n2)=r:=by rw [←hs,if_pos (by omega)]
  refine aE (qf []) ?_;exact ab
 ·refine ⟨(i+1,n2,max m a1),⟨by dsimp only;omega,by dsimp only;omega,by dsimp only;omega,by rw [←hs,if_neg (by omega)]⟩,by dsimp only;omega,?_⟩
  dsimp only
  exact ao (qf [])
theorem z7 (x:Ex) (d:Nat) {n:Nat} (hn:(if Ar x then x.dep else 0:Nat)=n):FSpec prog 103 [x.a d] [] [] (.i n) []:=by
 have kM:=Ll x d 1 0 (by decide) (by decide)
 rw [Gi,hn] at kM
 obtain ⟨m,hm⟩:∃m,(iX x 1 0).2=m:=⟨_,rfl⟩
 rw [hm] at kM
 refine aX func103 ?_
 repeat' (first
  | refine ah ?_ ?_
  | refine aa 9 rfl (cH (qf [(0,3)]) (kM) ?_)
  | refine af ?_
  | exact ai|refine ae fun hb=>?_
  | (refine aE (qf []) ?_;exact ab))
def Mk (o:Option (List Tm)):List (Nat×Option Box):=match o with
 | some r=>[(0,some (.box 39 [.own 2])),(1,none),(2,some (.arr 31 cr r))]
 | none=>[(0,none),(1,none),(2,none)]
def mA:List Tm→List Tm→Tm→Int
 | [],acc,_=>if acc.length=8 then 4 else 0
 | b :: l,acc,a=>bif decide (a=b) then 0 else bif decide (a.name=b.name) then 13 else mA l acc a
theorem sU (b:Tm) (l acc:List Tm) (a:Tm):mA (b :: l) acc a=bif decide (a=b) then 0 else bif decide (a.name=b.name) then 13 else mA l acc a:=rfl
theorem yk (acc:List Tm) (a:Tm):∀l,(ge l acc a=none∧(mA l acc a=4∨mA l acc a=13))∨(∃r,ge l acc a=some r)∧mA l acc a=0
 | []=>by
  unfold ge mA
  by_cases h:acc.length=8
  ·rw [if_pos h,if_pos h];exact .inl ⟨rfl,.inl rfl⟩
  ·rw [if_neg h,if_neg h];exact .inr ⟨⟨_,rfl⟩,rfl⟩
 | b :: l=>by
  rw [jr,sU]
  cases decide (a=b) with
  | true=>exact .inr ⟨⟨_,rfl⟩,rfl⟩
  | false =>
   cases decide (a.name=b.name) with
   | true=>exact .inl ⟨rfl,.inr rfl⟩
   | false=>exact yk acc a l
theorem IE (acc:List Tm) (a:Tm) (h8:acc.length≤8) {c:Int} (hc:mA acc acc a=c) {R:Option (List Tm)} (hR:ge acc acc a=R):FSpec prog 140 [.one (.ptr 0 0),a.a] [(0,.box 39 [.own 1]),(1,.arr 31 cr acc)] [2] (.i c) (Mk R):=by
 refine gg func140 rfl (fun b W=>by kernel_rfl) (by cases R <;> rfl) (Nat.le_of_ble_eq_true rfl) ?_
 repeat' (first
  | refine ah ?_ ?_
  | refine af ?_
  | exact ai|refine ae fun hb=>?_)
 refine ak (fun i=>i≤acc.length∧mA (acc.drop i) acc a=c∧ge (acc.drop i) acc a=R) (fun i=>bH [0,1,3] [(0,.c (.ptr 0 0)),(3,.c (.ptr 3 0)),(9,.c (.own 1)),(10,.i acc.length),(11,.i i)] [(0,.box 39 [.own 1]),(1,.arr 31 cr acc),(3,.box 31 [.sc (.string a.name),.sc (.int .i64 a.am.mode),.sc (.int .i64 a.am.units)])]) (fun i=>acc.length-i) 0 ⟨Nat.zero_le _,hc,hR⟩ (by exact ao (qf [])) ?_
 rintro i ⟨hi,hc,hR⟩
 by_cases hlt:i<acc.length
 ·rw [List.drop_eq_getElem_cons hlt] at hc hR
  rw [sU] at hc
  rw [jr] at hR
  by_cases h1:a=acc[i]
  ·rw [decide_eq_true h1] at hc hR
   obtain rfl:=hc
   obtain rfl:=hR
   repeat' (first
    | refine ah ?_ ?_
    | refine af ?_
    | exact ai|refine ae fun hb=>?_
    | (refine aE (qf [(2,1)]) ?_;exact ab))
  rw [decide_eq_false h1,cond_false] at hc hR
  by_cases h2:a.name=acc[i].name
  ·rw [decide_eq_true h2] at hc hR
   obtain rfl:=hc
   obtain rfl:=hR
   repeat' (first
    | refine ah ?_ ?_
    | refine af ?_
    | exact ai|(refine ae fun hb=>?_;first|(exact absurd (by rw [h2]) hb)|skip)
    | (refine aE (qf []) ?_;exact ab))
  ·rw [decide_eq_false h2] at hc hR
   repeat' (first
    | refine ah ?_ ?_
    | refine af ?_
    | exact ai|(refine ae fun hb=>?_;first|(exact absurd (toList_inj hb) h2)|skip))
   refine ⟨i+1,⟨by omega,hc,hR⟩,by omega,?_⟩
   exact ao (qf [])
 ·rw [List.drop_eq_nil_of_le (by omega)] at hc hR
  unfold mA at hc
  unfold ge at hR
  by_cases h9:acc.length=8
  ·rw [if_pos h9] at hc hR
   obtain rfl:=hc
   obtain rfl:=hR
   repeat' (first
    | refine ah ?_ ?_
    | refine af ?_
    | exact ai|refine ae fun hb=>?_
    | (refine aE (qf []) ?_;exact ab))
  ·rw [if_neg h9] at hc hR
   obtain rfl:=hc
   obtain rfl:=hR
   repeat' (first
    | refine ah ?_ ?_
    | (refine aa 8 rfl ?_;refine aM (aj rfl rfl (ax rfl rfl) (aB [a] rfl rfl rfl rfl) rfl aC aC) rfl rfl rfl ?_)
    | refine af ?_
    | exact ai|refine ae fun hb=>?_
    | (refine aE (qf [(2,35)]) ?_;exact ab))
theorem z8 (a:Tm):FSpec prog 139 [a.a] [] [] (.b (jP a)) []:=by
 have hu:=wQ a.am.mode a.am.units
 unfold jP
 rw [show aZ a.am=_ from hu]
 refine aX func139 ?_
 repeat' (first
  | refine ah ?_ ?_
  | (refine aa 9 rfl ?_;first
   | (refine cB [] (z6 a.name) ?_)
   | (refine cB [] (Fg ⟨⟨#[]⟩,1,1,0⟩ a.am) ?_)
   | (refine cB [] (Fg ⟨⟨#[]⟩,2,8,0⟩ a.am) ?_))
  | refine af ?_
  | exact ai|refine ae fun hb=>?_)
 all_goals (refine gz ?_;simp [*])
theorem H0:∀(x:Ex) (d:Nat) (acc:List Tm),acc.length≤8→FSpec prog 104 [x.a d,.one (.ptr 0 0)] [(0,.box 39 [.own 1]),(1,.arr 31 cr acc)] [2] (.b (BM x acc).isSome) (Mk (BM x acc)):=by
 refine Ex.ind (fun k a l ih=>?_)
 intro d acc h8
 obtain ⟨R,hR⟩:∃R,BM (.mk k a l) acc=R:=⟨_,rfl⟩
 rw [hR]
 rw [y8] at hR
 show FSpec prog 104 [.ag (Ej d k a l),.one (.ptr 0 0)] [(0,.box 39 [.own 1]),(1,.arr 31 cr acc)] [2] (.b R.isSome) (Mk R)
 refine gg func104 rfl (fun b W=>by kernel_rfl) (by cases R <;> rfl) (Nat.le_of_ble_eq_true rfl) ?_
 cases hE:l.isEmpty with
 | true =>
  obtain rfl:=List.isEmpty_iff.1 hE
  rw [hE,cond_true,wX] at hR
  cases hk:decide (k=0) && jP a with
  | false =>
   rw [hk] at hR
   obtain rfl:none=R:=hR
   repeat' (first
    | refine ah ?_ ?_
    | refine aa 9 rfl (cB [] (z8 a) ?_)
    | refine af ?_
    | exact ai|refine ae fun hb=>?_
    | (refine aE (qf []) ?_;exact ab))
   all_goals (exfalso;revert hk;simp [*])
  | true =>
   rw [hk,cond_true] at hR
   obtain ⟨h0,h1⟩:k=0∧jP a=true:=by simpa using hk
   rcases yk acc a acc with ⟨e1,e2⟩|⟨⟨r,e1⟩,e2⟩
   ·obtain rfl:none=R:=e1.symm.trans hR
    rcases e2 with e2|e2
    all_goals
     repeat' (first
      | refine ah ?_ ?_
      | (refine aa 9 rfl ?_;first
       | (refine cB [] (z8 a) ?_)
       | (refine cH (qf [(0,0),(1,1),(2,1001)]) (IE acc a h8 e2 e1) ?_))
      | refine af ?_
      | exact ai|(refine ae fun hb=>?_;first|(simp [h1] at hb;done)|skip)
      | (refine aE (qf []) ?_;exact ab))
   ·obtain rfl:some r=R:=e1.symm.trans hR
    repeat' (first
     | refine ah ?_ ?_
     | (refine aa 9 rfl ?_;first
      | (refine cB [] (z8 a) ?_)
      | (refine cH (qf [(0,0),(1,1),(2,1001)]) (IE acc a h8 e2 e1) ?_))
     | refine af ?_
     | exact ai|(refine ae fun hb=>?_;first|(simp [h1] at hb;done)|skip)
     | (refine aE (qf [(2,1001)]) ?_;exact ab))
 | false =>
  have hl0:0<l.length:=List.length_pos_iff.2 fun e=>by rw [e] at hE;cases hE
  rw [hE,cond_false] at hR
  refine aR (fun c ρ a w hr=>lO (t:=0) (i:=4) hr rfl rfl) (fun hx=>?_)
  obtain ⟨hlen,hne⟩:=hx
  obtain ⟨e,rfl⟩:=hne hl0
  cases hg:o9 k a l with
  | false =>
   rw [hg] at hR
   obtain rfl:none=R:=hR
   repeat' (first
    | refine ah ?_ ?_
    | refine af ?_
    | exact ai|refine ae fun hb=>?_
    | (refine aE (qf []) ?_;exact ab))
   all_goals (exfalso;revert hg;simp [o9, *];try omega)
  | true =>
   rw [hg,cond_true] at hR
   obtain ⟨⟨h1,h2⟩,h3⟩:(1≤k∧k≤(l.length:Int))∧a=jO:=by simpa [o9] using hg
   subst h3
   repeat' (first
    | refine ah ?_ ?_
    | refine af ?_
    | exact ai|(refine ae fun hb=>?_;first|(simp at hb;done)|skip))
   refine ak (fun x:Nat×List Tm=>x.1≤l.length∧x.2.length≤8∧Gk (l.drop x.1) x.2=R) (fun x=>bH [0,1,1000] [(1,.c (.ptr 0 0)),(44,.c (.sl (qP (e+1)) l)),(45,.i l.length),(46,.i x.1)] [(0,.box 39 [.own 1000]),(1000,.arr 31 cr x.2)]) (fun x=>l.length-x.1) (0,acc) ⟨Nat.zero_le _,h8,hR⟩ (by exact ao (qf [(1000,1)])) ?_
   rintro ⟨i,acc1⟩ ⟨hi,hc,hs⟩
   dsimp only at *
   by_cases hlt:i<l.length
   ·rw [List.drop_eq_getElem_cons hlt] at hs
    rw [ro] at hs
    have kS:=ih l[i] (List.getElem_mem hlt) e acc1 hc
    have hlen2:=Gm l[i] acc1
    clear ih
    cases h1:BM l[i] acc1 with
    | none =>
     rw [h1] at hs kS
     obtain rfl:none=R:=hs
     repeat' (first
      | refine ah ?_ ?_
      | refine aa 9 rfl (cH (qf [(0,0),(1,1000),(2,1001)]) (kS) ?_)
      | refine af ?_
      | exact ai|refine ae fun hb=>?_
      | (refine aE (qf []) ?_;exact ab))
    | some r =>
     rw [h1] at hs kS
     have hlen3:=hlen2 r hc h1
     repeat' (first
      | refine ah ?_ ?_
      | refine aa 9 rfl (cH (qf [(0,0),(1,1000),(2,1001)]) (kS) ?_)
      | refine af ?_
      | exact ai|refine ae fun hb=>?_)
     refine ⟨(i+1,r),⟨by dsimp only;omega,by dsimp only;omega,hs⟩,by dsimp only;omega,?_⟩
     exact ao (qf [(1000,1001)])
   ·rw [List.drop_eq_nil_of_le (by omega)] at hs
    obtain rfl:some acc1=R:=hs
    repeat' (first
     | refine ah ?_ ?_
     | refine af ?_
     | exact ai|refine ae fun hb=>?_
     | (refine aE (qf [(2,1000)]) ?_;exact ab))
theorem Aa (d:Nat) (x:Ex):FSpec prog 65 [x.a d] [] [] (.b (nE x)) []:=by
 obtain ⟨v,hv⟩:∃v,nE x=v:=⟨_,rfl⟩
 rw [hv]
 rw [IQ] at hv
 have kP:=H0 x d [] (by simp)
 have h0:=x.dep_pos
 refine aX func65 ?_
 cases hk:Ar x with
 | false =>
  rw [hk] at hv
  obtain rfl:false=v:=hv
  repeat' (first
   | refine ah ?_ ?_
   | refine aa 9 rfl (cB [] (z7 x d (n:=0) (by rw [hk];rfl)) ?_)
   | refine af ?_
   | exact ai|refine ae fun hb=>?_
   | (refine aE (qf []) ?_;exact ab))
 | true =>
  rw [hk,Bool.true_and] at hv
  repeat' (first
   | refine ah ?_ ?_
   | ((fail_if_success (first|refine ul 2 ?_|refine um 2 ?_));refine af ?_)
   | exact ai|refine ae fun hb=>?_)
  refine fC 3 0 1000 31 cr rfl rfl rfl rfl ?_
  cases hp:BM x [] with
  | none =>
   rw [hp] at kP hv
   obtain rfl:false=v:=hv
   repeat' (first
    | refine ah ?_ ?_
    | (refine aa 9 rfl ?_;first
     | (refine cB [] (z7 x d (n:=x.dep) (by rw [hk];rfl)) ?_)
     | (refine cH (qf [(0,3),(1,1000),(2,1001)]) (kP) ?_))
    | refine af ?_
    | exact ai|refine ae fun hb=>?_
    | (refine aE (qf []) ?_;exact ab))
  | some r =>
   rw [hp] at kP hv
   obtain rfl:true=v:=hv
   repeat' (first
    | refine ah ?_ ?_
    | (refine aa 9 rfl ?_;first
     | (refine cB [] (z7 x d (n:=x.dep) (by rw [hk];rfl)) ?_)
     | (refine cH (qf [(0,3),(1,1000),(2,1001)]) (kP) ?_))
    | refine af ?_
    | exact ai|refine ae fun hb=>?_
    | (refine aE (qf []) ?_;exact ab))
theorem Lm (l:List Tm) (a:Tm):FSpec prog 206 [.one (.sl cr l),a.a] [] [] (.i (wY a 0 l)) []:=by
 obtain ⟨v,hv⟩:∃v,wY a 0 l=v:=⟨_,rfl⟩
 rw [hv]
 refine aX func206 ?_
 refine aR (fun c ρ a w hr=>cu (t:=0) hr rfl) (fun hl0=>?_)
 repeat' (first
  | refine ah ?_ ?_
  | refine af ?_
  | exact ai|refine ae fun hb=>?_)
 refine ak (fun i=>i≤l.length∧wY a i (l.drop i)=v) (fun i=>bH [3] [(0,.c (.sl cr l)),(3,.c (.ptr 3 0)),(7,.i l.length),(8,.i i)] [(3,.box 31 [.sc (.string a.name),.sc (.int .i64 a.am.mode),.sc (.int .i64 a.am.units)])]) (fun i=>l.length-i) 0 ⟨Nat.zero_le _,hv⟩ (by exact ao (qf [])) ?_
 rintro i ⟨hi,hs⟩
 by_cases hlt:i<l.length
 ·rw [List.drop_eq_getElem_cons hlt,tZ] at hs
  repeat' (first
   | refine ah ?_ ?_
   | refine af ?_
   | exact ai|refine ae fun hb=>?_)
  ·refine gz ?_
   rw [←hs];simp [*]
  ·refine ⟨i+1,⟨by omega,?_⟩,by omega,?_⟩
   ·rw [←hs];simp [*]
   ·exact ao (qf [])
 ·rw [List.drop_eq_nil_of_le (by omega)] at hs
  repeat' (first
   | refine ah ?_ ?_
   | refine af ?_
   | exact ai|refine ae fun hb=>?_)
  refine gz ?_
  rw [←hs];rfl
theorem Fh (l:List Tm) (a:Tm) {v:Bool} (hv:jU a l=v):FSpec prog 143 [.one (.sl cr l),a.a] [] [] (.b v) []:=by
 refine aX func143 ?_
 repeat' (first
  | refine ah ?_ ?_
  | refine aa 9 rfl (cB [] (Lm l a) ?_)
  | refine af ?_
  | exact ai|refine ae fun hb=>?_)
 refine gz ?_
 rcases t6 a l 0 [] with ⟨h1,h2,_⟩|⟨i,_,h1,h2,_⟩
 ·rw [h1,←hv,h2];rfl
 ·rw [h1,←hv,h2];simp
theorem Fi:∀(x:Ex) (d:Nat) (acc:List Tm),acc.length+x.cnt≤1000→FSpec prog 109 [.one (.own 0),x.a d] [(0,.arr 31 cr acc)] [1] (.c (.own 1)) [(0,none),(1,some (.arr 31 cr (fK x acc)))]:=by
 refine Ex.ind (fun k a l ih=>?_)
 intro d acc hl
 rw [Ex.cnt_mk] at hl
 obtain ⟨R,hR⟩:∃R,fK (.mk k a l) acc=R:=⟨_,rfl⟩
 rw [hR]
 rw [lC] at hR
 show FSpec prog 109 [.one (.own 0),.ag (Ej d k a l)] [(0,.arr 31 cr acc)] [1] (.c (.own 1)) [(0,none),(1,some (.arr 31 cr R))]
 refine aX func109 ?_
 cases hE:l.isEmpty with
 | true =>
  obtain rfl:=List.isEmpty_iff.1 hE
  rw [hE,cond_true,g5] at hR
  cases hh:jU a acc with
  | true =>
   rw [hh] at hR
   obtain rfl:acc=R:=hR
   repeat' (first
    | refine ah ?_ ?_
    | refine aa 9 rfl (cB [0] (Fh acc a hh) ?_)
    | refine af ?_
    | exact ai|refine ae fun hb=>?_
    | (refine aE (qf [(1,0)]) ?_;exact ab))
  | false =>
   rw [hh] at hR
   obtain rfl:acc++[a]=R:=hR
   repeat' (first
    | refine ah ?_ ?_
    | (refine aa 8 rfl ?_;refine aM (aj rfl rfl (ax rfl rfl) (aB [a] rfl rfl rfl rfl) rfl aC aC) rfl rfl rfl ?_)
    | refine aa 9 rfl (cB [0] (Fh acc a hh) ?_)
    | refine af ?_
    | exact ai|refine ae fun hb=>?_
    | (refine aE (qf [(1,20)]) ?_;exact ab))
 | false =>
  have hl0:0<l.length:=List.length_pos_iff.2 fun e=>by rw [e] at hE;cases hE
  rw [hE,cond_false] at hR
  refine aR (fun c ρ a w hr=>lO (t:=1) (i:=4) hr rfl rfl) (fun hx=>?_)
  obtain ⟨hlen,hne⟩:=hx
  obtain ⟨e,rfl⟩:=hne hl0
  repeat' (first
   | refine ah ?_ ?_
   | refine af ?_
   | exact ai|refine ae fun hb=>?_)
  refine ak (fun x:Nat×List Tm=>x.1≤l.length∧x.2.length+jp (l.drop x.1)≤1000∧gD (l.drop x.1) x.2=R) (fun x=>bH [0,1000] [(0,.c (.own 1000)),(22,.c (.sl (qP (e+1)) l)),(23,.i l.length),(24,.i x.1)] [(1000,.arr 31 cr x.2)]) (fun x=>l.length-x.1) (0,acc) ⟨Nat.zero_le _,by simpa using (by omega),hR⟩ (by exact ao (qf [(1000,0)])) ?_
  rintro ⟨i,acc1⟩ ⟨hi,hc,hs⟩
  dsimp only at *
  by_cases hlt:i<l.length
  ·rw [List.drop_eq_getElem_cons hlt] at hs hc
   rw [fP] at hs
   rw [gO] at hc
   have kS:=ih l[i] (List.getElem_mem hlt) e acc1 (by omega)
   have hlen2:=rn l[i] acc1
   obtain ⟨r,h1⟩:∃r,fK l[i] acc1=r:=⟨_,rfl⟩
   rw [h1] at hs kS hlen2
   clear ih h1
   repeat' (first
    | refine ah ?_ ?_
    | refine aa 9 rfl (cH (qf [(0,1000),(1,1001)]) (kS) ?_)
    | refine af ?_
    | exact ai|refine ae fun hb=>?_)
   refine ⟨(i+1,r),⟨by dsimp only;omega,by dsimp only;omega,hs⟩,by dsimp only;omega,?_⟩
   exact ao (qf [(1000,1001)])
  ·rw [List.drop_eq_nil_of_le (by omega)] at hs
   obtain rfl:acc1=R:=hs
   repeat' (first
    | refine ah ?_ ?_
    | refine af ?_
    | exact ai|refine ae fun hb=>?_
    | (refine aE (qf [(1,1000)]) ?_;exact ab))
theorem JM (d:Nat) (x:Ex) {L:List Tm} (hL:cP x=L):FSpec prog 68 [x.a d] [] [] (.c (.sl cr L)) []:=by
 subst hL
 unfold cP
 refine aX func68 ?_
 cases hv:nE x with
 | false =>
  repeat' (first
   | refine ah ?_ ?_
   | refine aa 9 rfl (cB [] (Aa d x) ?_)
   | refine af ?_
   | exact ai|(refine ae fun hb=>?_;first|(simp [hv] at hb;done)|skip)
   | (refine aE (qf []) ?_;exact ab))
 | true =>
  have h24:x.cnt≤24:=by have h:=hv;simp [nE,Ar] at h;exact h.1.2
  have kA:=(Fi x d [] (by simp;omega)).nil0 (by decide) fun q k=>rfl
  repeat' (first
   | refine ah ?_ ?_
   | (refine aa 9 rfl ?_;first
    | (refine cB [] (Aa d x) ?_)
    | (refine cH (qf [(0,1000),(1,1001)]) (kA) ?_))
   | refine af ?_
   | exact ai|(refine ae fun hb=>?_;first|(simp [hv] at hb;done)|skip)
   | (refine aE (qf []) ?_;exact ab))
section
variable {β:Type} (V:β→Value) (z:β) (n:ByteArray) (a:β)
def lh (l:List (ByteArray×β)):List (Value×Value):=l.map fun x=>(.string x.1,V x.2)
def pM:List (ByteArray×β)→β
 | []=>z
 | x :: l=>bif aT x.1 n then x.2 else pM l
def dL:List (ByteArray×β)→List (ByteArray×β)
 | []=>[(n,a)]
 | x :: l=>bif aT x.1 n then (x.1,a) :: l else x :: dL l
def Fj:Nat→List (ByteArray×β)→Option (Nat×β)
 | _,[]=>none
 | j,x :: l=>bif aT x.1 n then some (j,x.2) else Fj (j+1) l
end
section
variable {P:Program} {β:Type} {V:β→Value} {z:β} {n:ByteArray} {a:β}
theorem JN (m n:ByteArray):(n == m)=aT m n:=by
 rw [Bool.eq_iff_iff,aW,MapKept.bytes_beq]
 exact eq_comm
theorem wu:∀(l:List (ByteArray×β)) (i j:Nat),Instr.findNow .string (.string n) (d8 i (lh V l)) j=some ((Fj n j l).map fun x=>(x.1,V x.2))
 | [],_,_=>rfl
 | x :: l,i,j=>by
  have ih:=wu l (i+1) (j+1)
  show (match some (n == x.1) with|some true=>some (some (j,V x.2))|some false=>Instr.findNow .string (.string n) (d8 (i+1) (lh V l)) (j+1)|none=>none)=_
  rw [JN,Fj]
  cases aT x.1 n with
  | true=>rfl
  | false=>exact ih
theorem Fk:∀(l:List (ByteArray×β)) (j:Nat),pM z n l=match Fj n j l with|some x=>x.2|none=>z
 | [],_=>rfl
 | x :: l,j=>by
  have ih:=Fk l (j+1)
  unfold pM Fj
  cases aT x.1 n with
  | true=>rfl
  | false=>exact ih
theorem qC:∀(l:List (ByteArray×β)) (j:Nat),Fj n j l=none→dL n a l=l++[(n,a)]
 | [],_,_=>rfl
 | x :: l,j,h=>by
  unfold Fj at h
  unfold dL
  cases hx:aT x.1 n with
  | true=>rw [hx] at h;cases h
  | false =>
   rw [hx] at h
   rw [cond_false,qC l (j+1) h]
   rfl
theorem yl:∀(l m:List (Value×Value)) (i:Nat),d8 i (l++m)=d8 i l++d8 (i+l.length) m
 | [],_,_=>rfl
 | x :: l,m,i=>by
  show _ :: d8 (i+1) (l++m)=_ :: (d8 (i+1) l++_)
  rw [yl l m (i+1),List.length_cons,show i+1+l.length=i+(l.length+1) by omega]
theorem qD:∀(l:List (ByteArray×β)) (i j k:Nat) (b:β),Fj n j l=some (k,b)→j≤k∧(d8 i (lh V l))[k-j]? = some ⟨.string n,V b,i+(k-j)⟩∧(d8 i (lh V l)).set (k-j) ⟨.string n,V a,i+(k-j)⟩=d8 i (lh V (dL n a l))∧(dL n a l).length=l.length
 | [],_,_,_,_,h=>by cases h
 | x :: l,i,j,k,b,h=>by
  unfold Fj at h
  unfold dL
  cases hx:aT x.1 n with
  | true =>
   rw [hx] at h
   simp only [cond_true,Option.some.injEq,Prod.mk.injEq] at h
   obtain ⟨rfl,rfl⟩:=h
   obtain rfl:=aW.1 hx
   rw [Nat.sub_self]
   exact ⟨Nat.le_refl _,rfl,rfl,rfl⟩
  | false =>
   rw [hx] at h
   obtain ⟨h1,h2,h3,h4⟩:=qD l (i+1) (j+1) k b h
   have e:k-j=(k-(j+1))+1:=by omega
   rw [cond_false,e]
   refine ⟨by omega,?_,?_,?_⟩
   ·show (d8 (i+1) (lh V l))[k-(j+1)]? = _
    rw [h2,show i+1+(k-(j+1))=i+(k-(j+1)+1) by omega]
   ·show (⟨.string x.1,V x.2,i⟩:MapEntry) :: (d8 (i+1) (lh V l)).set (k-(j+1)) _=_ :: d8 (i+1) (lh V (dL n a l))
    rw [←h3,show i+1+(k-(j+1))=i+(k-(j+1)+1) by omega]
   ·simp [h4]
variable {w:World} {g t K E:Nat} {l:List (ByteArray×β)}
theorem Fl (ht:P.underlying t=some (.map K E)) (hK:P.underlying K=some .string) (hz:(zeroValue E).run P w = .ok (V z) w) (hb:w.heap[g]? = some (j9 (lh V l))):(Instr.lookup t (.map (some g)) (.string n) false).run P w = .ok (V (pM z n l)) w:=by
 have h1:=wu (V:=V) (n:=n) l 0 0
 have hk:MapKept.IsKey .string (.string n):=by simp [MapKept.IsKey]
 rw [Fk l 0]
 cases hf:Fj n 0 l with
 | none =>
  rw [hf] at h1
  simp [Instr.lookup,run_underlying ht,MapKept.run_getObj_map hb,MapKept.run_checkKey hK hk,MapKept.run_findKey hK h1,hz,Result.andThen]
 | some x =>
  rw [hf] at h1
  simp [Instr.lookup,run_underlying ht,MapKept.run_getObj_map hb,MapKept.run_checkKey hK hk,MapKept.run_findKey hK h1,Result.andThen]
theorem Fm (ht:P.underlying t=some (.map K E)) (hK:P.underlying K=some .string) (hb:w.heap[g]? = some (j9 (lh V l))):(Instr.mapUpdate t (.map (some g)) (.string n) (V a)).run P w = .ok () { w with heap:=w.heap.setIfInBounds g (j9 (lh V (dL n a l))) }:=by
 have h1:=wu (V:=V) (n:=n) l 0 0
 have hk:MapKept.IsKey .string (.string n):=by simp [MapKept.IsKey]
 cases hf:Fj n 0 l with
 | none =>
  rw [hf] at h1
  have e:j9 (lh V (dL n a l)) = .map ((d8 0 (lh V l)).toArray.push ⟨.string n,V a,(lh V l).length⟩) ((lh V l).length+1):=by
   rw [qC l 0 hf]
   unfold j9 lh
   rw [List.map_append,yl]
   simp [d8]
  rw [e]
  simp [Instr.mapUpdate,run_underlying ht,MapKept.run_getObj_map hb,MapKept.run_checkKey hK hk,MapKept.run_findKey hK h1,MapKept.run_setObj_map _ hb,Result.andThen]
 | some x =>
  obtain ⟨k,b⟩:=x
  rw [hf] at h1
  obtain ⟨_,h2,h3,h4⟩:=qD (V:=V) (a:=a) l 0 0 k b hf
  simp only [Nat.sub_zero,Nat.zero_add] at h2 h3
  have e:j9 (lh V (dL n a l)) = .map ((d8 0 (lh V l)).toArray.modify k fun e=>{ e with key:=.string n,val:=V a }) (lh V l).length:=by
   unfold j9
   rw [←h3]
   have hl:(lh V (dL n a l)).length=(lh V l).length:=by simp [lh,h4]
   rw [hl]
   congr 1
   apply Array.ext'
   rw [Array.toList_modify]
   apply List.ext_getElem?
   intro j
   rw [List.getElem?_modify,List.getElem?_set]
   by_cases hkj:k=j
   ·subst hkj
    have hlt:=(List.getElem?_eq_some_iff.1 h2).1
    simp only [if_true,h2,Option.map_eq_map,Option.map_some]
    rw [if_pos hlt]
   ·simp [hkj]
  rw [e]
  simp [Instr.mapUpdate,run_underlying ht,MapKept.run_getObj_map hb,MapKept.run_checkKey hK hk,MapKept.run_findKey hK h1,h2,MapKept.run_keyThatStays hk,MapKept.run_setObj_map _ hb,Result.andThen]
end
section
variable {P:Program} {o:Oper} {s:Mst} {β:Type} {V:β→Value} {z:β} {n:ByteArray} {a:β} {l:List (ByteArray×β)}
theorem uI {t k:Nat} (ho:o.op = .makeMap t none) (hdk:o.dst=some k):LOp P o s [] ⟨.c (.own k),[(k,some (.mp []))],[k]⟩:=by
 intro c st ρ a w hr h1 h2 h3 h4
 have hfk:st.f k=true:=h3 k (by simp [aF])
 have hkk:∀k':Nat,aA [(k,some (Box.mp []))] k'=true→k'=k:=fun k' h=>by
  simp only [aA,Bool.or_false] at h
  exact (Nat.eq_of_beq_eq_true h).symm
 refine Oper.wp_value (v:=.map (some w.heap.size)) (w':=w.alloc (.map #[] 0)) ?_ ⟨upd ρ k (.map (some w.heap.size)),hr.app (e:=⟨.c (.own k),[(k,some (.mp []))],[k]⟩) h4 (fun k' h=>?_) (fun k' h=>?_) (fun k' h=>.inl ?_) (Frx.alloc _ _ _) (fun k' bx g' h _ hg'=>?_) (fun k1 k2 _ _ _ h h' _ _ _ _=>?_) (fun k' h=>.inl ?_) (fun k1 k2 bx h hp hx=>?_) (fun k2 bx h hp=>?_) ?_⟩
 ·unfold execOp
  rw [ho]
  simp [Instr.makeMap,Result.andThen]
 ·have:k'=k:=by simp [aF] at h;exact h.symm
  subst this
  exact ⟨hfk,by simp [aA]⟩
 ·exact dB (by simpa [aF] using h)
 ·rw [hkk k' h];simp [aF]
 ·rw [hkk k' h,aL] at hg'
  injection hg' with hg'
  subst hg'
  exact ⟨by simp,.inl (Nat.le_refl _)⟩
 ·rw [hkk k1 h,hkk k2 h']
 ·have:k'=k:=by simp [TV.has,V0.has,D.has] at h;exact h.symm
  subst this;simp [aF]
 ·rw [hkk k2 h] at hp
  simp only [hput,Nat.beq_refl,cond_true,Option.some.injEq] at hp
  subst hp
  simp [Box.has] at hx
 ·rw [hkk k2 h] at hp ⊢
  simp only [hput,Nat.beq_refl,cond_true,Option.some.injEq] at hp
  subst hp
  rw [aL]
  exact ⟨_,rfl,(MapKept.heap_alloc w _).1⟩
 ·exact (aL _ _ _).symm
theorem Fn {t K E k:Nat} {x y:Operand} {d:TV} (ht:P.underlying t=some (.map K E)) (hK:P.underlying K=some .string) (hz:∀w,(zeroValue E).run P w = .ok (V z) w) (ho:o.op = .lookup t x y false) (hx:s.ev x = .c (.own k)) (hk:s.h k=some (.mp (lh V l))) (hy:s.ev y = .c (.sc (.string n)))
  (hd:∀w F ρ,d.rep w F ρ (V (pM z n l))) (hn:∀j,d.has j=false):LOp P o s [k] ⟨d,[],[]⟩ :=
 bc fun c st ρ a w hr h1 h2=>by
  have e1:=h1 x (by simp [ho,Op.operands])
  have e2:=h1 y (by simp [ho,Op.operands])
  have hv1:=hr.ev x
  have hv2:=hr.ev y
  rw [e1,hx] at hv1
  rw [e2,hy] at hv2
  have hv1:a.eval x=ρ k:=hv1
  have hv2:a.eval y = .string n:=hv2
  obtain ⟨g,hg,hb⟩:=hr.hp k _ ((h2 k (by simp [aF])).trans hk)
  refine ⟨V (pM z n l),?_,hd _ _ _,fun j hj=>by rw [hn j] at hj;cases hj⟩
  unfold execOp
  rw [ho]
  simp only [hv1,hv2,hg,Sem.run_bind,Fl ht hK (hz w) hb,Result.andThen_ok,Sem.run_pure]
theorem Fo {t K E k:Nat} {x y q:Operand} (ht:P.underlying t=some (.map K E)) (hK:P.underlying K=some .string) (ho:o.op = .mapUpdate t x y q) (hx:s.ev x = .c (.own k)) (hk:s.h k=some (.mp (lh V l))) (hy:s.ev y = .c (.sc (.string n)))
  (hq:∀w F ρ v,(s.ev q).rep w F ρ v→v=V a):LOp P o s [k] ⟨.c .any,[(k,some (.mp (lh V (dL n a l))))],[]⟩:=by
 intro c st ρ ac w hr h1 h2 h3 h4
 have e1:=h1 x (by simp [ho,Op.operands])
 have e2:=h1 y (by simp [ho,Op.operands])
 have e3:=h1 q (by simp [ho,Op.operands])
 have hv1:=hr.ev x
 have hv2:=hr.ev y
 have hv3:=hr.ev q
 rw [e1,hx] at hv1
 rw [e2,hy] at hv2
 rw [e3] at hv3
 have hv1:ac.eval x=ρ k:=hv1
 have hv2:ac.eval y = .string n:=hv2
 have hv3:=hq _ _ _ _ hv3
 have hk':=(h2 k (by simp [aF])).trans hk
 obtain ⟨g,hg,hb⟩:=hr.hp k _ hk'
 have hkb:kb (ρ k)=some g:=by rw [hg];rfl
 have hkk:∀k':Nat,aA [(k,some (Box.mp (lh V (dL n a l))))] k'=true→k'=k:=fun k' h=>by
  simp only [aA,Bool.or_false] at h
  exact (Nat.eq_of_beq_eq_true h).symm
 have hset:=MapKept.heap_set (o':=j9 (lh V (dL n a l))) hb
 have hlt:g<w.heap.size:=(Array.getElem?_eq_some_iff.1 hb).1
 refine Oper.wp_skip (w':={ w with heap:=w.heap.setIfInBounds g (j9 (lh V (dL n a l))) }) ?_ ⟨ρ,hr.app (e:=⟨.c .any,[(k,some (.mp (lh V (dL n a l))))],[]⟩) h4 (fun k h=>by simp [aF] at h) (fun _ _=>rfl) (fun k' h=>.inr (by rw [hkk k' h];exact hr.nfh hk')) ⟨rfl,rfl,rfl,by simp,fun b hlt hn=>hset.2 b fun e=>hn ⟨k,_,by simp [aA],hk',by rw [hkb,e]⟩⟩ ?_ ?_ (fun k h=>by simp [TV.has,V0.has,D.has] at h) ?_ ?_ trivial⟩
 ·unfold execOp
  rw [ho]
  simp only [hv1,hv2,hv3,hg,Sem.run_bind,Fm ht hK hb,Result.andThen_ok,Sem.run_pure]
 ·intro k' bx g' h _ hg'
  rw [hkk k' h,hkb] at hg'
  injection hg' with hg'
  subst hg'
  exact ⟨by simpa using hlt,.inr ⟨k,_,by simp [aA],hk',hkb⟩⟩
 ·intro k1 k2 _ _ _ h h' _ _ _ _
  rw [hkk k1 h,hkk k2 h']
 ·intro k1 k2 bx h hp hx
  rw [hkk k2 h] at hp
  simp only [hput,Nat.beq_refl,cond_true,Option.some.injEq] at hp
  subst hp
  simp [Box.has] at hx
 ·intro k2 bx h hp
  rw [hkk k2 h] at hp ⊢
  simp only [hput,Nat.beq_refl,cond_true,Option.some.injEq] at hp
  subst hp
  exact ⟨g,hg,hset.1⟩
theorem uJ {t K E k:Nat} {x:Operand} {L:List (Value×Value)} (ht:P.underlying t=some (.map K E)) (ho:o.op = .call { callee:=.builtin .len,args:=#[x],argTypes:=#[t] }) (hx:s.ev x = .c (.own k)) (hk:s.h k=some (.mp L)):LOp P o s [k] ⟨.i L.length,[],[]⟩ :=
 bc fun c st ρ a w hr h1 h2=>by
  have e1:=h1 x (by simp [ho,Op.operands,Call.operands])
  have hv1:=hr.ev x
  rw [e1,hx] at hv1
  have hv1:a.eval x=ρ k:=hv1
  obtain ⟨g,hg,hb⟩:=hr.hp k _ ((h2 k (by simp [aF])).trans hk)
  refine ⟨.int .i64 L.length,?_,rfl,fun k hk=>by simp [TV.has,V0.has,D.has] at hk⟩
  have hl:∀(l:List (Value×Value)) (i:Nat),(d8 i l).length=l.length:=by
   intro l
   induction l with
   | nil=>intro _;rfl
   | cons x l ih=>intro i;show (d8 (i+1) l).length+1=_;rw [ih];rfl
  unfold execOp
  rw [ho]
  have hrun:(Builtin.len_ #[t] o.type #[.map (some g)]).run P w = .ok (.int .i64 L.length) w:=by
   simp [Builtin.len_,run_underlying ht,MapKept.run_getObj_map hb,Result.andThen,hl]
   rfl
  simp only [resolve,invoke,builtin,Sem.run_bind,Sem.run_pure,Result.andThen_ok,List.map_toArray,List.map_cons,List.map_nil,hv1,hg,hrun]
end
def Kb (x:Am):Value:=.agg #[.int .i64 x.mode,.int .i64 x.units]
abbrev Bj (l:List (ByteArray×Am)):List (Value×Value):=lh Kb l
abbrev tK (n:ByteArray) (l:List (ByteArray×Am)):Am:=pM ⟨0,0⟩ n l
theorem md {P:Program} {o:Oper} {s:Mst} {t k:Nat} (K E:Nat) {x y:Operand} {n:ByteArray} {l:List (ByteArray×Am)} (ht:P.underlying t=some (.map K E)) (hK:P.underlying K=some .string) (hz:∀w,(zeroValue E).run P w = .ok (Kb ⟨0,0⟩) w) (ho:o.op = .lookup t x y false) (hx:s.ev x = .c (.own k)) (hk:s.h k=some (.mp (Bj l))) (hy:s.ev y = .c (.sc (.string n))) {b:Am} (hb:tK n l=b):LOp P o s [k] ⟨.v b.a,[],[]⟩:=by
 subst hb
 exact Fn (V:=Kb) (z:=⟨0,0⟩) ht hK hz ho hx hk hy (fun _ _ _=>⟨_,rfl,rfl,rfl,trivial⟩) fun _=>rfl
theorem pN {P:Program} {o:Oper} {s:Mst} {t k:Nat} (K E:Nat) {x y q:Operand} {n:ByteArray} {l:List (ByteArray×Am)} {b:Am} (ht:P.underlying t=some (.map K E)) (hK:P.underlying K=some .string) (ho:o.op = .mapUpdate t x y q) (hx:s.ev x = .c (.own k)) (hk:s.h k=some (.mp (Bj l))) (hy:s.ev y = .c (.sc (.string n))) (hq:s.ev q = .v b.a) {m:List (ByteArray×Am)} (hm:dL n b l=m):LOp P o s [k] ⟨.c .any,[(k,some (.mp (Bj m)))],[]⟩:=by
 subst hm
 exact Fo (V:=Kb) ht hK ho hx hk hy fun w F ρ v hv=>by
  rw [hq] at hv
  obtain ⟨cs,e,h⟩:=hv
  rw [e]
  match cs,h with
  | [_,_],⟨rfl,rfl,_⟩=>rfl
end Go.Proofs.YtdaajdflefnjfaaGreat
