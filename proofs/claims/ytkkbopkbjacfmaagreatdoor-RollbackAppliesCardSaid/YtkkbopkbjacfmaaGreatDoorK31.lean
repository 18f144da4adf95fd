/- Part K31 of a proof of statements of chapter 15 (no condition). -/
import Derived.Test.YtkkbopkbjacfmaaGreatDoorK25
import Derived.Test.YtkkbopkbjacfmaaGreatDoorK26
import Derived.Laws.BytesString
set_option linter.unusedVariables false
set_option linter.unusedSimpArgs false
set_option maxRecDepth 100000
set_option maxHeartbeats 64000000
namespace Go.Proofs.YtkkbopkbjacfmaaGreatDoor
open Go.RowKit Go.Proofs.Tryz
section
variable {P:Program} {o:Oper} {s:Mst}
theorem eu {src dst:TypeId} {x:Operand} {k k2:IntKind} {n m:Int} (ho:o.op = .convert src dst x) (hs:P.underlying src=some (.int k)) (hd:P.underlying dst=some (.int k2)) (hx:s.ev x = .c (.sc (.int k n))) (h:k2.wrap n=m):LOp P o s [] ⟨.c (.sc (.int k2 m)),[],[]⟩ :=
 DP (by rw [ho];rfl) hx fun ev w hx=>by simp [execOp,ho,hx,convert,run_underlying hs,run_underlying hd,Conv.intToInt,h]
theorem Lk {t t':TypeId} {x y:Operand} {kd k2:IntKind} {a b c:Int} (ho:o.op = .binOp .shr t x y t') (hx:s.ev x = .c (.sc (.int kd a))) (hy:s.ev y = .c (.sc (.int k2 b))) (h0:0<=b) (hb:b.toNat<=kd.bits) (h:a.fdiv (2 ^ b.toNat)=c):LOp P o s [] ⟨.c (.sc (.int kd c)),[],[]⟩ :=
 gE (by rw [ho];rfl) hx hy fun ev w hx hy=>by
  have:¬b<0:=by omega
  simp [execOp,ho,hx,hy,eqGuard,binOp,Op.shift,this,Nat.min_eq_left hb,h]
end
instance:Dp fo:=fb _ _ _ _ _
instance:ST prog fo 22 3 8:=⟨ElTB.mk' underlying22 (.int .i64 0) 1 8 (by kernel_rfl) rfl rfl⟩
theorem O9 (n m:Int) (hm:m<=1048576):FSpec prog 147 [lD n,lD m] [] [] (.i (lE n m)) []:=by
 refine aS func147 ?_;by_cases h1:m<1
 ·have e:lE n m=0:=by unfold lE;rw [qDt h1];rfl
  rw [e];exact QY
 ·have k1:n.tmod m<m:=Int.tmod_lt_of_pos n (by omega);have k2 : -m<n.tmod m:=Int.lt_tmod_of_pos n (by omega);obtain ⟨r,hr⟩:=qGe (n.tmod m);have e:lE n m=bif decide (r<0) then r+m else r:=by unfold lE;rw [qDf h1,hr];rfl
  rw [e];rw [hr] at k1 k2;by_cases h2:r<0
  ·rw [qDt h2];exact RE
  ·rw [qDf h2];exact RE
theorem II (n m:Int) (hm:m<=1048576) {r:Int} (h:lE n m=r):FSpec prog 147 [lD n,lD m] [] [] (.i r) []:=h▸O9 n m hm
def Ll (t:Tp):List D:=[.sl fo t.l,.sc (.int .i64 t.at_)]
def HT (t:Tp):List (Nat×Box):=[(0,.box 138 (Ll t))]
def Mx (t:Tp):List (Nat×Option Box):=[(0,some (.box 138 (Ll t)))]
structure TOk (t:Tp):Prop where
 le:t.at_<=t.l.length
 len:t.l.length<=100000
theorem TOk.s {t:Tp} (h:TOk t):TOk t.s:=⟨t.s_at h.le,by rw [t.s_l];exact h.len⟩
theorem TOk.adv {t u:Tp} (h:TOk t) (k:Adv t u):TOk u:=⟨k.ok h.le,by rw [k.l];exact h.len⟩
theorem iS (t:Tp) (m:Int) (h:TOk t) (hm:m<=1048576):FSpec prog 69 [ls,lD m] (HT t) [] (.i (t.v m)) (Mx t.s):=by
 refine aS func69 ?_;have hl:=h.len;have hle:=h.le;by_cases h1:t.l.length<=t.at_
 ·have e1:t.v m=0:=by unfold Tp.v;rw [qDt h1];rfl
  have e2:t.s=t:=by unfold Tp.s;rw [qDt h1];rfl
  rw [e1,e2];refine ao ?_
  (refine cn (qf [(0,0)]) ?_;exact ak)
 ·obtain ⟨x,hx⟩:∃x,t.l[t.at_]? = some x:=⟨_,qGg (by omega)⟩;have e1:t.v m=lE x m:=by unfold Tp.v;rw [qDf h1,qCf,List.getD_eq_getElem?_getD,hx];rfl
  have e2:t.s=⟨t.l,t.at_+1⟩:=by unfold Tp.s;rw [qDf h1];rfl
  rw [e1,e2];have hx2:t.l[((t.at_:Int)+1-1).toNat]? = some x:=by rw [<-hx];congr 1;omega
  have kM:=O9 x m hm;refine ao ?_
  (refine cn (qf [(0,0)]) ?_;exact ak)
theorem NK (t:Tp) (h:TOk t):FSpec prog 103 [ls] (HT t) [] (.b (decide (t.at_<t.l.length))) (Mx t):=by
 refine aS func103 ?_;have hl:=h.len;have e:decide (t.at_<t.l.length)=decide ((t.at_:Int)<t.l.length):=by rw [Bool.eq_iff_iff];simp
 rw [e];refine ao ?_
 (refine cn (qf [(0,0)]) ?_;exact ak)
theorem ri (n:Int):FSpec prog 102 [lD n] [] [] (.v (iR n).a) []:=by
 refine aS func102 ?_;obtain ⟨r,hr⟩:=qGe (lE n 8);have kM:=II n 8 (by omega) hr;have hb:=tW (n:=n) (m:=8) (by omega);rw [hr] at hb;have e:iR n=⟨r.tmod 4,1,1+r.tdiv 4⟩:=by unfold iR;rw [hr]
 rw [e];have hq:0<=r.tdiv 4/\r.tdiv 4<=8:=by rw [Int.tdiv_eq_ediv_of_nonneg hb.1];omega
 obtain ⟨q,hq2⟩:=qGe (r.tdiv 4);rw [hq2] at hq ⊢;repeat' (first|refine az ?_ ?_|refine aa 9 rfl (cB [] kM ?_)|(refine aa 10 rfl ?_;first|(refine sx (KB rfl rfl rfl (by decide) ((congrArg _ hq2).trans (IntWalk.i64_in _ (by omega)))) ?_)|(refine sx (yK rfl rfl rfl (by decide) rfl) ?_))|refine ay ?_|exact aA|refine ax fun hb=>?_|exact aT|fail)
theorem NL (n:Int):FSpec prog 192 [lD n] [] [] (.i (Eo n)) []:=by
 refine aS func192 ?_;obtain ⟨r,hr⟩:=qGe (lE n 8);have kM:=II n 8 (by omega) hr;have hb:=tW (n:=n) (m:=8) (by omega);unfold Eo;rw [hr] at hb ⊢;obtain rfl|rfl|rfl|rfl|rfl|rfl|rfl|rfl:r=0\/r=1\/r=2\/r=3\/r=4\/r=5\/r=6\/r=7:=by omega
 all_goals
  repeat' (first|refine az ?_ ?_|(refine aa 6 rfl ?_;first|(refine sx (bL (i:=7) rfl rfl rfl rfl (by decide)) ?_)|(refine sx (bL (i:=6) rfl rfl rfl rfl (by decide)) ?_)|(refine sx (bL (i:=5) rfl rfl rfl rfl (by decide)) ?_)|(refine sx (bL (i:=4) rfl rfl rfl rfl (by decide)) ?_)|(refine sx (bL (i:=3) rfl rfl rfl rfl (by decide)) ?_)|(refine sx (bL (i:=2) rfl rfl rfl rfl (by decide)) ?_)|(refine sx (bL (i:=1) rfl rfl rfl rfl (by decide)) ?_)|(refine sx (bL (i:=0) rfl rfl rfl rfl (by decide)) ?_))|(refine aa 7 rfl ?_;refine sx (fQ rfl rfl) ?_)|refine aa 9 rfl (cB [] kM ?_)|refine ay ?_|exact aA|refine ax fun hb=>?_|exact aT|fail)
theorem Qh (r:Rs) (n:Int) (hr:1<=r.units/\r.units<=1000):FSpec prog 105 [r.a,lD n] [] [] (.v (Mw r n).a) []:=by
 refine aS func105 ?_;by_cases hk:r.kind=1
 ·have e:Mw r n=⟨Eo n,0⟩:=by unfold Mw;rw [qDt hk];rfl
  rw [e];have kM:=NL n;exact QY
 ·obtain ⟨v,hv⟩:=qGe (lE n r.units);have hb:=tW (n:=n) hr.1;have kM:=II n r.units (by omega) hv;have e:Mw r n=⟨0,1+v⟩:=by unfold Mw;rw [qDf hk,hv];rfl
  rw [e];rw [hv] at hb;exact QY
instance (d:Nat):ST prog (qF (d+1)) 64 66 64:=⟨ElTB.mk' underlying64 (.agg #[.int .i64 0,.string ⟨#[]⟩,.int .i64 0,.int .i64 0,.slice none 0 0]) 5 64 (by kernel_rfl) rfl rfl⟩
theorem Bc {L:List Tm} {v:Int} {a:Tm} (h:L[v.toNat]? = some a):Ep L v=a:=by unfold Ep;rw [List.getD_eq_getElem?_getD,h];rfl
theorem nx (t:Tp) (m:Int) (h:TOk t) (h1:1<=m) (hm:m<=1048576):∃v u,t.v m=v/\t.s=u/\TOk u/\0<=v/\v<m/\FSpec prog 69 [ls,lD m] (HT t) [] (.i v) (Mx u) :=
 ⟨_,_,rfl,rfl,h.s,(t.v_in h1).1,(t.v_in h1).2,iS t m h hm⟩
theorem EC (L:List Tm) (hL:0<L.length/\L.length<=1000):∀(d:Nat) (t:Tp) (dz:Int),dz=(d:Int)->d<=100->TOk t->∀{R:Ex×Tp},fL L d t=R->FSpec prog 328 [ls,.one (.sl da L),lD dz] (HT t) [] (.v (R.1.a d)) (Mx R.2)
 | 0,t,dz,hd,_,ht,R,hR=>by
  refine aS func328 ?_;unfold fL at hR;obtain ⟨v,u,e1,e2,hu,b1,b2,kN⟩:=nx t L.length ht (by omega) (by omega);rw [e1,e2] at hR;obtain ⟨a,ha⟩:∃a,L[v.toNat]? = some a:=⟨_,qGg (by omega)⟩;rw [Bc ha] at hR;obtain rfl:R=(.mk 0 a [],u):=hR.symm;clear e1 e2;subst hd;repeat' (first|refine az ?_ ?_|refine aa 9 rfl (cH (qf [(0,0)]) kN ?_)|refine ay ?_|exact aA|refine ax fun hb=>?_|(refine cn (qf [(0,0)]) ?_;exact ak))
 | d+1,t,dz,hd,hd9,ht,R,hR=>by
  refine aS func328 ?_;unfold fL at hR;obtain ⟨v,u,e1,e2,hu,b1,b2,kN⟩:=nx t 4 ht (by omega) (by omega);rw [e1,e2] at hR;clear e1 e2;by_cases h0:v=0
  ·rw [qDt h0,qCt] at hR;obtain ⟨v2,u2,e1,e2,hu2,c1,c2,kN2⟩:=nx u L.length hu (by omega) (by omega);rw [e1,e2] at hR;clear e1 e2;obtain ⟨a,ha⟩:∃a,L[v2.toNat]? = some a:=⟨_,qGg (by omega)⟩;rw [Bc ha] at hR;obtain rfl:R=(.mk 0 a [],u2):=hR.symm;repeat' (first|refine az ?_ ?_|(refine aa 9 rfl ?_;first|(refine cH (qf [(0,0)]) kN ?_)|(refine cH (qf [(0,0)]) kN2 ?_))|refine ay ?_|exact aA|(refine ax fun hb=>?_;first|(exact absurd h0 hb)|skip)|(refine cn (qf [(0,0)]) ?_;exact ak))
  ·rw [qDf h0,qCf] at hR;obtain ⟨v3,u2,e1,e2,hu2,c1,c2,kN2⟩:=nx u 3 hu (by omega) (by omega);rw [e1,e2] at hR;clear e1 e2;obtain ⟨vk,u3,e1,e2,hu3,d1,d2,kN3⟩:=nx u2 (1+v3) hu2 (by omega) (by omega);rw [e1,e2] at hR;clear e1 e2;obtain ⟨n,hn⟩:∃n:Nat,1+v3=(n:Int):=⟨(1+v3).toNat,by omega⟩;rw [hn,Int.toNat_natCast] at hR;obtain ⟨K,hK⟩:=qGe (lw (fL L d) n u3);rw [hK] at hR;obtain rfl:R=(.mk (1+vk) ⟨⟨#[]⟩,Am.zero⟩ K.1,K.2):=hR.symm;repeat' (first|refine az ?_ ?_|(refine aa 9 rfl ?_;first|(refine cH (qf [(0,0)]) kN ?_)|(refine cH (qf [(0,0)]) kN2 ?_)|(refine cH (qf [(0,0)]) kN3 ?_))|refine ay ?_|exact aA|(refine ax fun hb=>?_;first|(exact absurd hb h0)|skip))
   refine eG 8 4 1000 66 (qF (d+1)) rfl rfl rfl rfl ?_;refine ab (fun y:Nat×Tp×List Ex=>y.1<=n/\TOk y.2.1/\y.2.2.length=y.1/\(y.2.2++(lw (fL L d) (n-y.1) y.2.1).1,(lw (fL L d) (n-y.1) y.2.1).2)=K) (fun y=>bC [0,6,8,1000] [(0,.v ls),(1,.c (.sl da L)),(2,.v (lD dz)),(6,.c (.ptr 6 0)),(7,.i (1+v3)),(8,.c (.ptr 8 0)),(9,.i y.1)] [(0,.box 138 (Ll y.2.1)),(6,.box 66 [.sc (.int .i64 0),.sc (.string ⟨#[]⟩),.sc (.int .i64 0),.sc (.int .i64 0),.sc (.slice none 0 0)]),(8,.box 66 [.sc (.int .i64 (1+vk)),.sc (.string ⟨#[]⟩),.sc (.int .i64 0),.sc (.int .i64 0),.own 1000]),(1000,.arr 66 (qF (d+1)) y.2.2)]) (fun y=>n-y.1) (0,u3,[]) ⟨Nat.zero_le _,hu3,rfl,by rw [<-hK];simp⟩ aL ?_;clear hK kN3 kN2 kN;rintro ⟨i,w,ks⟩ ⟨hi,hw,hkl,hs⟩;dsimp only at *
   by_cases hlt:i<n
   ·obtain ⟨G,hG⟩:=qGe (fL L d w);have kG:=EC L hL d w (dz-1) (by omega) (by omega) hw hG;have hadv:=oz L d w;rw [hG] at hadv;have e1:lw (fL L d) (n-i) w=(G.1 :: (lw (fL L d) (n-(i+1)) G.2).1,(lw (fL L d) (n-(i+1)) G.2).2):=by
     rw [show n-i=(n-(i+1))+1 by omega,<-hG];rfl
    rw [e1] at hs;repeat' (first|refine az ?_ ?_|(refine aa 8 rfl ?_;refine aK (ae rfl rfl (av rfl rfl) (aB [G.1] rfl rfl rfl rfl) rfl aE aE) rfl rfl rfl ?_)|refine aa 9 rfl (cH (qf [(0,0)]) kG ?_)|refine ay ?_|exact aA|refine ax fun hb=>?_)
    refine ⟨(i+1,G.2,ks++[G.1]),⟨by dsimp only;omega,hw.adv hadv,by simp [hkl],?_⟩,by dsimp only;omega,?_⟩
    ·exact Ry
    ·exact a8 (qf [(1000,46)])
   ·rw [show n-i=0 by omega] at hs;obtain rfl:K=(ks,w):=by rw [<-hs];simp [lw]
    refine ao ?_
    (refine cn (qf [(0,0)]) ?_;exact ak)
theorem I5 (t:Tp) (l:List Rs) (h:TOk t) (hl:0<l.length/\l.length<=8) (hu:∀r∈l,1<=r.units/\r.units<=1000) {R:Ex×Tp} (hR:pF t l=R):FSpec prog 280 [ls,.one (.sl f9 l)] (HT t) [] (.v (R.1.a 2)) (Mx R.2):=by
 refine aS func280 ?_;unfold pF at hR;obtain ⟨first,u,e1,e2,hu1,b1,b2,kN⟩:=nx t 1048576 h (by omega) (by omega);rw [e1,e2] at hR;clear e1 e2;obtain ⟨T,hT⟩:=qGe (xS first 0 l);rw [hT] at hR;repeat' (first|refine az ?_ ?_|refine aa 9 rfl (cH (qf [(0,0)]) kN ?_)|refine ay ?_|exact aA|refine ax fun hb=>?_)
 refine bK 6 1000 63 da rfl rfl rfl ?_;refine ab (fun y:Nat×List Tm=>y.1<=l.length/\y.2.length=y.1/\y.2++xS first y.1 (l.drop y.1)=T) (fun y=>bC [0,4,1000] [(0,.v ls),(1,.c (.sl f9 l)),(4,.c (.ptr 4 0)),(5,.i first),(6,.c (.own 1000)),(7,.i y.1)] [(0,.box 138 (Ll u)),(4,.box 66 [.sc (.int .i64 0),.sc (.string ⟨#[]⟩),.sc (.int .i64 0),.sc (.int .i64 0),.sc (.slice none 0 0)]),(1000,.arr 63 da y.2)]) (fun y=>l.length-y.1) (0,[]) ⟨Nat.zero_le _,rfl,hT⟩ aL ?_;clear hT;rintro ⟨i,ts⟩ ⟨hi,htl,hs⟩;dsimp only at *
 by_cases hlt:i<l.length
 ·obtain ⟨r,hr⟩:∃r,l[i]? = some r:=⟨_,qGg hlt⟩;have er:=qGs hr;obtain ⟨c,hc⟩:=qGe (first.fdiv (2 ^ (3*i)));have kA:=Qh r c (hu r (er▸List.getElem_mem hlt));rw [qDc hlt,er] at hs;have hs:ts++(⟨r.name,Mw r (first.fdiv (2 ^ (3*i)))⟩ :: xS first (i+1) (l.drop (i+1)))=T:=hs;rw [hc] at hs;have hcv:IntKind.u64.wrap (3*(i:Int))=((3*i:Nat):Int):=by rw [IntWalk.u64_in _ (by omega)];omega
  obtain ⟨a,ha⟩:=qGe (Mw r c);rw [ha] at kA hs;repeat' (first|refine az ?_ ?_|(refine aa 0 rfl ?_;refine sx (eu rfl underlying3 underlying175 rfl hcv) ?_)|(refine aa 8 rfl ?_;refine aK (ae rfl rfl (av rfl rfl) (aB [⟨r.name,a⟩] rfl rfl rfl rfl) rfl aE aE) rfl rfl rfl ?_)|refine aa 9 rfl (cB [] kA ?_)|(refine aa 10 rfl ?_;first|(refine sx (Lk rfl rfl rfl (by omega) (by show 3*i<=64;omega) hc) ?_)|(refine sx (o0 rfl rfl rfl (IntWalk.i64_in _ (by omega))) ?_))|refine ay ?_|exact aA|refine ax fun hb=>?_)
  refine ⟨(i+1,ts++[⟨r.name,a⟩]),⟨by dsimp only;omega,by simp [htl],?_⟩,by dsimp only;omega,?_⟩
  ·exact Ry
  ·exact a8 (qf [(1000,34)])
 ·rw [qDn (by omega)] at hs;obtain rfl:ts=T:=by rw [<-hs];simp [xS]
  have kG:=EC ts (by omega) 2 u 2 rfl (by omega) hu1 hR;repeat' (first|refine az ?_ ?_|((fail_if_success (first|refine po 7 ?_|refine pp 7 ?_));refine ay ?_)|exact aA|refine ax fun hb=>?_)
  refine kx 1000 rfl ?_;repeat' (first|refine az ?_ ?_|refine aa 9 rfl (cH (qf [(0,0)]) kG ?_)|refine ay ?_|exact aA|refine ax fun hb=>?_|(refine cn (qf [(0,0)]) ?_;exact ak))
class ARR (P:Program) (t:TypeId) (n:outParam Nat) (e:outParam TypeId) (m:outParam Nat) (zs:outParam (List Value)):Prop where
 u:P.underlying t=some (.array n e)
 s:(P.info? e).map (·.size)=some m
 z:∃i v,P.info? t=some i/\i.zero=some v/\v.cells=zs.toArray
def Qq (m n i:Nat):Option (Nat×Nat):=some (i*m,m)
section
variable {P:Program} {o:Oper} {s:Mst}
theorem wT {t e:TypeId} {n m:Nat} {ps:Array (Nat×Operand)} {zs:List Value} {ds:List D} [I:ARR P t n e m zs] (ho:o.op = .build t ps) (hok:(cellsOf (dX s ps)).all (okD s.h)=true) (hd:nH (Qq m n) (zs.map D.sc) (dX s ps)=some ds) :
  LOp P o s (gu (cellsOf (dX s ps))) ⟨.v (.ag ds),[],[]⟩ :=
 bq fun c st ρ a w hr h1 h2=>by
  have he:∀x∈ps.toList,st.ev x.2=s.ev x.2:=fun x hx=>h1 x.2 (by rw [ho];simp only [Op.operands];simpa using ⟨x.1,by simpa using hx⟩);obtain ⟨p1,p2⟩:=uM hr he hok h2;obtain ⟨us,hf,hA⟩:=o8 (Qq m n) (dX s ps) _ _ ds zs (qN hr he) (All2.scs zs) hd p1;obtain ⟨i,v,z1,z2,z3⟩:=I.z;obtain ⟨j,hj,hm⟩:∃j,P.info? e=some j/\j.size=m:=by
   have:=I.s;cases h:P.info? e with
   | none=>simp [h] at this
   | some j=>exact ⟨j,rfl,by simpa [h] using this⟩
  subst hm;refine ⟨.agg us.toArray,?_,⟨us,rfl,hA⟩,fun k hk=>?_⟩
  ·unfold execOp;rw [ho];rw [show Qq j.size n=fun i=>some (i*j.size,j.size) from rfl,Array.toList_map] at hf;simp [Instr.build,zeroValue,typeInfo,z1,z2,run_underlying I.u,z3,sizeOf,hj,hf]
  ·obtain ⟨x,hx,hk⟩:=List.any_eq_true.1 (show ds.any (D.has k)=true from hk);rcases jF _ hd hx with h|h
   ·obtain ⟨v,_,rfl⟩:=List.mem_map.1 h;cases hk
   ·exact p2 x h k hk
theorem wU {t e:TypeId} {x y:Operand} {n m k p i q:Nat} {kd:IntKind} {z:Int} {zs:List Value} [I:ARR P t n e m zs] (ho:o.op = .indexAddr t x y) (hx:s.ev x = .c (.ptr k p)) (hy:s.ev y = .c (.sc (.int kd z))) (hz:z=(i:Int)) (hi:i<n) (hq:p+i*m=q):LOp P o s [] ⟨.c (.ptr k q),[],[]⟩ :=
 bq fun c st ρ a w hr h1 _=>by
  have he:=h1 x (by simp [ho,Op.operands]);have he2:=h1 y (by simp [ho,Op.operands]);rw [hx] at he;rw [hy] at he2;have hv:=hr.ev x;rw [he] at hv;have hv2:=hr.ev y;rw [he2] at hv2;obtain ⟨g,hg,hv⟩:=hv;have hv2:a.eval y = .int kd z:=hv2;obtain ⟨j,hj,hm⟩:∃j,P.info? e=some j/\j.size=m:=by
   have:=I.s;cases h:P.info? e with
   | none=>simp [h] at this
   | some j=>exact ⟨j,rfl,by simpa [h] using this⟩
  subst hm hz hq;refine ⟨.pointer (some ⟨g,p+i*j.size,none⟩),?_,⟨g,hg,rfl⟩,fun k' hk=>hr.nf (x:=x) he hk⟩;unfold execOp;rw [ho];simp [Instr.indexAt,asIntOf,run_underlying I.u,sizeOf,typeInfo,hj,hi,dd,hv,hv2,Instr.sureAddr]
theorem wV {t e:TypeId} {x y:Operand} {n i:Nat} {kd:IntKind} {z:Int} {zs:List Value} {l:List D} {d:D} [I:ARR P t n e 1 zs] [J:TI P e false 1] (ho:o.op = .index t x y) (hx:s.ev x = .v (.ag l)) (hy:s.ev y = .c (.sc (.int kd z))) (hz:z=(i:Int)) (hi:i<n) (hd:l[i]? = some d):LOp P o s [] ⟨.c d,[],[]⟩ :=
 bq fun c st ρ a w hr h1 _=>by
  have he:=h1 x (by simp [ho,Op.operands]);have he2:=h1 y (by simp [ho,Op.operands]);rw [hx] at he;rw [hy] at he2;have hv:=hr.ev x;rw [he] at hv;have hv2:=hr.ev y;rw [he2] at hv2;obtain ⟨cs,hv,hA⟩:=hv;have hv2:a.eval y = .int kd z:=hv2;obtain ⟨u,hu,hrep⟩:=hA.get hd;obtain ⟨j,hj,hm⟩:∃j,P.info? e=some j/\j.size=1:=by
   have:=I.s;cases h:P.info? e with
   | none=>simp [h] at this
   | some j=>exact ⟨j,rfl,by simpa [h] using this⟩
  obtain ⟨de,hu2,hd2⟩:=J.u;subst hz;refine ⟨u,?_,hrep,fun k' hk=>hr.nf (x:=x) he ?_⟩
  ·have hg:isAgg e=isAgg e:=rfl;have hag:(isAgg e).run P w = .ok false w:=by
    unfold isAgg;simp only [Sem.run_bind,run_underlying hu2,Result.andThen_ok];cases de <;> simp_all [Sem.run_pure]
   unfold execOp;rw [ho];simp [Instr.index,asIntOf,run_underlying I.u,sizeOf,typeInfo,hj,hm,hi,hv,hv2,part,hag,hu]
  ·exact lY hd hk
theorem dm {f:FuncId} {xs:Array Operand} {ks:List Nat} (ho:o.op = .makeFunc (.func f) #[] xs) (hx:xs.toList.map s.ev=ks.map fun k=>.c (.ptr k 0)):LOp P o s [] ⟨.c (.clo f ks),[],[]⟩ :=
 bq fun c st ρ a w hr h1 _=>by
  have h1':xs.toList.map st.ev=ks.map fun k=>TV.c (.ptr k 0):=by
   rw [<-hx];exact List.map_congr_left fun x hx=>h1 x (by simp [ho,Op.operands];simpa using hx)
  have key:∀(l:List Operand) (ks:List Nat),l.map st.ev=ks.map (fun k=>TV.c (.ptr k 0))->All2 (fun k u=>u=ρ k) ks (l.map a.eval)/\∀k,(∃j∈ks,j.beq k=true)->st.f k=false:=by
   intro l;induction l with
   | nil=>intro ks h;cases ks with
    | nil=>exact ⟨trivial,fun k ⟨j,hj,_⟩=>by cases hj⟩
    | cons=>simp at h
   | cons x l ih =>
    intro ks h;cases ks with
    | nil=>simp at h
    | cons k ks =>
     simp only [List.map_cons,List.cons.injEq] at h;obtain ⟨i1,i2⟩:=ih ks h.2;have hv:=hr.ev x;rw [h.1] at hv;obtain ⟨g,hg,hv⟩:=hv;have hnf:st.f k=false:=hr.nf (x:=x) h.1 (by simp [TV.has,V0.has,D.has]);refine ⟨⟨?_,i1⟩,fun k' ⟨j,hj,hb⟩=>?_⟩
     ·show a.eval x=ρ k;rw [hv,hg]
     ·rcases List.mem_cons.1 hj with rfl|hj
      ·rw [<-qNb hb];exact hnf
      ·exact i2 k' ⟨j,hj,hb⟩
  obtain ⟨k1,k2⟩:=key _ _ h1';refine ⟨.func (.func f) #[] (xs.map a.eval),?_,⟨xs.toList.map a.eval,by congr 1;apply Array.toList_inj.1;simp,k1⟩,fun k hk=>k2 k ?_⟩
  ·unfold execOp;rw [ho];simp [Instr.makeFunc]
  ·obtain ⟨j,hj,hb⟩:=List.any_eq_true.1 (show (D.clo f ks).has k=true from hk);exact ⟨j,hj,hb⟩
variable {n l:Nat}
theorem C9 {a:Act} {w:World} {K:Act->World->Prop} {Q:Exit->Act->World->Prop} (hd:∀c,o.op≠.defer c) (h:o.wp P a w K fun _ _ _=>False):o.wpIn (Fence.wide.inRound l) n P a w K Q:=by
 refine ⟨fun _ _=>trivial,?_⟩;rw [show (Fence.wide.inRound l).round=some l from rfl,Oper.semAt_some l _ _ hd];unfold Oper.wp at h;generalize (execOp a.eval o).run P w=r at *
 cases r with
 | ok nx w' =>
  cases nx with
  | value v=>exact h
  | skip=>exact h
  | defer d=>exact h
  | enter f args =>
   refine ⟨fun h=>(by cases h),CallsIn.inRound l (callsIn_wide.2 (Calls.mono h fun e w'' he=>?_))⟩;cases e with
   | returned v=>exact he
   | panicked c=>exact he.elim
   | outgrown=>obtain ⟨_,_,hf⟩:=he;exact hf.elim
  | row r args=>exact ⟨fun h=>(by cases h),fun c cs _=>by obtain ⟨v,w'',r1,r2⟩:=h c cs;exact ⟨v,w'',r1,stepsIn_wide.2 r2⟩⟩
  | _=>exact h.elim
 | halt x w'=>cases x <;> simp only [Oper.upon] at h
theorem iU {ops:Array Oper} {Q:Exit->Act->World->Prop} (c:Ctx):∀(L:List Oper) (fps:List (List Nat×List Nat)) (s:Mst) (K:Mst->Prop),(∀o∈L,∀d,o.op≠.defer d)->fW c.nt L=true->DW P ops L fps s K->(∀s' ρ' a' w',K s'->Rp c s' ρ' a' w'->Q .normal a' w')->
  ∀(ρ:Nat->Value) (a:Act) (w:World),Rp c s ρ a w->wpListIn (Fence.wide.inRound l) n P ops Q L a w
 | [],_,s,K,_,_,h,hQ,ρ,a,w,hr=>hQ s ρ a w h hr
 | o :: L,fps,s,K,hno,hnt,h,hQ,ρ,a,w,hr=>by
  obtain ⟨R,W,fps',_,g,hg,h1,h2⟩:=h;have hnt':fW c.nt L=true:=by simp [fW] at hnt ⊢;exact hnt.2
  refine wpListIn_step fun K' hK'=>?_;rw [hr.gd hg];cases g with
  | true =>
   obtain ⟨e,⟨he,hkw,hu⟩,hn⟩:=h1 rfl;rw [if_pos rfl];have h3:=he c s ρ a w hr (fun _ _=>rfl) (fun _ _=>rfl) hu (fun d hd=>qJ hnt (by simp) hd);refine C9 (hno o (by simp)) (Oper.wp_post h3 ?_);rintro a' w' ⟨ρ',hr'⟩;exact hK' _ _ (iU c L fps' _ K (fun o ho=>hno o (by simp [ho])) hnt' hn hQ ρ' a' w' hr')
  | false =>
   rw [if_neg (by simp)];exact ⟨fun _ _=>trivial,hK' _ _ (iU c L fps' _ K (fun o ho=>hno o (by simp [ho])) hnt' (h2 rfl) hQ ρ _ w (hr.put_any o.dst))⟩
theorem pM {id nt:Nat} {L:List Oper} {K:Mst->Prop} {c:Ctx} {ρ:Nat->Value} {a:Act} {w:World} (hno:L.all (fun o=>match o.op with | .defer _=>false|_=>true)=true) (hnt:fW nt L=true) (hc:c.nt=nt) (h:DA P L.toArray false L [] s K) (hr:Rp c s ρ a w) :
  (Code.region id L.toArray false).wpIn (Fence.wide.inRound l) n P (fun e a' w'=>e = .normal/\∃s' ρ',K s'/\Rp c s' ρ' a' w') a w:=by
 obtain ⟨fps,h1,_⟩:=h;refine wpIn_region_lit (iU c L fps s K (fun o ho d hd=>?_) (hc▸hnt) h1 (fun s' ρ' a' w' hk hr'=>⟨rfl,s',ρ',hk,hr'⟩) ρ a w hr);have:=List.all_eq_true.1 hno o ho;rw [hd] at this;cases this
def PI (U:List Nat) (ts:List (Nat×TV)) (hs:List (Nat×Box)):Bool:=ts.all (fun x=>x.2.in_ U) && hs.all (fun x=>x.2.in_ U) && M4 U (aq hs)
theorem Da {U:List Nat} {ts:List (Nat×TV)} {hs:List (Nat×Box)} (hok:PI U ts hs=true):(bC U ts hs).Wf:=by
 simp only [PI,qBa] at hok;obtain ⟨⟨o1,o2⟩,o3⟩:=hok;have hU:∀k,(!aI U k)=true->aI U k=false:=fun k h=>by simpa using h
 refine ⟨fun k hk=>?_,fun k t hk=>?_,fun k k' b hk hb=>?_⟩
 ·have hk:=hU k hk;show gg hs k=none;cases h9:gg hs k with
  | none=>rfl
  | some b=>rw [jC o3 (bS h9).1] at hk;cases hk
 ·have hk:=hU k hk;show (qL ts t).has k=false;have htg:∀(l:List (Nat×TV)) (n:Nat),(qL l n = .c .any)\/∃d,(n,d)∈l/\qL l n=d:=by
   intro l n;induction l with
   | nil=>exact .inl rfl
   | cons x l ih =>
    obtain ⟨k,d⟩:=x;simp only [qL];cases hk:k.beq n with
    | true=>rw [qNb hk];exact .inr ⟨d,by simp,rfl⟩
    | false =>
     rcases ih with h|⟨d',h1,h2⟩
     ·exact .inl h
     ·exact .inr ⟨d',by simp [h1],h2⟩
  rcases htg ts t with h|⟨d,h1,h2⟩
  ·rw [h];rfl
  ·rw [h2];cases h9:d.has k with
   | false=>rfl
   | true=>rw [TV.in_has (List.all_eq_true.1 o1 (t,d) h1) h9] at hk;cases hk
 ·have hk:=hU k hk;cases h9:b.has k with
  | false=>rfl
  | true=>rw [Box.in_has (List.all_eq_true.1 o2 (k',b) (bS hb).2) h9] at hk;cases hk
def MF (w:World) (F:Nat->Prop) (ρ:Nat->Value) (a:Act):List (Nat×TV)->Prop
 | []=>True
 | (t,d) :: r=>d.rep w F ρ (a.tmps.getD t undef)/\MF w F ρ a r
theorem nk {w:World} {F:Nat->Prop} {ρ:Nat->Value} {a:Act}:∀{ts:List (Nat×TV)},MF w F ρ a ts->∀t,(qL ts t).rep w F ρ (a.tmps.getD t undef)
 | [],_,_=>trivial
 | (k,d) :: r,h,t=>by
  simp only [qL];cases hk:k.beq t with
  | true=>rw [<-qNb hk];exact h.1
  | false=>exact nk h.2 t
end
def pV (b:UInt8):Value:=.int .u8 (b.toNat:Int)
theorem zu {P:Program} {w:World} (size:Nat) (s:ByteArray):(Builtin.firstCells size s.size (.string s)).run P w = .ok (s.data.map pV) w:=by
 have h:(s.extract 0 s.size).data=s.data:=by
  have e:s.extract 0 s.size=s:=ByteArray.extract_zero_size;rw [e]
 simp only [Builtin.firstCells,Sem.run_pure,h];rfl
theorem Dj {P:Program} (w:World) (base:Nat) (t u ty e:TypeId) (i:TypeInfo) (z:Value) (ht:P.underlying t=some (.slice e)) (hu:P.underlying u=some .string) (hi:P.info? e=some i) (hz:i.zero=some z)
  (hsize:i.size=1) (hby:i.bytes=1) (hzs:z.cells.size=1) (v:Value) (n:Nat) (xs:List Value) (hown:w.ownsRow base e 1 v n xs) (s:ByteArray)
  (h63:n+s.size<=maxLen) (hbytes:n+s.size<=140737488355328) (hbase:base<=w.heap.size) :
  ∃v' w',(Builtin.append_ #[t,u] ty #[v,.string s]).run P w = .ok v' w'/\w'.ownsRow base e 1 v' (n+s.size) (xs++(s.data.map pV).toList)/\w.grownBy w' v.ownBlock:=by
 obtain ⟨N,hN⟩:=qGe ((s.data.map pV).toList);have hNa:s.data.map pV=N.toArray:=by rw [<-hN]
 have hNl:N.length=s.size:=by rw [<-hN];simp
 have h1:∀u∈N,u.oneCell'=true:=by
  intro u hu;rw [<-hN] at hu;simp only [Array.toList_map,List.mem_map] at hu;obtain ⟨b,_,rfl⟩:=hu;rfl
 rw [hN];have hxl:xs.length=n:=by have:=hown.1;omega
 have hsm:¬(9223372036854775807<((n:Int)+(s.size:Int))):=by simp only [maxLen] at h63;omega
 have hf:∀W:World,(Builtin.firstCells 1 s.size (.string s)).run P W = .ok N.toArray W:=fun W=>by rw [zu,hNa]
 have grown:∀(old:Nat),old<n+s.size->∀row:Option Nat,
   (w.drew.alloc (.cells (xs.toArray++N.toArray++Builtin.zeroCells z.cells (grownCap w (n+s.size) old e-(n+s.size))) e)).ownsRow base e 1 (.slice (some ⟨w.heap.size,0,none⟩) (n+s.size) (grownCap w (n+s.size) old e)) (n+s.size) (xs++N)/\
   w.grownBy (w.drew.alloc (.cells (xs.toArray++N.toArray++Builtin.zeroCells z.cells (grownCap w (n+s.size) old e-(n+s.size))) e)) row:=by
  intro old ho row;have hge:=grownCap_ge w (n+s.size) old e;have hcm:=grownCap_le_maxLen w (n+s.size) old e h63;have hl:(xs++N).length=n+s.size:=by rw [List.length_append,hxl,hNl]
  refine ⟨⟨by rw [hl,Nat.mul_one],.inr ⟨w.heap.size,_,_,rfl,hbase,heap_alloc_new w.drew _,hge,hcm,?_,?_⟩⟩,⟨rfl,rfl,rfl,by simp,fun k hk _=>Below.heap_alloc w.drew _ k hk⟩⟩
  ·simp only [Array.size_append,List.size_toArray,size_zeroCells,hzs,hxl,hNl,Nat.mul_one];omega
  ·simp only [Array.toList_append,List.append_assoc,Nat.mul_one];rw [<-List.append_assoc,<-hl];exact List.take_left
 rcases hown.2 with ⟨rfl,rfl⟩|⟨g,cap,cur,rfl,hbg,hg,hnc,hcm,hcs,htake⟩
 ·obtain rfl:=List.eq_nil_of_length_eq_zero hxl;by_cases hm:s.size=0
  ·have hn:N=[]:=List.eq_nil_of_length_eq_zero (by rw [hNl,hm]);subst hn;refine ⟨.slice none 0 0,w,?_,by rw [hm];exact World.ownsRow_nil w base e 1,⟨rfl,rfl,rfl,Nat.le_refl _,fun _ _ _=>rfl⟩⟩;have hf0:=hf w;rw [hm] at hf0;simp [Builtin.append_,run_underlying ht,run_underlying hu,sizeOf,typeInfo,hi,Builtin.lenOf,hm,hsize,hf0]
  ·have h48:¬(281474976710656<Builtin.nextslicecap s.size 0*i.bytes):=by rw [nextslicecap_zero (by omega),hby];omega
   have hgr:=grown 0 (by omega) (Value.ownBlock (.slice none 0 0));simp only [Nat.zero_add,List.nil_append,Array.empty_append] at hgr hsm ⊢;refine ⟨_,_,?_,hgr.1,hgr.2⟩;have hsm':¬(9223372036854775807<(s.size:Int)):=by simp only [maxLen] at h63;omega
   simp [Builtin.append_,run_underlying ht,run_underlying hu,sizeOf,typeInfo,zeroValue,hi,hz,hsize,Builtin.lenOf,hm,hsm',h48,Question.forced,hf,run_firstCells_none,newRow,grownCap]
 ·by_cases hroom:n+s.size<=cap
  ·have hfit:n+N.length<=cur.size:=by rw [hNl,hcs,Nat.mul_one];exact hroom
   have hst:=run_storeCells_at P g n e N 0 cur w hg (by simpa using hfit) h1;simp only [Nat.add_zero] at hst;rw [Nat.mul_one] at htake;refine ⟨.slice (some ⟨g,0,none⟩) (n+s.size) cap,w.setRow g (cur.toList.take n++N++cur.toList.drop (n+N.length)).toArray,?_,⟨by simp [hxl,hNl],.inr ⟨g,cap,_,rfl,hbg,setRow_heap w g cur _ e _ hg,hroom,hcm,?_,?_⟩⟩,⟨rfl,rfl,rfl,by simp,fun k _ hk=>setRow_other w g k _ (fun e=>hk (by simp [Value.ownBlock,e]))⟩⟩
   ·simp [Builtin.append_,run_underlying ht,run_underlying hu,sizeOf,typeInfo,hi,hsize,Builtin.lenOf,hroom,hf,Addr.add_lit,hst]
   ·simp only [List.size_toArray,List.length_append,List.length_take,List.length_drop,Array.length_toList];omega
   ·rw [htake,Nat.mul_one,<-hNl,<-hxl,<-List.length_append];exact List.take_left
  ·have holds:∀j u,xs[j]? = some u->w.cell? ((⟨g,0,none⟩:Addr).add j)=some u:=hown.cells (g:=g) rfl;have hfo:=run_firstCells_some (P:=P) w.drew 1 n ⟨g,0,none⟩ n cap xs (by rw [hxl,Nat.mul_one]) (by simpa using holds);have h48:¬(281474976710656<Builtin.nextslicecap (n+s.size) cap*i.bytes):=by
    have:=growslice_fits (need:=n+s.size) (old:=cap) (bytes:=1) (by omega) (by omega);rw [hby];omega
   have hgr:=grown cap (by omega) (Value.ownBlock (.slice (some ⟨g,0,none⟩) n cap));refine ⟨_,_,?_,hgr.1,hgr.2⟩;simp [Builtin.append_,run_underlying ht,run_underlying hu,sizeOf,typeInfo,zeroValue,hi,hz,hsize,Builtin.lenOf,hroom,hsm,h48,Question.forced,hf,hfo,newRow,grownCap];try (congr 2;apply Array.ext';simp [List.append_assoc])
theorem wY {P:Program} {ops:Array Oper} {rest:List Oper} {o:Oper} {a:Act} {Q:Exit->Act->World->Prop} (w:World) (hgd:o.guard=none) (x y:Operand) (t u:TypeId)
  (ho:o.op = .call { callee:=.builtin .append,args:=#[x,y],argTypes:=#[t,u] }) (base:Nat) (e:TypeId) (i:TypeInfo) (z:Value) (ht:P.underlying t=some (.slice e)) (hu:P.underlying u=some .string) (hi:P.info? e=some i) (hz:i.zero=some z)
  (hsize:i.size=1) (hby:i.bytes=1) (hzs:z.cells.size=1) (v:Value) (n:Nat) (xs:List Value) (hv:a.eval x=v) (hown:w.ownsRow base e 1 v n xs) (s:ByteArray) (hs:a.eval y = .string s)
  (h63:n+s.size<=maxLen) (hbytes:n+s.size<=140737488355328) (hbase:base<=w.heap.size)
  (h:∀v' w',w'.ownsRow base e 1 v' (n+s.size) (xs++(s.data.map pV).toList)->w.grownBy w' v.ownBlock->wpList P ops Q rest (a.put o.dst v') w'):wpList P ops Q (o :: rest) a w:=by
 refine wpList_plain hgd fun K hK=>?_;obtain ⟨v',w',hr,h2,h3⟩:=Dj (P:=P) w base t u o.type e i z ht hu hi hz hsize hby hzs v n xs hown s h63 hbytes hbase;unfold Oper.wp execOp;simp only [ho,resolve,invoke,builtin,Sem.run_bind,Sem.run_pure,Result.andThen_ok,List.map_toArray,List.map_cons,List.map_nil,hv,hs,hr];exact hK _ _ (h v' w' h2 h3)
theorem Jw (s:ByteArray):(s.data.map pV).toList=(s.data.toList.map fun c=>[Value.int .u8 (c.toNat:Int)]).flatten:=by
 rw [Array.toList_map];induction s.data.toList with
 | nil=>rfl
 | cons c l ih=>rw [List.map_cons,List.map_cons,List.flatten_cons,ih];rfl
theorem LP {w w':World} {base:Nat} {v v':Value} {L:List UInt8} {s:ByteArray} {xs:List Value} (hx:Reps cw w (ym w v) L xs) (hb:base<=w'.heap.size) (h:w'.ownsRow base 5 1 v' (L.length+s.size) (xs++(s.data.map pV).toList)):OwnRows cw 5 w' base v' (L++s.data.toList):=by
 refine ⟨hb,xs++(s.data.map pV).toList,?_,?_⟩
 ·have e:(L++s.data.toList).length=L.length+s.size:=by simp
  rw [e];exact h
 ·have e1:=Reps.plain hx;have e2:xs++(s.data.map pV).toList=((L++s.data.toList).map fun c=>[Value.int .u8 (c.toNat:Int)]).flatten:=by
   rw [List.map_append,List.flatten_append,<-Jw,e1]
  rw [e2];exact Reps.plain_mk _
theorem By (A:Option Addr) (cap:Nat) (l:List UInt8) (s:ByteArray) (w:World) (hA:A=none->l.length=0) (hc:l.length<=cap) (hcm:cap<=maxLen) (hm:l.length<=1000000000) (hs:s.size<=1000000000) (hr:RowsAt cw w (Lo w.heap.size) A l) :
  Calls prog 140 #[.slice A l.length cap,.string s] w (iz cw 5 w (l++bp s.size++s.data.toList)):=by
 have hw:IntKind.u64.wrap (s.size:Int)=(s.size:Int):=IntWalk.u64_in _ (by omega);have HP:=Lib.hid (lU A cap l s.size w (by omega) hA hc hcm (by omega) hr);have hlen:(bp s.size).length<=10:=jr 9 s.size (by
  have e70:(2:Nat) ^ (7*(9+1))=1180591620717411303424:=by decide
  omega)
 have HL:=Lib.hid hlen;have HM:=Lib.hid hm;have HS:=Lib.hid hs;clear hA hc hcm hr hlen hm hs
 go_enter func140,ntmps140
 go_wp2_with fail
 refine HP.out.mono ?_;rintro e w1 ⟨v1,rfl,hown,hb⟩;obtain ⟨hb0,xs,ho,hx⟩:=hown;have HO:=Lib.hid ho;have HX:=Lib.hid hx;have HB:=Lib.hid hb;have HB0:=Lib.hid hb0;clear ho hx hb hb0;obtain ⟨i0,z,hi,hz0,hz1,hz2,hz3⟩:=jf.info;have HI:=Lib.hid hi;clear hi;go_wp2_with (at_builtin;refine wY w1 rfl (.tmp 9) (.tmp 10) _ _ rfl w.heap.size 5 i0 z jf.under underlying9 HI.out hz0 hz1 hz3 hz2 v1 _ xs rfl HO.out s rfl (by have:=HL.out;have:=HM.out;have:=HS.out;simp [maxLen];omega) (by have:=HL.out;have:=HM.out;have:=HS.out;simp;omega) HB0.out ?_;intro v2 w2 hown2 hg2;have HO2:=Lib.hid hown2;have HG2:=Lib.hid hg2;clear hown2 hg2)
 go_ret
 have hB2:Below w.heap.size w w2:=HB.out.grown HG2.out HB0.out fun k hk=>(HO.out.lt k hk).1;exact ⟨_,rfl,(LP (L:=l++bp s.size) HX.out hB2.size (by simpa using HO2.out)),hB2⟩
theorem jU {α:Type} {E:El α} {w:World} {S:Nat->Prop} {A:Option Addr} {l:List α} (h:RowsAt E w S A l):A=none->l.length=0:=fun e=>by
 obtain ⟨xs,_,h2⟩:=h;rcases Nat.eq_zero_or_pos l.length with h0|h0
 ·exact h0
 ·obtain ⟨b,off,h3,_⟩:=h2 h0;rw [e] at h3;cases h3
abbrev LQ (l:List UInt8):V0:=.one (.sl cw l)
abbrev uV (n:Nat):V0:=.one (.sc (.int .u64 (n:Int)))
theorem mB (l:List UInt8) (v:Nat) (hv:v<18446744073709551616) (hl:l.length<=1000000000) {R:List UInt8} (hR:l++bp v=R):FSpec prog 139 [LQ l,uV v] [] [] (.c (.sl cw R)) []:=by
 subst hR;exact bD (fun b W=>by kernel_rfl) rfl fun w S ρ vs hS h=>by
  match vs,h with
  | [_,_],⟨⟨A,c,rfl,hc,hr⟩,rfl,_⟩=>exact (lU A c l v w hv (jU hr) hc.1 hc.2 (by omega) (hr.lo hS)).mono fun _ _=>gT
theorem Jz (l:List UInt8) (p:Pr) (hl:l.length<=1000000000) {R:List UInt8} (hR:l++wK p=R):FSpec prog 138 [LQ l,p.a] [] [] (.c (.sl cw R)) []:=by
 subst hR;exact bD (fun b W=>by kernel_rfl) rfl fun w S ρ vs hS h=>by
  match vs,h with
  | [_,_],⟨⟨A,c,rfl,hc,hr⟩,h1,_⟩=>rw [Pr.open h1];exact (Bw A c l p w (by omega) (hr.lo hS)).mono fun _ _=>gT
theorem JA (l:List UInt8) (s:ByteArray) (hl:l.length<=1000000000) (hs:s.size<=1000000000) {R:List UInt8} (hR:l++bp s.size++s.data.toList=R):FSpec prog 140 [LQ l,.one (.sc (.string s))] [] [] (.c (.sl cw R)) []:=by
 subst hR;exact bD (fun b W=>by kernel_rfl) rfl fun w S ρ vs hS h=>by
  match vs,h with
  | [_,_],⟨⟨A,c,rfl,hc,hr⟩,rfl,_⟩=>exact (By A c l s w (jU hr) hc.1 hc.2 hl hs (hr.lo hS)).mono fun _ _=>gT
def MK (n k:Nat) (e:Int):TV:=.tup [.one (.sc (.int .u64 (n:Int))),.one (.sc (.int .i64 (k:Int))),.one (.sc (.int .i64 e))]
theorem Gv {w w':World} {S:Nat->Prop} {ρ:Nat->Value} {l:List UInt8} {e:Ending} (h:e = .returned (xn l)/\w'=w):∃v,e = .returned v/\Below w.heap.size w w'/\(MK (aQ l).1 (aQ l).2.1 (aQ l).2.2).rep w' (Gr S w.heap.size w') ρ v :=
 ⟨_,h.1,by rw [h.2];exact Below.refl _ _,_,rfl,rfl,rfl,rfl,trivial⟩
theorem ML (l:List UInt8) (hl:l.length<=1000000000) {n k:Nat} {x:Int} (hx:aQ l=(n,k,x)):FSpec prog 227 [LQ l] [] [] (MK n k x) []:=by
 obtain ⟨rfl,rfl,rfl⟩:(aQ l).1=n/\(aQ l).2.1=k/\(aQ l).2.2=x:=by rw [hx];exact ⟨rfl,rfl,rfl⟩
 exact bD (fun b W=>by kernel_rfl) rfl fun w S ρ vs hS h=>by
  match vs,h with
  | [_],⟨⟨A,c,rfl,hc,hr⟩,_⟩=>exact (ul A _ c l w (by omega) (hr.lo hS)).mono fun _ _=>Gv
def MM (p:Pr) (k:Nat) (e:Int):TV:=.tup [p.a,.one (.sc (.int .i64 (k:Int))),.one (.sc (.int .i64 e))]
theorem Gw {w w':World} {S:Nat->Prop} {ρ:Nat->Value} {x:Pr×Nat×Int} {e:Ending} (h:xc w (tg x) e w'):∃v,e = .returned v/\Below w.heap.size w w'/\(MM x.1 x.2.1 x.2.2).rep w' (Gr S w.heap.size w') ρ v :=
 ⟨_,h.1,h.2,_,rfl,⟨_,rfl,rfl,rfl,rfl,trivial⟩,rfl,rfl,trivial⟩
theorem PQ (l:List UInt8) (hl:l.length<=1000000000) {p:Pr} {k:Nat} {x:Int} (hx:dV l=(p,k,x)):FSpec prog 226 [LQ l] [] [] (MM p k x) []:=by
 obtain ⟨rfl,rfl,rfl⟩:(dV l).1=p/\(dV l).2.1=k/\(dV l).2.2=x:=by rw [hx];exact ⟨rfl,rfl,rfl⟩
 exact bD (fun b W=>by kernel_rfl) rfl fun w S ρ vs hS h=>by
  match vs,h with
  | [_],⟨⟨A,c,rfl,hc,hr⟩,_⟩=>exact (Jy A c l w hc.1 hc.2 (by omega) (hr.lo hS)).mono fun _ _=>Gw
theorem Dl (A:Option Addr) (cap:Nat) (l:List UInt8) (w:World) (hm:l.length<=1000000000) (hr:RowsAt cw w (Lo w.heap.size) A l) :
  Calls prog 137 #[.slice A l.length cap] w (iz cw 5 w l):=by
 have hA:=jU hr;have q:∀(w:World) (a:Option Addr) (n c n' c':Nat),(binOp .eql 123 (.slice a n c) (.slice none n' c')).run prog w = .ok (.bool a.isNone) w:=fun w a n c n' c'=>Lib.run_eql_slice_nil w _ _ a n c n' c' jf.under;cases A with
 | none =>
  obtain rfl:=List.eq_nil_of_length_eq_zero (hA rfl);clear hA hr hm
  go_enter func137,ntmps137
  go_wp2
  go_ret
  exact RQ
 | some a =>
  clear hA;have hown:OwnRows cw 5 (w.alloc (.cells #[] 5)) w.heap.size (.slice (some ⟨w.heap.size,0,none⟩) 0 0) []:=⟨by simp,[],World.ownsRow_lit w #[] 0 (Nat.le_refl _) (by simp [maxLen]) rfl,rfl⟩;have hra:RowsAt cw (w.alloc (.cells #[] 5)) (ym (w.alloc (.cells #[] 5)) (.slice (some ⟨w.heap.size,0,none⟩) 0 0)) (some a) l:=hr.same (fun b hb=>Below.heap_alloc w _ b hb) fun b hb=>⟨Nat.lt_of_lt_of_le hb (by simp),fun e=>by simp [Value.ownBlock] at e;have:b<w.heap.size:=hb;omega⟩;have HO:=Lib.hid hown;have HR:=Lib.hid hra;have HM:=Lib.hid hm;clear hown hra hr hm
  go_enter func137,ntmps137
  go_wp2_with (at_builtin;refine lJ jf rfl (.tmp 5) (.tmp 6) rfl _ w.heap.size _ [] l l.length rfl (some a) cap rfl HO.out rfl HR.out (by have:=HM.out;simp [maxLen];omega) (by have:=HM.out;simp;omega) ?_;intro v2 w2 hown2 hb2 hs2;have HO2:=Lib.hid hown2;have HB2:=Lib.hid hb2;clear hown2 hb2 hs2)
  go_ret
  exact RN
theorem LR (l:List UInt8) (hl:l.length<=1000000000):FSpec prog 137 [LQ l] [] [] (.c (.sl cw l)) [] :=
 bD (fun b W=>by kernel_rfl) rfl fun w S ρ vs hS h=>by
  match vs,h with
  | [_],⟨⟨A,c,rfl,hc,hr⟩,_⟩=>exact (Dl A c l w hl (hr.lo hS)).mono fun _ _=>gT
def Dm (l:List UInt8):ByteArray:=⟨l.toArray⟩
theorem BG:∀(l:List UInt8) (s:ByteArray),((l.map fun c=>(c.toNat:Int)).foldl (fun r n=>r.push (UInt8.ofNat n.toNat)) s)=⟨s.data++l.toArray⟩
 | [],s=>by simp
 | c :: l,s=>by
  show ((l.map fun c=>(c.toNat:Int)).foldl (fun r n=>r.push (UInt8.ofNat n.toNat)) (s.push (UInt8.ofNat ((c.toNat:Int)).toNat)))=_;rw [BG l];have e:UInt8.ofNat ((c.toNat:Int)).toNat=c:=by simp
  rw [e];obtain ⟨d⟩:=s;show (⟨d.push c++l.toArray⟩:ByteArray)=⟨d++(c :: l).toArray⟩;congr 1
  apply Array.ext'
  simp
theorem ww:∀l:List UInt8,(l.map fun c=>[Value.int .u8 (c.toNat:Int)]).flatten=(l.map fun c=>(c.toNat:Int)).map (Value.int .u8)
 | []=>rfl
 | c :: l=>by rw [List.map_cons,List.flatten_cons,ww l];rfl
theorem LT {P:Program} {o:Oper} {s:Mst} {src dst e:TypeId} {x:Operand} {l:List UInt8} (ho:o.op = .convert src dst x) (hs:P.underlying src=some (.slice e)) (he:P.underlying e=some (.int .u8)) (hd:P.underlying dst=some .string) (hx:s.ev x = .c (.sl cw l)) {r:ByteArray} (hr0:Dm l=r):LOp P o s [] ⟨.c (.sc (.string r)),[],[]⟩ :=
 bq fun c st ρ a w hr h1 _=>by
  subst hr0;have e1:=h1 x (by simp [ho,Op.operands]);have hv:=hr.ev x;rw [e1,hx] at hv;obtain ⟨A,cap,hv,hcap,xs,hx1,hx2⟩:=hv;refine ⟨.string (Dm l),?_,rfl,fun k hk=>by simp [TV.has,V0.has,D.has] at hk⟩;have hrun:(Conv.bytesToString (.slice A l.length cap)).run P w = .ok (.string (Dm l)) w:=by
   rcases Nat.eq_zero_or_pos l.length with h0|h0
   ·obtain rfl:=List.eq_nil_of_length_eq_zero h0;cases A with
    | none=>rfl
    | some a =>
     have:=run_bytesToString (P:=P) w a 0 cap [] (by
      have hc:=run_firstCells_some (P:=P) w 1 0 a 0 cap [] rfl (fun j v h=>by simp at h);exact hc)
     exact this
   ·obtain ⟨b,off,rfl,_,hcell⟩:=hx2 h0;have hxs:=Reps.plain hx1;have hxs2:xs=(l.map fun c=>(c.toNat:Int)).map (Value.int .u8):=by
     rw [hxs,<-ww]
    have hc:=run_firstCells_some (P:=P) w 1 l.length ⟨b,off,none⟩ l.length cap xs (by rw [hxs2];simp) (fun j v h=>by rw [fy];exact hcell j v h);have hc2:(loadCells ⟨b,off,none⟩ l.length).run P w = .ok ((l.map fun c=>(c.toNat:Int)).map (Value.int .u8)).toArray w:=by
     rw [<-hxs2];have:(loadCells ⟨b,off,none⟩ (l.length*1)).run P w = .ok xs.toArray w:=hc
     rwa [Nat.mul_one] at this
    rw [run_bytesToString w _ _ _ _ hc2,BG];show _=Result.ok (Value.string ⟨l.toArray⟩) w;congr 2
    show (⟨#[]++l.toArray⟩:ByteArray)=_;congr 1
    simp
  unfold execOp;rw [ho];simp only [hv,Sem.run_bind,run_convert_bytes_string w src dst e A l.length cap hs he hd,hrun,Result.andThen_ok,Sem.run_pure]
def lx (l:List UInt8):ByteArray×Nat×Int:=bif !decide ((aQ l).2.2=0) then (.empty,0,(aQ l).2.2) else bif decide (1024<(aQ l).1) then (.empty,0,3) else bif decide (l.length<(aQ l).2.1+(aQ l).1) then (.empty,0,5) else (Dm ((l.drop (aQ l).2.1).take (aQ l).1),(aQ l).2.1+(aQ l).1,0)
def PR (t:ByteArray) (k:Nat) (e:Int):TV:=.tup [.one (.sc (.string t)),.one (.sc (.int .i64 (k:Int))),.one (.sc (.int .i64 e))]
theorem gD {α β γ:Type} {a a':α} {b b':β} {c c':γ} (h:(a,b,c)=(a',b',c')):a=a'/\b=b'/\c=c':=by injection h with h1 h2;injection h2 with h2 h3;exact ⟨h1,h2,h3⟩
theorem PS (l:List UInt8) (hl:l.length<=1000000000) {T:ByteArray} {K:Nat} {E:Int} (hX:lx l=(T,K,E)):FSpec prog 228 [LQ l] [] [] (PR T K E) []:=by
 refine aS func228 ?_;have KZ:=cU l;unfold lx at hX;obtain ⟨⟨n,k,e⟩,hu⟩:∃x,aQ l=x:=⟨_,rfl⟩;have kU:=ML l hl hu;rw [hu] at hX KZ;dsimp only at hX KZ;obtain ⟨b1,b2,b3⟩:=KZ;by_cases he:e=0
 case neg =>
  rw [qDf he] at hX;obtain ⟨rfl,rfl,rfl⟩:=gD hX;refine ao ?_
  (refine fk (qf []) ?_;exact ak)
 subst he;obtain ⟨b4,b5,b6⟩:=b2 rfl;rw [qDt rfl] at hX;by_cases h1:1024<n
 ·rw [qDt h1] at hX;obtain ⟨rfl,rfl,rfl⟩:=gD hX;refine ao ?_
  (refine fk (qf []) ?_;exact ak)
 rw [qDf h1] at hX;have hcv:IntKind.i64.wrap (n:Int)=(n:Int):=IntWalk.i64_in _ (by omega);by_cases h2:l.length<k+n
 ·rw [qDt h2] at hX;obtain ⟨rfl,rfl,rfl⟩:=gD hX;repeat' (first|refine az ?_ ?_|(refine aa 0 rfl ?_;refine sx (eu rfl underlying204 underlying3 rfl hcv) ?_)|refine aa 9 rfl (cB [] kU ?_)|refine ay ?_|exact aA|refine ax fun hb=>?_|(refine fk (qf []) ?_;exact ak))
 rw [qDf h2] at hX;obtain ⟨L',hL'⟩:∃L',(l.take (k+n)).drop k=L':=⟨_,rfl⟩;have hL2:(l.drop k).take n=L':=by rw [<-hL',List.drop_take];congr 1;omega
 rw [hL2] at hX;obtain ⟨S,hS⟩:=qGe (Dm L');rw [hS] at hX;obtain ⟨rfl,rfl,rfl⟩:=gD hX;repeat' (first|refine az ?_ ?_|(refine aa 0 rfl ?_;first|refine sx (LT rfl underlying123 underlying5 underlying9 rfl hS) ?_|refine sx (eu rfl underlying204 underlying3 rfl hcv) ?_)|refine aa 9 rfl (cB [] kU ?_)|(refine aa 14 rfl ?_;refine sx (qO (lo:=k) (hi:=k+n) rfl rfl rfl (.inl ⟨_,rfl,rfl⟩) (.inl ⟨_,rfl,rfl⟩) (by omega) (by omega) hL') ?_)|refine ay ?_|exact aA|refine ax fun hb=>?_|(refine fk (qf []) ?_;exact ak))
theorem JV (q:Qu) (p:Pr) {R:Qu×List Ho×Int} (hR:bd q p=R):FSpec prog 158 [q.a,p.a] [] [] (y5 R) []:=by
 refine aS func158 ?_;cases hS:ai q with
 | false =>
  obtain rfl:R=bY 2:=by rw [<-hR];simp [bd,hS]
  have:=io q;refine ao ?_
  (refine fk (qf []) ?_;exact ak)
 | true =>
  have hs:=aG hS;have h1:=hs.hv.len;have h2:=hs.clen;have h3:=hs.wlen;cases hw:ah q p with
  | none =>
   obtain rfl:R=bY 10:=by rw [<-hR];simp [bd,hS,hw]
   have:=io q;have:=BS q p (by omega) (by omega) hw;refine ao ?_
   (refine fk (qf []) ?_;exact ak)
  | some a =>
   obtain rfl:R=jJ (eN { q with convs:=bX q.convs p,waits:=bX q.waits p }):=by rw [<-hR];simp [bd,hS,hw]
   have hd:=hs.drop p;have kF:=Ol q p (by omega) (by omega) rfl hd;repeat' (first|refine az ?_ ?_|(refine aa 0 rfl ?_;refine sx (dm (ks:=[9,3]) rfl rfl) ?_)|(refine aa 9 rfl ?_;first|(refine cB [] (io q) ?_)|(refine cB [] (BS q p (by omega) (by omega) hw) ?_)|(refine cC [] (EX q (by omega) (by omega) (by omega)) ?_)|(refine cH (qf [(0,9),(1,27),(2,3)]) kF ?_))|refine ay ?_|exact aA|(refine ax fun hb=>?_;first|(simp [hS] at hb;done)|skip)|(refine fk (qf []) ?_;exact ak))
theorem Qz (q:Qu) (p:Pr) (a:Am) (hl:q.holds.length<=100000):FSpec prog 253 [.one (.ptr 0 0),.one (.ptr 1 0),.one (.ptr 2 0)] [(0,.box 78 q.d),Eb 1 p,(2,.box 61 [.sc (.int .i64 a.mode),.sc (.int .i64 a.units)])] [] (.tup []) [(0,some (.box 78 { q with holds:=cE q.holds p a }.d)),(1,some (Eb 1 p).2),(2,some (.box 61 [.sc (.int .i64 a.mode),.sc (.int .i64 a.units)]))]:=by
 refine aS func253 ?_;have:=LI q.holds p a hl;refine ao ?_
 (exact D7 (qf []))
theorem Om (q:Qu) (p:Pr) (a:Am) (hc:q.holds.length<=100000) {q2:Qu} (hq:{ q with holds:=cE q.holds p a } = q2) (hs:Sd q2):FSpec prog 245 [.one (.ptr 0 0),.one (.slb 1 1)] [(0,.box 78 q.d),(1,.box 1 [.clo 253 [0,2,3]]),Eb 2 p,(3,.box 61 [.sc (.int .i64 a.mode),.sc (.int .i64 a.units)])] [] (y5 (jJ (eN q2))) [(0,none),(1,none),(2,none),(3,none)]:=by
 refine aS func245 ?_;have k1:=Qz q p a hc;rw [hq] at k1;repeat' (first|refine az ?_ ?_|(refine aa 7 rfl ?_;refine sx (fQ rfl rfl) ?_)|refine ay ?_|exact aA|refine ax fun hb=>?_)
 refine ab (fun x:Nat×Qu=>x.1=0/\x.2=q\/x.1=1/\x.2=q2) (fun x=>bC [0,1,2,3,4] [(0,.c (.ptr 0 0)),(4,.c (.ptr 4 0)),(10,.c (.slb 1 1)),(11,.i 1),(12,.i x.1)] [(0,.box 78 x.2.d),(4,.box 78 ND),(1,.box 1 [.clo 253 [0,2,3]]),Eb 2 p,(3,.box 61 [.sc (.int .i64 a.mode),.sc (.int .i64 a.units)])]) (fun x=>1-x.1) (0,q) (.inl ⟨rfl,rfl⟩) aL ?_;rintro ⟨i,z⟩ hz;dsimp only at *
 rcases hz with ⟨rfl,rfl⟩|⟨rfl,rfl⟩
 ·repeat' (first
   | refine az ?_ ?_
   | (refine aa 6 rfl ?_;refine sx (bL (i:=0) rfl rfl rfl rfl (by decide)) ?_)
   | (refine aa 9 rfl ?_;refine JU 0 [0,1,2] (qf [(0,0),(1,2),(2,3)]) k1 ?_)
   | refine ay ?_
   | exact aA|(refine ax fun hb=>?_;first|(exact absurd hb (by decide))|skip))
  refine ⟨(1,q2),.inr ⟨rfl,rfl⟩,by simp,?_⟩;exact aL
 ·have kA:=yg z hs;unfold eN;obtain ⟨⟨N,G⟩,hN⟩:∃x,o9 z=x:=⟨_,rfl⟩;have hg:N.gen=z.gen:=by have:=(kf hs).2.1;rw [hN] at this;exact this
  exact Rf
theorem GE {q:Qu} {p:Pr} (hs:Sd q) (hz:af q.holds p≠⟨0,0⟩):(0<=dM q.convs p)↔(ah q p).isSome=true:=by
 unfold ah;rw [eO];rcases gU p q.convs 0 with ⟨h1,h2⟩|⟨i,h,h1,h2⟩
 ·have hw:go q.waits p=none:=by
   rcases gU p q.waits 0 with ⟨h3,h4⟩|⟨i,h,h3,h4⟩
   ·exact h4
   ·exfalso;have hf:∃x∈q.waits,x.proc=p:=Classical.byContradiction fun hn=>by
     have:=md (p:=p) (l:=q.waits) (k:=0) fun x hx e=>hn ⟨x,hx,e⟩;rw [this] at h3;omega
    obtain ⟨x,hx,rfl⟩:=hf;exact hz (hs.wok _ hx).2.2
  unfold dM;rw [h1,h2,hw];simp
 ·unfold dM;rw [h1,h2];simp
theorem L0 (q:Qu) (p:Pr) (a:Am) {R:Qu×List Ho×Int} (hR:aY q p a=R):FSpec prog 163 [q.a,p.a,a.a] [] [] (y5 R) []:=by
 refine aS func163 ?_;cases hS:ai q with
 | false =>
  obtain rfl:R=bY 2:=by rw [<-hR];simp [aY,hS]
  have:=io q;refine ao ?_
  (refine fk (qf []) ?_;exact ak)
 | true =>
  have hs:=aG hS;have h1:=hs.hv.len;have h2:=hs.clen;have h3:=hs.wlen;cases hz:aJ (af q.holds p) with
  | true =>
   obtain rfl:R=bY 10:=by rw [<-hR];simp [aY,hS,hz]
   have:=io q;have:=oI q p;have:=mx (af q.holds p);refine ao ?_
   (refine fk (qf []) ?_;exact ak)
  | false =>
   have hcv:=GE hs (bg.1 hz);obtain ⟨n,hn⟩:=qGe (dM q.convs p);have kF:=Dr q.convs p;rw [hn] at hcv kF;cases hw:ah q p with
   | some b =>
    obtain rfl:R=bY 14:=by rw [<-hR];simp [aY,hS,hz,hw]
    have h0:0<=n:=hcv.2 (by rw [hw];rfl);have:=io q;have:=oI q p;have:=mx (af q.holds p);refine ao ?_
    (refine fk (qf []) ?_;exact ak)
   | none =>
    have h0:¬0<=n:=fun h=>by have:=hcv.1 h;rw [hw] at this;cases this
    cases hc:bc q.res (af q.holds p) a with
    | false =>
     obtain rfl:R=bY 12:=by rw [<-hR];simp [aY,hS,hz,hw,hc]
     have:=io q;have:=oI q p;have:=mx (af q.holds p);have:=pP q.res (af q.holds p) a;refine ao ?_
     (refine fk (qf []) ?_;exact ak)
    | true =>
     have hd:=hs.lower hw (bg.1 hz) hc;obtain ⟨R1,hR1⟩:∃R1,R1=(bif decide (af q.holds p=a) then jJ (q,[]) else jJ (eN { q with holds:=cE q.holds p a })):=⟨_,rfl⟩;obtain rfl:R=R1:=by rw [<-hR,hR1];simp [aY,hS,hz,hw,hc]
     clear hR;have kL:=Om q p a (by omega) rfl hd;repeat' (first|refine az ?_ ?_|(refine aa 0 rfl ?_;refine sx (dm (ks:=[10,4,5]) rfl rfl) ?_)|(refine aa 9 rfl ?_;first|(refine cB [] (io q) ?_)|(refine cB [] (oI q p) ?_)|(refine cB [] (mx (af q.holds p)) ?_)|(refine cB [] kF ?_)|(refine cB [] (pP q.res (af q.holds p) a) ?_)|(refine cC [] (EX q (by omega) (by omega) (by omega)) ?_)|(refine cH (qf [(0,10),(1,41),(2,4),(3,5)]) kL ?_))|refine ay ?_|exact aA|(refine ax fun hb=>?_;first|(simp [hS] at hb;done)|(simp [hz] at hb;done)|(simp [hc] at hb;done)|skip))
     ·obtain rfl:R=jJ (q,[]):=by rw [hR1];simp [hb]
      refine fk (qf []) ?_;exact ak
     ·obtain rfl:R=jJ (eN { q with holds:=cE q.holds p a }):=by rw [hR1,qDf (fun h=>hb h.symm)];rfl
      refine fk (qf []) ?_;exact ak
theorem B0 (A:Option Addr) (cap:Nat) (l:List Ho) (w:World) (hm:l.length<=100000) (hr:RowsAt g8 w (Lo w.heap.size) A l) :
  Calls prog 156 #[.slice A l.length cap] w (iz g8 223 w l):=by
 have hA:=jU hr;have q:∀(w:World) (a:Option Addr) (n c n' c':Nat),(binOp .eql 75 (.slice a n c) (.slice none n' c')).run prog w = .ok (.bool a.isNone) w:=fun w a n c n' c'=>Lib.run_eql_slice_nil w _ _ a n c n' c' MT.under;cases A with
 | none =>
  obtain rfl:=List.eq_nil_of_length_eq_zero (hA rfl);clear hA hr hm
  go_enter func156,ntmps156
  go_wp2
  go_ret
  exact RQ
 | some a =>
  clear hA;have hown:OwnRows g8 223 (w.alloc (.cells #[] 223)) w.heap.size (.slice (some ⟨w.heap.size,0,none⟩) 0 0) []:=⟨by simp,[],World.ownsRow_lit w #[] 0 (Nat.le_refl _) (by simp [maxLen]) rfl,rfl⟩;have hra:RowsAt g8 (w.alloc (.cells #[] 223)) (ym (w.alloc (.cells #[] 223)) (.slice (some ⟨w.heap.size,0,none⟩) 0 0)) (some a) l:=hr.same (fun b hb=>Below.heap_alloc w _ b hb) fun b hb=>⟨Nat.lt_of_lt_of_le hb (by simp),fun e=>by simp [Value.ownBlock] at e;have:b<w.heap.size:=hb;omega⟩;have HO:=Lib.hid hown;have HR:=Lib.hid hra;have HM:=Lib.hid hm;clear hown hra hr hm
  go_enter func156,ntmps156
  go_wp2_with (at_builtin;refine lJ MT rfl (.tmp 5) (.tmp 6) rfl _ w.heap.size _ [] l l.length rfl (some a) cap rfl HO.out rfl HR.out (by have:=HM.out;simp [maxLen];omega) (by have:=HM.out;simp;omega) ?_;intro v2 w2 hown2 hb2 hs2;have HO2:=Lib.hid hown2;have HB2:=Lib.hid hb2;clear hown2 hb2 hs2)
  go_ret
  exact RN
theorem J6 (l:List Ho) (hl:l.length<=100000):FSpec prog 156 [.one (.sl g8 l)] [] [] (.c (.sl g8 l)) [] :=
 bD (fun b W=>by kernel_rfl) rfl fun w S ρ vs hS h=>by
  match vs,h with
  | [_],⟨⟨A,c,rfl,hc,hr⟩,_⟩=>exact (B0 A c l w hl (hr.lo hS)).mono fun _ _=>gT
theorem B5 (A:Option Addr) (cap:Nat) (l:List Wt) (w:World) (hm:l.length<=100000) (hr:RowsAt gc w (Lo w.heap.size) A l) :
  Calls prog 157 #[.slice A l.length cap] w (iz gc 154 w l):=by
 have hA:=jU hr;have q:∀(w:World) (a:Option Addr) (n c n' c':Nat),(binOp .eql 76 (.slice a n c) (.slice none n' c')).run prog w = .ok (.bool a.isNone) w:=fun w a n c n' c'=>Lib.run_eql_slice_nil w _ _ a n c n' c' GQ.under;cases A with
 | none =>
  obtain rfl:=List.eq_nil_of_length_eq_zero (hA rfl);clear hA hr hm
  go_enter func157,ntmps157
  go_wp2
  go_ret
  exact RQ
 | some a =>
  clear hA;have hown:OwnRows gc 154 (w.alloc (.cells #[] 154)) w.heap.size (.slice (some ⟨w.heap.size,0,none⟩) 0 0) []:=⟨by simp,[],World.ownsRow_lit w #[] 0 (Nat.le_refl _) (by simp [maxLen]) rfl,rfl⟩;have hra:RowsAt gc (w.alloc (.cells #[] 154)) (ym (w.alloc (.cells #[] 154)) (.slice (some ⟨w.heap.size,0,none⟩) 0 0)) (some a) l:=hr.same (fun b hb=>Below.heap_alloc w _ b hb) fun b hb=>⟨Nat.lt_of_lt_of_le hb (by simp),fun e=>by simp [Value.ownBlock] at e;have:b<w.heap.size:=hb;omega⟩;have HO:=Lib.hid hown;have HR:=Lib.hid hra;have HM:=Lib.hid hm;clear hown hra hr hm
  go_enter func157,ntmps157
  go_wp2_with (at_builtin;refine lJ GQ rfl (.tmp 5) (.tmp 6) rfl _ w.heap.size _ [] l l.length rfl (some a) cap rfl HO.out rfl HR.out (by have:=HM.out;simp [maxLen];omega) (by have:=HM.out;simp;omega) ?_;intro v2 w2 hown2 hb2 hs2;have HO2:=Lib.hid hown2;have HB2:=Lib.hid hb2;clear hown2 hb2 hs2)
  go_ret
  exact RN
theorem B6 (l:List Wt) (hl:l.length<=100000):FSpec prog 157 [.one (.sl gc l)] [] [] (.c (.sl gc l)) [] :=
 bD (fun b W=>by kernel_rfl) rfl fun w S ρ vs hS h=>by
  match vs,h with
  | [_],⟨⟨A,c,rfl,hc,hr⟩,_⟩=>exact (B5 A c l w hl (hr.lo hS)).mono fun _ _=>gT
end Go.Proofs.YtkkbopkbjacfmaaGreatDoor
