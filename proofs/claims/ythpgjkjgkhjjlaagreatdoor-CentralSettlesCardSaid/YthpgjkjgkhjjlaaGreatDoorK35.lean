/- Part K35 of a proof of statements of chapter 15 (no condition). -/
import Derived.Test.YthpgjkjgkhjjlaaGreatDoorK27
import Derived.Test.YthpgjkjgkhjjlaaGreatDoorK30
set_option linter.unusedVariables false
set_option linter.unusedSimpArgs false
set_option maxRecDepth 100000
set_option maxHeartbeats 64000000
namespace Go.Proofs.YthpgjkjgkhjjlaaGreatDoor
open Go.RowKit Go.Proofs.Tryz
theorem Pf (d:Nat) (q:Qu) (x:Pc) (L:List Tm) (hnd:JY L) (hl:L.length<=100000) (h2:q.convs.length<=8) (h3:q.waits.length<=8) {b:Bool} (hB:cR q x L=b):FSpec prog 194 [q.a,x.a d,.one (.sl c6 L)] [] [] (.b b) []:=by
 refine a7 func194 ?_;have hpt:=IV (q:=q) (x:=x) L 0 hnd;rw [hB] at hpt;have e0:cR q x []=(decide (ah q.holds x.proc=aC x.led.entries q.res.name) && !(aj q x.proc).isSome):=rfl;rw [e0] at hpt;unfold Rm at hpt;obtain ⟨l,hL⟩:=qGe (aC x.led.entries q.res.name);have kL:=ML x.led q.res.name hL;obtain ⟨h,hh⟩:=qGe (ah q.holds x.proc);have kH:=fF q x.proc;rw [hh] at kH;obtain ⟨o,hw⟩:=qGe (aj q x.proc);have kW:=fG q x.proc h2 h3 hw;rw [hL,hh,hw] at hpt;clear hB e0 hw hh hL;rcases hpt with ⟨hz,hb1⟩|⟨i,a,hz,hga,hb1⟩
 ·have kT:=P5 L q hl hz;cases o with
  | none =>
   rw [Option.isSome_none] at kW hb1;repeat' (first|refine av ?_ ?_|(refine aa 0 rfl ?_;refine sx (dH (ks:=[3]) rfl rfl) ?_)|(refine aa 9 rfl ?_;first|(refine cB [] kL ?_)|(refine cB [] kH ?_)|(refine cB [] kW ?_)|(refine cH (qf [(9,3)]) kT ?_))|refine aq ?_|exact aw|refine ap fun hb=>?_)
   all_goals (refine eU ?_;rw [hb1];simp [*])
  | some m =>
   rw [Option.isSome_some] at kW hb1;repeat' (first|refine av ?_ ?_|(refine aa 0 rfl ?_;refine sx (dH (ks:=[3]) rfl rfl) ?_)|(refine aa 9 rfl ?_;first|(refine cB [] kL ?_)|(refine cB [] kH ?_)|(refine cB [] kW ?_)|(refine cH (qf [(9,3)]) kT ?_))|refine aq ?_|exact aw|refine ap fun hb=>?_)
   all_goals (refine eU ?_;rw [hb1];simp [*])
 ·rw [Nat.zero_add] at hz;have kT:=P5 L q hl hz;have kC:=gX q.res l a.am;obtain ⟨c,hc⟩:=qGe (bq q.res l a.am);obtain ⟨j,hj⟩:=qGe (cn q.res l a.am);have kJ:=PJ q.res l a.am;rw [hc,hj] at hb1;rw [hc] at kC;rw [hj] at kJ;have hi:=(List.getElem?_eq_some_iff.1 hga).1;cases c with
  | true =>
   rw [qCt] at hb1;cases o with
   | none =>
    rw [Option.isSome_none] at kW hb1;repeat' (first|refine av ?_ ?_|(refine aa 0 rfl ?_;refine sx (dH (ks:=[3]) rfl rfl) ?_)|(refine aa 9 rfl ?_;first|(refine cB [] kL ?_)|(refine cB [] kH ?_)|(refine cB [] kW ?_)|(refine cH (qf [(9,3)]) kT ?_)|(refine cB [] kC ?_))|refine aq ?_|exact aw|(refine ap fun hb=>?_;first|(exfalso;omega)|skip))
    all_goals (refine eU ?_;rw [hb1];simp [*])
   | some m =>
    rw [Option.isSome_some] at kW hb1;repeat' (first|refine av ?_ ?_|(refine aa 0 rfl ?_;refine sx (dH (ks:=[3]) rfl rfl) ?_)|(refine aa 9 rfl ?_;first|(refine cB [] kL ?_)|(refine cB [] kH ?_)|(refine cB [] kW ?_)|(refine cH (qf [(9,3)]) kT ?_)|(refine cB [] kC ?_))|refine aq ?_|exact aw|(refine ap fun hb=>?_;first|(exfalso;omega)|skip))
    all_goals (refine eU ?_;rw [hb1];simp [*])
  | false =>
   rw [qCf] at hb1;cases o with
   | none =>
    rw [Option.isSome_none] at kW hb1;repeat' (first|refine av ?_ ?_|(refine aa 0 rfl ?_;refine sx (dH (ks:=[3]) rfl rfl) ?_)|(refine aa 9 rfl ?_;first|(refine cB [] kL ?_)|(refine cB [] kH ?_)|(refine cB [] kW ?_)|(refine cH (qf [(9,3)]) kT ?_)|(refine cB [] kC ?_)|(refine cB [] kJ ?_))|refine aq ?_|exact aw|(refine ap fun hb=>?_;first|(exfalso;omega)|skip))
    all_goals (refine eU ?_;rw [hb1];simp [*])
   | some m =>
    rw [Option.isSome_some] at kW hb1;rw [Bool.not_true,qCf] at hb1;by_cases hboth:h=l/\m=j
    case neg =>
     obtain rfl:b=false:=by
      rw [hb1];cases q.waits.any (fun y=>decide (y.proc=x.proc) && !decide (y.prio=x.req.prio)) with
      | true=>rfl
      | false =>
       rw [qCf,Bool.and_eq_false_iff];by_cases h1:h=l
       ·exact .inr (qDf fun h2=>hboth ⟨h1,Option.some.inj h2⟩)
       ·exact .inl (qDf h1)
     have hb2:h=l->m=j->False:=fun a b=>hboth ⟨a,b⟩;clear hb1 hboth;repeat' (first|refine av ?_ ?_|(refine aa 0 rfl ?_;refine sx (dH (ks:=[3]) rfl rfl) ?_)|(refine aa 9 rfl ?_;first|(refine cB [] kL ?_)|(refine cB [] kH ?_)|(refine cB [] kW ?_)|(refine cH (qf [(9,3)]) kT ?_)|(refine cB [] kC ?_)|(refine cB [] kJ ?_))|refine aq ?_|exact aw|(refine ap fun hb=>?_;first|(first|(exfalso;omega)|exact (hb2 (by assumption) (by assumption)).elim)|skip)|exact bg|fail)
    obtain ⟨rfl,rfl⟩:=hboth;have hb1:(!q.waits.any fun y=>decide (y.proc=x.proc) && !decide (y.prio=x.req.prio))=b:=by
     rw [hb1,qDt rfl,qDt rfl];cases q.waits.any (fun y=>decide (y.proc=x.proc) && !decide (y.prio=x.req.prio)) <;> rfl
    repeat' (first|refine av ?_ ?_|(refine aa 0 rfl ?_;refine sx (dH (ks:=[3]) rfl rfl) ?_)|(refine aa 9 rfl ?_;first|(refine cB [] kL ?_)|(refine cB [] kH ?_)|(refine cB [] kW ?_)|(refine cH (qf [(9,3)]) kT ?_)|(refine cB [] kC ?_)|(refine cB [] kJ ?_))|refine aq ?_|exact aw|(refine ap fun hb=>?_;first|(first|(exfalso;omega)|exact absurd rfl hb)|skip))
    refine ab (fun i=>i<=q.waits.length/\(!(q.waits.drop i).any fun y=>decide (y.proc=x.proc) && !decide (y.prio=x.req.prio))=b) (fun i=>bP [4] [(4,.c (.ptr 4 0)),(78,.c (.sl fK q.waits)),(79,.i q.waits.length),(80,.i i)] [(4,.box 82 (x.d d))]) (fun i=>q.waits.length-i) 0 ⟨Nat.zero_le _,hb1⟩ aT ?_;clear hb1 kT kL kH kW kC kJ;rintro i ⟨hi2,hs⟩;by_cases hlt:i<q.waits.length
    ·obtain ⟨y,hy⟩:=qGe (q.waits[i]);have hgy:q.waits[i]? = some y:=by rw [qGg hlt,hy]
     rw [qDc hlt,hy,List.any_cons] at hs;have kP:=lc y.proc x.proc;obtain ⟨e,he⟩:=qGe (cl y.proc x.proc);rw [he] at kP;have hpe:y.proc=x.proc↔e=0:=by rw [<-he];exact (nR _ _).symm
     by_cases hbad:e=0/\y.prio≠x.req.prio
     ·obtain rfl:b=false:=by rw [<-hs,qDt (hpe.2 hbad.1),qDf hbad.2];rfl
      obtain ⟨hb3,hb4⟩:=hbad;exact UG
     ·have hs:(!(q.waits.drop (i+1)).any fun y=>decide (y.proc=x.proc) && !decide (y.prio=x.req.prio))=b:=by
       rw [<-hs];by_cases h1:e=0
       ·rw [qDt (hpe.2 h1),qDt (Classical.byContradiction fun h2=>hbad ⟨h1,h2⟩)];rfl
       ·rw [qDf (fun h2=>h1 (hpe.1 h2))];rfl
      have hb2:e=0->y.prio≠x.req.prio->False:=fun a b=>hbad ⟨a,b⟩;clear hbad;repeat' (first|refine av ?_ ?_|refine gV ?_|refine aq ?_|exact aw|(refine ap fun hb=>?_;first|(exact (hb2 (by assumption) (by assumption)).elim)|skip))
      all_goals (refine ⟨i+1,⟨by omega,hs⟩,by omega,?_⟩;exact aT)
    ·rw [qDn (by omega)] at hs;obtain rfl:true=b:=hs;exact UG
section
variable {P:Program} {o:Oper} {s:Mst}
theorem M7 {src dst:TypeId} {x:Operand} {k k2:IntKind} {n m:Int} (ho:o.op = .convert src dst x) (hs:P.underlying src=some (.int k)) (hd:P.underlying dst=some (.int k2)) (hx:s.ev x = .c (.sc (.int k n))) (h:k2.wrap n=m):LOp P o s [] ⟨.c (.sc (.int k2 m)),[],[]⟩ :=
 Hp (by rw [ho];rfl) hx fun ev w hx=>by simp [execOp,ho,hx,convert,run_underlying hs,run_underlying hd,Conv.intToInt,h]
theorem Pj {t t':TypeId} {x y:Operand} {kd k2:IntKind} {a b c:Int} (ho:o.op = .binOp .shr t x y t') (hx:s.ev x = .c (.sc (.int kd a))) (hy:s.ev y = .c (.sc (.int k2 b))) (h0:0<=b) (hb:b.toNat<=kd.bits) (h:a.fdiv (2 ^ b.toNat)=c):LOp P o s [] ⟨.c (.sc (.int kd c)),[],[]⟩ :=
 iz (by rw [ho];rfl) hx hy fun ev w hx hy=>by
  have:¬b<0:=by omega
  simp [execOp,ho,hx,hy,eqGuard,binOp,Op.shift,this,Nat.min_eq_left hb,h]
end
instance:Dp km:=gm _ _ _ _ _
instance:ST prog km 22 3 8:=⟨ElTB.mk' underlying22 (.int .i64 0) 1 8 (by kernel_rfl) rfl rfl⟩
theorem Ta (n m:Int) (hm:m<=1048576):FSpec prog 60 [lw n,lw m] [] [] (.i (ll n m)) []:=by
 refine a7 func60 ?_;by_cases h1:m<1
 ·have e:ll n m=0:=by unfold ll;rw [qDt h1];rfl
  rw [e];exact UG
 ·have k1:n.tmod m<m:=Int.tmod_lt_of_pos n (by omega);have k2 : -m<n.tmod m:=Int.lt_tmod_of_pos n (by omega);obtain ⟨r,hr⟩:=qGe (n.tmod m);have e:ll n m=bif decide (r<0) then r+m else r:=by unfold ll;rw [qDf h1,hr];rfl
  rw [e];rw [hr] at k1 k2;by_cases h2:r<0
  ·rw [qDt h2];exact VQ
  ·rw [qDf h2];exact VQ
theorem M8 (n m:Int) (hm:m<=1048576) {r:Int} (h:ll n m=r):FSpec prog 60 [lw n,lw m] [] [] (.i r) []:=h▸Ta n m hm
def P7 (t:Tp):List D:=[.sl km t.l,.sc (.int .i64 t.at_)]
def HT (t:Tp):List (Nat×Box):=[(0,.box 58 (P7 t))]
def P8 (t:Tp):List (Nat×Option Box):=[(0,some (.box 58 (P7 t)))]
structure TOk (t:Tp):Prop where
 le:t.at_<=t.l.length
 len:t.l.length<=100000
theorem TOk.s {t:Tp} (h:TOk t):TOk t.s:=⟨t.s_at h.le,by rw [t.s_l];exact h.len⟩
theorem TOk.adv {t u:Tp} (h:TOk t) (k:Adv t u):TOk u:=⟨k.ok h.le,by rw [k.l];exact h.len⟩
theorem mm (t:Tp) (m:Int) (h:TOk t) (hm:m<=1048576):FSpec prog 45 [go,lw m] (HT t) [] (.i (t.v m)) (P8 t.s):=by
 refine a7 func45 ?_;have hl:=h.len;have hle:=h.le;by_cases h1:t.l.length<=t.at_
 ·have e1:t.v m=0:=by unfold Tp.v;rw [qDt h1];rfl
  have e2:t.s=t:=by unfold Tp.s;rw [qDt h1];rfl
  rw [e1,e2];refine ao ?_
  (refine cc (qf [(0,0)]) ?_;exact af)
 ·obtain ⟨x,hx⟩:∃x,t.l[t.at_]? = some x:=⟨_,qGg (by omega)⟩;have e1:t.v m=ll x m:=by unfold Tp.v;rw [qDf h1,qCf,List.getD_eq_getElem?_getD,hx];rfl
  have e2:t.s=⟨t.l,t.at_+1⟩:=by unfold Tp.s;rw [qDf h1];rfl
  rw [e1,e2];have hx2:t.l[((t.at_:Int)+1-1).toNat]? = some x:=by rw [<-hx];congr 1;omega
  have kM:=Ta x m hm;refine ao ?_
  (refine cc (qf [(0,0)]) ?_;exact af)
theorem M9 (t:Tp) (h:TOk t):FSpec prog 41 [go] (HT t) [] (.b (decide (t.at_<t.l.length))) (P8 t):=by
 refine a7 func41 ?_;have hl:=h.len;have e:decide (t.at_<t.l.length)=decide ((t.at_:Int)<t.l.length):=by rw [Bool.eq_iff_iff];simp
 rw [e];refine ao ?_
 (refine cc (qf [(0,0)]) ?_;exact af)
theorem j9 (n:Int):FSpec prog 27 [lw n] [] [] (.v (ce n).a) []:=by
 refine a7 func27 ?_;obtain ⟨r,hr⟩:=qGe (ll n 8);have kM:=M8 n 8 (by omega) hr;have hb:=og (n:=n) (m:=8) (by omega);rw [hr] at hb;have e:ce n=⟨r.tmod 4,1,1+r.tdiv 4⟩:=by unfold ce;rw [hr]
 rw [e];have hq:0<=r.tdiv 4/\r.tdiv 4<=8:=by rw [Int.tdiv_eq_ediv_of_nonneg hb.1];omega
 obtain ⟨q,hq2⟩:=qGe (r.tdiv 4);rw [hq2] at hq ⊢;repeat' (first|refine av ?_ ?_|refine aa 9 rfl (cB [] kM ?_)|(refine aa 10 rfl ?_;first|(refine sx (NV rfl rfl rfl (by decide) ((congrArg _ hq2).trans (IntWalk.i64_in _ (by omega)))) ?_)|(refine sx (B2 rfl rfl rfl (by decide) rfl) ?_))|refine aq ?_|exact aw|refine ap fun hb=>?_|exact bg|fail)
theorem Rt (n:Int):FSpec prog 173 [lw n] [] [] (.i (vr n)) []:=by
 refine a7 func173 ?_;obtain ⟨r,hr⟩:=qGe (ll n 8);have kM:=M8 n 8 (by omega) hr;have hb:=og (n:=n) (m:=8) (by omega);unfold vr;rw [hr] at hb ⊢;obtain rfl|rfl|rfl|rfl|rfl|rfl|rfl|rfl:r=0\/r=1\/r=2\/r=3\/r=4\/r=5\/r=6\/r=7:=by omega
 all_goals
  repeat' (first|refine av ?_ ?_|(refine aa 6 rfl ?_;first|(refine sx (bK (i:=7) rfl rfl rfl rfl (by decide)) ?_)|(refine sx (bK (i:=6) rfl rfl rfl rfl (by decide)) ?_)|(refine sx (bK (i:=5) rfl rfl rfl rfl (by decide)) ?_)|(refine sx (bK (i:=4) rfl rfl rfl rfl (by decide)) ?_)|(refine sx (bK (i:=3) rfl rfl rfl rfl (by decide)) ?_)|(refine sx (bK (i:=2) rfl rfl rfl rfl (by decide)) ?_)|(refine sx (bK (i:=1) rfl rfl rfl rfl (by decide)) ?_)|(refine sx (bK (i:=0) rfl rfl rfl rfl (by decide)) ?_))|(refine aa 7 rfl ?_;refine sx (eP rfl rfl) ?_)|refine aa 9 rfl (cB [] kM ?_)|refine aq ?_|exact aw|refine ap fun hb=>?_|exact bg|fail)
theorem T3 (r:Rs) (n:Int) (hr:1<=r.units/\r.units<=1000):FSpec prog 106 [r.a,lw n] [] [] (.v (KD r n).a) []:=by
 refine a7 func106 ?_;by_cases hk:r.kind=1
 ·have e:KD r n=⟨vr n,0⟩:=by unfold KD;rw [qDt hk];rfl
  rw [e];have kM:=Rt n;exact UG
 ·obtain ⟨v,hv⟩:=qGe (ll n r.units);have hb:=og (n:=n) hr.1;have kM:=M8 n r.units (by omega) hv;have e:KD r n=⟨0,1+v⟩:=by unfold KD;rw [qDf hk,hv];rfl
  rw [e];rw [hv] at hb;exact UG
instance (d:Nat):ST prog (pA (d+1)) 45 47 64:=⟨ElTB.mk' underlying45 (.agg #[.int .i64 0,.string ⟨#[]⟩,.int .i64 0,.int .i64 0,.slice none 0 0]) 5 64 (by kernel_rfl) rfl rfl⟩
theorem Fv {L:List Tm} {v:Int} {a:Tm} (h:L[v.toNat]? = some a):vt L v=a:=by unfold vt;rw [List.getD_eq_getElem?_getD,h];rfl
theorem nx (t:Tp) (m:Int) (h:TOk t) (h1:1<=m) (hm:m<=1048576):∃v u,t.v m=v/\t.s=u/\TOk u/\0<=v/\v<m/\FSpec prog 45 [go,lw m] (HT t) [] (.i v) (P8 u) :=
 ⟨_,_,rfl,rfl,h.s,(t.v_in h1).1,(t.v_in h1).2,mm t m h hm⟩
theorem IY (L:List Tm) (hL:0<L.length/\L.length<=1000):∀(d:Nat) (t:Tp) (dz:Int),dz=(d:Int)->d<=100->TOk t->∀{R:Ex×Tp},fq L d t=R->FSpec prog 107 [go,.one (.sl c6 L),lw dz] (HT t) [] (.v (R.1.a d)) (P8 R.2)
 | 0,t,dz,hd,_,ht,R,hR=>by
  refine a7 func107 ?_;unfold fq at hR;obtain ⟨v,u,e1,e2,hu,b1,b2,kN⟩:=nx t L.length ht (by omega) (by omega);rw [e1,e2] at hR;obtain ⟨a,ha⟩:∃a,L[v.toNat]? = some a:=⟨_,qGg (by omega)⟩;rw [Fv ha] at hR;obtain rfl:R=(.mk 0 a [],u):=hR.symm;clear e1 e2;subst hd;repeat' (first|refine av ?_ ?_|refine aa 9 rfl (cH (qf [(0,0)]) kN ?_)|refine aq ?_|exact aw|refine ap fun hb=>?_|(refine cc (qf [(0,0)]) ?_;exact af))
 | d+1,t,dz,hd,hd9,ht,R,hR=>by
  refine a7 func107 ?_;unfold fq at hR;obtain ⟨v,u,e1,e2,hu,b1,b2,kN⟩:=nx t 4 ht (by omega) (by omega);rw [e1,e2] at hR;clear e1 e2;by_cases h0:v=0
  ·rw [qDt h0,qCt] at hR;obtain ⟨v2,u2,e1,e2,hu2,c1,c2,kN2⟩:=nx u L.length hu (by omega) (by omega);rw [e1,e2] at hR;clear e1 e2;obtain ⟨a,ha⟩:∃a,L[v2.toNat]? = some a:=⟨_,qGg (by omega)⟩;rw [Fv ha] at hR;obtain rfl:R=(.mk 0 a [],u2):=hR.symm;repeat' (first|refine av ?_ ?_|(refine aa 9 rfl ?_;first|(refine cH (qf [(0,0)]) kN ?_)|(refine cH (qf [(0,0)]) kN2 ?_))|refine aq ?_|exact aw|(refine ap fun hb=>?_;first|(exact absurd h0 hb)|skip)|(refine cc (qf [(0,0)]) ?_;exact af))
  ·rw [qDf h0,qCf] at hR;obtain ⟨v3,u2,e1,e2,hu2,c1,c2,kN2⟩:=nx u 3 hu (by omega) (by omega);rw [e1,e2] at hR;clear e1 e2;obtain ⟨vk,u3,e1,e2,hu3,d1,d2,kN3⟩:=nx u2 (1+v3) hu2 (by omega) (by omega);rw [e1,e2] at hR;clear e1 e2;obtain ⟨n,hn⟩:∃n:Nat,1+v3=(n:Int):=⟨(1+v3).toNat,by omega⟩;rw [hn,Int.toNat_natCast] at hR;obtain ⟨K,hK⟩:=qGe (iO (fq L d) n u3);rw [hK] at hR;obtain rfl:R=(.mk (1+vk) ⟨⟨#[]⟩,Am.zero⟩ K.1,K.2):=hR.symm;repeat' (first|refine av ?_ ?_|(refine aa 9 rfl ?_;first|(refine cH (qf [(0,0)]) kN ?_)|(refine cH (qf [(0,0)]) kN2 ?_)|(refine cH (qf [(0,0)]) kN3 ?_))|refine aq ?_|exact aw|(refine ap fun hb=>?_;first|(exact absurd hb h0)|skip))
   refine lU 8 4 1000 47 (pA (d+1)) rfl rfl rfl rfl ?_;refine ab (fun y:Nat×Tp×List Ex=>y.1<=n/\TOk y.2.1/\y.2.2.length=y.1/\(y.2.2++(iO (fq L d) (n-y.1) y.2.1).1,(iO (fq L d) (n-y.1) y.2.1).2)=K) (fun y=>bP [0,6,8,1000] [(0,.v go),(1,.c (.sl c6 L)),(2,.v (lw dz)),(6,.c (.ptr 6 0)),(7,.i (1+v3)),(8,.c (.ptr 8 0)),(9,.i y.1)] [(0,.box 58 (P7 y.2.1)),(6,.box 47 [.sc (.int .i64 0),.sc (.string ⟨#[]⟩),.sc (.int .i64 0),.sc (.int .i64 0),.sc (.slice none 0 0)]),(8,.box 47 [.sc (.int .i64 (1+vk)),.sc (.string ⟨#[]⟩),.sc (.int .i64 0),.sc (.int .i64 0),.own 1000]),(1000,.arr 47 (pA (d+1)) y.2.2)]) (fun y=>n-y.1) (0,u3,[]) ⟨Nat.zero_le _,hu3,rfl,by rw [<-hK];simp⟩ aT ?_;clear hK kN3 kN2 kN;rintro ⟨i,w,ks⟩ ⟨hi,hw,hkl,hs⟩;dsimp only at *
   by_cases hlt:i<n
   ·obtain ⟨G,hG⟩:=qGe (fq L d w);have kG:=IY L hL d w (dz-1) (by omega) (by omega) hw hG;have hadv:=pj L d w;rw [hG] at hadv;have e1:iO (fq L d) (n-i) w=(G.1 :: (iO (fq L d) (n-(i+1)) G.2).1,(iO (fq L d) (n-(i+1)) G.2).2):=by
     rw [show n-i=(n-(i+1))+1 by omega,<-hG];rfl
    rw [e1] at hs;repeat' (first|refine av ?_ ?_|(refine aa 8 rfl ?_;refine be (ae rfl rfl (aH rfl rfl) (aN [G.1] rfl rfl rfl rfl) rfl aQ aQ) rfl rfl rfl ?_)|refine aa 9 rfl (cH (qf [(0,0)]) kG ?_)|refine aq ?_|exact aw|refine ap fun hb=>?_)
    refine ⟨(i+1,G.2,ks++[G.1]),⟨by dsimp only;omega,hw.adv hadv,by simp [hkl],?_⟩,by dsimp only;omega,?_⟩
    ·dsimp only;rw [<-hs];simp
    ·exact bo (qf [(1000,46)])
   ·rw [show n-i=0 by omega] at hs;obtain rfl:K=(ks,w):=by rw [<-hs];simp [iO]
    refine ao ?_
    (refine cc (qf [(0,0)]) ?_;exact af)
theorem Na (t:Tp) (l:List Rs) (h:TOk t) (hl:0<l.length/\l.length<=8) (hu:∀r∈l,1<=r.units/\r.units<=1000) {R:Ex×Tp} (hR:mr t l=R):FSpec prog 61 [go,.one (.sl dQ l)] (HT t) [] (.v (R.1.a 2)) (P8 R.2):=by
 refine a7 func61 ?_;unfold mr at hR;obtain ⟨first,u,e1,e2,hu1,b1,b2,kN⟩:=nx t 1048576 h (by omega) (by omega);rw [e1,e2] at hR;clear e1 e2;obtain ⟨T,hT⟩:=qGe (ln first 0 l);rw [hT] at hR;repeat' (first|refine av ?_ ?_|refine aa 9 rfl (cH (qf [(0,0)]) kN ?_)|refine aq ?_|exact aw|refine ap fun hb=>?_)
 refine cj 6 1000 44 c6 rfl rfl rfl ?_;refine ab (fun y:Nat×List Tm=>y.1<=l.length/\y.2.length=y.1/\y.2++ln first y.1 (l.drop y.1)=T) (fun y=>bP [0,4,1000] [(0,.v go),(1,.c (.sl dQ l)),(4,.c (.ptr 4 0)),(5,.i first),(6,.c (.own 1000)),(7,.i y.1)] [(0,.box 58 (P7 u)),(4,.box 47 [.sc (.int .i64 0),.sc (.string ⟨#[]⟩),.sc (.int .i64 0),.sc (.int .i64 0),.sc (.slice none 0 0)]),(1000,.arr 44 c6 y.2)]) (fun y=>l.length-y.1) (0,[]) ⟨Nat.zero_le _,rfl,hT⟩ aT ?_;clear hT;rintro ⟨i,ts⟩ ⟨hi,htl,hs⟩;dsimp only at *
 by_cases hlt:i<l.length
 ·obtain ⟨r,hr⟩:∃r,l[i]? = some r:=⟨_,qGg hlt⟩;have er:=qGs hr;obtain ⟨c,hc⟩:=qGe (first.fdiv (2 ^ (3*i)));have kA:=T3 r c (hu r (er▸List.getElem_mem hlt));rw [qDc hlt,er] at hs;have hs:ts++(⟨r.name,KD r (first.fdiv (2 ^ (3*i)))⟩ :: ln first (i+1) (l.drop (i+1)))=T:=hs;rw [hc] at hs;have hcv:IntKind.u64.wrap (3*(i:Int))=((3*i:Nat):Int):=by rw [IntWalk.u64_in _ (by omega)];omega
  obtain ⟨a,ha⟩:=qGe (KD r c);rw [ha] at kA hs;repeat' (first|refine av ?_ ?_|(refine aa 0 rfl ?_;refine sx (M7 rfl underlying3 underlying164 rfl hcv) ?_)|(refine aa 8 rfl ?_;refine be (ae rfl rfl (aH rfl rfl) (aN [⟨r.name,a⟩] rfl rfl rfl rfl) rfl aQ aQ) rfl rfl rfl ?_)|refine aa 9 rfl (cB [] kA ?_)|(refine aa 10 rfl ?_;first|(refine sx (Pj rfl rfl rfl (by omega) (by show 3*i<=64;omega) hc) ?_)|(refine sx (NU rfl rfl rfl (IntWalk.i64_in _ (by omega))) ?_))|refine aq ?_|exact aw|refine ap fun hb=>?_)
  refine ⟨(i+1,ts++[⟨r.name,a⟩]),⟨by dsimp only;omega,by simp [htl],?_⟩,by dsimp only;omega,?_⟩
  ·dsimp only;rw [<-hs];simp
  ·exact bo (qf [(1000,34)])
 ·rw [qDn (by omega)] at hs;obtain rfl:ts=T:=by rw [<-hs];simp [ln]
  have kG:=IY ts (by omega) 2 u 2 rfl (by omega) hu1 hR;repeat' (first|refine av ?_ ?_|((fail_if_success (first|refine m8 7 ?_|refine m9 7 ?_));refine aq ?_)|exact aw|refine ap fun hb=>?_)
  refine gU 1000 rfl ?_;repeat' (first|refine av ?_ ?_|refine aa 9 rfl (cH (qf [(0,0)]) kG ?_)|refine aq ?_|exact aw|refine ap fun hb=>?_|(refine cc (qf [(0,0)]) ?_;exact af))
end Go.Proofs.YthpgjkjgkhjjlaaGreatDoor
