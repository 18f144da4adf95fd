/- Part K32 of a proof of statements of chapter 15 (no condition). -/
import Derived.Test.YtkkbopkbjacfmaaGreatDoorK25
import Derived.Test.YtkkbopkbjacfmaaGreatDoorK27
import Derived.Shelf.Slices.In.SortNone
import Derived.Shelf.Slices.CompactS
import Derived.Ground.NamesProg
import Derived.Ground.Names2Prog
set_option linter.unusedVariables false
set_option linter.unusedSimpArgs false
set_option maxRecDepth 100000
set_option maxHeartbeats 64000000
namespace Go.Proofs.YtkkbopkbjacfmaaGreatDoor
open Go.RowKit Go.Proofs.Tryz
def fm:List ByteArray->List ByteArray->List ByteArray
 | a,[]=>a
 | a,n :: l=>fm (gh n a) l
def je (p:Pc) (g:Lg):List ByteArray:=fm (fm [] ((p.led.entries.drop g.entries.length).map (·.name))) (bif p.waiting then (cR p.req.expr).map (·.name) else [])
def Kd (p:Pc) (g:Lg) (label:Int):Opn:=⟨p.proc,label,p.cost*((p.led.entries.length:Int)-g.entries.length+1),(je p g).map fun n=>⟨n,aw g.entries n⟩⟩
theorem rj:∀(l a:List ByteArray),(fm a l).length<=a.length+l.length
 | [],a=>Nat.le_refl _
 | n :: l,a=>by
  have h1:=rj l (gh n a);have h2:=pH n a;show (fm (gh n a) l).length<=_;rw [List.length_cons];omega
theorem Et (l:List ByteArray) (n:ByteArray) (hl:l.length<=100000):FSpec prog 243 [.one (.sl eJ l),.one (.sc (.string n))] [] [] (.c (.sl eJ (gh n l))) []:=NN l n hl rfl
theorem Eu (d:Nat) (p:Pc) (g:Lg) (label:Int) (hg:g.entries.length<=p.led.entries.length) (h72:p.led.entries.length<=72) (hc:0<=p.cost/\p.cost<=1000) {R:Opn} (hR:Kd p g label=R):FSpec prog 154 [p.a d,g.a,lD label] [] [] (.v R.a) []:=by
 refine aS func154 ?_;unfold Kd je at hR;obtain ⟨E,hE⟩:=qGe (p.led.entries.drop g.entries.length);have hEl:E.length<=72:=by rw [<-hE];simp;omega
 have hE2:p.led.entries.drop ((g.entries.length:Int)).toNat=E:=by rw [Int.toNat_natCast];exact hE
 obtain ⟨c9,hc9⟩:=qGe (p.cost*((p.led.entries.length:Int)-g.entries.length+1));have hmul : -9223372036854775808<=p.cost*((p.led.entries.length:Int)-g.entries.length+1)/\p.cost*((p.led.entries.length:Int)-g.entries.length+1)<=9223372036854775807:=by
  obtain ⟨k,hk⟩:∃k:Int,(p.led.entries.length:Int)-g.entries.length+1=k:=⟨_,rfl⟩;rw [hk];have k1:0<=k:=by omega
  have k2:k<=73:=by omega
  have m1:=Int.mul_nonneg hc.1 k1;have m2:p.cost*k<=1000*73:=Int.mul_le_mul hc.2 k2 k1 (by omega);omega
 obtain ⟨N1,hN1⟩:∃N,fm [] (E.map (·.name))=N:=⟨_,rfl⟩;have hN1l:N1.length<=72:=by rw [<-hN1];have:=rj (E.map (·.name)) [];simp at this;omega
 rw [hE,hN1] at hR;repeat' (first|refine az ?_ ?_|(refine aa 14 rfl ?_;refine sx (dl rfl rfl rfl rfl (by omega) (by omega) hE2) ?_)|refine ay ?_|exact aA|refine ax fun hb=>?_)
 refine ab (fun y:Nat×List ByteArray=>y.1<=E.length/\y.2.length<=y.1/\fm y.2 ((E.drop y.1).map (·.name))=N1) (fun y=>bC [3,4,6] [(2,.v (lD label)),(3,.c (.ptr 3 0)),(4,.c (.ptr 4 0)),(6,.c (.ptr 6 0)),(7,.c (.sl eJ y.2)),(21,.c (.sl jp E)),(22,.i E.length),(23,.i y.1)] [(3,.box 121 (p.d d)),(4,.box 119 [.sl jp g.entries,.sl ji g.saves]),(6,.box 46 [.sc (.int .i64 0),.sc (.int .i64 0),.sc (.int .i64 0),.sc (.int .i64 0),.sc (.int .i64 0),.sc (.slice none 0 0)])]) (fun y=>E.length-y.1) (0,[]) ⟨Nat.zero_le _,Nat.le_refl _,hN1⟩ aL ?_;clear hN1 hE hE2;rintro ⟨i,A⟩ ⟨hi,hA,hs⟩;dsimp only at *
 by_cases hlt:i<E.length
 ·obtain ⟨e,he⟩:∃e,E[i]? = some e:=⟨_,qGg hlt⟩;have ee:=qGs he;rw [qDc hlt,ee] at hs;have kI:=Et A e.name (by omega);have hil:=pH e.name A;refine ao ?_;refine ⟨(i+1,gh e.name A),⟨by dsimp only;omega,by dsimp only;omega,hs⟩,by dsimp only;omega,?_⟩;exact aL
 rw [qDn (by omega)] at hs;obtain rfl:A=N1:=hs;clear hA;obtain ⟨N,hN⟩:=qGe (fm A (bif p.waiting then (cR p.req.expr).map (·.name) else []));have h8:=dE p.req.expr;have hNl:N.length<=80:=by
  rw [<-hN];have:=rj (bif p.waiting then (cR p.req.expr).map (·.name) else []) A;cases hw:p.waiting with
  | true=>rw [hw] at this;simp at this ⊢;omega
  | false=>rw [hw] at this;simp at this ⊢;omega
 rw [hN] at hR;obtain ⟨M,hM⟩:∃M:List Tm,N.map (fun n=>(⟨n,aw g.entries n⟩:Tm))=M:=⟨_,rfl⟩;rw [hM] at hR;obtain rfl:R=⟨p.proc,label,p.cost*((p.led.entries.length:Int)-g.entries.length+1),M⟩:=hR.symm;clear hR hc9 c9;cases hw:p.waiting
 case' true =>
  rw [hw,qCt] at hN;obtain ⟨T,hT⟩:=qGe (cR p.req.expr);rw [hT] at hN h8;have kA:=jO d p.req.expr hT;refine ao ?_;refine ab (fun y:Nat×List ByteArray=>y.1<=T.length/\y.2.length<=72+y.1/\fm y.2 ((T.drop y.1).map (·.name))=N) (fun y=>bC [3,4,6] [(2,.v (lD label)),(3,.c (.ptr 3 0)),(4,.c (.ptr 4 0)),(6,.c (.ptr 6 0)),(7,.c (.sl eJ y.2)),(37,.c (.sl da T)),(38,.i T.length),(39,.i y.1)] [(3,.box 121 (p.d d)),(4,.box 119 [.sl jp g.entries,.sl ji g.saves]),(6,.box 46 [.sc (.int .i64 0),.sc (.int .i64 0),.sc (.int .i64 0),.sc (.int .i64 0),.sc (.int .i64 0),.sc (.slice none 0 0)])]) (fun y=>T.length-y.1) (0,A) ⟨Nat.zero_le _,by dsimp only;omega,hN⟩ aL ?_;clear hN;rintro ⟨i,B⟩ ⟨hi,hBl,hs⟩;dsimp only at *
  by_cases hlt:i<T.length
  case pos =>
   obtain ⟨a,ha⟩:∃a,T[i]? = some a:=⟨_,qGg hlt⟩;have ea:=qGs ha;rw [qDc hlt,ea] at hs;have kI:=Et B a.name (by omega);have hil:=pH a.name B;refine ao ?_;refine ⟨(i+1,gh a.name B),⟨by dsimp only;omega,by dsimp only;omega,hs⟩,by dsimp only;omega,?_⟩;exact aL
  rw [qDn (by omega)] at hs;obtain rfl:N=B:=hs.symm;repeat' (first|refine az ?_ ?_|(refine aa 10 rfl ?_;refine sx (o0 rfl rfl rfl (IntWalk.i64_in _ hmul)) ?_)|refine ay ?_|exact aA|refine ax fun hb=>?_)
 case' false =>
  rw [hw,qCf] at hN;obtain rfl:N=A:=hN.symm;repeat' (first|refine az ?_ ?_|(refine aa 10 rfl ?_;refine sx (o0 rfl rfl rfl (IntWalk.i64_in _ hmul)) ?_)|refine ay ?_|exact aA|(refine ax fun hb=>?_;first|(cases hw.symm.trans hb;done)|skip))
 all_goals
  refine eG 12 5 1000 63 da rfl rfl rfl rfl ?_;refine ab (fun y:Nat×List Tm=>y.1<=N.length/\y.2.length=y.1/\y.2++(N.drop y.1).map (fun n=>(⟨n,aw g.entries n⟩:Tm))=M) (fun y=>bC [4,6,12,1000] [(4,.c (.ptr 4 0)),(6,.c (.ptr 6 0)),(12,.c (.ptr 12 0)),(64,.c (.sl eJ N)),(65,.i N.length),(66,.i y.1)] [(4,.box 119 [.sl jp g.entries,.sl ji g.saves]),(6,.box 46 [.sc (.int .i64 0),.sc (.int .i64 0),.sc (.int .i64 0),.sc (.int .i64 0),.sc (.int .i64 0),.sc (.slice none 0 0)]),(12,.box 46 [.sc (.int .i64 p.proc.site),.sc (.int .i64 p.proc.inc),.sc (.int .i64 p.proc.num),.sc (.int .i64 label),.sc (.int .i64 (p.cost*((p.led.entries.length:Int)-g.entries.length+1))),.own 1000]),(1000,.arr 63 da y.2)]) (fun y=>N.length-y.1) (0,[]) ⟨Nat.zero_le _,rfl,hM⟩ aL ?_;clear hM;rintro ⟨i,Y⟩ ⟨hi,hYl,hs⟩;dsimp only at *
  by_cases hlt:i<N.length
  ·obtain ⟨n,hn⟩:∃n,N[i]? = some n:=⟨_,qGg hlt⟩;have en1:=qGs hn;rw [qDc hlt,en1,List.map_cons] at hs;have kH:=jk g.entries n;obtain ⟨a,ha⟩:=qGe (aw g.entries n);rw [ha] at kH hs;repeat' (first|refine az ?_ ?_|(refine aa 8 rfl ?_;refine aK (ae rfl rfl (av rfl rfl) (aB [⟨n,a⟩] rfl rfl rfl rfl) rfl aE aE) rfl rfl rfl ?_)|refine aa 9 rfl (cB [] kH ?_)|refine ay ?_|exact aA|refine ax fun hb=>?_)
   refine ⟨(i+1,Y++[⟨n,a⟩]),⟨by dsimp only;omega,by simp [hYl],?_⟩,by dsimp only;omega,?_⟩
   ·dsimp only;rw [<-hs];simp
   ·exact a8 (qf [(1000,79)])
  ·rw [qDn (by omega)] at hs;obtain rfl:Y=M:=by rw [<-hs];simp
   refine ao ?_;exact aT
theorem Lr (o:Opn) {b:Bool} (hB:iT o=b):FSpec prog 76 [o.a] [] [] (.b b) []:=by
 refine aS func76 ?_;unfold iT at hB;have kV:=eS o.proc;obtain ⟨v,hv⟩:=qGe (gm o.proc);rw [hv] at kV hB;cases v with
 | false =>
  obtain rfl:b=false:=by rw [<-hB];rfl
  refine ao ?_;exact aT
 | true =>
  by_cases hA:(o.label = -1\/1<=o.label/\o.label<=99)/\1<=o.cost/\o.cost<=1073741824/\o.lower.length<=8
  case neg =>
   obtain rfl:b=false:=by
    rw [<-hB];cases hh:(true && (decide (o.label = -1) || decide (1<=o.label) && decide (o.label<=99)) && decide (1<=o.cost) && decide (o.cost<=1073741824) && decide (o.lower.length<=8)) with
    | false=>rfl
    | true =>
     simp only [qBa,Bool.or_eq_true,decide_eq_true_eq] at hh;exact absurd ⟨hh.1.1.1.2,hh.1.1.2,hh.1.2,hh.2⟩ hA
   have hA':(o.label = -1\/1<=o.label/\o.label<=99)->1<=o.cost->o.cost<=1073741824->o.lower.length<=8->False:=fun a b c d=>hA ⟨a,b,c,d⟩;clear hA;repeat' (first|refine az ?_ ?_|refine fV ?_|refine ay ?_|exact aA|(refine ax fun hb=>?_;first|(exact (hA' (by omega) (by omega) (by omega) (by omega)).elim)|skip)|exact aT|fail)
  obtain ⟨hA1,hA2,hA3,hA4⟩:=hA;have e1:(decide (o.label = -1) || decide (1<=o.label) && decide (o.label<=99))=true:=by simpa using hA1
  rw [e1,qDt hA2,qDt hA3,qDt hA4] at hB;simp only [Bool.true_and] at hB;repeat' (first|refine az ?_ ?_|refine fV ?_|refine ay ?_|exact aA|refine ax fun hb=>?_)
  all_goals
   refine ab (fun y:Nat×Option ByteArray=>y.1<=o.lower.length/\(y.1=0/\y.2=none\/0<y.1/\∃z,o.lower[((y.1:Int)-1).toNat]? = some z/\y.2=some z.name)/\vT y.2 (o.lower.drop y.1)=b) (fun y=>bC [1] [(1,.c (.ptr 1 0)),(3,.i y.1)] [(1,.box 46 o.d)]) (fun y=>o.lower.length-y.1) (0,none) ⟨Nat.zero_le _,.inl ⟨rfl,rfl⟩,hB⟩ aL ?_;clear hB e1 kV;rintro ⟨i,p⟩ ⟨hi,hp,hs⟩;dsimp only at *
   by_cases hlt:i<o.lower.length
   ·obtain ⟨a,ha⟩:∃a,o.lower[i]? = some a:=⟨_,qGg hlt⟩;have ea:=qGs ha;rw [qDc hlt,ea,ng] at hs;have kN:=vm a.name;have kZ:=eH a.am;have kU:=mS a.am;obtain ⟨n,hn⟩:=qGe (bU a.name.toList);obtain ⟨z,hz⟩:=qGe (aJ a.am);obtain ⟨u,hu⟩:=qGe (bj a.am);rw [hn] at kN hs;rw [hz] at kZ hs;rw [hu] at kU hs;clear hn hz hu;obtain ⟨G,hG⟩:=qGe (vT (some a.name) (o.lower.drop (i+1)));rw [hG] at hs;rcases hp with ⟨h0,rfl⟩|⟨h0,y,hy,rfl⟩
    ·have hs:(n && (z || u) && true && G)=b:=hs;repeat' (first|refine az ?_ ?_|refine fV ?_|refine ay ?_|exact aA|refine ax fun hb=>?_)
     any_goals (refine eR ?_;rw [<-hs];simp [*];done)
     all_goals
      refine ⟨(i+1,some a.name),⟨by dsimp only;omega,.inr ⟨by dsimp only;omega,a,?_,rfl⟩,?_⟩,by dsimp only;omega,?_⟩
      ·dsimp only;rw [<-ha];congr 1
       omega
      ·dsimp only;rw [<-hs,hG];simp [*]
      ·exact aL
    ·have hs:(n && (z || u) && Op.bytesLess y.name.toList a.name.toList && G)=b:=hs;have ha':o.lower[((i+1:Nat):Int).toNat-1]? = some a:=ha;repeat' (first|refine az ?_ ?_|(refine aa 9 rfl ?_;first|(refine cB [] kN ?_)|(refine cB [] kZ ?_)|(refine cB [] kU ?_))|(refine aa 10 rfl ?_;refine sx (Lq rfl rfl rfl) ?_)|refine ay ?_|exact aA|refine ax fun hb=>?_)
     any_goals (refine eR ?_;rw [<-hs];simp [*];done)
     all_goals
      refine ⟨(i+1,some a.name),⟨by dsimp only;omega,.inr ⟨by dsimp only;omega,a,?_,rfl⟩,?_⟩,by dsimp only;omega,?_⟩
      ·dsimp only;rw [<-ha];congr 1
       omega
      ·dsimp only;rw [<-hs,hG];simp [*]
      ·exact aL
   ·rw [qDn (by omega)] at hs;obtain rfl:b=true:=hs.symm;refine ao ?_;exact aT
end Go.Proofs.YtkkbopkbjacfmaaGreatDoor
namespace Go.Proofs
open Go.Shelf
def Tryz.lays106_ren:Go.Shelf.Ren:=⟨fun|106=>348|213=>375|265=>385|n=>n,fun|9=>9|3=>3|n=>n,fun|n=>n⟩
theorem Tryz.lays106:Go.Proofs.Lays.n106 Tryz.prog Tryz.lays106_ren:={
 mixed:=by kernel_rfl
 f106:=Tryz.func348.trans (congrArg some (by kernel_rfl))
 f213:=Tryz.func375.trans (congrArg some (by kernel_rfl))
 f265:=Tryz.func385.trans (congrArg some (by kernel_rfl))
 t3:=Tryz.underlying3
 a3:=Tryz.isAgg3
 z3:=Tryz.sizeOf3
 v3:=Tryz.zeroValue3
 t9:=Tryz.underlying9
 a9:=Tryz.isAgg9
 z9:=Tryz.sizeOf9
 v9:=Tryz.zeroValue9 }
open Go.RowKit in
theorem Tryz.strings_Compare (a b:ByteArray) (w:World) :
  Calls Tryz.prog 348 #[.string a,.string b] w fun e w'=>e = .returned (.int .i64 (Lib.compareBytes a.data.toList b.data.toList))/\w'=w:=Any.strings_Compare Tryz.lays106 a b w
end Go.Proofs
namespace Go.Proofs
open Go.Shelf
def Tryz.sortAtoms_ren:Go.Shelf.Ren:=⟨fun|6=>312|15=>208|14=>347|28=>304|29=>305|20=>367|21=>368|22=>369|23=>370|24=>371|25=>372|26=>373|27=>374|46=>382|47=>342|48=>343|49=>383|50=>384|57=>387|n=>n,fun|22=>44|24=>63|25=>344|3=>3|39=>175|0=>0|53=>336|55=>204|4=>4|46=>329|45=>328|50=>333|5=>5|9=>9|66=>367|70=>316|76=>387|77=>352|n=>n,fun|n=>n⟩
theorem Tryz.sortAtoms:Go.Proofs.SlLaysF0.n6 Tryz.prog Tryz.sortAtoms_ren:={
 mixed:=by kernel_rfl
 f6:=⟨Tryz.f312.name,by decide,Tryz.func312.trans (congrArg some (by kernel_rfl))⟩
 f14:=⟨Tryz.f347.name,by decide,Tryz.func347.trans (congrArg some (by kernel_rfl))⟩
 f15:=Tryz.func208.trans (congrArg some (by kernel_rfl))
 f20:=⟨Tryz.f367.name,by decide,Tryz.func367.trans (congrArg some (by kernel_rfl))⟩
 f21:=⟨Tryz.f368.name,by decide,Tryz.func368.trans (congrArg some (by kernel_rfl))⟩
 f22:=⟨Tryz.f369.name,by decide,Tryz.func369.trans (congrArg some (by kernel_rfl))⟩
 f23:=⟨Tryz.f370.name,by decide,Tryz.func370.trans (congrArg some (by kernel_rfl))⟩
 f24:=⟨Tryz.f371.name,by decide,Tryz.func371.trans (congrArg some (by kernel_rfl))⟩
 f25:=⟨Tryz.f372.name,by decide,Tryz.func372.trans (congrArg some (by kernel_rfl))⟩
 f26:=⟨Tryz.f373.name,by decide,Tryz.func373.trans (congrArg some (by kernel_rfl))⟩
 f27:=⟨Tryz.f374.name,by decide,Tryz.func374.trans (congrArg some (by kernel_rfl))⟩
 f28:=Tryz.func304.trans (congrArg some (by kernel_rfl))
 f29:=Tryz.func305.trans (congrArg some (by kernel_rfl))
 f46:=⟨Tryz.f382.name,by decide,Tryz.func382.trans (congrArg some (by kernel_rfl))⟩
 f47:=Tryz.func342.trans (congrArg some (by kernel_rfl))
 f48:=Tryz.func343.trans (congrArg some (by kernel_rfl))
 f49:=⟨Tryz.f383.name,by decide,Tryz.func383.trans (congrArg some (by kernel_rfl))⟩
 f50:=⟨Tryz.f384.name,by decide,Tryz.func384.trans (congrArg some (by kernel_rfl))⟩
 f57:=⟨Tryz.f387.name,by decide,Tryz.func387.trans (congrArg some (by kernel_rfl))⟩
 t0:=Tryz.underlying0
 a0:=Tryz.isAgg0
 z0:=Tryz.sizeOf0
 v0:=Tryz.zeroValue0
 t3:=Tryz.underlying3
 a3:=Tryz.isAgg3
 z3:=Tryz.sizeOf3
 v3:=Tryz.zeroValue3
 t4:=Tryz.underlying4
 a4:=Tryz.isAgg4
 z4:=Tryz.sizeOf4
 v4:=Tryz.zeroValue4
 t5:=Tryz.underlying5
 a5:=Tryz.isAgg5
 z5:=Tryz.sizeOf5
 v5:=Tryz.zeroValue5
 t9:=Tryz.underlying9
 a9:=Tryz.isAgg9
 z9:=Tryz.sizeOf9
 v9:=Tryz.zeroValue9
 t22:=Tryz.underlying44
 a22:=Tryz.isAgg44
 z22:=Tryz.sizeOf44
 v22:=Tryz.zeroValue44
 t25:=Tryz.underlying344
 a25:=Tryz.isAgg344
 z25:=Tryz.sizeOf344
 v25:=Tryz.zeroValue344
 t39:=Tryz.underlying175
 a39:=Tryz.isAgg175
 z39:=Tryz.sizeOf175
 v39:=Tryz.zeroValue175
 t45:=Tryz.underlying328
 a45:=Tryz.isAgg328
 z45:=Tryz.sizeOf328
 v45:=Tryz.zeroValue328
 t46:=Tryz.underlying329
 a46:=Tryz.isAgg329
 z46:=Tryz.sizeOf329
 v46:=Tryz.zeroValue329
 t50:=Tryz.underlying333
 a50:=Tryz.isAgg333
 z50:=Tryz.sizeOf333
 v50:=Tryz.zeroValue333
 t53:=Tryz.underlying336
 a53:=Tryz.isAgg336
 z53:=Tryz.sizeOf336
 v53:=Tryz.zeroValue336
 t55:=Tryz.underlying204
 a55:=Tryz.isAgg204
 z55:=Tryz.sizeOf204
 v55:=Tryz.zeroValue204
 t66:=Tryz.underlying367
 a66:=Tryz.isAgg367
 z66:=Tryz.sizeOf367
 v66:=Tryz.zeroValue367
 t70:=Tryz.underlying316
 a70:=Tryz.isAgg316
 z70:=Tryz.sizeOf316
 v70:=Tryz.zeroValue316
 t76:=Tryz.underlying387
 a76:=Tryz.isAgg387
 z76:=Tryz.sizeOf387
 v76:=Tryz.zeroValue387
 t77:=Tryz.underlying352
 a77:=Tryz.isAgg352
 z77:=Tryz.sizeOf352
 v77:=Tryz.zeroValue352 }
end Go.Proofs
namespace Go.Proofs.YtkkbopkbjacfmaaGreatDoor
open Go.RowKit Go.Proofs.Tryz
section
open Go.Shelf Go.Sort
def oF (a b:ByteArray):Int:=Lib.compareBytes a.data.toList b.data.toList
theorem EJ:∀{l m:List UInt8},(Lib.compareBytes l m<0↔l<m)/\(Lib.compareBytes l m=0↔l=m)
 | [],[]=>by simp [Lib.compareBytes]
 | [],_ :: _=>by simp [Lib.compareBytes]
 | _ :: _,[]=>by simp [Lib.compareBytes]
 | a :: l,b :: m=>by
  obtain ⟨h1,h2⟩:=EJ (l:=l) (m:=m);rw [List.cons_lt_cons_iff];unfold Lib.compareBytes;by_cases ha:a<b
  ·simp [ha];intro e;subst e;exact absurd ha (UInt8.lt_irrefl _)
  ·by_cases hb:b<a
   ·simp [ha,hb];constructor <;> (intro e;subst e;exact absurd hb (UInt8.lt_irrefl _))
   ·have e:a=b:=UInt8.le_antisymm (UInt8.not_lt.1 hb) (UInt8.not_lt.1 ha);subst e;simp [h1,h2]
theorem LM {a b:ByteArray}:oF a b<0↔fT a b=true:=by
 unfold oF fT;rw [bytesLess_eq,decide_eq_true_eq,EJ.1,ByteArray.toList_eq,ByteArray.toList_eq]
theorem Bo (a b:ByteArray):ltOf oF a b=fT a b:=by
 unfold ltOf;rw [Bool.eq_iff_iff,decide_eq_true_iff,LM]
theorem pS:Go.Sort.SWO (ltOf oF) where
 irrefl x:=by rw [Bo];exact dh x
 trans x y z h1 h2:=by rw [Bo] at *;exact dS h1 h2
 ntrans x y z h1 h2:=by
  rw [Bo] at *
  cases h:fT x z with
  | false=>rfl
  | true =>
   exfalso;by_cases e:x=y
   ·subst e;rw [h] at h2;cases h2
   ·have h3:=mO h1 e;rw [dS h3 h] at h2;cases h2
theorem Di (x y:ByteArray) (h1:ltOf oF x y=false) (h2:ltOf oF y x=false):x=y:=by
 rw [Bo] at *
 by_cases e:x=y
 ·exact e
 ·rw [mO h1 e] at h2;cases h2
def MI (h:ByteArray->Am) (n:ByteArray):List Value:=[.string n,.int .i64 (h n).mode,.int .i64 (h n).units]
def wE (h:ByteArray->Am) (n:ByteArray):Tm:=⟨n,h n⟩
theorem Gp (x y:Tm) (w:World):Calls prog 313 #[.agg x.cells.toArray,.agg y.cells.toArray] w fun e w'=>e = .returned (.int .i64 (oF x.name y.name))/\∃os,w'=Go.Sort.grow w os:=by
 have HC:=Lib.hid (fun w=>strings_Compare x.name y.name w);obtain ⟨n,⟨m,u⟩⟩:=x;obtain ⟨n',⟨m',u'⟩⟩:=y;unfold Tm.cells;dsimp only
 go_enter func313,ntmps313
 go_wp2_with fail
 refine (HC.out _).mono ?_;rintro e w1 ⟨rfl,rfl⟩;go_wp2
 go_ret
 exact ⟨rfl,_,by rw [Go.Sort.alloc_eq_grow,Go.Sort.alloc_eq_grow,Go.Sort.grow_grow]⟩
def gY (N:List ByteArray):List ByteArray:=N.mergeSort fun x y=>!(ltOf oF) y x
theorem Gq (h:ByteArray->Am) (N:List ByteArray) (hl:N.length<=100000) (w:World) {v:Value} {F:Nat->Prop} {xs:List Value} (h1:w.ownsRow 0 63 da.n v (N.map (wE h)).length xs) (h2:Reps da w F (N.map (wE h)) xs) :
  Calls prog 312 #[v,.func (.func 313) #[] #[]] w fun e w'=>e = .returned (.tuple #[])/\(Frx w w' fun b=>kb v=some b)/\∃ys,w'.ownsRow 0 63 da.n v ((gY N).map (wE h)).length ys/\∀F',Reps da w' F' ((gY N).map (wE h)) ys:=by
 have hxs:xs=(N.map (MI h)).flatten:=by
  rw [Reps.plain h2,List.map_map];rfl
 have hl':(N.map (wE h)).length=N.length:=by simp
 have one:∀x,∀u∈MI h x,u.oneCell'=true:=by intro x u hu;simp [MI] at hu;rcases hu with rfl|rfl|rfl <;> rfl
 have hrep:∀(w:World) (F:Nat->Prop) (M:List ByteArray),Reps da w F (M.map (wE h)) (M.map (MI h)).flatten:=fun w F M=>by
  have this:Reps da w F (M.map (wE h)) ((M.map (wE h)).map Tm.cells).flatten:=Reps.plain_mk _;rw [List.map_map] at this;exact this
 have hown:OwnRows (El.plain 3 (by decide) (MI h) (fun _=>rfl) one) 63 w 0 v N:=⟨Nat.zero_le _,xs,by rw [<-hl'];exact h1,by rw [hxs];exact Reps.plain_mk N⟩;rcases Nat.eq_zero_or_pos N.length with h0|h0
 ·obtain ⟨A,cap,rfl,_,_,_,_⟩:=hown.form2;obtain rfl:=List.eq_nil_of_length_eq_zero h0;refine (AnyF.slices_SortFunc_none { sortAtoms with } A cap _ w).mono ?_;rintro e w' ⟨rfl,rfl⟩;exact ⟨rfl,Frx.refl _ _,xs,by simpa [gY] using h1,fun F'=>by rw [hxs];simpa [gY] using hrep w' F' []⟩
 ·obtain ⟨g,cap,rfl,hg,hg2,_,_,_,_⟩:=hown.addr h0;have eg:∀args w,(callFunc 313 args).run prog w = .ok (.enter 313 args) w:=enters_of func313 (by kernel_rfl) rfl;have hcmp:CmpLays prog 313 #[] (MI h) 3 oF g 0 N.toArray.size w:=fun _ _ _ _ x y=>(Gp (wE h x) (wE h y) _).mono fun e w' ⟨he,os,hw⟩=>⟨he,0,os,hw⟩;have:=AnyQ.slices_SortFunc_total sortAtoms 3 isAgg63 sizeOf63 (MI h) (fun _=>rfl) one oF pS 313 #[] g 0 cap N.toArray w eg hcmp hown.holdsK hg2 (by simp;omega) Di;refine Calls.mono this ?_;rintro e w' ⟨rfl,n,os,rfl⟩;have hs:=hown.sorted hg2 (l':=gY N) (by simp [gY]) n os;have hb:∀b,b<w.heap.size->b≠g->(sortWorldK (MI h) 3 w g 0 n (gY N).toArray os).heap[b]? = w.heap[b]?:=fun b hb hn=>by
   show (w.heap.modify g _++os)[b]? = _;rw [Array.getElem?_append_left (by simpa using hb),Array.getElem?_modify,if_neg (fun e=>hn e.symm)]
  refine ⟨rfl,⟨rfl,rfl,rfl,by simp [sortWorldK,grow,putRowK,putRow,mapBlock],fun b hlt hn=>hb b hlt fun e=>hn (by rw [e];rfl)⟩,?_⟩;obtain ⟨_,ys,h3,h4⟩:=hs;refine ⟨ys,?_,fun F'=>?_⟩
  ·rw [List.length_map];have e9:(gY N).length=N.length:=by simp [gY]
   rw [e9] at h3 ⊢;exact h3
  ·rw [Reps.plain h4];exact hrep _ F' (gY N)
theorem N6 (h:ByteArray->Am) (N:List ByteArray) (hl:N.length<=100000):FSpec prog 312 [.one (.own 0),.one (.sc (.func (.func 313) #[] #[]))] [(0,.arr 63 da (N.map (wE h)))] [] (.tup []) [(0,some (.arr 63 da ((gY N).map (wE h))))]:=by
 refine ⟨fun b W=>by kernel_rfl,fun q c st ρ a w vs hr hinj hargs hhin hus=>?_⟩
 match vs,hargs with
 | [v,f],⟨h0,h1,_⟩ =>
  obtain rfl:v=ρ (q 0):=h0;obtain rfl:f = .func (.func 313) #[] #[]:=h1;have hk:=hhin 0 _ rfl;obtain ⟨xs,hx1,hx2⟩:=hr.hp (q 0) _ hk;refine (Gq h N hl w hx1 hx2).mono ?_;rintro e w' ⟨rfl,hf,ys,hy1,hy2⟩;refine ⟨_,rfl,fun dst hdst=>⟨ρ,?_⟩⟩;have hkk:∀k':Nat,aF [(q 0,some (Box.arr 63 da ((gY N).map (wE h))))] k'=true->k'=q 0:=fun k' h=>by
   simp only [aF,Bool.or_false] at h;exact (qNb h).symm
  refine hr.app (e:=⟨.tup [],[(q 0,some (.arr 63 da ((gY N).map (wE h))))],[]⟩) hdst (fun k h=>by simp [aI] at h) (fun _ _=>rfl) (fun k' h=>.inr (by rw [hkk k' h];exact hr.nfh hk)) ⟨hf.os,hf.tape,hf.output,hf.size,fun b hlt hn=>hf.keep b hlt fun e=>hn ⟨q 0,_,by simp [aF],hk,e⟩⟩ ?_ ?_ (fun k h=>by simp [TV.has] at h) ?_ ?_ ⟨[],rfl,trivial⟩
  ·intro k' bx g' h _ hg';rw [hkk k' h] at hg';exact ⟨Nat.lt_of_lt_of_le (hr.ltb hk hg') hf.size,.inr ⟨q 0,_,by simp [aF],hk,hg'⟩⟩
  ·intro k1 k2 _ _ _ h h' _ _ _ _;rw [hkk k1 h,hkk k2 h']
  ·intro k1 k2 bx h hp hx;rw [hkk k2 h] at hp;simp only [hput,Nat.beq_refl,qCt,Option.some.injEq] at hp;subst hp;simp [Box.has] at hx
  ·intro k2 bx h hp;rw [hkk k2 h] at hp ⊢;simp only [hput,Nat.beq_refl,qCt,Option.some.injEq] at hp;subst hp;exact ⟨ys,hy1,hy2 _⟩
end
end Go.Proofs.YtkkbopkbjacfmaaGreatDoor
namespace Go.Proofs
open Go.Shelf
def Tryz.sortStrs_ren:Go.Shelf.Ren:=⟨fun|190=>223|125=>208|258=>314|128=>304|129=>305|302=>349|303=>350|304=>351|305=>352|306=>353|307=>354|308=>355|309=>356|310=>357|333=>376|329=>342|330=>343|334=>377|335=>378|336=>379|344=>386|n=>n,fun|31=>246|9=>9|3=>3|46=>175|0=>0|51=>336|53=>204|4=>4|183=>329|182=>328|131=>333|5=>5|218=>367|222=>316|228=>387|229=>352|n=>n,fun|n=>n⟩
theorem Tryz.sortStrs:Go.Proofs.Lays.n190 Tryz.prog Tryz.sortStrs_ren:={
 mixed:=by kernel_rfl
 f125:=Tryz.func208.trans (congrArg some (by kernel_rfl))
 f128:=Tryz.func304.trans (congrArg some (by kernel_rfl))
 f129:=Tryz.func305.trans (congrArg some (by kernel_rfl))
 f190:=Tryz.func223.trans (congrArg some (by kernel_rfl))
 f258:=Tryz.func314.trans (congrArg some (by kernel_rfl))
 f302:=Tryz.func349.trans (congrArg some (by kernel_rfl))
 f303:=Tryz.func350.trans (congrArg some (by kernel_rfl))
 f304:=Tryz.func351.trans (congrArg some (by kernel_rfl))
 f305:=Tryz.func352.trans (congrArg some (by kernel_rfl))
 f306:=Tryz.func353.trans (congrArg some (by kernel_rfl))
 f307:=Tryz.func354.trans (congrArg some (by kernel_rfl))
 f308:=Tryz.func355.trans (congrArg some (by kernel_rfl))
 f309:=Tryz.func356.trans (congrArg some (by kernel_rfl))
 f310:=Tryz.func357.trans (congrArg some (by kernel_rfl))
 f329:=Tryz.func342.trans (congrArg some (by kernel_rfl))
 f330:=Tryz.func343.trans (congrArg some (by kernel_rfl))
 f333:=Tryz.func376.trans (congrArg some (by kernel_rfl))
 f334:=Tryz.func377.trans (congrArg some (by kernel_rfl))
 f335:=Tryz.func378.trans (congrArg some (by kernel_rfl))
 f336:=Tryz.func379.trans (congrArg some (by kernel_rfl))
 f344:=Tryz.func386.trans (congrArg some (by kernel_rfl))
 t0:=Tryz.underlying0
 a0:=Tryz.isAgg0
 z0:=Tryz.sizeOf0
 v0:=Tryz.zeroValue0
 t3:=Tryz.underlying3
 a3:=Tryz.isAgg3
 z3:=Tryz.sizeOf3
 v3:=Tryz.zeroValue3
 t4:=Tryz.underlying4
 a4:=Tryz.isAgg4
 z4:=Tryz.sizeOf4
 v4:=Tryz.zeroValue4
 t5:=Tryz.underlying5
 a5:=Tryz.isAgg5
 z5:=Tryz.sizeOf5
 v5:=Tryz.zeroValue5
 t9:=Tryz.underlying9
 a9:=Tryz.isAgg9
 z9:=Tryz.sizeOf9
 v9:=Tryz.zeroValue9
 t31:=Tryz.underlying246
 a31:=Tryz.isAgg246
 z31:=Tryz.sizeOf246
 v31:=Tryz.zeroValue246
 t46:=Tryz.underlying175
 a46:=Tryz.isAgg175
 z46:=Tryz.sizeOf175
 v46:=Tryz.zeroValue175
 t51:=Tryz.underlying336
 a51:=Tryz.isAgg336
 z51:=Tryz.sizeOf336
 v51:=Tryz.zeroValue336
 t53:=Tryz.underlying204
 a53:=Tryz.isAgg204
 z53:=Tryz.sizeOf204
 v53:=Tryz.zeroValue204
 t131:=Tryz.underlying333
 a131:=Tryz.isAgg333
 z131:=Tryz.sizeOf333
 v131:=Tryz.zeroValue333
 t182:=Tryz.underlying328
 a182:=Tryz.isAgg328
 z182:=Tryz.sizeOf328
 v182:=Tryz.zeroValue328
 t183:=Tryz.underlying329
 a183:=Tryz.isAgg329
 z183:=Tryz.sizeOf329
 v183:=Tryz.zeroValue329
 t218:=Tryz.underlying367
 a218:=Tryz.isAgg367
 z218:=Tryz.sizeOf367
 v218:=Tryz.zeroValue367
 t222:=Tryz.underlying316
 a222:=Tryz.isAgg316
 z222:=Tryz.sizeOf316
 v222:=Tryz.zeroValue316
 t228:=Tryz.underlying387
 a228:=Tryz.isAgg387
 z228:=Tryz.sizeOf387
 v228:=Tryz.zeroValue387
 t229:=Tryz.underlying352
 a229:=Tryz.isAgg352
 z229:=Tryz.sizeOf352
 v229:=Tryz.zeroValue352 }
def Tryz.compactStrs_ren:Go.Shelf.Ren:=⟨fun|194=>224|n=>n,fun|31=>246|9=>9|3=>3|4=>4|0=>0|n=>n,fun|n=>n⟩
theorem Tryz.compactStrs:Go.Proofs.Lays.n194 Tryz.prog Tryz.compactStrs_ren:={
 mixed:=by kernel_rfl
 f194:=Tryz.func224.trans (congrArg some (by kernel_rfl))
 t0:=Tryz.underlying0
 a0:=Tryz.isAgg0
 z0:=Tryz.sizeOf0
 v0:=Tryz.zeroValue0
 t3:=Tryz.underlying3
 a3:=Tryz.isAgg3
 z3:=Tryz.sizeOf3
 v3:=Tryz.zeroValue3
 t4:=Tryz.underlying4
 a4:=Tryz.isAgg4
 z4:=Tryz.sizeOf4
 v4:=Tryz.zeroValue4
 t9:=Tryz.underlying9
 a9:=Tryz.isAgg9
 z9:=Tryz.sizeOf9
 v9:=Tryz.zeroValue9
 t31:=Tryz.underlying246
 a31:=Tryz.isAgg246
 z31:=Tryz.sizeOf246
 v31:=Tryz.zeroValue246 }
end Go.Proofs
namespace Go.Proofs.YtkkbopkbjacfmaaGreatDoor
open Go.RowKit Go.Proofs.Tryz
section
open Go.Shelf Go.Sort
def bs (s:ByteArray):List UInt8:=s.data.toList
theorem N7 (s:ByteArray):encStr (bs s) = .string s:=by
 obtain ⟨⟨l⟩⟩:=s;rfl
def N8 (l:List UInt8):ByteArray:=⟨l.toArray⟩
theorem Jp (s:ByteArray):N8 (bs s)=s:=by
 obtain ⟨⟨l⟩⟩:=s;rfl
def Gs (l:List UInt8):List Value:=[encStr l]
theorem MJ (d:Array (List UInt8)):flatK Gs 1 d=d.map encStr:=by
 apply Array.ext
 ·simp
 ·intro t h1 h2;have ht:t<d.size:=by simpa using h2
  rw [<-getElem!_pos _ t h1,get_flatK _ _ _ _ (by simpa using ht),Array.getElem_map,Nat.div_one,Nat.mod_one,getElem!_pos d t ht];rfl
theorem EK {w:World} {g:Nat} {d:Array (List UInt8)} (h:HoldsK Gs 1 w g 0 d):Holds encStr w g 0 d:=by
 unfold HoldsK at h;rw [MJ] at h;intro j hj;have:=h j (by simpa using hj);rw [getElem!_pos _ j (by simpa using hj)] at this;simpa [getElem!_pos d j hj] using this
theorem EL (w:World) (g:Nat) (d:Array (List UInt8)):putRow encStr w g 0 d=putRowK Gs 1 w g 0 d:=by
 unfold putRowK putRow;rw [MJ];congr 1
 funext c
 unfold putCells;congr 1
 funext k x
 simp only [Array.size_map,Nat.zero_le,true_and,Nat.zero_add,Nat.sub_zero,id];split
 ·next h=>rw [getElem!_pos d k h,getElem!_pos _ k (by simpa using h),Array.getElem_map]
 ·rfl
theorem PO:∀x,∀u∈Gs x,u.oneCell'=true:=by intro x u hu;simp [Gs] at hu;subst hu;rfl
abbrev QT:El (List UInt8):=El.plain 1 (by decide) Gs (fun _=>rfl) PO
theorem EM (L:List ByteArray):(L.map fun x=>[Value.string x]).flatten=((L.map bs).map Gs).flatten:=by
 induction L with
 | nil=>rfl
 | cons x L ih=>simp only [List.map_cons,List.flatten_cons,ih,Gs,N7]
theorem zr {w:World} {F:Nat->Prop} (L:List ByteArray):Reps eJ w F L ((L.map bs).map Gs).flatten:=by
 rw [<-EM];exact Reps.plain_mk L
theorem EN {w:World} {F:Nat->Prop} {L:List ByteArray} {xs:List Value} (h:Reps eJ w F L xs):xs=((L.map bs).map Gs).flatten:=by rw [<-EM];exact Reps.plain h
theorem Bp {w:World} {g n:Nat} (hg:g<w.heap.size) (d:Array (List UInt8)) (os:Array Obj):Frx w (sortWorldK Gs 1 w g 0 n d os) fun b=>b=g :=
 ⟨rfl,rfl,rfl,by simp [sortWorldK,grow,putRowK,putRow,mapBlock],fun b hb hn=>by
  show (w.heap.modify g _++os)[b]? = _;rw [Array.getElem?_append_left (by simpa using hb),Array.getElem?_modify,if_neg (fun e=>hn e.symm)]⟩
def fR (L:List ByteArray):List ByteArray:=((L.map bs).mergeSort fun x y=>decide (x<=y)).map N8
def fM (L:List ByteArray):List ByteArray:=(Lib.compact (L.map bs)).map N8
theorem zt (l:List (List UInt8)):(l.map N8).map bs=l:=by
 rw [List.map_map]
 conv=>rhs;rw [<-List.map_id l]
 rfl
theorem Jq (L:List ByteArray) (hl:L.length<=100000):FSpec prog 223 [.one (.own 0)] [(0,.arr 9 eJ L)] [] (.tup []) [(0,some (.arr 9 eJ (fR L)))]:=by
 refine ⟨fun b W=>by kernel_rfl,fun q c st ρ a w vs hr hinj hargs hhin hus=>?_⟩
 match vs,hargs with
 | [v],⟨h0,_⟩ =>
  obtain rfl:v=ρ (q 0):=h0;have hk:=hhin 0 _ rfl;obtain ⟨xs,hx1,hx2⟩:=hr.hp (q 0) _ hk;have hx3:=EN hx2;have hown:OwnRows QT 9 w 0 (ρ (q 0)) (L.map bs):=⟨Nat.zero_le _,xs,by rw [List.length_map];exact hx1,by rw [hx3];exact Reps.plain_mk _⟩;have key:Calls prog 223 #[ρ (q 0)] w fun e w'=>e = .returned (.tuple #[])/\(Frx w w' fun b=>kb (ρ (q 0))=some b)/\∃ys,w'.ownsRow 0 9 eJ.n (ρ (q 0)) (fR L).length ys/\∀F',Reps eJ w' F' (fR L) ys:=by
   have hsl:(fR L).length=L.length:=by simp [fR]
   rcases Nat.eq_zero_or_pos L.length with h0|h0
   ·obtain ⟨A,cap,hA,_,_,_,_⟩:=hown.form2;obtain rfl:=List.eq_nil_of_length_eq_zero h0;rw [hA] at hx1 ⊢;refine (Any.slices_Sort_string_none sortStrs A cap w).mono ?_;rintro e w' ⟨rfl,rfl⟩;exact ⟨rfl,Frx.refl _ _,xs,by simpa [fR] using hx1,fun F'=>by rw [hx3];simpa [fR] using zr []⟩
   ·obtain ⟨g,cap,hA,hg,hg2,_,_,_,_⟩:=hown.addr (by simpa using h0);rw [hA] at hown ⊢;refine (Any.slices_Sort_string sortStrs g 0 cap (L.map bs) w (EK hown.holdsK) hg2 (by simp;omega)).mono ?_;rintro e w' ⟨rfl,n,os,rfl⟩;rw [EL];have hs:=hown.sorted hg2 (l':=(L.map bs).mergeSort fun x y=>decide (x<=y)) (by simp) n os;have hf:=Bp (n:=n) hg2 ((L.map bs).mergeSort fun x y=>decide (x<=y)).toArray os;obtain ⟨_,ys,h3,h4⟩:=hs;refine ⟨rfl,⟨hf.os,hf.tape,hf.output,hf.size,fun b hb hn=>hf.keep b hb fun e=>hn (by rw [e];rfl)⟩,ys,?_,fun F'=>?_⟩
    ·rw [hsl];have h5:=h3;simp only [List.length_mergeSort,List.length_map] at h5 ⊢;exact h5
    ·rw [Reps.plain h4];have:=zr (w:=(sortWorldK Gs 1 w g 0 n ((L.map bs).mergeSort fun x y=>decide (x<=y)).toArray os)) (F:=F') (fR L);unfold fR at this ⊢
     rwa [zt] at this
  refine key.mono ?_;rintro e w' ⟨rfl,hf,ys,hy1,hy2⟩;refine ⟨_,rfl,fun dst hdst=>⟨ρ,?_⟩⟩;have hkk:∀k':Nat,aF [(q 0,some (Box.arr 9 eJ (fR L)))] k'=true->k'=q 0:=fun k' h=>by
   simp only [aF,Bool.or_false] at h;exact (qNb h).symm
  refine hr.app (e:=⟨.tup [],[(q 0,some (.arr 9 eJ (fR L)))],[]⟩) hdst (fun k h=>by simp [aI] at h) (fun _ _=>rfl) (fun k' h=>.inr (by rw [hkk k' h];exact hr.nfh hk)) ⟨hf.os,hf.tape,hf.output,hf.size,fun b hlt hn=>hf.keep b hlt fun e=>hn ⟨q 0,_,by simp [aF],hk,e⟩⟩ ?_ ?_ (fun k h=>by simp [TV.has] at h) ?_ ?_ ⟨[],rfl,trivial⟩
  ·intro k' bx g' h _ hg';rw [hkk k' h] at hg';exact ⟨Nat.lt_of_lt_of_le (hr.ltb hk hg') hf.size,.inr ⟨q 0,_,by simp [aF],hk,hg'⟩⟩
  ·intro k1 k2 _ _ _ h h' _ _ _ _;rw [hkk k1 h,hkk k2 h']
  ·intro k1 k2 bx h hp hx;rw [hkk k2 h] at hp;simp only [hput,Nat.beq_refl,qCt,Option.some.injEq] at hp;subst hp;simp [Box.has] at hx
  ·intro k2 bx h hp;rw [hkk k2 h] at hp ⊢;simp only [hput,Nat.beq_refl,qCt,Option.some.injEq] at hp;subst hp;exact ⟨ys,hy1,hy2 _⟩
theorem li (l:List (List UInt8)):(Go.Lib.compact l).length<=l.length:=by
 unfold Go.Lib.compact Go.Lib.compactUpTo;rw [List.length_map];refine Nat.le_trans (List.length_filter_le _ _) ?_;simp
theorem Jr (L:List ByteArray) (hl:L.length<=100000):FSpec prog 224 [.one (.own 0)] [(0,.arr 9 eJ L)] [] (.c (.sl eJ (fM L))) [(0,none)]:=by
 refine ⟨fun b W=>by kernel_rfl,fun q c st ρ a w vs hr hinj hargs hhin hus=>?_⟩
 match vs,hargs with
 | [v],⟨h0,_⟩ =>
  obtain rfl:v=ρ (q 0):=h0;have hk:=hhin 0 _ rfl;obtain ⟨xs,hx1,hx2⟩:=hr.hp (q 0) _ hk;have hx3:=EN hx2;have hown:OwnRows QT 9 w 0 (ρ (q 0)) (L.map bs):=⟨Nat.zero_le _,xs,by rw [List.length_map];exact hx1,by rw [hx3];exact Reps.plain_mk _⟩;have hcl:(fM L).length<=L.length:=by have:=li (L.map bs);simpa [fM] using this
  have key:Calls prog 224 #[ρ (q 0)] w fun e w'=>∃A cap,e = .returned (.slice A (fM L).length cap)/\((fM L).length<=cap/\cap<=maxLen)/\(Frx w w' fun b=>kb (ρ (q 0))=some b)/\∀F:Nat->Prop,(∀g,kb (ρ (q 0))=some g->F g)->RowsAt eJ w' F A (fM L):=by
   rcases Nat.eq_zero_or_pos L.length with h0|h0
   ·obtain ⟨A,cap,hA,hc1,hc2,_,_⟩:=hown.form2;obtain rfl:=List.eq_nil_of_length_eq_zero h0;rw [hA];refine (Any.slices_Compact_string_empty compactStrs A cap w).mono ?_;rintro e w' ⟨rfl,rfl⟩;have e0:fM []=[]:=by simp [fM,Lib.compact,Lib.compactUpTo]
    rw [e0];exact ⟨A,cap,rfl,⟨Nat.zero_le _,by first|exact hc2|omega⟩,Frx.refl _ _,fun F _=>RowsAt.nil _ _ _ _⟩
   ·obtain ⟨g,cap,hA,hg,hg2,_,_,_,_⟩:=hown.addr (by simpa using h0);rw [hA] at hown ⊢;obtain ⟨A,cap',hA',_,hcap,_⟩:=hown.form;have hcap2:(L.map bs).length<=cap:=by injection hA'
    refine (Any.slices_Compact_string compactStrs g 0 cap (L.map bs) w (EK hown.holdsK) (by simp;omega) hcap2).mono ?_;rintro e w' ⟨rfl,m,rfl⟩;rw [EL];have hl9:=li (L.map bs);obtain ⟨K,hK⟩:=qGe (Go.Lib.compact (L.map bs));have eK:fM L=K.map N8:=by unfold fM;rw [hK]
    rw [hK] at hl9 ⊢;rw [eK];obtain ⟨Z,hZ⟩:∃z,z=List.replicate ((L.map bs).length-K.length) ([]:List UInt8):=⟨_,rfl⟩;rw [<-hZ];have hlen:(K++Z).length=(L.map bs).length:=by rw [hZ];simp at hl9 ⊢;try omega
    have h1:=hown.sorted hg2 hlen m #[];have hf:=Bp (n:=m) hg2 (K++Z).toArray #[];unfold sortWorldK at h1 hf;rw [grow_empty] at h1 hf;rw [<-hlen] at h1;have h2:=OwnRows.cut h1 (k:=K.length) (by simp);rw [List.take_left] at h2;have hform:=OwnRows.nw h2;obtain ⟨A2,cap2,e2,hr2,hc3,hc4⟩:=hform;injection e2 with e3 e4 e5;subst e3;subst e5;refine ⟨_,_,by rw [List.length_map],⟨by rw [List.length_map];exact hc3,hc4⟩,⟨hf.os,hf.tape,hf.output,hf.size,fun b hb hn=>hf.keep b hb fun e=>hn (by rw [e];rfl)⟩,fun F hF=>?_⟩;obtain ⟨zs,hz1,hz2⟩:=hr2;have hz3:=Reps.plain hz1;refine ⟨zs,?_,fun hpos=>?_⟩
    ·rw [hz3];have:=zr (w:=putRowK Gs 1 (Sort.ahead w m) g 0 (K++Z).toArray) (F:=F) (K.map N8)
     rwa [zt] at this
    ·obtain ⟨b,off,eb,hb1,hb2⟩:=hz2 (by simpa using hpos);refine ⟨b,off,eb,?_,hb2⟩;injection eb with eb;injection eb with eb1;subst eb1;exact hF _ rfl
  refine key.mono ?_;rintro e w' ⟨A,cap,rfl,hc,hf,hrow⟩;refine ⟨_,rfl,fun dst hdst=>⟨ρ,?_⟩⟩;have hkk:∀k':Nat,aF [(q 0,(none:Option Box))] k'=true->k'=q 0:=fun k' h=>by
   simp only [aF,Bool.or_false] at h;exact (qNb h).symm
  have hnone:∀k',k'=q 0->hput [(q 0,(none:Option Box))] st.h k'=none:=fun k' e=>by subst e;simp [hput]
  refine hr.app (e:=⟨.c (.sl eJ (fM L)),[(q 0,none)],[]⟩) hdst (fun k h=>by simp [aI] at h) (fun _ _=>rfl) (fun k' h=>.inr (by rw [hkk k' h];exact hr.nfh hk)) ⟨hf.os,hf.tape,hf.output,hf.size,fun b hlt hn=>hf.keep b hlt fun e=>hn ⟨q 0,_,by simp [aF],hk,e⟩⟩ ?_ ?_ (fun k h=>by simp [TV.has,V0.has,D.has] at h) ?_ ?_ ⟨A,cap,rfl,hc,hrow _ fun g hg=>?_⟩
  ·intro k' bx g' h hp _;rw [hnone k' (hkk k' h)] at hp;cases hp
  ·intro k1 k2 _ _ _ h h' _ _ _ _;rw [hkk k1 h,hkk k2 h']
  ·intro k1 k2 bx h hp _;rw [hnone k2 (hkk k2 h)] at hp;cases hp
  ·intro k2 bx h hp;rw [hnone k2 (hkk k2 h)] at hp;cases hp
  ·refine ⟨(hr.inb (q 0) _ g hk hg).imp (c.hX g) id,Nat.lt_of_lt_of_le (hr.ltb hk hg) hf.size,fun k' bx hk' he=>?_⟩;by_cases e:k'=q 0
   ·rw [hnone k' e] at hk';cases hk'
   ·have hk'':st.h k'=some bx:=by
     have:hput [(q 0,(none:Option Box))] st.h k'=st.h k':=by
      simp only [hput];cases h9:(q 0).beq k' with
      | true=>exact absurd (qNb h9).symm e
      | false=>rfl
     rwa [this] at hk'
    exact e (hr.dis k' (q 0) bx _ g hk'' hk he hg)
end
theorem Bq {β:Type} (n:ByteArray) (a:β):∀l:List (ByteArray×β),(ew n a l).map (·.1)=bif dZ n (l.map (·.1)) then l.map (·.1) else l.map (·.1)++[n]
 | []=>rfl
 | x :: l=>by
  have ih:=Bq n a l;unfold ew;show _=bif (aV x.1 n || dZ n (l.map (·.1))) then x.1 :: l.map (·.1) else x.1 :: l.map (·.1)++[n];cases aV x.1 n with
  | true=>rfl
  | false =>
   show x.1 :: (ew n a l).map (·.1)=_;rw [ih,Bool.false_or];cases dZ n (l.map (·.1)) <;> rfl
theorem pT:∀(l:List En) (m:List (ByteArray×Am)),(m.map (·.1)).Nodup->((fx m l).map (·.1)).Nodup
 | [],_,h=>h
 | e :: l,m,h=>by
  refine pT l (ew e.name e.after m) ?_;rw [Bq];cases hh:dZ e.name (m.map (·.1)) with
  | true=>exact h
  | false =>
   rw [qCf];refine List.nodup_append.2 ⟨h,by simp,fun a ha b hb=>?_⟩;rw [List.mem_singleton] at hb;subst hb;intro e9;subst e9;rw [gP.2 ha] at hh;cases hh
theorem wl {x:ByteArray}:∀(l:List En) (m:List (ByteArray×Am)),x∈(fx m l).map (·.1)↔x∈m.map (·.1)\/∃e∈l,e.name=x
 | [],m=>by simp [fx]
 | e :: l,m=>by
  show x∈(fx (ew e.name e.after m) l).map (·.1)↔_;rw [wl l,<-gP,zp,Bool.or_eq_true,aZ,gP];constructor
  ·rintro ((h|h)|⟨f,h1,h2⟩)
   ·exact .inr ⟨e,by simp,h⟩
   ·exact .inl h
   ·exact .inr ⟨f,by simp [h1],h2⟩
  ·rintro (h|⟨f,h1,h2⟩)
   ·exact .inl (.inr h)
   ·rcases List.mem_cons.1 h1 with rfl|h1
    ·exact .inl (.inl h2)
    ·exact .inr ⟨f,h1,h2⟩
theorem wm:∀{l m:List ByteArray},i5 l->i5 m->(∀x,x∈l↔x∈m)->l=m
 | [],[],_,_,_=>rfl
 | [],b :: m,_,_,h=>absurd ((h b).2 (by simp)) (by simp)
 | a :: l,[],_,_,h=>absurd ((h a).1 (by simp)) (by simp)
 | a :: l,b :: m,h1,h2,h=>by
  obtain ⟨p1,q1⟩:=List.pairwise_cons.1 h1;obtain ⟨p2,q2⟩:=List.pairwise_cons.1 h2;have e:a=b:=by
   rcases List.mem_cons.1 ((h a).1 (by simp)) with e|ha
   ·exact e
   ·rcases List.mem_cons.1 ((h b).2 (by simp)) with e|hb
    ·exact e.symm
    ·have:=dS (p1 b hb) (p2 a ha);rw [dh] at this;cases this
  subst e;rw [wm q1 q2 fun x=>?_];constructor
  ·intro hx;rcases List.mem_cons.1 ((h x).1 (by simp [hx])) with e|hm
   ·subst e;have:=p1 x hx;rw [dh] at this;cases this
   ·exact hm
  ·intro hx;rcases List.mem_cons.1 ((h x).2 (by simp [hx])) with e|hm
   ·subst e;have:=p2 x hx;rw [dh] at this;cases this
   ·exact hm
def jS (m:List (ByteArray×Am)) (seen:List Nat):List ByteArray:=(seen.filterMap fun j=>m[j]?).map (·.1)
theorem Gt {m:List (ByteArray×Am)} {seen:List Nat} {j:Nat} {x:ByteArray×Am} (h:m[j]? = some x):jS m (seen++[j])=jS m seen++[x.1]:=by
 unfold jS;rw [List.filterMap_append,List.map_append];simp [h]
theorem wn {n:Nat} {seen:List Nat} (hn:seen.Nodup) (hs:∀j∈seen,j<n):seen.length<=n:=by
 have hp:seen.Perm ((List.range n).filter fun j=>decide (j∈seen)):=(List.perm_ext_iff_of_nodup hn (List.nodup_range.filter _)).2 fun j=>by
  rw [List.mem_filter,List.mem_range,decide_eq_true_eq];exact ⟨fun h=>⟨hs j h,h⟩,fun h=>h.2⟩
 have h:=List.length_filter_le (fun j=>decide (j∈seen)) (List.range n);rw [<-hp.length_eq] at h;simpa using h
theorem Br {α β:Type} {f g:α->Option β}:∀{l:List α},(∀x∈l,f x=g x)->l.filterMap f=l.filterMap g
 | [],_=>rfl
 | x :: l,h=>by
  rw [List.filterMap_cons,List.filterMap_cons,h x (by simp),Br fun y hy=>h y (by simp [hy])]
theorem Js {m:List (ByteArray×Am)} {seen:List Nat} (hn:seen.Nodup) (hs:∀j∈seen,j<m.length) (ha:∀j,j<m.length->j∈seen):(jS m seen).Perm (m.map (·.1)):=by
 have hp:seen.Perm (List.range m.length):=(List.perm_ext_iff_of_nodup hn List.nodup_range).2 fun j=>by
  rw [List.mem_range];exact ⟨hs j,ha j⟩
 have h1:=(hp.filterMap fun j=>m[j]?).map (·.1);have h2:(List.range m.length).filterMap (fun j=>m[j]?)=m:=by
  have e:(List.range m.length).filterMap (fun j=>m[j]?)=(List.range m.length).filterMap (fun j=>some (m.getD j (.empty,⟨0,0⟩))):=by
   refine Br fun j hj=>?_;have hj:=List.mem_range.1 hj;rw [List.getD_eq_getElem?_getD,qGg hj,Option.getD_some]
  rw [e,show (fun j=>some (m.getD j (.empty,⟨0,0⟩)))=some ∘ (fun j=>m.getD j (.empty,⟨0,0⟩)) from rfl,List.filterMap_eq_map];apply List.ext_getElem
  ·simp
  ·intro i h1 h2;simp [List.getD_eq_getElem?_getD,qGg h2]
 unfold jS
 rwa [h2] at h1
theorem wt {n x:ByteArray}:∀{l:List ByteArray},x∈gh n l↔x=n\/x∈l
 | []=>by simp [gh]
 | m :: l=>by
  show x∈(bif fT m n then m :: gh n l else bif aV m n then m :: l else n :: m :: l)↔_;cases fT m n with
  | true =>
   rw [qCt,List.mem_cons,wt,List.mem_cons];constructor
   ·rintro (h|h|h) <;> simp [h]
   ·rintro (h|h|h) <;> simp [h]
  | false =>
   cases he:aV m n with
   | true =>
    have:=aZ.1 he;subst this;simp
   | false=>simp
theorem Bt {n:ByteArray}:∀{l:List ByteArray},i5 l->i5 (gh n l)
 | [],_=>by simp [gh,i5]
 | m :: l,h=>by
  obtain ⟨h1,h2⟩:=List.pairwise_cons.1 h;show i5 (bif fT m n then m :: gh n l else bif aV m n then m :: l else n :: m :: l);cases hc:fT m n with
  | true =>
   refine List.pairwise_cons.2 ⟨fun x hx=>?_,Bt h2⟩;rcases wt.1 hx with rfl|hx
   ·exact hc
   ·exact h1 x hx
  | false =>
   cases he:aV m n with
   | true=>exact h
   | false =>
    have hlt:fT n m=true:=mO hc (cb.1 he);refine List.pairwise_cons.2 ⟨fun x hx=>?_,h⟩;rcases List.mem_cons.1 hx with rfl|hx
    ·exact hlt
    ·exact dS hlt (h1 x hx)
theorem ya {x:ByteArray}:∀{l acc:List ByteArray},x∈fm acc l↔x∈acc\/x∈l
 | [],acc=>by simp [fm]
 | n :: l,acc=>by
  show x∈fm (gh n acc) l↔_;rw [ya,wt,List.mem_cons];constructor
  ·rintro ((h|h)|h) <;> simp [h]
  ·rintro (h|h|h) <;> simp [h]
theorem yb:∀{l acc:List ByteArray},i5 acc->i5 (fm acc l)
 | [],_,h=>h
 | n :: l,acc,h=>yb (l:=l) (Bt h)
theorem yc:∀(l m acc:List ByteArray),fm acc (l++m)=fm (fm acc l) m
 | [],_,_=>rfl
 | n :: l,m,acc=>yc l m _
theorem ik (d:Array (List UInt8)):∀m x,x∈Go.Lib.compactUpTo d m↔∃j,j<m/\d[j]! = x
 | 0,x=>by simp [Go.Lib.compactUpTo]
 | m+1,x=>by
  rw [Go.Lib.compactUpTo_succ,List.mem_append,ik d m x];by_cases h:Go.Lib.keeps d m=true
  ·rw [if_pos h,List.mem_singleton];constructor
   ·rintro (⟨j,hj,e⟩|e)
    ·exact ⟨j,by omega,e⟩
    ·exact ⟨m,by omega,e.symm⟩
   ·rintro ⟨j,hj,e⟩;rcases Nat.lt_or_ge j m with h1|h1
    ·exact Or.inl ⟨j,h1,e⟩
    ·have:j=m:=by omega
     subst this;exact Or.inr e.symm
  ·rw [if_neg h];have hk:¬(m=0\/d[m]!≠d[m-1]!):=by simpa [Go.Lib.keeps] using h
   have h0:m≠0:=fun e=>hk (Or.inl e);have he:d[m]! = d[m-1]!:=Classical.byContradiction fun e=>hk (Or.inr e);constructor
   ·rintro (⟨j,hj,e⟩|e)
    ·exact ⟨j,by omega,e⟩
    ·cases e
   ·rintro ⟨j,hj,e⟩;rcases Nat.lt_or_ge j m with h1|h1
    ·exact Or.inl ⟨j,h1,e⟩
    ·have:j=m:=by omega
     subst this;exact Or.inl ⟨j-1,by omega,he.symm.trans e⟩
theorem Jt {x y:List UInt8} (h:¬y<x) (hn:x≠y):x<y:=by
 rcases Std.lt_trichotomy x y with h1|h1|h1
 ·exact h1
 ·exact absurd h1 hn
 ·exact absurd h1 h
theorem pU (d:Array (List UInt8)) (hs:∀i j,i<j->j<d.size->¬d[j]! < d[i]!):∀m,m<=d.size->(Go.Lib.compactUpTo d m).Pairwise fun x y=>x<y
 | 0,_=>by simp [Go.Lib.compactUpTo]
 | m+1,hm=>by
  have ih:=pU d hs m (by omega);rw [Go.Lib.compactUpTo_succ];by_cases h:Go.Lib.keeps d m=true
  ·rw [if_pos h,List.pairwise_append];refine ⟨ih,by simp,fun x hx y hy=>?_⟩;rw [List.mem_singleton.1 hy];obtain ⟨j,hj,rfl⟩:=(ik d m x).1 hx;have hk:m=0\/d[m]!≠d[m-1]!:=by simpa [Go.Lib.keeps] using h
   have hne:d[m]!≠d[m-1]!:=hk.resolve_left (by omega);have a1:d[m-1]! < d[m]!:=Jt (hs (m-1) m (by omega) (by omega)) (fun e=>hne e.symm);rcases Nat.lt_or_ge j (m-1) with h2|h2
   ·refine Jt (hs j m (by omega) (by omega)) fun e=>?_;have:=hs j (m-1) h2 (by omega);rw [e] at this;exact this a1
   ·have:j=m-1:=by omega
    subst this;exact a1
  ·rw [if_neg h,List.append_nil];exact ih
theorem Bu (l:List UInt8):(N8 l).toList=l:=by rw [ByteArray.toList_eq];rfl
theorem Gu (L:List ByteArray):fM (fR L)=fm [] L:=by
 have hle:((L.map bs).mergeSort fun x y=>decide (x<=y)).Pairwise fun a b=>decide (a<=b)=true:=List.pairwise_mergeSort (fun a b c h1 h2=>by
  rw [decide_eq_true_eq] at *
  exact List.le_trans h1 h2) (fun a b=>by
  rw [Bool.or_eq_true,decide_eq_true_eq,decide_eq_true_eq];exact List.le_total a b) _
 have hm:∀x,x∈((L.map bs).mergeSort fun x y=>decide (x<=y))↔x∈L.map bs:=fun x=>(List.mergeSort_perm _ _).mem_iff;unfold fM fR;rw [zt];generalize (L.map bs).mergeSort (fun x y=>decide (x<=y))=M at *
 unfold Go.Lib.compact;have hasc:=pU M.toArray (fun i j hij hj=>by
  have hj':j<M.length:=by simpa using hj
  rw [getElem!_pos _ j hj,getElem!_pos _ i (by omega)];have:=List.pairwise_iff_getElem.1 hle i j (by omega) hj' hij;rw [decide_eq_true_eq] at this;simpa using this) M.length (by simp)
 refine wm ?_ (yb (by simp [i5])) fun x=>?_
 ·unfold i5;rw [List.pairwise_map];refine hasc.imp fun {a b} h=>?_;unfold fT;rw [bytesLess_eq,decide_eq_true_eq,Bu,Bu];exact h
 ·rw [ya,List.mem_map];constructor
  ·rintro ⟨l,hl,rfl⟩;obtain ⟨j,hj,rfl⟩:=(ik _ _ _).1 hl;rw [getElem!_pos _ j (by simpa using hj)];have:M[j]∈L.map bs:=(hm _).1 (by simp);obtain ⟨y,hy,e⟩:=List.mem_map.1 this;refine .inr ?_;simp only [List.getElem_toArray];rw [<-e,Jp];exact hy
  ·rintro (h|h)
   ·cases h
   ·have h1:bs x∈M:=(hm _).2 (List.mem_map.2 ⟨x,h,rfl⟩);obtain ⟨j,hj,e⟩:=List.getElem_of_mem h1;exact ⟨bs x,(ik _ _ _).2 ⟨j,hj,by rw [getElem!_pos _ j (by simpa using hj)];simpa using e⟩,Jp x⟩
theorem Bv {l:List En} {N:List ByteArray} (h:N.Perm ((f8 l).map (·.1))):gY N=bt l:=by
 have hnd:N.Nodup:=(h.nodup_iff).2 (pT l [] (by simp));have hp:=List.mergeSort_perm N fun x y=>!(ltOf oF) y x;have hs:(gY N).Pairwise fun a b=>(!(ltOf oF) b a)=true:=List.pairwise_mergeSort (fun a b c h1 h2=>by
  simp only [Bool.not_eq_true'] at *
  exact pS.ntrans c b a h2 h1) (fun a b=>by
  cases h1:ltOf oF b a with
  | false=>rfl
  | true =>
   cases h2:ltOf oF a b with
   | false=>rfl
   | true=>have:=pS.trans _ _ _ h1 h2;rw [pS.irrefl] at this;cases this) N
 have hn2:(gY N).Nodup:=(hp.nodup_iff).2 hnd;refine wm ?_ (gv l) fun x=>?_
 ·refine (hs.and hn2).imp fun {a b} ⟨h1,h2⟩=>?_;rw [Bo,Bool.not_eq_true'] at h1;exact mO h1 (fun e=>h2 e.symm)
 ·show x∈N.mergeSort (fun x y=>!(ltOf oF) y x)↔_;rw [hp.mem_iff,h.mem_iff,cP];show x∈(fx [] l).map (·.1)↔_;rw [wl];simp
theorem PP (g:Lg) (n:Int) {R:Lg×List Tm×Int} (hR:cd g n=R):FSpec prog 222 [g.a,.one (.sc (.int .i64 n))] [] [] (Pd R) []:=by
 refine aS func222 ?_;obtain ⟨v,hv⟩:=qGe (lA g.entries g.saves);have kV:=EI g.entries g.saves hv;have hV:qT g=v:=hv;cases v with
 | false =>
  obtain rfl:R=(.zero,[],2):=by rw [<-hR];simp [cd,hV]
  refine ao ?_
  (refine fk (qf []) ?_;exact ak)
 | true =>
  obtain ⟨h1,h2⟩:=gK hV;have hat:=C0 hv;by_cases hf:n≠0/\aO n 0 g.saves<0
  case pos =>
   obtain ⟨hn0,hf⟩:=hf;obtain rfl:R=(.zero,[],10):=by rw [<-hR];simp [cd,hV,hn0,hf]
   have kP:=Dh g.saves n rfl;refine ao ?_
   (refine fk (qf []) ?_;exact ak)
  obtain ⟨a,sv,hX,ha,hsv,hcase⟩:∃(a sv:Nat),bw g n=⟨g.entries.take a,g.saves.take sv⟩/\a<=g.entries.length/\sv<=g.saves.length/\((n=0/\a=0/\sv=0)\/(n≠0/\∃(i:Nat) (lab:Int),g.saves[i]? = some (⟨lab,(a:Int)⟩:Sv)/\aO n 0 g.saves=(i:Int)/\sv=i+1)):=by
   by_cases hn:n=0
   ·exact ⟨0,0,by simp [bw,hn],by omega,by omega,.inl ⟨hn,rfl,rfl⟩⟩
   ·obtain ⟨i,hi,he,_⟩:=ja (n:=n) (l:=g.saves) (k:=0) (by by_cases h:aO n 0 g.saves<0;exact absurd ⟨hn,h⟩ hf;omega);have he2:aO n 0 g.saves=(i:Int):=by rw [he];simp
    have:=hat _ (List.getElem_mem hi);have e9:((g.saves[i].at_.toNat:Nat):Int)=g.saves[i].at_:=Int.toNat_of_nonneg this.1;exact ⟨g.saves[i].at_.toNat,i+1,by simp [bw,hn,he2,hi,List.getD_eq_getElem?_getD],by omega,by omega,.inr ⟨hn,i,g.saves[i].label,by rw [e9];exact qGg hi,he2,rfl⟩⟩
  have hl1:(g.entries.take a).length=a:=by simp;omega
  obtain ⟨E',hE'⟩:∃E',g.entries.take a=E':=⟨_,rfl⟩;obtain ⟨S',hS'⟩:∃S',g.saves.take sv=S':=⟨_,rfl⟩;obtain ⟨D',hD'⟩:∃D',g.entries.drop a=D':=⟨_,rfl⟩;have hD2:g.entries.drop ((a:Int)).toNat=D':=by rw [Int.toNat_natCast];exact hD'
  obtain ⟨H,hH⟩:∃H:ByteArray->Am,aw E'=H:=⟨_,rfl⟩;obtain ⟨M,hM⟩:=qGe ((bt D').map (wE H));obtain rfl:R=(⟨E',S'⟩,M,0):=by
   rw [<-hR,<-hM];unfold cd;rw [hX,hV,hl1,hE',hS',hD'];rcases hcase with ⟨rfl,_⟩|⟨h0,i,_,hi,he,_⟩
   ·simp [wE,<-hH]
   ·have hi0:¬((i:Int)<0):=by omega
    simp [h0,he,hi0,wE,<-hH]
  have kC:=Qt g a sv ha hsv (by omega) (by omega) hE' hS';have k1:=Jn E';have k2:=Jn D';have hg:∀x,wW x (f8 E')=H x:=fun x=>by rw [rr,hH]
  obtain ⟨m,hm⟩:=qGe (f8 D');have hfin:∀seen:List Nat,seen.Nodup->(∀j∈seen,j<m.length)->(∀j,j<m.length->j∈seen)->(gY (jS m seen)).map (wE H)=M:=fun seen q1 q2 q3=>by
   rw [<-hM,<-Bv (N:=jS m seen) (by rw [hm];exact Js q1 q2 q3)]
  have hm9:m.length<=100000:=by
   have q1:=wk D';have q2:=gV D' [];have q3:D'.length<=72:=by rw [<-hD'];simp;omega
   rw [hm] at q1;unfold bt at q1;simp at q2;omega
  rw [hm] at k2;generalize f8 E'=m0 at *
  clear hR hf hX hV hv hat hl1 hM hm hH hE' hS' hD';rcases hcase with ⟨rfl,rfl,rfl⟩|⟨h0,i,lab,hi,he,rfl⟩
  case' inl =>
   repeat' (first|refine az ?_ ?_|(refine aa 9 rfl ?_;first|(refine cB [] kV ?_)|(refine cH (qf [(1,1001),(2,1002)]) kC ?_))|((fail_if_success (first|refine po 10 ?_|refine pp 10 ?_));refine ay ?_)|exact aA|refine ax fun hb=>?_)
  case' inr =>
   have kP:=Dh g.saves n he;have hi9:i<g.saves.length:=(List.getElem?_eq_some_iff.1 hi).1;repeat' (first|refine az ?_ ?_|(refine aa 9 rfl ?_;first|(refine cB [] kV ?_)|(refine cB [] kP ?_)|(refine cH (qf [(1,1001),(2,1002)]) kC ?_))|((fail_if_success (first|refine po 10 ?_|refine pp 10 ?_));refine ay ?_)|exact aA|refine ax fun hb=>?_)
  all_goals
   refine kx 1001 rfl ?_;refine kx 1002 rfl ?_;repeat' (first|refine az ?_ ?_|(refine aa 9 rfl ?_;first|(refine cH (qf [(0,1003)]) k1 ?_)|(refine cH (qf [(0,1004)]) k2 ?_))|(refine aa 14 rfl ?_;first|refine sx (dl (z:=((0:Nat):Int)) rfl rfl rfl rfl (by omega) (by omega) hD2) ?_|refine sx (dl (z:=(a:Int)) rfl rfl rfl rfl (by omega) (by omega) hD2) ?_)|(refine aa 25 rfl ?_;refine sx (Gm wX rfl rfl rfl rfl) ?_)|refine ay ?_|exact aA|refine ax fun hb=>?_)
   refine bK 12 1000 63 da rfl rfl rfl ?_;refine ab (fun seen:List Nat=>seen.Nodup/\∀j∈seen,j<m.length) (fun seen=>bC [4,10,47,1000,1003,1004] [(4,.c (.ptr 4 0)),(10,.c (.ptr 10 0)),(11,.c (.own 1003)),(12,.c (.own 1000)),(47,.c (.own 47))] [(4,.box 119 [.sc (.slice none 0 0),.sc (.slice none 0 0)]),(10,.box 119 [.sl jp E',.sl ji S']),(47,.it 1004 (EH m).length seen),(1000,.arr 63 da ((jS m seen).map (wE H))),(1003,.mp (EH m0)),(1004,.mp (EH m))]) (fun seen=>m.length-seen.length) [] ⟨by simp,by simp⟩ aL ?_;rintro seen ⟨hn,hs⟩;refine uF (LL (L:=EH m) (n:=(EH m).length) rfl rfl rfl rfl rfl rfl rfl rfl rfl rfl rfl rfl (fun j hj hjs=>?_) (fun hall=>?_))
   ·have hj:j<m.length:=by simpa [my] using hj
    obtain ⟨x,hx⟩:∃x,m[j]? = some x:=⟨_,qGg hj⟩;have hx2:(EH m)[j]? = some (.string x.1,OC x.2):=by simp [my,hx]
    have hT:=Gt (seen:=seen) hx;have hls:=wn hn hs;have hn2:(seen++[j]).Nodup:=List.nodup_append.2 ⟨hn,by simp,fun b hb c hc=>by rw [List.mem_singleton] at hc;subst hc;exact fun e=>hjs (e▸hb)⟩;have hs2:∀k∈seen++[j],k<m.length:=fun k hk=>by
     rcases List.mem_append.1 hk with hk|hk
     ·exact hs k hk
     ·rw [List.mem_singleton] at hk;subst hk;exact hj
    have hls2:=wn hn2 hs2;have hcl:((jS m seen).map (wE H)).length<=100000:=by
     unfold jS;have:=List.length_filterMap_le (fun j=>m[j]?) seen;simp;omega
    generalize hC:(jS m seen).map (wE H)=C at *
    show AW _ _ _ _ _ _;repeat' (first|refine az ?_ ?_|(refine aa 8 rfl ?_;refine aK (ae rfl rfl (av rfl rfl) (aB [wE H x.1] rfl rfl rfl rfl) rfl aE aE) rfl rfl rfl ?_)|(refine aa 23 rfl ?_;refine sx (nl _ _ wX Dg zq rfl rfl rfl rfl (hg x.1)) ?_)|(refine aa 27 rfl ?_;refine sx (Gn (y:=x.2.a) rfl rfl rfl rfl rfl hx2 (fun _ _ _=>⟨_,rfl,rfl,rfl,trivial⟩) (fun _=>rfl)) ?_)|refine ay ?_|exact aA|refine ax fun hb=>?_)
    refine ⟨seen++[j],⟨hn2,hs2⟩,by simp at hls2 ⊢;omega,?_⟩;rw [hT,List.map_append,hC];exact a8 (qf [(1000,59)])
   ·have hM:=hfin seen hn hs fun j hj=>hall j (by simpa [my] using hj);have kS:=N6 H (jS m seen) (by
     unfold jS;have:=List.length_filterMap_le (fun j=>m[j]?) seen;have:=wn hn hs;simp;omega)
    rw [hM] at kS;show AW _ _ _ _ _ _;repeat' (first|refine az ?_ ?_|refine aa 9 rfl (cH (qf [(0,1000)]) kS ?_)|refine ay ?_|exact aA|refine ax fun hb=>?_|(refine fk (qf []) ?_;exact ak))
end Go.Proofs.YtkkbopkbjacfmaaGreatDoor
