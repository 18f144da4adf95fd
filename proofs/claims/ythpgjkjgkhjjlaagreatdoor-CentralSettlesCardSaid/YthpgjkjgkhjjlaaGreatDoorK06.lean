/- Part K06 of a proof of statements of chapter 15 (no condition). -/
import Derived.Test.YthpgjkjgkhjjlaaGreatDoorK04
import Derived.Test.YthpgjkjgkhjjlaaGreatDoorK05
import Derived.Ground.SlsfProg
import Derived.Shelf.SlGeneric
import Derived.Shelf.SlLaysF0
import Derived.Shelf.RegionOpenPlain
import Derived.Lib.SliceRun
import Derived.Laws.BitsAllLaws
import Derived.Deep.RegionLaw
set_option linter.unusedVariables false
set_option linter.unusedSimpArgs false
set_option maxRecDepth 100000
set_option maxHeartbeats 64000000
namespace Go.Proofs
open Go.Shelf
def Tryz.sortProcs_ren:Go.Shelf.Ren:=⟨fun|6=>201|15=>248|14=>257|28=>300|29=>301|20=>307|21=>308|22=>309|23=>310|24=>311|25=>312|26=>313|27=>314|46=>341|47=>335|48=>336|49=>342|50=>343|57=>350|n=>n,fun|22=>139|24=>40|25=>122|3=>3|39=>164|0=>0|53=>284|55=>286|4=>4|46=>278|45=>277|50=>260|5=>5|9=>9|66=>309|70=>272|76=>319|77=>210|n=>n,fun|n=>n⟩
theorem Tryz.sortProcs:Go.Proofs.SlLaysF0.n6 Tryz.prog Tryz.sortProcs_ren:={
 mixed:=by kernel_rfl
 f6:=⟨Tryz.f201.name,by decide,Tryz.func201.trans (congrArg some (by kernel_rfl))⟩
 f14:=⟨Tryz.f257.name,by decide,Tryz.func257.trans (congrArg some (by kernel_rfl))⟩
 f15:=Tryz.func248.trans (congrArg some (by kernel_rfl))
 f20:=⟨Tryz.f307.name,by decide,Tryz.func307.trans (congrArg some (by kernel_rfl))⟩
 f21:=⟨Tryz.f308.name,by decide,Tryz.func308.trans (congrArg some (by kernel_rfl))⟩
 f22:=⟨Tryz.f309.name,by decide,Tryz.func309.trans (congrArg some (by kernel_rfl))⟩
 f23:=⟨Tryz.f310.name,by decide,Tryz.func310.trans (congrArg some (by kernel_rfl))⟩
 f24:=⟨Tryz.f311.name,by decide,Tryz.func311.trans (congrArg some (by kernel_rfl))⟩
 f25:=⟨Tryz.f312.name,by decide,Tryz.func312.trans (congrArg some (by kernel_rfl))⟩
 f26:=⟨Tryz.f313.name,by decide,Tryz.func313.trans (congrArg some (by kernel_rfl))⟩
 f27:=⟨Tryz.f314.name,by decide,Tryz.func314.trans (congrArg some (by kernel_rfl))⟩
 f28:=Tryz.func300.trans (congrArg some (by kernel_rfl))
 f29:=Tryz.func301.trans (congrArg some (by kernel_rfl))
 f46:=⟨Tryz.f341.name,by decide,Tryz.func341.trans (congrArg some (by kernel_rfl))⟩
 f47:=Tryz.func335.trans (congrArg some (by kernel_rfl))
 f48:=Tryz.func336.trans (congrArg some (by kernel_rfl))
 f49:=⟨Tryz.f342.name,by decide,Tryz.func342.trans (congrArg some (by kernel_rfl))⟩
 f50:=⟨Tryz.f343.name,by decide,Tryz.func343.trans (congrArg some (by kernel_rfl))⟩
 f57:=⟨Tryz.f350.name,by decide,Tryz.func350.trans (congrArg some (by kernel_rfl))⟩
 t0:=Tryz.underlying0
 a0:=Tryz.isAgg0
 z0:=Tryz.sizeOf0
 v0:=Tryz.zeroValue0
 t3:=Tryz.underlying3
 a3:=Tryz.isAgg3
 z3:=Tryz.sizeOf3
 v3:=Tryz.zeroValue3
 t4:=Tryz.underlying4
 a4:=Tryz.isAgg4
 z4:=Tryz.sizeOf4
 v4:=Tryz.zeroValue4
 t5:=Tryz.underlying5
 a5:=Tryz.isAgg5
 z5:=Tryz.sizeOf5
 v5:=Tryz.zeroValue5
 t9:=Tryz.underlying9
 a9:=Tryz.isAgg9
 z9:=Tryz.sizeOf9
 v9:=Tryz.zeroValue9
 t22:=Tryz.underlying139
 a22:=Tryz.isAgg139
 z22:=Tryz.sizeOf139
 v22:=Tryz.zeroValue139
 t25:=Tryz.underlying122
 a25:=Tryz.isAgg122
 z25:=Tryz.sizeOf122
 v25:=Tryz.zeroValue122
 t39:=Tryz.underlying164
 a39:=Tryz.isAgg164
 z39:=Tryz.sizeOf164
 v39:=Tryz.zeroValue164
 t45:=Tryz.underlying277
 a45:=Tryz.isAgg277
 z45:=Tryz.sizeOf277
 v45:=Tryz.zeroValue277
 t46:=Tryz.underlying278
 a46:=Tryz.isAgg278
 z46:=Tryz.sizeOf278
 v46:=Tryz.zeroValue278
 t50:=Tryz.underlying260
 a50:=Tryz.isAgg260
 z50:=Tryz.sizeOf260
 v50:=Tryz.zeroValue260
 t53:=Tryz.underlying284
 a53:=Tryz.isAgg284
 z53:=Tryz.sizeOf284
 v53:=Tryz.zeroValue284
 t55:=Tryz.underlying286
 a55:=Tryz.isAgg286
 z55:=Tryz.sizeOf286
 v55:=Tryz.zeroValue286
 t66:=Tryz.underlying309
 a66:=Tryz.isAgg309
 z66:=Tryz.sizeOf309
 v66:=Tryz.zeroValue309
 t70:=Tryz.underlying272
 a70:=Tryz.isAgg272
 z70:=Tryz.sizeOf272
 v70:=Tryz.zeroValue272
 t76:=Tryz.underlying319
 a76:=Tryz.isAgg319
 z76:=Tryz.sizeOf319
 v76:=Tryz.zeroValue319
 t77:=Tryz.underlying210
 a77:=Tryz.isAgg210
 z77:=Tryz.sizeOf210
 v77:=Tryz.zeroValue210 }
end Go.Proofs
namespace Go.Proofs.YthpgjkjgkhjjlaaGreatDoor
open Go.RowKit Go.Proofs.Tryz
section
open Go.Shelf
theorem FS (a b c x y z:Int) (w:World):Calls prog 119 #[.agg #[.int .i64 a,.int .i64 b,.int .i64 c],.agg #[.int .i64 x,.int .i64 y,.int .i64 z]] w fun e w'=>e = .returned (.int .i64 (cl ⟨a,b,c⟩ ⟨x,y,z⟩))/\∃os,w'=Go.Sort.grow w os:=by
 have i0:∀w:World,(Instr.index 176 (.agg #[.int .i64 a,.int .i64 b,.int .i64 c]) (.int .i64 0)).run prog w = .ok (.int .i64 a) w:=fun _=>by kernel_rfl
 have i1:∀w:World,(Instr.index 176 (.agg #[.int .i64 a,.int .i64 b,.int .i64 c]) (.int .i64 1)).run prog w = .ok (.int .i64 b) w:=fun _=>by kernel_rfl
 have i2:∀w:World,(Instr.index 176 (.agg #[.int .i64 a,.int .i64 b,.int .i64 c]) (.int .i64 2)).run prog w = .ok (.int .i64 c) w:=fun _=>by kernel_rfl
 obtain ⟨r,hr⟩:=qGe (cl ⟨a,b,c⟩ ⟨x,y,z⟩);rw [hr];have HR:=Lib.hid hr;clear hr
 go_enter func119,ntmps119
 go_wp2
 go_rounds 4
 all_goals go_ret
 all_goals refine ⟨nN ?_,_,by rw [Go.Sort.alloc_eq_grow,Go.Sort.alloc_eq_grow,Go.Sort.grow_grow]⟩
 all_goals rw [<-HR.out]
 all_goals rcases dV ⟨a,b,c⟩ ⟨x,y,z⟩ with ⟨h,e⟩|⟨h,e⟩|⟨h,e⟩ <;> rw [e] <;> first|rfl|(exfalso;unfold g7 at h;simp only at h;omega)|(exfalso;simp only [Pr.mk.injEq] at h;omega)
theorem KY (p q:Pr) (w:World):Calls prog 71 #[p.val,q.val] w fun e w'=>e = .returned (.int .i64 (cl p q))/\∃os,w'=Go.Sort.grow w os:=by
 obtain ⟨a,b,c⟩:=p;obtain ⟨x,y,z⟩:=q;have HC:=Lib.hid (fun w=>FS a b c x y z w);obtain ⟨r,hr⟩:=qGe (cl ⟨a,b,c⟩ ⟨x,y,z⟩);rw [hr] at HC ⊢;clear hr;unfold Pr.val
 go_enter func71,ntmps71
 go_wp2_with fail
 refine (HC.out _).mono ?_;rintro e w1 ⟨rfl,os,rfl⟩;go_wp2
 go_ret
 exact ⟨rfl,_,by rw [Go.Sort.alloc_eq_grow,Go.Sort.alloc_eq_grow,Go.Sort.grow_grow,Go.Sort.grow_grow]⟩
theorem xO {x y:Pr}:ltOf cl x y=true↔g7 x y:=by
 unfold ltOf;rw [decide_eq_true_iff,i8]
theorem Av {x y:Pr}:ltOf cl x y=false↔¬g7 x y:=by
 unfold ltOf;rw [decide_eq_false_iff_not,i8]
theorem KZ:Go.Sort.SWO (ltOf cl) where
 irrefl x:=Av.2 (co x)
 trans x y z h1 h2:=xO.2 (dt (xO.1 h1) (xO.1 h2))
 ntrans x y z h1 h2:=by
  rw [Av] at *
  intro h3;rcases i7 x y with h|h|h
  ·exact h1 h
  ·subst h;exact h2 h3
  ·exact h2 (dt h h3)
theorem FT (x y:Pr) (h1:ltOf cl x y=false) (h2:ltOf cl y x=false):x=y:=by
 unfold ltOf at h1 h2;rw [decide_eq_false_iff_not,i8] at h1 h2;rcases i7 x y with h|h|h
 ·exact absurd h h1
 ·exact h
 ·exact absurd h h2
theorem BQ {w0:World} {base:Nat} {v:Value} {l:List Pr} (w:World) (hown:OwnRows gK 40 w base v l) (hb:Below base w0 w) (hsz:l.length<4611686018427387904) :
  Calls prog 201 #[v,.func (.func 71) #[] #[]] w fun e w'=>e = .returned (.tuple #[])/\OwnRows gK 40 w' base v (l.mergeSort fun x y=>!decide (cl y x<0))/\Below base w0 w':=by
 rcases Nat.eq_zero_or_pos l.length with h0|h0
 ·obtain ⟨A,cap,rfl,_,_,_,_⟩:=hown.form2;obtain rfl:=List.eq_nil_of_length_eq_zero h0;refine (AnyF.slices_SortFunc_none { sortProcs with } A cap _ w).mono ?_;rintro e w' ⟨rfl,rfl⟩;exact ⟨rfl,by simpa using hown,hb⟩
 ·obtain ⟨g,cap,rfl,hg,hg2,_,_,_,_⟩:=hown.addr h0;have eg:∀args w,(callFunc 71 args).run prog w = .ok (.enter 71 args) w:=enters_of func71 (by kernel_rfl) rfl;have hcmp:CmpLays prog 71 #[] Pr.cells 3 cl g 0 l.toArray.size w:=fun _ _ _ _ x y=>(KY x y _).mono fun e w' ⟨he,os,hw⟩=>⟨he,0,os,hw⟩;have:=AnyQ.slices_SortFunc_total sortProcs 3 isAgg40 sizeOf40 Pr.cells (fun _=>rfl) (by intro x u hu;simp [Pr.cells] at hu;rcases hu with rfl|rfl|rfl <;> rfl) cl KZ 71 #[] g 0 cap l.toArray w eg hcmp hown.holdsK hg2 hsz FT;refine Calls.mono this ?_;rintro e w' ⟨rfl,n,os,rfl⟩;exact ⟨rfl,hown.sorted hg2 (by simp) n os,BP hb hg hg2 n _ os⟩
end
section
open Go.Lib
theorem mq {P:Program} (w:World) (t e:TypeId) (z:Value) (ht:P.underlying t=some (.slice e)) (hv:∀w,(zeroValue e).run P w = .ok z w) (h1:∀u∈z.cells.toList,u.oneCell'=true) (h0:0<z.cells.size) (b o n c:Nat) (hn:0<n)
  (hc:∀j,j<n*z.cells.size->(w.cell? ⟨b,o+j,none⟩).isSome=true/\w.frozen? ⟨b,o+j,none⟩=false) :
  ∃vs,∀ty,(Builtin.clear_ #[t] ty #[.slice (some ⟨b,o,none⟩) n c]).run P w = .ok (.tuple #[]) (w.setCells b o vs):=by
 have hl:(Builtin.zeroCells z.cells n).toList.length=n*z.cells.size:=by simp [Builtin.zeroCells]
 have hm:∀v∈(Builtin.zeroCells z.cells n).toList,v.oneCell'=true:=by
  intro v hv;simp only [Builtin.zeroCells,Array.toList_map,List.mem_map] at hv;obtain ⟨i,_,rfl⟩:=hv;have hi:i % z.cells.size<z.cells.size:=Nat.mod_lt _ h0;rw [getElem!_pos z.cells _ hi];exact h1 _ (by simp)
 have hst:=run_storeCells_cells (P:=P) b o (Builtin.zeroCells z.cells n).toList 0 w (fun j hj=>(hc j (by rw [<-hl];exact hj)).1) (fun j hj=>(hc j (by rw [<-hl];exact hj)).2) hm;simp only [Nat.add_zero] at hst;obtain ⟨m,rfl⟩:∃m,n=m+1:=⟨n-1,by omega⟩;exact ⟨_,fun ty=>by simp [Builtin.clear_,run_underlying ht,hv,hst];rfl⟩
theorem Do {d dk:List Pr} {k:Nat} (h:CompInv d.toArray d.length k dk.toArray):dk.take k=compact d:=by
 have hs:dk.length=d.length:=by simpa using h.size
 apply List.ext_getElem?
 intro j;unfold compact;have hk:=h.lt;rcases Nat.lt_or_ge j k with hj|hj
 ·rw [h.low j hj,List.getElem?_take,if_pos hj,qGg (by omega),getElem!_pos _ j (by simp;omega)];simp
 ·rw [List.getElem?_eq_none (by rw [List.length_take];omega),List.getElem?_eq_none (by rw [h.len];exact hj)]
theorem Dq {d:List Pr} {j:Nat} (hj:j<d.length) (h0:0<j) {x y:Pr} (hx:d[j]=x) (hy:d[j-1]=y):keeps d.toArray j=decide (x≠y):=by
 unfold keeps;rw [getElem!_pos _ j (by simpa using hj),getElem!_pos _ (j-1) (by simp;omega)];have:j≠0:=by omega
 simp [this,hx,hy]
theorem Aw {d dk:List Pr} {m k:Nat} (h:CompInv d.toArray m k dk.toArray) (hm:m<dk.length) {x y:Pr} (hx:dk[m]=x) (hy:dk[m-1]'(by omega)=y):keeps d.toArray m=decide (x≠y):=by
 have hs:dk.length=d.length:=by simpa using h.size
 have hk:=h.lt;have e1:=h.high m (by omega);have e2:=h.high (m-1) (by omega);rw [getElem!_pos _ m (by simpa using hm),getElem!_pos _ m (by simp;omega)] at e1;rw [getElem!_pos _ (m-1) (by simp;omega),getElem!_pos _ (m-1) (by simp;omega)] at e2;simp only [List.getElem_toArray] at e1 e2;exact Dq (by omega) (by omega) (e1.symm.trans hx) (e2.symm.trans hy)
theorem Dr {w0:World} {base:Nat} {v:Value} {l:List Pr} (w:World) (hown:OwnRows gK 40 w base v l) (hb:Below base w0 w) (hsz:l.length<=281474976710656) :
  Calls prog 202 #[v] w fun e w'=>∃v',e = .returned v'/\OwnRows gK 40 w' base v' (compact l)/\Below base w0 w':=by
 rcases Nat.lt_or_ge l.length 2 with h2|h2
 ·have hc:compact l=l:=compact_all l fun j hj=>keeps_lt_one _ j (by omega);obtain ⟨A,cap,rfl,_,_,_,_⟩:=hown.form2;rw [hc];have HOWN:=Lib.hid hown;have h2i:(l.length:Int)<2:=by omega
  have HB:=Lib.hid hb;clear hown hc hb
  go_enter func202,ntmps202
  go_wp2_with fail
  go_ret
  exact ⟨_,rfl,HOWN.out,HB.out⟩
 ·obtain ⟨g,cap,rfl,hg,hg2,hncap,hcm,hfz,hr⟩:=hown.addr (by omega);have HR:=Lib.hid hr;have HOWN:=Lib.hid hown;have HB:=Lib.hid hb;have HG:=Lib.hid hg;have h2i:¬(l.length:Int)<2:=by omega
  clear hr hown hb hfz hg
  go_enter func202,ntmps202
  go_wp2_with fail
  go_loopg [3] l.length (fun m v wq=>∃k q:Nat,1<=k/\k<=l.length/\l.length-k<=m/\v = .int .i64 (k:Int)/\wq=w.drewN q/\Hid (∀j,j<k->keeps l.toArray j=true))
  case atStart=>exact ⟨1,0,Nat.le_refl _,by omega,by omega,rfl,rfl,Lib.hid (keeps_lt_one _)⟩
  case round =>
   obtain ⟨k,q,hk1,hk,hm,rfl,rfl,hall⟩:=hrel;by_cases hlt:k<l.length
   ·obtain ⟨⟨a,b,c⟩,hx⟩:∃x,l[k]=x:=⟨_,rfl⟩;obtain ⟨⟨x,y,z⟩,hy⟩:∃x,l[k-1]=x:=⟨_,rfl⟩;obtain ⟨g',off,hA,_,hc0,hc1,hc2⟩:=mF HR.out hlt hx;injection hA with hA;injection hA with e1 e2;subst e1;subst e2;obtain ⟨g',off,hA,_,hd0,hd1,hd2⟩:=mF HR.out (by omega) hy;injection hA with hA;injection hA with e1 e2;subst e1;subst e2;simp only [Nat.zero_add] at hc0 hc1 hc2 hd0 hd1 hd2;have HK:=Lib.hid (Dq hlt (by omega) hx hy);clear hx hy;have hlti:(k:Int)<(l.length:Int):=by omega
    have hw1:IntKind.i64.wrap ((k:Int)-1)=((k-1:Nat):Int):=by rw [IntWalk.i64_in _ (by omega)];omega
    obtain ⟨_,k2,k3⟩:=Pz a b c x y z;obtain ⟨qq,hq⟩:∃q,decide ((⟨a,b,c⟩:Pr)=⟨x,y,z⟩)=q:=⟨_,rfl⟩;rw [hq] at k2;have HQ:=Lib.hid hq;clear hq;cases qq with
    | false =>
     go_wp2_with fail
     go_quiet (fail)
     go_wp2_with fail
     go_roundg (l.length-(k+1))
     case measure=>omega
     case rel=>exact ⟨k+1,_,by omega,by omega,Nat.le_refl _,by go_num,rfl,Lib.hid (fun j hj=>by
      rcases Nat.lt_or_ge j k with h|h
      ·exact hall.out j h
      ·obtain rfl:j=k:=by omega
       rw [HK.out];exact qDt (of_decide_eq_false HQ.out))⟩
    | true =>
     have HEQ:(⟨a,b,c⟩:Pr)=⟨x,y,z⟩:=of_decide_eq_true HQ.out;have HKF:Hid (keeps l.toArray k=false):=Lib.hid (by rw [HK.out];exact qDf fun h=>h HEQ);have hct:=(Dk underlying139 (e:=40) (z:=.agg #[.int .i64 0,.int .i64 0,.int .i64 0]) (sz:=3) (by_:=24) (by kernel_rfl) (some ⟨g,0,none⟩) l.length cap k hk hncap).2;rw [show xM (some ⟨g,0,none⟩) cap k 3=some ⟨g,k*3,none⟩ by unfold xM;rw [if_neg (by omega),Option.map_some,gL,Nat.zero_add]] at hct;go_wp2_with fail
     go_quiet (fail)
     go_wp2_with fail
     clear hc0 hc1 hc2 hd0 hd1 hd2 k2 k3 HEQ hw1;go_loopg [3,5] l.length (fun m v5 v6 wq=>∃(kk k2:Nat) (dk:List Pr),v5 = .int .i64 (kk:Int)/\v6 = .int .i64 (k2:Int)/\1<=k2/\k+k2<=l.length/\l.length-(k+k2)<=m/\g<wq.heap.size/\dk.length=l.length/\Hid (OwnRows gK 40 wq base (.slice (some ⟨g,0,none⟩) l.length cap) dk)/\Hid (Below base w0 wq)/\Hid (CompInv l.toArray (k+k2) kk dk.toArray))
     case atStart=>exact ⟨k,1,l,rfl,rfl,Nat.le_refl _,by omega,by omega,hg2,rfl,Lib.hid (HOWN.out.below (B:=w.heap.size) (cU (Below.refl _ _) _) (Nat.le_refl _)),Lib.hid (cU HB.out _),Lib.hid (CompInv.start hall.out HKF.out)⟩
     case round =>
      obtain ⟨kk,k2,dk,rfl,rfl,h1,hle,hm2,hgw,hdk,HO,HBW,HI⟩:=hrel;have hkk:=HI.out.lt;have HO':OwnRows gK 40 wr base (.slice (some ⟨g,0,none⟩) dk.length cap) dk:=by rw [hdk];exact HO.out
      obtain ⟨g',cap',hv,_,_,_,_,hfz,hr⟩:=HO'.addr (by omega);injection hv with hv _ hv3;injection hv with hv;injection hv with hv;subst hv;subst hv3;by_cases hlt2:k+k2<l.length
      ·obtain ⟨⟨a',b',c'⟩,hx⟩:∃x,dk[k+k2]=x:=⟨_,rfl⟩;obtain ⟨⟨x',y',z'⟩,hy⟩:∃x,dk[k+k2-1]=x:=⟨_,rfl⟩;obtain ⟨⟨s',t',u'⟩,hz⟩:∃x,dk[kk]=x:=⟨_,rfl⟩;obtain ⟨_,_,hA,_,hc0,hc1,hc2⟩:=mF hr (by omega) hx;injection hA with hA;injection hA with e1 e2;subst e1;subst e2;obtain ⟨_,_,hA,_,hd0,hd1,hd2⟩:=mF hr (by omega) hy;injection hA with hA;injection hA with e1 e2;subst e1;subst e2;obtain ⟨_,_,hA,_,he0,he1,he2⟩:=mF hr (by omega) hz;injection hA with hA;injection hA with e1 e2;subst e1;subst e2;rw [show 0+(k+k2)*3=k*3+k2*3 by omega] at hc0 hc1 hc2;rw [show 0+(k+k2-1)*3=k*3+(k2-1)*3 by omega] at hd0 hd1 hd2;simp only [Nat.zero_add] at he0 he1 he2;have hfz0:=hfz (kk*3);have hfz1:=hfz (kk*3+1);have hfz2:=hfz (kk*3+2);have HX:=Lib.hid (And.intro hx hy);clear hr hx hy hz hfz HO';have hlti2:(k2:Int)<((l.length-k:Nat):Int):=by omega
       have hw1:IntKind.i64.wrap ((k2:Int)-1)=((k2-1:Nat):Int):=by rw [IntWalk.i64_in _ (by omega)];omega
       obtain ⟨k1,_,k3⟩:=Pz a' b' c' x' y' z';obtain ⟨qq,hq⟩:∃q,decide ((⟨a',b',c'⟩:Pr)=⟨x',y',z'⟩)=q:=⟨_,rfl⟩;rw [hq] at k1;have HQ2:=Lib.hid hq;clear hq;cases qq with
       | true =>
        simp only [Bool.not_true] at k1;go_wp2_with fail
        go_quiet (fail)
        go_wp2_with fail
        go_roundg (l.length-(k+(k2+1)))
        case measure=>omega
        case rel =>
         have HKF2:Hid (keeps l.toArray (k+k2)=false):=Lib.hid (by
          rw [Aw HI.out (by omega) HX.out.1 HX.out.2];exact qDf fun h=>h (of_decide_eq_true HQ2.out))
         exact ⟨kk,k2+1,dk,rfl,by go_num,by omega,by omega,Nat.le_refl _,by simpa using hgw,hdk,Lib.hid (HO.out.below (B:=wr.heap.size) (cU (Below.refl _ _) _) (Nat.le_refl _)),Lib.hid (cU HBW.out _),Lib.hid (HI.out.skip HKF2.out)⟩
       | false =>
        simp only [Bool.not_false] at k1;go_wp2_with fail
        go_quiet (fail)
        go_wp2_with fail
        go_roundg (l.length-(k+(k2+1)))
        case measure=>omega
        case rel =>
         have HKT:Hid (keeps l.toArray (k+k2)=true):=Lib.hid (by
          rw [Aw HI.out (by omega) HX.out.1 HX.out.2];exact qDt (of_decide_eq_false HQ2.out))
         have HO2:Hid (OwnRows gK 40 ((wr.drewN nq).setCells g (kk*3) [.int .i64 a',.int .i64 b',.int .i64 c']) base (.slice (some ⟨g,0,none⟩) l.length cap) (dk.set kk ⟨a',b',c'⟩)):=Lib.hid (by
          have h1:OwnRows gK 40 (wr.drewN nq) base (.slice (some ⟨g,0,none⟩) dk.length cap) dk:=by
           rw [hdk];exact HO.out.below (B:=wr.heap.size) (cU (Below.refl _ _) _) (Nat.le_refl _)
          rw [<-hdk];exact h1.setRow (by omega) rfl)
         have HB2:Hid (Below base w0 ((wr.drewN nq).setCells g (kk*3) [.int .i64 a',.int .i64 b',.int .i64 c'])):=Lib.hid (dm HG.out _ _ _ (cU HBW.out _));have HI2:Hid (CompInv l.toArray (k+(k2+1)) (kk+1) (dk.set kk ⟨a',b',c'⟩).toArray):=Lib.hid (by
          have:=HI.out.keep (by simp;omega) HKT.out;rw [<-HI.out.high (k+k2) (by omega),getElem!_pos _ (k+k2) (by simp;omega),List.getElem_toArray,HX.out.1,List.setIfInBounds_toArray] at this;exact this)
         exact ⟨kk+1,k2+1,_,by go_num,by go_num,by omega,by omega,Nat.le_refl _,by simpa using hgw,by rw [List.length_set];exact hdk,HO2,HB2,HI2⟩
      ·have hend:k+k2=l.length:=by omega
       have hlti2:¬(k2:Int)<((l.length-k:Nat):Int):=by omega
       obtain ⟨vs,hcl⟩:=mq (P:=prog) wr 139 40 (.agg #[.int .i64 0,.int .i64 0,.int .i64 0]) underlying139 (fun w=>by kernel_rfl) (by intro u hu;simp [Value.cells] at hu;rcases hu with rfl|rfl|rfl <;> rfl) (by decide) g (kk*3) (l.length-kk) (cap-kk) (by omega) (fun j hj=>by
        have hj':j<(l.length-kk)*3:=hj;exact HO'.cellAt (by show kk*3+j<cap*3;omega))
       have hct1:=(Dk underlying139 (e:=40) (z:=.agg #[.int .i64 0,.int .i64 0,.int .i64 0]) (sz:=3) (by_:=24) (by kernel_rfl) (some ⟨g,0,none⟩) l.length cap kk (by omega) hncap);obtain ⟨hct1,hct2⟩:=hct1;rw [show xM (some ⟨g,0,none⟩) cap kk 3=some ⟨g,kk*3,none⟩ by unfold xM;rw [if_neg (by omega),Option.map_some,gL,Nat.zero_add]] at hct2;have HEND:Hid (OwnRows gK 40 (wr.setCells g (kk*3) vs) base (.slice (some ⟨g,0,none⟩) kk cap) (compact l)):=Lib.hid (by
        have h1:=HO'.cut (k:=kk) (by omega);have h2:(dk.take kk).length=kk:=by rw [List.length_take];omega
        have h3:=OwnRows.off (g:=g) (cap:=cap) (l:=dk.take kk) (by rw [h2];exact h1) vs (j:=kk*3) (by rw [h2];exact Nat.le_refl _);rw [h2] at h3;rw [<-Do (by rw [<-hend];exact HI.out)];exact h3)
       have HBE:Hid (Below base w0 (wr.setCells g (kk*3) vs)):=Lib.hid (dm HG.out _ _ _ HBW.out);clear hfz hr HO';go_wp2_with fail
       go_ret
       exact ⟨_,rfl,HEND.out,HBE.out⟩
   ·have hkl:k=l.length:=by omega
    have HC:Hid (compact l=l):=Lib.hid (compact_all l fun j hj=>hall.out j (by omega));have hlti:¬(k:Int)<(l.length:Int):=by omega
    have HOQ:=Lib.hid (HOWN.out.below (B:=w.heap.size) (cU (Below.refl _ _) q) (Nat.le_refl _));have HBQ:=Lib.hid (cU HB.out q);go_wp2_with fail
    go_ret
    exact ⟨_,rfl,by rw [HC.out];exact HOQ.out,HBQ.out⟩
end
theorem Ab (A:Option Addr) (cap:Nat) (l:List Pr) (w:World) (hm:l.length<=68719476736) (hr:RowsAt gK w (Lo w.heap.size) A l) :
  Calls prog 127 #[.slice A l.length cap] w (BI gK 40 w (eu l)):=by
 have HR:Hid (RowsAt gK w (KH w (.slice none 0 0)) A l):=Lib.hid (hr.same (fun b hb=>rfl) fun b hb=>⟨hb,fun e=>by cases e⟩);have HN:Hid (OwnRows gK 40 w w.heap.size (.slice none 0 0) []):=Lib.hid (OwnRows.nil _ _ _ _ (Nat.le_refl _));have HL:Hid (eu l=Lib.compact (l.mergeSort fun x y=>!decide (cl y x<0))):=Lib.hid rfl;rw [HL.out];have HM:=Lib.hid hm;clear hr hm HL
 go_enter func127,ntmps127
 go_wp2_with (at_builtin;refine FL Tq rfl (.const (.slice none 0 0)) (.tmp 4) rfl _ w.heap.size _ [] l l.length rfl A cap rfl HN.out rfl HR.out (by have:=HM.out;simp [maxLen];omega) (by have:=HM.out;simp;omega) ?_;intro v1 w1 hown1 hb1 _;rw [List.nil_append] at hown1;have HOWN1:=Lib.hid hown1;have HB1:=Lib.hid hb1;clear hown1 hb1)
 refine (BQ _ HOWN1.out HB1.out (by have:=HM.out;omega)).mono ?_;rintro e w2 ⟨rfl,hown2,hb2⟩;have HOWN2:=Lib.hid hown2;have HB2:=Lib.hid hb2;clear hown2 hb2;go_wp2_with fail
 refine (Dr _ HOWN2.out HB2.out (by rw [List.length_mergeSort];have:=HM.out;omega)).mono ?_;rintro e w3 ⟨v3,rfl,hown3,hb3⟩;have HOWN3:=Lib.hid hown3;have HB3:=Lib.hid hb3;clear hown3 hb3;go_wp2_with fail
 go_ret
 exact ⟨_,rfl,HOWN3.out,HB3.out⟩
def gq (q:Qu):List Pr:=eu (dA q.holds++oH q)
def bG (n:ByteArray):Nat->List Qu->Int
 | _,[]=>-1
 | k,q :: l=>bif q.res.name.toList == n.toList then (k:Int) else bG n (k+1) l
theorem gt (n:ByteArray) (k:Nat) (q:Qu) (l:List Qu):bG n k (q :: l)=bif q.res.name.toList == n.toList then (k:Int) else bG n (k+1) l:=rfl
def lC:List Qu->List Pr
 | []=>[]
 | q :: l=>gq q++lC l
def fU (q:Qu):Prop:=q.holds.length<=8/\q.convs.length<=8/\q.waits.length<=8
theorem oI {q:Qu} (h:fU q):(gq q).length<=24:=by
 unfold gq;have h1:=rY (dA q.holds++oH q);have h2:(dA q.holds++oH q).length=q.holds.length+(q.convs.length+q.waits.length):=by simp [dA,oH,cK]
 have:=h.1;have:=h.2.1;have:=h.2.2;omega
theorem xP:∀(l:List Qu),(∀q∈l,fU q)->(lC l).length<=l.length*24
 | [],_=>by simp [lC]
 | q :: l,h=>by
  have h1:=xP l fun x hx=>h x (by simp [hx]);have h2:=oI (h q (by simp));simp only [lC,List.length_append,List.length_cons];omega
def aO (l:List Qu):List Pr:=eu (lC l)
end Go.Proofs.YthpgjkjgkhjjlaaGreatDoor
