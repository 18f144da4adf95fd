/- Part 3 of 33 of the proof of centralDoes_holds (no condition). -/
import Derived.Test.YtjndcdcbjidocaaGreatDoorL02
import Derived.Shelf.RegionOpenPlain
import Derived.Lib.SliceRun
import Derived.Laws.BitsAllLaws
import Derived.Deep.RegionLaw
import Derived.Deep.MidRow
import Derived.Laws.CopyRow
set_option linter.unusedVariables false
set_option linter.unusedSimpArgs false
set_option maxRecDepth 100000
set_option maxHeartbeats 64000000
namespace Go.Proofs.YtjndcdcbjidocaaGreatDoor
open Go.RowKit Go.Proofs.Tryz
section
open Go.Lib
theorem jU {P:Program} (w:World) (t e:TypeId) (z:Value) (ht:P.underlying t=some (.slice e)) (hv:∀w,(zeroValue e).run P w = .ok z w) (h1:∀u∈z.cells.toList,u.oneCell'=true) (h0:0<z.cells.size) (b o n c:Nat) (hn:0<n)
  (hc:∀j,j<n*z.cells.size→(w.cell? ⟨b,o+j,none⟩).isSome=true∧w.frozen? ⟨b,o+j,none⟩=false) :
  ∃vs,∀ty,(Builtin.clear_ #[t] ty #[.slice (some ⟨b,o,none⟩) n c]).run P w = .ok (.tuple #[]) (w.setCells b o vs):=by
 have hl:(Builtin.zeroCells z.cells n).toList.length=n*z.cells.size:=by simp [Builtin.zeroCells]
 have hm:∀v∈(Builtin.zeroCells z.cells n).toList,v.oneCell'=true:=by
  intro v hv;simp only [Builtin.zeroCells,Array.toList_map,List.mem_map] at hv;obtain ⟨i,_,rfl⟩:=hv;have hi:i % z.cells.size<z.cells.size:=Nat.mod_lt _ h0;rw [getElem!_pos z.cells _ hi];exact h1 _ (by simp)
 have hst:=run_storeCells_cells (P:=P) b o (Builtin.zeroCells z.cells n).toList 0 w (fun j hj=>(hc j (by rw [←hl];exact hj)).1) (fun j hj=>(hc j (by rw [←hl];exact hj)).2) hm;simp only [Nat.add_zero] at hst;obtain ⟨m,rfl⟩:∃m,n=m+1:=⟨n-1,by omega⟩;exact ⟨_,fun ty=>by simp [Builtin.clear_,run_underlying ht,hv,hst];rfl⟩
theorem wb {d dk:List Pr} {k:Nat} (h:CompInv d.toArray d.length k dk.toArray):dk.take k=compact d:=by
 have hs:dk.length=d.length:=by simpa using h.size
 apply List.ext_getElem?
 intro j;unfold compact;have hk:=h.lt;rcases Nat.lt_or_ge j k with hj|hj
 ·rw [h.low j hj,List.getElem?_take,if_pos hj,List.getElem?_eq_getElem (by omega),getElem!_pos _ j (by simp;omega)];simp
 ·rw [List.getElem?_eq_none (by rw [List.length_take];omega),List.getElem?_eq_none (by rw [h.len];exact hj)]
theorem wc {d:List Pr} {j:Nat} (hj:j<d.length) (h0:0<j) {x y:Pr} (hx:d[j]=x) (hy:d[j-1]=y):keeps d.toArray j=decide (x≠y):=by
 unfold keeps;rw [getElem!_pos _ j (by simpa using hj),getElem!_pos _ (j-1) (by simp;omega)];have:j≠0:=by omega
 simp [this,hx,hy]
theorem tk {d dk:List Pr} {m k:Nat} (h:CompInv d.toArray m k dk.toArray) (hm:m<dk.length) {x y:Pr} (hx:dk[m]=x) (hy:dk[m-1]'(by omega)=y):keeps d.toArray m=decide (x≠y):=by
 have hs:dk.length=d.length:=by simpa using h.size
 have hk:=h.lt;have e1:=h.high m (by omega);have e2:=h.high (m-1) (by omega);rw [getElem!_pos _ m (by simpa using hm),getElem!_pos _ m (by simp;omega)] at e1;rw [getElem!_pos _ (m-1) (by simp;omega),getElem!_pos _ (m-1) (by simp;omega)] at e2;simp only [List.getElem_toArray] at e1 e2;exact wc (by omega) (by omega) (e1.symm.trans hx) (e2.symm.trans hy)
theorem wd {w0:World} {base:Nat} {v:Value} {l:List Pr} (w:World) (hown:OwnRows fK 35 w base v l) (hb:Below base w0 w) (hsz:l.length≤281474976710656) :
  Calls prog 128 #[v] w fun e w'=>∃v',e = .returned v'∧OwnRows fK 35 w' base v' (compact l)∧Below base w0 w':=by
 rcases Nat.lt_or_ge l.length 2 with h2|h2
 ·have hc:compact l=l:=compact_all l fun j hj=>keeps_lt_one _ j (by omega);obtain ⟨A,cap,rfl,_,_,_,_⟩:=hown.form2;rw [hc];have HOWN:=Lib.hid hown;have h2i:(l.length:Int)<2:=by omega
  have HB:=Lib.hid hb;clear hown hc hb
  go_enter func128,ntmps128
  go_wp2_with fail
  go_ret
  exact ⟨_,rfl,HOWN.out,HB.out⟩
 ·obtain ⟨g,cap,rfl,hg,hg2,hncap,hcm,hfz,hr⟩:=hown.addr (by omega);have HR:=Lib.hid hr;have HOWN:=Lib.hid hown;have HB:=Lib.hid hb;have HG:=Lib.hid hg;have h2i:¬(l.length:Int)<2:=by omega
  clear hr hown hb hfz hg
  go_enter func128,ntmps128
  go_wp2_with fail
  go_loopg [3] l.length (fun m v wq=>∃k q:Nat,1≤k∧k≤l.length∧l.length-k≤m∧v = .int .i64 (k:Int)∧wq=w.drewN q∧Hid (∀j,j<k→keeps l.toArray j=true))
  case atStart=>exact ⟨1,0,Nat.le_refl _,by omega,by omega,rfl,rfl,Lib.hid (keeps_lt_one _)⟩
  case round =>
   obtain ⟨k,q,hk1,hk,hm,rfl,rfl,hall⟩:=hrel;by_cases hlt:k<l.length
   ·obtain ⟨⟨a,b,c⟩,hx⟩:∃x,l[k]=x:=⟨_,rfl⟩;obtain ⟨⟨x,y,z⟩,hy⟩:∃x,l[k-1]=x:=⟨_,rfl⟩;obtain ⟨g',off,hA,_,hc0,hc1,hc2⟩:=ka HR.out hlt hx;injection hA with hA;injection hA with e1 e2;subst e1;subst e2;obtain ⟨g',off,hA,_,hd0,hd1,hd2⟩:=ka HR.out (by omega) hy;injection hA with hA;injection hA with e1 e2;subst e1;subst e2;simp only [Nat.zero_add] at hc0 hc1 hc2 hd0 hd1 hd2;have HK:=Lib.hid (wc hlt (by omega) hx hy);clear hx hy;have hlti:(k:Int)<(l.length:Int):=by omega
    have hw1:IntKind.i64.wrap ((k:Int)-1)=((k-1:Nat):Int):=by rw [IntWalk.i64_in _ (by omega)];omega
    obtain ⟨_,k2,k3⟩:=G5 a b c x y z;obtain ⟨qq,hq⟩:∃q,decide ((⟨a,b,c⟩:Pr)=⟨x,y,z⟩)=q:=⟨_,rfl⟩;rw [hq] at k2;have HQ:=Lib.hid hq;clear hq;cases qq with
    | false =>
     go_wp2_with fail
     go_quiet (fail)
     go_wp2_with fail
     go_roundg (l.length-(k+1))
     case measure=>omega
     case rel=>exact ⟨k+1,_,by omega,by omega,Nat.le_refl _,by go_num,rfl,Lib.hid (fun j hj=>by
      rcases Nat.lt_or_ge j k with h|h
      ·exact hall.out j h
      ·obtain rfl:j=k:=by omega
       rw [HK.out];exact decide_eq_true (of_decide_eq_false HQ.out))⟩
    | true =>
     have HEQ:(⟨a,b,c⟩:Pr)=⟨x,y,z⟩:=of_decide_eq_true HQ.out;have HKF:Hid (keeps l.toArray k=false):=Lib.hid (by rw [HK.out];exact decide_eq_false fun h=>h HEQ);have hct:=(vX underlying75 (e:=35) (z:=.agg #[.int .i64 0,.int .i64 0,.int .i64 0]) (sz:=3) (by_:=24) (by kernel_rfl) (some ⟨g,0,none⟩) l.length cap k hk hncap).2;rw [show qn (some ⟨g,0,none⟩) cap k 3=some ⟨g,k*3,none⟩ by unfold qn;rw [if_neg (by omega),Option.map_some,ew,Nat.zero_add]] at hct;go_wp2_with fail
     go_quiet (fail)
     go_wp2_with fail
     clear hc0 hc1 hc2 hd0 hd1 hd2 k2 k3 HEQ hw1;go_loopg [3,5] l.length (fun m v5 v6 wq=>∃(kk k2:Nat) (dk:List Pr),v5 = .int .i64 (kk:Int)∧v6 = .int .i64 (k2:Int)∧1≤k2∧k+k2≤l.length∧l.length-(k+k2)≤m∧g<wq.heap.size∧dk.length=l.length∧Hid (OwnRows fK 35 wq base (.slice (some ⟨g,0,none⟩) l.length cap) dk)∧Hid (Below base w0 wq)∧Hid (CompInv l.toArray (k+k2) kk dk.toArray))
     case atStart=>exact ⟨k,1,l,rfl,rfl,Nat.le_refl _,by omega,by omega,hg2,rfl,Lib.hid (HOWN.out.below (B:=w.heap.size) (b9 (Below.refl _ _) _) (Nat.le_refl _)),Lib.hid (b9 HB.out _),Lib.hid (CompInv.start hall.out HKF.out)⟩
     case round =>
      obtain ⟨kk,k2,dk,rfl,rfl,h1,hle,hm2,hgw,hdk,HO,HBW,HI⟩:=hrel;have hkk:=HI.out.lt;have HO':OwnRows fK 35 wr base (.slice (some ⟨g,0,none⟩) dk.length cap) dk:=by rw [hdk];exact HO.out
      obtain ⟨g',cap',hv,_,_,_,_,hfz,hr⟩:=HO'.addr (by omega);injection hv with hv _ hv3;injection hv with hv;injection hv with hv;subst hv;subst hv3;by_cases hlt2:k+k2<l.length
      ·obtain ⟨⟨a',b',c'⟩,hx⟩:∃x,dk[k+k2]=x:=⟨_,rfl⟩;obtain ⟨⟨x',y',z'⟩,hy⟩:∃x,dk[k+k2-1]=x:=⟨_,rfl⟩;obtain ⟨⟨s',t',u'⟩,hz⟩:∃x,dk[kk]=x:=⟨_,rfl⟩;obtain ⟨_,_,hA,_,hc0,hc1,hc2⟩:=ka hr (by omega) hx;injection hA with hA;injection hA with e1 e2;subst e1;subst e2;obtain ⟨_,_,hA,_,hd0,hd1,hd2⟩:=ka hr (by omega) hy;injection hA with hA;injection hA with e1 e2;subst e1;subst e2;obtain ⟨_,_,hA,_,he0,he1,he2⟩:=ka hr (by omega) hz;injection hA with hA;injection hA with e1 e2;subst e1;subst e2;rw [show 0+(k+k2)*3=k*3+k2*3 by omega] at hc0 hc1 hc2;rw [show 0+(k+k2-1)*3=k*3+(k2-1)*3 by omega] at hd0 hd1 hd2;simp only [Nat.zero_add] at he0 he1 he2;have hfz0:=hfz (kk*3);have hfz1:=hfz (kk*3+1);have hfz2:=hfz (kk*3+2);have HX:=Lib.hid (And.intro hx hy);clear hr hx hy hz hfz HO';have hlti2:(k2:Int)<((l.length-k:Nat):Int):=by omega
       have hw1:IntKind.i64.wrap ((k2:Int)-1)=((k2-1:Nat):Int):=by rw [IntWalk.i64_in _ (by omega)];omega
       obtain ⟨k1,_,k3⟩:=G5 a' b' c' x' y' z';obtain ⟨qq,hq⟩:∃q,decide ((⟨a',b',c'⟩:Pr)=⟨x',y',z'⟩)=q:=⟨_,rfl⟩;rw [hq] at k1;have HQ2:=Lib.hid hq;clear hq;cases qq with
       | true =>
        simp only [Bool.not_true] at k1;go_wp2_with fail
        go_quiet (fail)
        go_wp2_with fail
        go_roundg (l.length-(k+(k2+1)))
        case measure=>omega
        case rel =>
         have HKF2:Hid (keeps l.toArray (k+k2)=false):=Lib.hid (by
          rw [tk HI.out (by omega) HX.out.1 HX.out.2];exact decide_eq_false fun h=>h (of_decide_eq_true HQ2.out))
         exact ⟨kk,k2+1,dk,rfl,by go_num,by omega,by omega,Nat.le_refl _,by simpa using hgw,hdk,Lib.hid (HO.out.below (B:=wr.heap.size) (b9 (Below.refl _ _) _) (Nat.le_refl _)),Lib.hid (b9 HBW.out _),Lib.hid (HI.out.skip HKF2.out)⟩
       | false =>
        simp only [Bool.not_false] at k1;go_wp2_with fail
        go_quiet (fail)
        go_wp2_with fail
        go_roundg (l.length-(k+(k2+1)))
        case measure=>omega
        case rel =>
         have HKT:Hid (keeps l.toArray (k+k2)=true):=Lib.hid (by
          rw [tk HI.out (by omega) HX.out.1 HX.out.2];exact decide_eq_true (of_decide_eq_false HQ2.out))
         have HO2:Hid (OwnRows fK 35 ((wr.drewN nq).setCells g (kk*3) [.int .i64 a',.int .i64 b',.int .i64 c']) base (.slice (some ⟨g,0,none⟩) l.length cap) (dk.set kk ⟨a',b',c'⟩)):=Lib.hid (by
          have h1:OwnRows fK 35 (wr.drewN nq) base (.slice (some ⟨g,0,none⟩) dk.length cap) dk:=by
           rw [hdk];exact HO.out.below (B:=wr.heap.size) (b9 (Below.refl _ _) _) (Nat.le_refl _)
          rw [←hdk];exact h1.setRow (by omega) rfl)
         have HB2:Hid (Below base w0 ((wr.drewN nq).setCells g (kk*3) [.int .i64 a',.int .i64 b',.int .i64 c'])):=Lib.hid (de HG.out _ _ _ (b9 HBW.out _));have HI2:Hid (CompInv l.toArray (k+(k2+1)) (kk+1) (dk.set kk ⟨a',b',c'⟩).toArray):=Lib.hid (by
          have:=HI.out.keep (by simp;omega) HKT.out;rw [←HI.out.high (k+k2) (by omega),getElem!_pos _ (k+k2) (by simp;omega),List.getElem_toArray,HX.out.1,List.setIfInBounds_toArray] at this;exact this)
         exact ⟨kk+1,k2+1,_,by go_num,by go_num,by omega,by omega,Nat.le_refl _,by simpa using hgw,by rw [List.length_set];exact hdk,HO2,HB2,HI2⟩
      ·have hend:k+k2=l.length:=by omega
       have hlti2:¬(k2:Int)<((l.length-k:Nat):Int):=by omega
       obtain ⟨vs,hcl⟩:=jU (P:=prog) wr 75 35 (.agg #[.int .i64 0,.int .i64 0,.int .i64 0]) underlying75 (fun w=>by kernel_rfl) (by intro u hu;simp [Value.cells] at hu;rcases hu with rfl|rfl|rfl <;> rfl) (by decide) g (kk*3) (l.length-kk) (cap-kk) (by omega) (fun j hj=>by
        have hj':j<(l.length-kk)*3:=hj;exact HO'.cellAt (by show kk*3+j<cap*3;omega))
       have hct1:=(vX underlying75 (e:=35) (z:=.agg #[.int .i64 0,.int .i64 0,.int .i64 0]) (sz:=3) (by_:=24) (by kernel_rfl) (some ⟨g,0,none⟩) l.length cap kk (by omega) hncap);obtain ⟨hct1,hct2⟩:=hct1;rw [show qn (some ⟨g,0,none⟩) cap kk 3=some ⟨g,kk*3,none⟩ by unfold qn;rw [if_neg (by omega),Option.map_some,ew,Nat.zero_add]] at hct2;have HEND:Hid (OwnRows fK 35 (wr.setCells g (kk*3) vs) base (.slice (some ⟨g,0,none⟩) kk cap) (compact l)):=Lib.hid (by
        have h1:=HO'.cut (k:=kk) (by omega);have h2:(dk.take kk).length=kk:=by rw [List.length_take];omega
        have h3:=OwnRows.off (g:=g) (cap:=cap) (l:=dk.take kk) (by rw [h2];exact h1) vs (j:=kk*3) (by rw [h2];exact Nat.le_refl _);rw [h2] at h3;rw [←wb (by rw [←hend];exact HI.out)];exact h3)
       have HBE:Hid (Below base w0 (wr.setCells g (kk*3) vs)):=Lib.hid (de HG.out _ _ _ HBW.out);clear hfz hr HO';go_wp2_with fail
       go_ret
       exact ⟨_,rfl,HEND.out,HBE.out⟩
   ·have hkl:k=l.length:=by omega
    have HC:Hid (compact l=l):=Lib.hid (compact_all l fun j hj=>hall.out j (by omega));have hlti:¬(k:Int)<(l.length:Int):=by omega
    have HOQ:=Lib.hid (HOWN.out.below (B:=w.heap.size) (b9 (Below.refl _ _) q) (Nat.le_refl _));have HBQ:=Lib.hid (b9 HB.out q);go_wp2_with fail
    go_ret
    exact ⟨_,rfl,by rw [HC.out];exact HOQ.out,HBQ.out⟩
end
theorem sH (A:Option Addr) (cap:Nat) (l:List Pr) (w:World) (hm:l.length≤68719476736) (hr:RowsAt fK w (Lo w.heap.size) A l) :
  Calls prog 56 #[.slice A l.length cap] w (uu fK 35 w (dM l)):=by
 have HR:Hid (RowsAt fK w (ya w (.slice none 0 0)) A l):=Lib.hid (hr.same (fun b hb=>rfl) fun b hb=>⟨hb,fun e=>by cases e⟩);have HN:Hid (OwnRows fK 35 w w.heap.size (.slice none 0 0) []):=Lib.hid (OwnRows.nil _ _ _ _ (Nat.le_refl _));have HL:Hid (dM l=Lib.compact (l.mergeSort fun x y=>!decide (bE y x<0))):=Lib.hid rfl;rw [HL.out];have HM:=Lib.hid hm;clear hr hm HL
 go_enter func56,ntmps56
 go_wp2_with (at_builtin;refine yb KE rfl (.const (.slice none 0 0)) (.tmp 4) rfl _ w.heap.size _ [] l l.length rfl A cap rfl HN.out rfl HR.out (by have:=HM.out;simp [maxLen];omega) (by have:=HM.out;simp;omega) ?_;intro v1 w1 hown1 hb1 _;rw [List.nil_append] at hown1;have HOWN1:=Lib.hid hown1;have HB1:=Lib.hid hb1;clear hown1 hb1)
 refine (uC _ HOWN1.out HB1.out (by have:=HM.out;omega)).mono ?_;rintro e w2 ⟨rfl,hown2,hb2⟩;have HOWN2:=Lib.hid hown2;have HB2:=Lib.hid hb2;clear hown2 hb2;go_wp2_with fail
 refine (wd _ HOWN2.out HB2.out (by rw [List.length_mergeSort];have:=HM.out;omega)).mono ?_;rintro e w3 ⟨v3,rfl,hown3,hb3⟩;have HOWN3:=Lib.hid hown3;have HB3:=Lib.hid hb3;clear hown3 hb3;go_wp2_with fail
 go_ret
 exact ⟨_,rfl,HOWN3.out,HB3.out⟩
def fq (q:Qu):List Pr:=dM (cQ q.holds++mF q)
def bk (n:ByteArray):Nat→List Qu→Int
 | _,[]=>-1
 | k,q :: l=>bif q.res.name.toList == n.toList then (k:Int) else bk n (k+1) l
theorem fu (n:ByteArray) (k:Nat) (q:Qu) (l:List Qu):bk n k (q :: l)=bif q.res.name.toList == n.toList then (k:Int) else bk n (k+1) l:=rfl
def ku:List Qu→List Pr
 | []=>[]
 | q :: l=>fq q++ku l
def eU (q:Qu):Prop:=q.holds.length≤8∧q.convs.length≤8∧q.waits.length≤8
theorem mG {q:Qu} (h:eU q):(fq q).length≤24:=by
 unfold fq;have h1:=om (cQ q.holds++mF q);have h2:(cQ q.holds++mF q).length=q.holds.length+(q.convs.length+q.waits.length):=by simp [cQ,mF,bW]
 have:=h.1;have:=h.2.1;have:=h.2.2;omega
theorem qr:∀(l:List Qu),(∀q∈l,eU q)→(ku l).length≤l.length*24
 | [],_=>by simp [ku]
 | q :: l,h=>by
  have h1:=qr l fun x hx=>h x (by simp [hx]);have h2:=mG (h q (by simp));simp only [ku,List.length_append,List.length_cons];omega
def aC (l:List Qu):List Pr:=dM (ku l)
def AU (p:Option ByteArray) (n:ByteArray):Bool:=match p with|none=>true|some m=>Op.bytesLess m.toList n.toList
def mo:Option ByteArray→List Qu→Bool
 | _,[]=>true
 | p,q :: l=>aw q && AU p q.res.name && mo (some q.res.name) l
theorem ef (p:Option ByteArray) (q:Qu) (l:List Qu):mo p (q :: l)=(aw q && AU p q.res.name && mo (some q.res.name) l):=rfl
def fZ (l:List Qu):Bool:=decide (l.length≤8) && mo none l
def qt (l:List Qu) (k:Nat):Option ByteArray:=if k=0 then none else (l[k-1]?).map (·.res.name)
theorem qu (l:List Qu):qt l 0=none:=rfl
theorem jt {l:List Qu} {k:Nat} {x:Qu} (h:k<l.length) (hx:l[k]=x):qt l (k+1)=some x.res.name:=by
 unfold qt;rw [if_neg (by omega),Nat.add_sub_cancel,List.getElem?_eq_getElem h,hx];rfl
theorem tl {l:List Qu} {k:Nat} {x:Qu} (h0:0<k) (h:k-1<l.length) (hx:l[k-1]=x):qt l k=some x.res.name:=by
 unfold qt;rw [if_neg (by omega),List.getElem?_eq_getElem h,hx];rfl
section
inductive Ex where
 | mk (k:Int) (atom:Tm) (kids:List Ex)
namespace Ex
def k:Ex→Int | .mk k _ _=>k
def atom:Ex→Tm | .mk _ a _=>a
def kids:Ex→List Ex | .mk _ _ l=>l
theorem ind {P:Ex→Prop} (h:∀k a l,(∀x∈l,P x)→P (.mk k a l)):∀x,P x:=by
 intro x;refine Ex.rec (motive_1:=P) (motive_2:=fun l=>∀x∈l,P x) h (fun x hx=>absurd hx (by simp)) (fun x l h1 h2 y hy=>?_) x;rcases List.mem_cons.1 hy with rfl|hy
 ·exact h1
 ·exact h2 _ hy
end Ex
def Ex.val (x:Ex) (A:Option Addr) (cap:Nat):Value:=.agg #[.int .i64 x.k,.string x.atom.name,.int .i64 x.atom.am.mode,.int .i64 x.atom.am.units,.slice A x.kids.length cap]
def Ex.zero:Ex:=.mk 0 ⟨⟨#[]⟩,Am.zero⟩ []
def nc:Nat→El Ex
 | 0=>{ n:=5,pos:=by decide,rep:=fun _ _ _ _=>False,len:=fun h=>h.elim,one:=fun h=>h.elim,same:=fun h _ _=>h.elim }
 | d+1=>{
  n:=5
  pos:=by decide
  rep:=fun w S x cs=>∃A cap,cs=[.int .i64 x.k,.string x.atom.name,.int .i64 x.atom.am.mode,.int .i64 x.atom.am.units,.slice A x.kids.length cap]∧x.kids.length≤cap∧cap≤maxLen∧RowsAt (nc d) w S A x.kids
  len:=fun h=>by obtain ⟨A,cap,rfl,_⟩:=h;rfl
  one:=fun h=>by obtain ⟨A,cap,rfl,_⟩:=h;intro u hu;simp at hu;rcases hu with rfl|rfl|rfl|rfl|rfl <;> rfl
  same:=fun h hk hS=>by
   obtain ⟨A,cap,e,h1,h2,h3⟩:=h;exact ⟨A,cap,e,h1,h2,h3.same hk hS⟩ }
theorem Jw (d:Nat):(nc d).n=5:=by cases d <;> rfl
section
variable {w:World} {S:Nat→Prop} {A:Option Addr} {i d:Nat}
theorem Cv {l:List Ex} {k:Int} {n:ByteArray} {m u:Int} {ks:List Ex} (h:RowsAt (nc d) w S A l) (hi:i<l.length) (hx:l[i] = .mk k ⟨n,⟨m,u⟩⟩ ks) :
  ∃g off A' cap,A=some ⟨g,off,none⟩∧S g∧w.cell? ⟨g,off+i*5,none⟩=some (.int .i64 k)∧w.cell? ⟨g,off+i*5+1,none⟩=some (.string n)∧w.cell? ⟨g,off+i*5+2,none⟩=some (.int .i64 m)∧w.cell? ⟨g,off+i*5+3,none⟩=some (.int .i64 u)∧w.cell? ⟨g,off+i*5+4,none⟩=some (.slice A' ks.length cap)∧ks.length≤cap∧cap≤maxLen∧∃d',d=d'+1∧RowsAt (nc d') w S A' ks:=by
 cases d with
 | zero =>
  obtain ⟨g,off,cs,_,_,hc,_⟩:=h.getx hi hx;exact hc.elim
 | succ d' =>
  obtain ⟨g,off,cs,hA,hS,hc,hd⟩:=h.getx hi hx;obtain ⟨A',cap,rfl,h1,h2,h3⟩:=hc;exact ⟨g,off,A',cap,hA,hS,hd 0 (show 0<5 by decide),hd 1 (show 1<5 by decide),hd 2 (show 2<5 by decide),hd 3 (show 3<5 by decide),hd 4 (show 4<5 by decide),h1,h2,d',rfl,h3⟩
end
mutual
def Ex.cnt:Ex→Nat
 | .mk _ _ l=>1+iM l
def iM:List Ex→Nat
 | []=>0
 | x :: l=>x.cnt+iM l
end
mutual
def Ex.dep:Ex→Nat
 | .mk _ _ l=>1+mH l
def mH:List Ex→Nat
 | []=>0
 | x :: l=>max x.dep (mH l)
end
theorem Ex.dep_mk (k:Int) (a:Tm) (l:List Ex):(Ex.mk k a l).dep=1+mH l:=rfl
theorem Ex.cnt_mk (k:Int) (a:Tm) (l:List Ex):(Ex.mk k a l).cnt=1+iM l:=rfl
theorem tm (x:Ex) (l:List Ex):mH (x :: l)=max x.dep (mH l):=rfl
theorem f0 (x:Ex) (l:List Ex):iM (x :: l)=x.cnt+iM l:=rfl
theorem Ex.dep_pos (x:Ex):0<x.dep:=by cases x;rw [Ex.dep_mk];omega
theorem Ex.cnt_pos (x:Ex):0<x.cnt:=by cases x;rw [Ex.cnt_mk];omega
theorem pi:∀l:List Ex,l.length≤iM l
 | []=>Nat.zero_le _
 | x :: l=>by have:=pi l;have:=x.cnt_pos;rw [f0,List.length_cons];omega
def x9 (x:Ex):Bool:=decide (x.dep≤4) && decide (x.cnt≤24)
mutual
def iX:Ex→Nat→Nat→Nat×Nat
 | .mk _ _ l,lev,n=>if 4<lev∨24<n+1 then (0,n+1) else mv l lev (n+1) 0
def mv:List Ex→Nat→Nat→Nat→Nat×Nat
 | [],_,n,d=>(d+1,n)
 | x :: l,lev,n,d=>if (iX x (lev+1) n).1=0 then (0,(iX x (lev+1) n).2) else mv l lev (iX x (lev+1) n).2 (max d (iX x (lev+1) n).1)
end
theorem zu (k:Int) (a:Tm) (l:List Ex) (lev n:Nat):iX (.mk k a l) lev n=if 4<lev∨24<n+1 then (0,n+1) else mv l lev (n+1) 0:=rfl
theorem AV (lev n d:Nat):mv [] lev n d=(d+1,n):=rfl
theorem qv (x:Ex) (l:List Ex) (lev n d:Nat):mv (x :: l) lev n d=if (iX x (lev+1) n).1=0 then (0,(iX x (lev+1) n).2) else mv l lev (iX x (lev+1) n).2 (max d (iX x (lev+1) n).1):=rfl
theorem zv:∀(x:Ex) (lev n:Nat),(x.dep+lev≤5∧n+x.cnt≤24∧iX x lev n=(x.dep,n+x.cnt))∨(¬(x.dep+lev≤5∧n+x.cnt≤24)∧(iX x lev n).1=0∧((iX x lev n).2≤25∨(iX x lev n).2≤n+1)):=by
 refine Ex.ind (fun k a l ih=>?_);have hl:∀(m:List Ex) (lev n d:Nat),(∀x∈m,x∈l)→lev≤4→n≤24→(mH m+lev≤4∧n+iM m≤24∧mv m lev n d=(max d (mH m)+1,n+iM m))∨(¬(mH m+lev≤4∧n+iM m≤24)∧(mv m lev n d).1=0∧(mv m lev n d).2≤25):=by
  intro m;induction m with
  | nil=>intro lev n d _ h1 h2;exact .inl ⟨by simpa [mH] using h1,by simpa [iM] using h2,by rw [AV];simp [mH,iM]⟩
  | cons x m ihm =>
   intro lev n d hm h1 h2;rw [qv,tm,f0];have hx0:=x.dep_pos;rcases ih x (hm x (by simp)) (lev+1) n with ⟨a1,a2,a3⟩|⟨a1,a2,a3⟩
   ·rw [a3];rw [if_neg (by show ¬x.dep=0;omega)];rcases ihm lev (n+x.cnt) (max d x.dep) (fun y hy=>hm y (by simp [hy])) h1 a2 with ⟨b1,b2,b3⟩|⟨b1,b2,b3⟩
    ·exact .inl ⟨by omega,by omega,by rw [b3];congr 1 <;> omega⟩
    ·exact .inr ⟨by omega,b2,b3⟩
   ·rw [if_pos a2];exact .inr ⟨by omega,rfl,by show (iX x (lev+1) n).2≤25;omega⟩
 intro lev n;rw [zu,Ex.dep_mk,Ex.cnt_mk];by_cases hc:4<lev∨24<n+1
 ·rw [if_pos hc];exact .inr ⟨by omega,rfl,.inr (Nat.le_refl _)⟩
 ·rw [if_neg hc];rcases hl l lev (n+1) 0 (fun _ h=>h) (by omega) (by omega) with ⟨b1,b2,b3⟩|⟨b1,b2,b3⟩
  ·exact .inl ⟨by omega,by omega,by rw [b3];congr 1 <;> omega⟩
  ·exact .inr ⟨by omega,b2,.inl b3⟩
theorem Fd (x:Ex):(iX x 1 0).1=if x9 x then x.dep else 0:=by
 unfold x9;rcases zv x 1 0 with ⟨a1,a2,a3⟩|⟨a1,a2,_⟩
 ·rw [a3];simp;omega
 ·rw [a2,if_neg];simp;omega
mutual
def gm:Ex→Nat→Nat×Nat
 | .mk _ _ l,dp=>if 4<dp∨24<l.length then (25,0) else jv l dp 1 0
def jv:List Ex→Nat→Nat→Nat→Nat×Nat
 | [],_,n,d=>(n,d+1)
 | x :: l,dp,n,d=>if 24<n+(gm x (dp+1)).1 then (25,0) else jv l dp (n+(gm x (dp+1)).1) (if d<(gm x (dp+1)).2 then (gm x (dp+1)).2 else d)
end
theorem we (k:Int) (a:Tm) (l:List Ex) (dp:Nat):gm (.mk k a l) dp=if 4<dp∨24<l.length then (25,0) else jv l dp 1 0:=rfl
theorem yk (dp n d:Nat):jv [] dp n d=(n,d+1):=rfl
theorem pj (x:Ex) (l:List Ex) (dp n d:Nat):jv (x :: l) dp n d=if 24<n+(gm x (dp+1)).1 then (25,0) else jv l dp (n+(gm x (dp+1)).1) (if d<(gm x (dp+1)).2 then (gm x (dp+1)).2 else d):=rfl
theorem qw:∀(x:Ex) (dp:Nat),(x.dep+dp≤5∧x.cnt≤24∧gm x dp=(x.cnt,x.dep))∨(¬(x.dep+dp≤5∧x.cnt≤24)∧gm x dp=(25,0)):=by
 refine Ex.ind (fun k a l ih=>?_);have hl:∀(m:List Ex) (dp n d:Nat),(∀x∈m,x∈l)→dp≤4→n≤24→(mH m+dp≤4∧n+iM m≤24∧jv m dp n d=(n+iM m,max d (mH m)+1))∨(¬(mH m+dp≤4∧n+iM m≤24)∧jv m dp n d=(25,0)):=by
  intro m;induction m with
  | nil=>intro dp n d _ h1 h2;exact .inl ⟨by simpa [mH] using h1,by simpa [iM] using h2,by rw [yk];simp [mH,iM]⟩
  | cons x m ihm =>
   intro dp n d hm h1 h2;rw [pj,tm,f0];have hx0:=x.dep_pos;rcases ih x (hm x (by simp)) (dp+1) with ⟨a1,a2,a3⟩|⟨a1,a3⟩
   ·rw [a3];by_cases hn:24<n+x.cnt
    ·rw [if_pos hn];exact .inr ⟨by omega,rfl⟩
    ·rw [if_neg hn];rcases ihm dp (n+x.cnt) (if d<x.dep then x.dep else d) (fun y hy=>hm y (by simp [hy])) h1 (by omega) with ⟨b1,b2,b3⟩|⟨b1,b2⟩
     ·refine .inl ⟨by omega,by omega,?_⟩;rw [b3];congr 1
      ·omega
      ·split <;> omega
     ·exact .inr ⟨by omega,b2⟩
   ·rw [a3,if_pos (by show 24<n+25;omega)];exact .inr ⟨by omega,rfl⟩
 intro dp;rw [we,Ex.dep_mk,Ex.cnt_mk];have hlen:=pi l;by_cases hc:4<dp∨24<l.length
 ·rw [if_pos hc];exact .inr ⟨by omega,rfl⟩
 ·rw [if_neg hc];rcases hl l dp 1 0 (fun _ h=>h) (by omega) (by omega) with ⟨b1,b2,b3⟩|⟨b1,b3⟩
  ·exact .inl ⟨by omega,by omega,by rw [b3];congr 1;omega⟩
  ·exact .inr ⟨by omega,b3⟩
theorem Cw (x:Ex):(24<(gm x 1).1) = ¬x9 x=true:=by
 unfold x9;rcases qw x 1 with ⟨a1,a2,a3⟩|⟨a1,a3⟩ <;> rw [a3] <;> simp <;> omega
end
structure But (g:Nat) (w w':World):Prop where
 os:w'.os=w.os
 tape:w'.tape=w.tape
 output:w'.output=w.output
 size:w.heap.size≤w'.heap.size
 block:∀k,k<w.heap.size→k≠g→w'.heap[k]? = w.heap[k]?
section
variable {g:Nat} {a b c w w':World}
theorem But.refl (g:Nat) (w:World):But g w w:=⟨rfl,rfl,rfl,Nat.le_refl _,fun _ _ _=>rfl⟩
theorem But.trans (h:But g a b) (k:But g b c):But g a c :=
 ⟨k.os.trans h.os,k.tape.trans h.tape,k.output.trans h.output,Nat.le_trans h.size k.size,fun i hi hg=>(k.block i (Nat.lt_of_lt_of_le hi h.size) hg).trans (h.block i hi hg)⟩
theorem But.of (h:Below a.heap.size a b):But g a b:=⟨h.os,h.tape,h.output,h.size,fun i hi _=>h.block i hi⟩
theorem But.grow (h:But g a b) (k:Below b.heap.size b c):But g a c:=h.trans (But.of k)
theorem But.al (h:But g a w) (o:Obj):But g a (w.alloc o):=h.grow (Below.al (Below.refl _ _) o)
theorem But.st {p:Addr} {u:Value} (h:But g a w) (hp:p.block=g∨a.heap.size≤p.block):But g a (w.setCell p u) :=
 ⟨h.os,h.tape,h.output,by simpa using h.size,fun i hi hg=>(Below.heap_setCell w p u i (by omega)).trans (h.block i hi hg)⟩
theorem But.below {B:Nat} (h:But g a b) (hB:B≤g) (hB2:B≤a.heap.size):Below B a b:=⟨h.os,h.tape,h.output,h.size,fun i hi=>h.block i (by omega) (by omega)⟩
theorem RowsAt.but {α:Type} {E:El α} {A:Option Addr} {l:List α} {B B':Nat} (h:RowsAt E w (Lo B) A l) (hb:But g w w') (hB:B≤w.heap.size) (hg:B≤g) (hB2:B≤B'):RowsAt E w' (Lo B') A l :=
 h.below (hb.below hg hB) (Nat.le_refl _) hB2
theorem OwnRows.but {α:Type} {E:El α} {e:TypeId} {v:Value} {l:List α} {base:Nat} (h:OwnRows E e w base v l) (hb:But g w w') (hg:v.ownBlock≠some g) (hr:∀xs,Reps E w (ya w v) l xs→Reps E w' (ya w' v) l xs):OwnRows E e w' base v l:=by
 obtain ⟨h0,xs,⟨h1,h2⟩,h3⟩:=h;refine ⟨Nat.le_trans h0 hb.size,xs,⟨h1,?_⟩,hr xs h3⟩;rcases h2 with hn|⟨b,cap,cur,hv,hb2,hh,rest⟩
 ·exact .inl hn
 ·refine .inr ⟨b,cap,cur,hv,hb2,?_,rest⟩;rw [hb.block b (Array.getElem?_eq_some_iff.1 hh).1 (fun e=>hg (by rw [hv,←e];rfl))];exact hh
end
structure PS (X:Nat→Prop) (w w':World) (v v':Value):Prop where
 os:w'.os=w.os
 tape:w'.tape=w.tape
 output:w'.output=w.output
 size:w.heap.size≤w'.heap.size
 block:∀k,k<w.heap.size→¬X k→v.ownBlock≠some k→w'.heap[k]? = w.heap[k]?∧v'.ownBlock≠some k
section
variable {X:Nat→Prop} {a b c w w':World} {u v v':Value} {base:Nat}
theorem PS.trans (h:PS X a b u v) (k:PS X b c v v'):PS X a c u v' :=
 ⟨k.os.trans h.os,k.tape.trans h.tape,k.output.trans h.output,Nat.le_trans h.size k.size,fun i hi hx hu =>
  have h1:=h.block i hi hx hu;have h2:=k.block i (Nat.lt_of_lt_of_le hi h.size) hx h1.2
  ⟨h2.1.trans h1.1,h2.2⟩⟩
theorem PS.of (v:Value) (h:Below w.heap.size w w'):PS X w w' v v:=⟨h.os,h.tape,h.output,h.size,fun i hi _ hu=>⟨h.block i hi,hu⟩⟩
theorem PS.push (h:Below base w w') (hs:ur w w' v v'):PS X w w' v v':=⟨h.os,h.tape,h.output,h.size,fun i hi _ hu=>hs i ⟨hi,hu⟩⟩
theorem PS.st {p:Addr} {z:Value} (h:PS X a b u v) (hp:X p.block):PS X a (b.setCell p z) u v :=
 ⟨h.os,h.tape,h.output,by simpa using h.size,fun i hi hx hu=>⟨(Below.heap_setCell b p z i (fun e=>hx (by rw [e];exact hp))).trans (h.block i hi hx hu).1,(h.block i hi hx hu).2⟩⟩
theorem PS.below {B:Nat} (h:PS X a b u v) (hu:∀k,u.ownBlock=some k→B≤k) (hX:∀k,X k→B≤k) (hB:B≤a.heap.size):Below B a b :=
 ⟨h.os,h.tape,h.output,h.size,fun k hk=>(h.block k (Nat.lt_of_lt_of_le hk hB) (fun hx=>Nat.not_le_of_lt hk (hX k hx)) (fun e=>Nat.not_le_of_lt hk (hu k e))).1⟩
end
theorem Fe (w:World) (a p:Addr) (v:Value):(w.setCell a v).frozen? p=w.frozen? p:=World.frozen?_setCell _ _ _ _
theorem Cx {w:World} {g o:Nat} {u v:Value} (h:w.cell? ⟨g,o,none⟩=some u):(w.setCell ⟨g,o,none⟩ v).cell? ⟨g,o,none⟩=some v:=by
 unfold World.cell? at h ⊢;simp only [World.setCell,Array.getElem?_modify] at h ⊢;cases hh:w.heap[g]? with
 | none=>rw [hh] at h;cases h
 | some ob =>
  rw [hh] at h;cases ob with
  | cells cs t fr =>
   have ho:o<cs.size:=by
    simp at h;exact (Array.getElem?_eq_some_iff.1 h).1
   simp [ho]
  | _=>simp at h
theorem OwnRows.far {α:Type} {E:El α} {e:TypeId} {w:World} {base p:Nat} {v u:Value} {l:List α} (h:OwnRows E e w base v l) (hp:v.ownBlock≠some p) (hr:∀xs,Reps E w (ya w v) l xs→Reps E (w.setCell ⟨p,0,none⟩ u) (ya w v) l xs):OwnRows E e (w.setCell ⟨p,0,none⟩ u) base v l:=by
 refine OwnRows.but (g:=p) h (But.st (But.refl _ _) (.inl rfl)) hp fun xs hx=>?_;have:=hr xs hx;exact this.same (fun _ _=>rfl) fun b hb=>⟨by simpa using hb.1,hb.2⟩
structure AtP {α:Type} (E:El α) (e:TypeId) (w:World) (p base:Nat) (v:Value) (l:List α):Prop where
 cell:w.cell? ⟨p,0,none⟩=some v
 froz:w.frozen? ⟨p,0,none⟩=false
 own:OwnRows E e w base v l
 ne:v.ownBlock≠some p
section
variable {α:Type} {e:TypeId} {n:Nat} {pos:0<n} {f:α→List Value} {len:∀x,(f x).length=n} {one:∀x,∀u∈f x,u.oneCell'=true}
theorem Cy {w w':World} {S S':Nat→Prop}:∀{l:List α} {xs:List Value},Reps (El.plain n pos f len one) w S l xs→Reps (El.plain n pos f len one) w' S' l xs
 | [],_,h=>h
 | _ :: _,_,h=>by
  obtain ⟨cs,rest,rfl,h1,h2⟩:=h;exact ⟨cs,rest,rfl,h1,Cy h2⟩
theorem AtP.store {w:World} {p base:Nat} {v u:Value} {l:List α} (h:OwnRows (El.plain n pos f len one) e w base v l) (ne:v.ownBlock≠some p) (hc:w.cell? ⟨p,0,none⟩=some u) (hf:w.frozen? ⟨p,0,none⟩=false):AtP (El.plain n pos f len one) e (w.setCell ⟨p,0,none⟩ v) p base v l :=
 ⟨Cx hc,(Fe _ _ _ _).trans hf,h.far ne fun _ hx=>Cy hx,ne⟩
theorem AtP.below {w w':World} {p base:Nat} {v:Value} {l:List α} (h:AtP (El.plain n pos f len one) e w p base v l) (hb:Below w.heap.size w w') (hp:p<w.heap.size):AtP (El.plain n pos f len one) e w' p base v l :=
 ⟨(hb.cell (p:=⟨p,0,none⟩) hp).trans h.cell,(hb.frozen (p:=⟨p,0,none⟩) hp).trans h.froz,h.own.below hb (Nat.le_refl _),h.ne⟩
end
structure ExF (w:World) (B d:Nat) (A:Option Addr) (x:Ex):Prop where
 hm:x.kids.length≤maxLen
 hB:B≤w.heap.size
 hr:RowsAt (nc d) w (Lo B) A x.kids
theorem ExF.below {w w':World} {B d:Nat} {A:Option Addr} {x:Ex} (h:ExF w B d A x) (hb:Below w.heap.size w w'):ExF w' B d A x:=⟨h.hm,Nat.le_trans h.hB hb.size,h.hr.below hb h.hB (Nat.le_refl _)⟩
def iB:Tm:=⟨⟨#[]⟩,Am.zero⟩
def jV (a:Tm):Bool:=cK a.name.toList && bQ a.am
def jY (a:Tm):List Tm→Bool
 | []=>false
 | b :: l=>bif decide (b=a) then true else jY a l
theorem oo (a b:Tm) (l:List Tm):jY a (b :: l)=bif decide (b=a) then true else jY a l:=rfl
theorem no (a:Tm) (l:List Tm):jY a l=true↔a∈l:=by
 induction l with
 | nil=>simp [jY]
 | cons b l ih =>
  rw [oo,List.mem_cons];by_cases h:b=a
  ·simp [h]
  ·simp [h,ih,Ne.symm h]
def ic (l:List Tm) (a:Tm):List Tm:=bif jY a l then l else l++[a]
def wg (k:Int) (a:Tm) (l:List Ex):Bool:=bif l.isEmpty then decide (k=0) && jV a else decide (1≤k) && decide (k≤(l.length:Int)) && decide (a=iB)
mutual
def wh:Ex→Bool
 | .mk k a l=>wg k a l && Cz l
def Cz:List Ex→Bool
 | []=>true
 | x :: l=>wh x && Cz l
end
mutual
def fU:Ex→List Tm→List Tm
 | .mk _ a l,acc=>bif l.isEmpty then ic acc a else gJ l acc
def gJ:List Ex→List Tm→List Tm
 | [],acc=>acc
 | x :: l,acc=>gJ l (fU x acc)
end
theorem uD (k:Int) (a:Tm) (l:List Ex):wh (.mk k a l)=(wg k a l && Cz l):=rfl
theorem np (x:Ex) (l:List Ex):Cz (x :: l)=(wh x && Cz l):=rfl
theorem lO (k:Int) (a:Tm) (l:List Ex) (acc:List Tm):fU (.mk k a l) acc=bif l.isEmpty then ic acc a else gJ l acc:=rfl
theorem f5 (x:Ex) (l:List Ex) (acc:List Tm):gJ (x :: l) acc=gJ l (fU x acc):=rfl
def zw (k:Int) (a:Tm) (acc:List Tm):Option (List Tm):=bif decide (k=0) && jV a then some (ic acc a) else none
def oq (k:Int) (a:Tm) (l:List Ex):Bool:=decide (1≤k) && decide (k≤(l.length:Int)) && decide (a=iB)
mutual
def uE:Ex→List Tm→Option (List Tm)
 | .mk k a l,acc=>bif l.isEmpty then zw k a acc else bif oq k a l then yl l acc else none
def yl:List Ex→List Tm→Option (List Tm)
 | [],acc=>some acc
 | x :: l,acc=>(uE x acc).bind fun r=>yl l r
end
theorem zx (k:Int) (a:Tm) (l:List Ex) (acc:List Tm):uE (.mk k a l) acc=bif l.isEmpty then zw k a acc else bif oq k a l then yl l acc else none:=rfl
theorem tn (x:Ex) (l:List Ex) (acc:List Tm):yl (x :: l) acc=(uE x acc).bind fun r=>yl l r:=rfl
theorem zy:∀(x:Ex) (acc:List Tm),uE x acc=if wh x then some (fU x acc) else none:=by
 refine Ex.ind (fun k a l ih=>?_);have hl:∀(m:List Ex) (acc:List Tm),(∀x∈m,x∈l)→yl m acc=if Cz m then some (gJ m acc) else none:=by
  intro m;induction m with
  | nil=>intro acc _;rfl
  | cons x m ihm =>
   intro acc hm;rw [tn,np,f5,ih x (hm x (by simp))];cases h:wh x with
   | false=>simp
   | true=>simpa using ihm (fU x acc) fun y hy=>hm y (by simp [hy])
 intro acc;rw [zx,uD,lO,hl l acc fun _ h=>h];unfold wg zw oq;cases hE:l.isEmpty with
 | true =>
  obtain rfl:=List.isEmpty_iff.1 hE;simp [Cz,Bool.cond_eq_ite]
 | false =>
  simp only [cond_false];cases decide (1≤k) && decide (k≤(l.length:Int)) && decide (a=iB) <;> simp
theorem CA (l:List Tm) (a:Tm):(ic l a).length≤l.length+1:=by
 unfold ic;cases jY a l <;> simp
theorem qz:∀(x:Ex) (acc:List Tm),(fU x acc).length≤acc.length+x.cnt:=by
 refine Ex.ind (fun k a l ih=>?_);have hl:∀(m:List Ex) (acc:List Tm),(∀x∈m,x∈l)→(gJ m acc).length≤acc.length+iM m:=by
  intro m;induction m with
  | nil=>intro acc _;exact Nat.le_refl _
  | cons x m ihm =>
   intro acc hm;rw [f5,f0];have h1:=ihm (fU x acc) fun y hy=>hm y (by simp [hy]);have h2:=ih x (hm x (by simp)) acc;omega
 intro acc;rw [lO,Ex.cnt_mk];cases l.isEmpty with
 | true=>have:=CA acc a;simp only [cond_true];omega
 | false=>have:=hl l acc (fun _ h=>h);simp only [cond_false];omega
theorem CB (x:Ex) (acc r:List Tm) (h:uE x acc=some r):r.length≤acc.length+x.cnt:=by
 rw [zy] at h;split at h
 ·injection h with h;rw [←h];exact qz x acc
 ·cases h
def go:List Tm→List Tm→Tm→Option (List Tm)
 | [],acc,a=>if acc.length=8 then none else some (acc++[a])
 | b :: l,acc,a=>bif decide (a=b) then some acc else bif decide (a.name=b.name) then none else go l acc a
theorem jw (b:Tm) (l acc:List Tm) (a:Tm):go (b :: l) acc a=bif decide (a=b) then some acc else bif decide (a.name=b.name) then none else go l acc a:=rfl
def wi (k:Int) (a:Tm) (acc:List Tm):Option (List Tm):=bif decide (k=0) && jV a then go acc acc a else none
mutual
def AX:Ex→List Tm→Option (List Tm)
 | .mk k a l,acc=>bif l.isEmpty then wi k a acc else bif oq k a l then Ff l acc else none
def Ff:List Ex→List Tm→Option (List Tm)
 | [],acc=>some acc
 | x :: l,acc=>(AX x acc).bind fun r=>Ff l r
end
theorem ym (k:Int) (a:Tm) (l:List Ex) (acc:List Tm):AX (.mk k a l) acc=bif l.isEmpty then wi k a acc else bif oq k a l then Ff l acc else none:=rfl
theorem qA (x:Ex) (l:List Ex) (acc:List Tm):Ff (x :: l) acc=(AX x acc).bind fun r=>Ff l r:=rfl
def pk (l:List Tm):Prop:=l.length≤8∧l.Pairwise fun a b=>a.name≠b.name
theorem CC (acc:List Tm) (a:Tm) (hacc:pk acc):(pk (ic acc a)→go acc acc a=some (ic acc a))∧(¬pk (ic acc a)→go acc acc a=none):=by
 have h:∀(l p:List Tm),acc=p++l→(∀b∈p,a≠b∧a.name≠b.name)→(pk (ic acc a)→go l acc a=some (ic acc a))∧(¬pk (ic acc a)→go l acc a=none):=by
  intro l;induction l with
  | nil =>
   intro p hp hn;have hno:jY a acc=false:=by
    rw [Bool.eq_false_iff];intro h;rw [no,hp,List.append_nil] at h;exact (hn a h).1 rfl
   have he:ic acc a=acc++[a]:=by unfold ic;rw [hno];rfl
   rw [he];unfold pk go;rw [List.length_append,List.pairwise_append];have hp2:∀b∈acc,∀c∈[a],b.name≠c.name:=by
    intro b hb c hc;rw [List.mem_singleton.1 hc];rw [hp,List.append_nil] at hb;exact fun e=>(hn b hb).2 e.symm
   constructor
   ·intro h;rw [if_neg];have:=h.1;simp at this;omega
   ·intro h;rw [if_pos];have h8:=hacc.1;refine Classical.byContradiction fun h9=>h ⟨by simp;omega,hacc.2,by simp,hp2⟩
  | cons b l ih =>
   intro p hp hn;rw [jw];by_cases h1:a=b
   ·have hi:jY a acc=true:=by rw [no,hp,h1];simp
    have he:ic acc a=acc:=by unfold ic;rw [hi];rfl
    rw [he];simp [h1,hacc]
   ·by_cases h2:a.name=b.name
    ·have hb:b∈acc:=by rw [hp];simp
     have hno:jY a acc=false:=by
      rw [Bool.eq_false_iff];intro h;rw [no] at h;have hpw:=hacc.2;rcases List.mem_iff_getElem.1 h with ⟨i,hi,ei⟩;rcases List.mem_iff_getElem.1 hb with ⟨j,hj,ej⟩;rw [List.pairwise_iff_getElem] at hpw;rcases Nat.lt_trichotomy i j with hij|hij|hij
      ·exact hpw i j hi hj hij (by rw [ei,ej];exact h2)
      ·subst hij;exact h1 (ei.symm.trans ej)
      ·exact hpw j i hj hi hij (by rw [ei,ej];exact h2.symm)
     have he:ic acc a=acc++[a]:=by unfold ic;rw [hno];rfl
     have hbad:¬pk (ic acc a):=by
      rw [he];intro h;have:=(List.pairwise_append.1 h.2).2.2 b hb a (by simp);exact this h2.symm
     simp [h1,h2,hbad]
    ·simp only [h1,h2,decide_false,cond_false];exact ih (p++[b]) (by rw [hp];simp) (by
      intro c hc;rcases List.mem_append.1 hc with hc|hc
      ·exact hn c hc
      ·rw [List.mem_singleton.1 hc];exact ⟨h1,h2⟩)
 exact h acc [] rfl (by simp)
theorem CD:∀(x:Ex) (acc:List Tm),∃t,fU x acc=acc++t:=by
 refine Ex.ind (fun k a l ih=>?_);have hl:∀(m:List Ex) (acc:List Tm),(∀x∈m,x∈l)→∃t,gJ m acc=acc++t:=by
  intro m;induction m with
  | nil=>intro acc _;exact ⟨[],by simp [gJ]⟩
  | cons x m ihm =>
   intro acc hm;obtain ⟨t,ht⟩:=ih x (hm x (by simp)) acc;obtain ⟨t',ht'⟩:=ihm (fU x acc) fun y hy=>hm y (by simp [hy]);exact ⟨t++t',by rw [f5,ht',ht,List.append_assoc]⟩
 intro acc;rw [lO];cases l.isEmpty with
 | true =>
  unfold ic;cases jY a acc with
  | true=>exact ⟨[],by simp⟩
  | false=>exact ⟨[a],rfl⟩
 | false=>exact hl l acc fun _ h=>h
theorem ou:∀(m:List Ex) (acc:List Tm),∃t,gJ m acc=acc++t
 | [],acc=>⟨[],by simp [gJ]⟩
 | x :: m,acc=>by
  obtain ⟨t,ht⟩:=CD x acc;obtain ⟨t',ht'⟩:=ou m (fU x acc);exact ⟨t++t',by rw [f5,ht',ht,List.append_assoc]⟩
theorem Fg {l t:List Tm} (h:pk (l++t)):pk l:=⟨by have:=h.1;simp at this;omega,(List.pairwise_append.1 h.2).1⟩
theorem H3:∀(x:Ex) (acc:List Tm),pk acc→(wh x=true∧pk (fU x acc)→AX x acc=some (fU x acc))∧(¬(wh x=true∧pk (fU x acc))→AX x acc=none):=by
 refine Ex.ind (fun k a l ih=>?_);have hl:∀(m:List Ex) (acc:List Tm),(∀x∈m,x∈l)→pk acc→(Cz m=true∧pk (gJ m acc)→Ff m acc=some (gJ m acc))∧(¬(Cz m=true∧pk (gJ m acc))→Ff m acc=none):=by
  intro m;induction m with
  | nil=>intro acc _ h;exact ⟨fun _=>rfl,fun h2=>absurd ⟨rfl,h⟩ h2⟩
  | cons x m ihm =>
   intro acc hm h;rw [qA,np,f5];have hx:=ih x (hm x (by simp)) acc h;by_cases h1:wh x=true∧pk (fU x acc)
   ·rw [hx.1 h1,Option.bind_some];have h2:=ihm (fU x acc) (fun y hy=>hm y (by simp [hy])) h1.2;rw [h1.1,Bool.true_and];exact h2
   ·rw [hx.2 h1,Option.bind_none];refine ⟨fun h2=>absurd ⟨?_,?_⟩ h1,fun _=>rfl⟩
    ·have:=h2.1;simp at this;exact this.1
    ·obtain ⟨t,ht⟩:=ou m (fU x acc);have:=h2.2;rw [ht] at this;exact Fg this
 intro acc h;rw [ym,uD,lO];unfold wi wg;cases hE:l.isEmpty with
 | true =>
  obtain rfl:=List.isEmpty_iff.1 hE;simp only [cond_true,Cz,Bool.and_true];have hn:=CC acc a h;cases hk:decide (k=0) && jV a with
  | true=>simpa using hn
  | false=>simp
 | false =>
  simp only [cond_false];have h2:=hl l acc (fun _ h=>h) h;unfold oq;cases decide (1≤k) && decide (k≤(l.length:Int)) && decide (a=iB) with
  | true=>simpa using h2
  | false=>simp
theorem toZ:∀(l acc:List Tm) (a:Tm) (r:List Tm),acc.length≤8→go l acc a=some r→r.length≤8
 | [],acc,a,r,h,e=>by
  unfold go at e;split at e
  ·cases e
  ·injection e with e;rw [←e,List.length_append];simp;omega
 | b :: l,acc,a,r,h,e=>by
  rw [jw] at e;cases h1:decide (a=b) with
  | true=>rw [h1] at e;injection e with e;rw [←e];exact h
  | false =>
   cases h2:decide (a.name=b.name) with
   | true=>rw [h1,h2] at e;cases e
   | false=>rw [h1,h2] at e;exact toZ l acc a r h e
theorem Fh:∀(x:Ex) (acc r:List Tm),acc.length≤8→AX x acc=some r→r.length≤8:=by
 refine Ex.ind (fun k a l ih=>?_);have hl:∀(m:List Ex) (acc r:List Tm),(∀x∈m,x∈l)→acc.length≤8→Ff m acc=some r→r.length≤8:=by
  intro m;induction m with
  | nil=>intro acc r _ h e;injection e with e;rw [←e];exact h
  | cons x m ihm =>
   intro acc r hm h e;rw [qA] at e;cases h1:AX x acc with
   | none=>rw [h1] at e;cases e
   | some r1 =>
    rw [h1] at e;exact ihm r1 r (fun y hy=>hm y (by simp [hy])) (ih x (hm x (by simp)) acc r1 h h1) e
 intro acc r h e;rw [ym] at e;unfold wi at e;cases hE:l.isEmpty with
 | true =>
  rw [hE] at e;cases hk:decide (k=0) && jV a with
  | true=>rw [hk] at e;exact toZ acc acc a r h e
  | false=>rw [hk] at e;cases e
 | false =>
  rw [hE] at e;cases hg:oq k a l with
  | true=>rw [hg] at e;exact hl l acc r (fun _ h=>h) h e
  | false=>rw [hg] at e;cases e
instance (l:List Tm):Decidable (pk l):=by unfold pk;infer_instance
def kv (x:Ex):Bool:=x9 x && (wh x && decide (pk (fU x [])))
def cy (x:Ex):List Tm:=bif kv x then fU x [] else []
theorem Fi:pk []:=⟨by simp,List.Pairwise.nil⟩
theorem H4 (x:Ex):kv x=(x9 x && (AX x []).isSome):=by
 have h:=H3 x [] Fi;unfold kv;congr 1
 by_cases h1:wh x=true∧pk (fU x [])
 ·rw [h.1 h1,h1.1];simp [h1.2]
 ·rw [h.2 h1];cases hs:wh x with
  | false=>simp
  | true=>simp only [hs,true_and] at h1;simp [h1]
theorem zz (a b:Tm) (w:World):(Op.equalIn 10000 39 a.val b.val).run prog w = .ok (decide (a=b)) w:=by
 have hS:prog.underlying 39=some (.struct (prog.fieldsOf 39)):=by kernel_rfl
 have hp:prog.stoodInHeld 39=false:=by kernel_rfl
 unfold Tm.val;rw [show (10000:Nat)=9999+1 from rfl,run_equalIn_agg w 9999 39 _ _ hS hp];have u3:=underlying3;simp only [Program.fieldsOf,underlying39];go_simp
 obtain ⟨an,a1,a2⟩:=a;obtain ⟨bn,b1,b2⟩:=b;have hn:an.toList=bn.toList↔an=bn:=⟨toList_inj,fun e=>by rw [e]⟩;simp only [hn];by_cases h0:an=bn <;> by_cases h1:a1=b1 <;> by_cases h2:a2=b2 <;> simp [h0,h1,h2]
theorem Jx (n:ByteArray) (a b:Int) (n':ByteArray) (x y:Int):Cmps 39 #[.string n,.int .i64 a,.int .i64 b] #[.string n',.int .i64 x,.int .i64 y] (decide ((⟨n,⟨a,b⟩⟩:Tm)=⟨n',⟨x,y⟩⟩)) :=
 Cmps.mk' (zz ⟨n,⟨a,b⟩⟩ ⟨n',⟨x,y⟩⟩) (fun op a b xs ys w=>run_eqGuard_agg w op 39 a b xs ys (by kernel_rfl))
def Dist (l:List Tm) (i k:Nat):Prop:=∀(a b:Nat) (ha:a<l.length) (hb:b<a),a<i∨(a=i∧b<k)→l[a].name≠l[b].name
theorem Dist.start (l:List Tm):Dist l 0 0:=fun a b ha hb h=>by omega
theorem Dist.step {l:List Tm} {i k:Nat} (h:Dist l i k) (hi:i<l.length) (hk:k<i) (hne:l[i].name≠l[k].name):Dist l i (k+1):=fun a b ha hb hab=>by
 by_cases h2:a=i∧b=k
 ·obtain ⟨rfl,rfl⟩:=h2;exact hne
 ·exact h a b ha hb (by omega)
theorem Dist.row {l:List Tm} {i k:Nat} (h:Dist l i k) (hk:¬k<i):Dist l (i+1) 0:=fun a b ha hb hab=>h a b ha hb (by omega)
theorem Dist.all {l:List Tm} {i:Nat} (h:Dist l i 0) (hi:¬i<l.length):l.Pairwise fun a b=>a.name≠b.name:=by
 rw [List.pairwise_iff_getElem];intro a b ha hb hab e;exact h b a hb hab (by omega) e.symm
theorem Dist.not {l:List Tm} {i k:Nat} (hi:i<l.length) (hk:k<i) (he:l[i].name=l[k].name):¬pk l:=fun h=>by
 have h2:=h.2;rw [List.pairwise_iff_getElem] at h2;exact h2 k i (by omega) hi hk he.symm
def cf:List Tm→List Bool→Tm→Bool
 | [],_,_=>false
 | b :: L,set,a=>bif decide (b=a) then set.headD false else cf L set.tail a
theorem qB (b:Tm) (L:List Tm) (set:List Bool) (a:Tm):cf (b :: L) set a=bif decide (b=a) then set.headD false else cf L set.tail a:=rfl
mutual
def pm (h:Tm→Bool):Ex→Bool
 | .mk k a l=>bif l.isEmpty then h a else decide (k≤(AY h l:Int))
def AY (h:Tm→Bool):List Ex→Nat
 | []=>0
 | x :: l=>(bif pm h x then 1 else 0)+AY h l
end
theorem CE (h:Tm→Bool) (k:Int) (a:Tm) (l:List Ex):pm h (.mk k a l)=bif l.isEmpty then h a else decide (k≤(AY h l:Int)):=rfl
theorem wj (h:Tm→Bool) (x:Ex) (l:List Ex):AY h (x :: l)=(bif pm h x then 1 else 0)+AY h l:=rfl
theorem ExF.up {w:World} {B B' d:Nat} {A:Option Addr} {x:Ex} (h:ExF w B d A x) (hB:B≤B') (hw:B'≤w.heap.size):ExF w B' d A x:=⟨h.hm,hw,h.hr.mono fun _ hb=>Nat.lt_of_lt_of_le hb hB⟩
theorem Fj {w:World} {S:Nat→Prop} {A:Option Addr} {l:List Bool} {i:Nat} {x:Bool} (h:RowsAt cg w S A l) (hi:i<l.length) (hx:l[i]=x) :
  ∃b off,A=some ⟨b,off,none⟩∧S b∧w.cell? ⟨b,off+i,none⟩=some (.bool x):=by
 obtain ⟨b,off,cs,hA,hS,hc,hd⟩:=h.getx hi hx;have hc':cs=[.bool x]:=hc;subst hc';have:=hd 0 (show 0<1 by decide);exact ⟨b,off,hA,hS,by simpa [show cg.n=1 from rfl] using this⟩
theorem Fk:∀(x:Ex) (acc:List Tm),wh x=true→0<(fU x acc).length:=by
 refine Ex.ind (fun k a l ih=>?_);intro acc h;rw [lO];rw [uD] at h;cases l with
 | nil =>
  unfold ic;cases hh:jY a acc with
  | true =>
   have:=(no a acc).1 hh;exact List.length_pos_of_mem this
  | false=>simp
 | cons y m =>
  rw [np] at h;simp at h;have h1:=ih y (by simp) acc h.2.1;obtain ⟨t,ht⟩:=ou m (fU y acc);show 0<(gJ m (fU y acc)).length;rw [ht,List.length_append];omega
theorem mI {x:Ex} (h:kv x=true):wh x=true∧cy x=fU x []∧(cy x).length≤8∧0<(cy x).length∧pk (cy x):=by
 have h2:cy x=fU x []:=by unfold cy;rw [h];rfl
 unfold kv at h;simp at h;rw [h2];exact ⟨h.2.1,rfl,h.2.2.1,Fk x [] h.2.1,h.2.2⟩
theorem ov {x:Ex} (h:kv x=false):cy x=[]:=by unfold cy;rw [h];rfl
def dD (x:Ex) (set:List Bool):Bool:=kv x && pm (cf (cy x) set) x
def nr (a:Tm):Nat→List Tm→Int
 | _,[]=>-1
 | k,b :: l=>bif decide (a=b) then (k:Int) else nr a (k+1) l
theorem ow (a b:Tm) (k:Nat) (l:List Tm):nr a k (b :: l)=bif decide (a=b) then (k:Int) else nr a (k+1) l:=rfl
theorem ox (a:Tm):∀(l:List Tm) (k:Nat) (set:List Bool),(nr a k l = -1∧jY a l=false∧cf l set a=false)∨∃i,i<l.length∧nr a k l=((k+i:Nat):Int)∧jY a l=true∧cf l set a=(set.drop i).headD false
 | [],k,set=>.inl ⟨rfl,rfl,rfl⟩
 | b :: l,k,set=>by
  rw [ow,oo,qB];by_cases h:a=b
  ·refine .inr ⟨0,by simp,?_,?_,?_⟩
   ·rw [decide_eq_true h];rfl
   ·rw [decide_eq_true h.symm];rfl
   ·rw [decide_eq_true h.symm];rfl
  ·rw [decide_eq_false h,decide_eq_false (Ne.symm h)];rcases ox a l (k+1) set.tail with ⟨h1,h2,h3⟩|⟨i,hi,h1,h2,h3⟩
   ·exact .inl ⟨h1,h2,h3⟩
   ·refine .inr ⟨i+1,by simp;omega,?_,h2,?_⟩
    ·rw [cond_false,h1];congr 1;omega
    ·rw [cond_false,h3,List.drop_tail]
theorem sI (A:Option Addr) (B cap:Nat) (l:List Tm) (nm:ByteArray) (m u:Int) (w:World) (hm:l.length≤maxLen) (hB:B≤w.heap.size) (hr:RowsAt cw w (Lo B) A l) :
  Calls prog 299 #[.slice A l.length cap,.agg #[.string nm,.int .i64 m,.int .i64 u]] w (o9 w (.int .i64 (nr ⟨nm,⟨m,u⟩⟩ 0 l))):=by
 unfold maxLen at hm;have HR:=Lib.hid hr;clear hr;obtain ⟨v,hv⟩:∃v,nr ⟨nm,⟨m,u⟩⟩ 0 l=v:=⟨_,rfl⟩;rw [hv];have HV:Hid (nr ⟨nm,⟨m,u⟩⟩ 0 (l.drop 0)=v):=Lib.hid hv;clear hv
 go_enter func299,ntmps299
 go_wp2_with fail
 go_loopg [8] l.length (fun m0 v8 wq=>∃k:Nat,v8 = .int .i64 (k:Int)∧k≤l.length∧l.length≤k+m0∧Hid (nr ⟨nm,⟨m,u⟩⟩ k (l.drop k)=v)∧Hid (Below (w.alloc (.cells #[.string nm,.int .i64 m,.int .i64 u] 39)).heap.size (w.alloc (.cells #[.string nm,.int .i64 m,.int .i64 u] 39)) wq))
 case atStart=>exact ⟨0,rfl,Nat.zero_le _,by omega,HV,Lib.hid (Below.refl _ _)⟩
 case round =>
  obtain ⟨k,rfl,hk,hkm,HI,HB⟩:=hrel;have hb:=HB.out;have hbw:Below w.heap.size w wr:=by exact ce
  have x0:wr.cell? ⟨w.heap.size,0,none⟩=some (.string nm):=(hb.cell (p:=⟨w.heap.size,0,none⟩) (by simp)).trans (iS w _ _ 0);have x1:wr.cell? ⟨w.heap.size,1,none⟩=some (.int .i64 m):=(hb.cell (p:=⟨w.heap.size,1,none⟩) (by simp)).trans (iS w _ _ 1);have x2:wr.cell? ⟨w.heap.size,2,none⟩=some (.int .i64 u):=(hb.cell (p:=⟨w.heap.size,2,none⟩) (by simp)).trans (iS w _ _ 2);have hz0:w.heap.size<wr.heap.size:=by have:=hb.size;simp at this;omega
  clear hb;by_cases hlt:k<l.length
  ·obtain ⟨⟨n1,⟨m1,u1⟩⟩,hx⟩:∃x,l[k]=x:=⟨_,rfl⟩;obtain ⟨g,off,rfl,hbl,c0,c1,c2⟩:=Cd (HR.out.below (B'':=w.heap.size) hbw hB hB) hlt hx;have hbl2:g<wr.heap.size:=Nat.lt_of_lt_of_le hbl hbw.size;have hlti:(k:Int)<(l.length:Int):=by omega
   obtain ⟨_,k1,k2⟩:=Jx nm m u n1 m1 u1;obtain ⟨q,hq⟩:∃q,decide ((⟨nm,⟨m,u⟩⟩:Tm)=⟨n1,⟨m1,u1⟩⟩)=q:=⟨_,rfl⟩;have HS:Hid ((bif q then (k:Int) else nr ⟨nm,⟨m,u⟩⟩ (k+1) (l.drop (k+1)))=v):=Lib.hid (by have h:=HI.out;rw [lL hlt hx,ow] at h;rw [←hq];exact h);rw [hq] at k1;clear hq hx hbl hbw;cases q <;> (go_wp2_with fail;go_quiet (fail);go_wp2_with fail;first|(go_roundg (gk-1);(case measure=>omega);(case rel=>exact ⟨k+1,by go_num,by omega,by omega,Lib.hid HS.out,Lib.hid ce⟩))|(go_ret;exact ⟨lI (show (k:Int)=v from HS.out),by exact ce⟩))
  ·have HS:Hid (-1=v):=Lib.hid (by have h:=HI.out;rw [qj hlt] at h;exact h);clear hbw;go_wp2_with fail
   go_ret
   exact ⟨lI HS.out,by exact ce⟩
theorem CF (A2 A3:Option Addr) (c2 c3 B:Nat) (L:List Tm) (set:List Bool) (nm:ByteArray) (m u:Int) (w:World) (hB:B≤w.heap.size) (hL:RowsAt cw w (Lo B) A2 L) (hL8:L.length≤1000) (hS:RowsAt cg w (Lo B) A3 set) (hS8:set.length≤1000) :
  Calls prog 258 #[.agg #[.slice A2 L.length c2,.slice A3 set.length c3],.agg #[.string nm,.int .i64 m,.int .i64 u]] w (o9 w (.bool (cf L set ⟨nm,⟨m,u⟩⟩))):=by
 have HF:=Lib.hid (fun W (hb:Below w.heap.size w W)=>sI A2 B c2 L nm m u W (by unfold maxLen;omega) (Nat.le_trans hB hb.size) (hL.below hb hB (Nat.le_refl _)));have HS:=Lib.hid hS;have HI:=Lib.hid (ox ⟨nm,⟨m,u⟩⟩ L 0 set);clear hL hS;generalize nr ⟨nm,⟨m,u⟩⟩ 0 L=i at *
 generalize cf L set ⟨nm,⟨m,u⟩⟩=q at *
 have HI2:Hid ((i = -1∧q=false)∨∃j:Nat,i=(j:Int)∧q=(set.drop j).headD false):=Lib.hid (by
  rcases HI.out with ⟨h1,_,h2⟩|⟨j,_,h1,_,h2⟩
  ·exact .inl ⟨h1,h2⟩
  ·exact .inr ⟨j,by rw [h1,Nat.zero_add],h2⟩)
 clear HI;rcases HI2.out with ⟨rfl,rfl⟩|⟨j,rfl,hq⟩
 ·go_enter func258,ntmps258
  go_wp2_with fail
  refine (HF.out _ ce).mono ?_;rintro e w2 ⟨rfl,hb2⟩;have HB2:=Lib.hid hb2;clear hb2;go_wp2_with fail
  go_ret
  exact ⟨rfl,by exact ce⟩
 ·have hj0:(0:Int)≤(j:Int):=by omega
  by_cases hlt:j<set.length
  ·have hlti:(j:Int)<(set.length:Int):=by omega
   obtain ⟨y,hy⟩:∃x,set[j]=x:=⟨_,rfl⟩;have HQ:Hid (q=y):=Lib.hid (by rw [hq,lL hlt hy];rfl);clear hq HI2
   go_enter func258,ntmps258
   go_wp2_with fail
   refine (HF.out _ ce).mono ?_;rintro e w2 ⟨rfl,hb2⟩;have HB2:Hid (Below w.heap.size w w2):=Lib.hid (Below.tr (Below.al (Below.al (Below.refl _ _) _) _) hb2);obtain ⟨g2,off2,rfl,hbl3,e0⟩:=Fj (HS.out.below (B'':=B) HB2.out hB (Nat.le_refl _)) hlt hy;have hbl4:g2<w2.heap.size:=Nat.lt_of_lt_of_le hbl3 (Nat.le_trans hB HB2.out.size);have x1:w2.cell? ⟨w.heap.size,1,none⟩=some (.slice (some ⟨g2,off2,none⟩) set.length c3):=by
    have h1:=hb2.cell (p:=⟨w.heap.size,1,none⟩) (by simp;omega);rw [h1];simp
   have hz:w.heap.size<w2.heap.size:=by have:=hb2.size;simp at this;omega
   clear hy hbl3 hb2;go_wp2_with fail
   go_ret
   exact ⟨aY HQ.out.symm,HB2.out⟩
  ·have hlti:¬(j:Int)<(set.length:Int):=by omega
   have HQ:Hid (q=false):=Lib.hid (by rw [hq,List.drop_eq_nil_of_le (by omega)];rfl);clear hq HI2
   go_enter func258,ntmps258
   go_wp2_with fail
   refine (HF.out _ ce).mono ?_;rintro e w2 ⟨rfl,hb2⟩;have HB2:Hid (Below w.heap.size w w2):=Lib.hid (Below.tr (Below.al (Below.al (Below.refl _ _) _) _) hb2);have x1:w2.cell? ⟨w.heap.size,1,none⟩=some (.slice A3 set.length c3):=by
    have h1:=hb2.cell (p:=⟨w.heap.size,1,none⟩) (by simp;omega);rw [h1];simp
   have hz:w.heap.size<w2.heap.size:=by have:=hb2.size;simp at this;omega
   clear hb2;go_wp2_with fail
   go_ret
   exact ⟨aY HQ.out.symm,HB2.out⟩
theorem CG:∀(d:Nat) (x:Ex) (A A2 A3:Option Addr) (cap c2 c3 B:Nat) (L:List Tm) (set:List Bool) (w:World) (hx:ExF w B d A x) (hL:RowsAt cw w (Lo B) A2 L) (hL8:L.length≤1000) (hS:RowsAt cg w (Lo B) A3 set) (hS8:set.length≤1000),
  Calls prog 259 #[x.val A cap,.func (.func 258) #[.agg #[.slice A2 L.length c2,.slice A3 set.length c3]] #[]] w (o9 w (.bool (pm (cf L set) x))):=by
 intro d;induction d using Nat.strongRecOn with
 | ind d ih =>
  intro x A A2 A3 cap c2 c3 B L set w hx hL hL8 hS hS8;obtain ⟨k,⟨nm,⟨m,u⟩⟩,l⟩:=x;obtain ⟨hm,hBw,hr⟩:=hx;unfold Ex.val;rw [CE];dsimp only [Ex.k,Ex.atom,Ex.kids] at hm hr ⊢;have IH:=Lib.hid ih;have HR:=Lib.hid hr;have HL:=Lib.hid hL;have HS:=Lib.hid hS;clear hr ih hL hS;cases hE:l.isEmpty with
  | true =>
   obtain rfl:=List.isEmpty_iff.1 hE;have HH:=Lib.hid (fun W (hb:Below w.heap.size w W)=>CF A2 A3 c2 c3 B L set nm m u W (Nat.le_trans hBw hb.size) (HL.out.below hb hBw (Nat.le_refl _)) hL8 (HS.out.below hb hBw (Nat.le_refl _)) hS8);simp only [cond_true];generalize cf L set ⟨nm,⟨m,u⟩⟩=q at *
   go_enter func259,ntmps259
   go_wp2_with fail
   refine (HH.out _ ce).mono ?_;rintro e w2 ⟨rfl,hb2⟩;have HB2:=Lib.hid hb2;clear hb2;go_wp2_with fail
   go_ret
   exact ⟨rfl,by exact ce⟩
  | false =>
   have hl0:¬(l.length:Int)=0:=by
    have:l≠[]:=fun e=>by rw [e] at hE;cases hE
    have:=List.length_pos_iff.2 this;omega
   simp only [cond_false];have hl0':((l.length:Int) == 0)=false:=by simpa using hl0
   obtain ⟨r,hr⟩:∃r,decide (k≤(AY (cf L set) l:Int))=r:=⟨_,rfl⟩;rw [hr];have HQ:Hid (decide (k≤((0+AY (cf L set) (l.drop 0):Nat):Int))=r):=Lib.hid (by rw [List.drop_zero,Nat.zero_add];exact hr);have hm2:=hm;unfold maxLen at hm2;clear hr
   go_enter func259,ntmps259
   go_wp2_with fail
   go_loopg [5,19] l.length (fun m0 v5 v19 wq=>∃kk n:Nat,v19 = .int .i64 (kk:Int)∧v5 = .int .i64 (n:Int)∧kk≤l.length∧l.length≤kk+m0∧n≤kk∧Hid (decide (k≤((n+AY (cf L set) (l.drop kk):Nat):Int))=r)∧Hid (Below (w.alloc (.cells #[.int .i64 k,.string nm,.int .i64 m,.int .i64 u,.slice A l.length cap] 42)).heap.size (w.alloc (.cells #[.int .i64 k,.string nm,.int .i64 m,.int .i64 u,.slice A l.length cap] 42)) wq))
   case atStart=>exact ⟨0,0,rfl,rfl,Nat.zero_le _,by omega,by omega,HQ,Lib.hid (Below.refl _ _)⟩
   case round =>
    obtain ⟨kk,n,rfl,rfl,hk,hkm,hn,HI,HB⟩:=hrel;have hb:=HB.out;have HBW:Hid (Below w.heap.size w wr):=Lib.hid (Below.tr (Below.al (Below.refl _ _) _) hb);have x0:wr.cell? ⟨w.heap.size,0,none⟩=some (.int .i64 k):=(hb.cell (p:=⟨w.heap.size,0,none⟩) (by simp)).trans (iS w _ _ 0);have hz0:w.heap.size<wr.heap.size:=by have:=hb.size;simp at this;omega
    clear hb;by_cases hlt:kk<l.length
    ·obtain ⟨⟨k1,⟨nm1,⟨m1,u1⟩⟩,l1⟩,hx⟩:∃x,l[kk]=x:=⟨_,rfl⟩;obtain ⟨g1',off,A1,cap1,rfl,hbl,c0,c1,c2',c3',c4,hc1,hc2,d1,rfl,hr1⟩:=Cv (HR.out.below (B'':=B) HBW.out hBw (Nat.le_refl _)) hlt hx;have hbl0:g1'<B:=hbl;have hbl2:g1'<wr.heap.size:=by omega
     have hlti:(kk:Int)<(l.length:Int):=by omega
     have HX1:Hid (ExF wr B d1 A1 (.mk k1 ⟨nm1,⟨m1,u1⟩⟩ l1)):=Lib.hid ⟨Nat.le_trans hc1 hc2,by omega,hr1⟩;have HQ2:Hid (decide (k≤((n+((bif pm (cf L set) (.mk k1 ⟨nm1,⟨m1,u1⟩⟩ l1) then 1 else 0)+AY (cf L set) (l.drop (kk+1))):Nat):Int))=r):=Lib.hid (by have h:=HI.out;rw [lL hlt hx,wj] at h;exact h);have HC:Hid (∀W,Below wr.heap.size wr W→Calls prog 259 #[.agg #[.int .i64 k1,.string nm1,.int .i64 m1,.int .i64 u1,.slice A1 l1.length cap1],.func (.func 258) #[.agg #[.slice A2 L.length c2,.slice A3 set.length c3]] #[]] W (o9 W (.bool (pm (cf L set) (.mk k1 ⟨nm1,⟨m1,u1⟩⟩ l1))))):=Lib.hid (fun W hb1 =>
      IH.out d1 (by omega) (.mk k1 ⟨nm1,⟨m1,u1⟩⟩ l1) A1 A2 A3 cap1 c2 c3 B L set W (HX1.out.below hb1) (HL.out.below (Below.tr HBW.out hb1) hBw (Nat.le_refl _)) hL8 (HS.out.below (Below.tr HBW.out hb1) hBw (Nat.le_refl _)) hS8)
     generalize pm (cf L set) (.mk k1 ⟨nm1,⟨m1,u1⟩⟩ l1)=q1 at HC HQ2;clear hx hbl hr1 hbl0;go_wp2_with fail
     refine (HC.out _ ce).mono ?_;rintro e w2 ⟨rfl,hb2⟩;have HB2:Hid (Below (w.alloc (.cells #[.int .i64 k,.string nm,.int .i64 m,.int .i64 u,.slice (some ⟨g1',off,none⟩) l.length cap] 42)).heap.size (w.alloc (.cells #[.int .i64 k,.string nm,.int .i64 m,.int .i64 u,.slice (some ⟨g1',off,none⟩) l.length cap] 42)) w2):=Lib.hid (Below.tr (Below.al HB.out _) hb2);clear hb2;cases q1 with
     | true =>
      have HE:Hid (decide (k≤((n+1+AY (cf L set) (l.drop (kk+1)):Nat):Int))=r):=Lib.hid (by have h:=HQ2.out;rw [cond_true,←Nat.add_assoc] at h;exact h);go_wp2_with fail
      go_roundg (gk-1)
      case measure=>omega
      case rel=>exact ⟨kk+1,n+1,by go_num,by go_num,by omega,by omega,by omega,HE,HB2⟩
     | false =>
      have HE:Hid (decide (k≤((n+AY (cf L set) (l.drop (kk+1)):Nat):Int))=r):=Lib.hid (by have h:=HQ2.out;rw [cond_false,Nat.zero_add] at h;exact h);go_wp2_with fail
      go_roundg (gk-1)
      case measure=>omega
      case rel=>exact ⟨kk+1,n,by go_num,by go_num,by omega,by omega,by omega,HE,HB2⟩
    ·have hlti:¬(kk:Int)<(l.length:Int):=by omega
     have HE:Hid (decide (k≤(n:Int))=r):=Lib.hid (by have h:=HI.out;rw [qj hlt] at h;exact h);go_wp2_with fail
     go_ret
     exact ⟨aY HE.out,by exact ce⟩
theorem AZ (d:Nat) (x:Ex) (A A2 A3:Option Addr) (cap c2 c3 B:Nat) (L:List Tm) (set:List Bool) (w:World) (hx:ExF w B d A x) (hL:RowsAt cw w (Lo B) A2 L) (hL8:L.length≤1000) (hS:RowsAt cg w (Lo B) A3 set) (hS8:set.length≤1000) :
  Calls prog 193 #[x.val A cap,.slice A2 L.length c2,.slice A3 set.length c3] w (o9 w (.bool (pm (cf L set) x))):=by
 have HE:=Lib.hid (fun W (hb:Below w.heap.size w W)=>CG d x A A2 A3 cap c2 c3 B L set W (hx.below hb) (hL.below hb hx.hB (Nat.le_refl _)) hL8 (hS.below hb hx.hB (Nat.le_refl _)) hS8);clear hx hL hS;obtain ⟨k,⟨nm,⟨m,u⟩⟩,l⟩:=x;unfold Ex.val at *
 dsimp only [Ex.k,Ex.atom,Ex.kids] at HE ⊢;generalize pm (cf L set) (.mk k ⟨nm,⟨m,u⟩⟩ l)=q at *
 go_enter func193,ntmps193
 go_wp2_with fail
 refine (HE.out _ ce).mono ?_;rintro e w2 ⟨rfl,hb2⟩;have HB2:=Lib.hid hb2;clear hb2;go_wp2_with fail
 go_ret
 exact ⟨rfl,by exact ce⟩
structure Nd where
 proc:Pr
 expr:Ex
 gen:Int
def LP (d:Nat):El Nd where
 n:=9
 pos:=by decide
 rep:=fun w S x cs=>∃A cap,cs=[.int .i64 x.proc.site,.int .i64 x.proc.inc,.int .i64 x.proc.num,.int .i64 x.expr.k,.string x.expr.atom.name,.int .i64 x.expr.atom.am.mode,.int .i64 x.expr.atom.am.units,.slice A x.expr.kids.length cap,.int .i64 x.gen]∧(x.expr.kids.length≤cap∧cap≤maxLen)∧RowsAt (nc d) w S A x.expr.kids
 len:=fun h=>by obtain ⟨A,cap,rfl,_⟩:=h;rfl
 one:=fun h=>by obtain ⟨A,cap,rfl,_⟩:=h;intro u hu;simp at hu;rcases hu with rfl|rfl|rfl|rfl|rfl|rfl|rfl|rfl|rfl <;> rfl
 same:=fun h hk hS=>by
  obtain ⟨A,cap,e,h1,h2⟩:=h;exact ⟨A,cap,e,h1,h2.same hk hS⟩
section
open Go.WideShapes Go.ChangeShapes Go.Deep Go.Joins
theorem Reps.map {α:Type} {E E':El α} {w:World} {S:Nat→Prop} (hf:∀x cs,E.rep w S x cs→E'.rep w S x cs):∀{l:List α} {xs:List Value},Reps E w S l xs→Reps E' w S l xs
 | [],_,h=>h
 | _ :: _,_,h=>by
  obtain ⟨cs,rest,rfl,h1,h2⟩:=h;exact ⟨cs,rest,rfl,hf _ _ h1,Reps.map hf h2⟩
theorem RowsAt.map {α:Type} {E E':El α} {w:World} {S:Nat→Prop} {A:Option Addr} {l:List α} (hf:∀x cs,E.rep w S x cs→E'.rep w S x cs) (h:RowsAt E w S A l):RowsAt E' w S A l:=by
 obtain ⟨xs,h1,h2⟩:=h;exact ⟨xs,h1.map hf,h2⟩
theorem qC:∀{d d':Nat} {w:World} {S:Nat→Prop} {x:Ex} {cs:List Value},d≤d'→(nc d).rep w S x cs→(nc d').rep w S x cs
 | 0,_,_,_,_,_,_,h=>h.elim
 | d+1,0,_,_,_,_,hd,_=>absurd hd (by omega)
 | d+1,d'+1,_,_,_,_,hd,h=>by
  obtain ⟨A,cap,rfl,h1,h2,h3⟩:=h;exact ⟨A,cap,rfl,h1,h2,h3.map fun _ _ hx=>qC (by omega) hx⟩
def OpensN {α:Type} (P:Program) (N:Nat) (E:El α) (t:TypeId) (fits:α→Prop):Prop :=
 ∀{H:Type} {enc:TypeId×Value→H} {w:World} {base:Nat} {spare:Nat→Bool} {held:Bool} {cs:List Value} {x:DataW H×List MemPlace},DataW.trod enc P w base spare held N t cs=some x→∃y,E.rep w (Lo w.heap.size) y cs∧fits y
theorem OpensN.sl {α:Type} {P:Program} {N:Nat} {E:El α} {t e:TypeId} {fits:α→Prop} (ho:OpensN P N E e fits) (ht:P.underlying t=some (.slice e)) (hC:P.cellsOf e=E.n):OpensN P (N+1) E.sl t (fun l=>l.length≤maxLen∧∀y∈l,fits y):=by
 intro H enc w base spare held cs x h;rcases DataW.trod_slice ht h with ⟨rfl,_⟩|⟨a,len,cap,elems,rest,n,hn,rfl,_,hb,hl,hm,hlen,hi,_,_⟩
 ·exact ⟨[],⟨none,0,rfl,by simp,by simp [maxLen],RowsAt.nil _ _ _ _⟩,by simp [maxLen],by simp⟩
 ·obtain rfl:N=n:=by omega
  rcases Nat.eq_zero_or_pos len with h0|h0
  ·subst h0;exact ⟨[],⟨some a,cap,rfl,by simp,hm,RowsAt.nil _ _ _ _⟩,by simp [maxLen],by simp⟩
  ·have hi2:∀i,i<len→∃cs' y,w.cells? base (a.add (i*P.cellsOf e)) (P.cellsOf e)=some cs'∧DataW.trod enc P w base spare held N e cs'=some y:=by
    intro i hil;have h1:=hi i hil;rw [List.getElem?_eq_getElem (by omega)] at h1;obtain ⟨cs',h2,h3⟩:=Option.bind_eq_some_iff.1 h1;exact ⟨cs',_,h2,h3⟩
   have hplain:∃b off,a=⟨b,off,none⟩:=by
    obtain ⟨cs',_,hc,_⟩:=hi2 0 (by omega);obtain ⟨_,hcl,hat⟩:=World.cells?_some hc;have hp:=E.pos;have h1:=hat 0 (by omega);rw [Nat.zero_mul,List.getElem?_eq_getElem (by omega)] at h1;have e0:(a.add 0).add 0=a.add 0:=by rw [Go.Deep.add_add]
    rw [e0] at h1;exact qh h1
   obtain ⟨b,off,rfl⟩:=hplain;have hel:∀i,i<len→∃y cs,E.rep w (Lo w.heap.size) y cs∧fits y∧∀j u,cs[j]? = some u→w.cell? ⟨b,off+i*E.n+j,none⟩=some u:=by
    intro i hil;obtain ⟨cs',_,hc,hd⟩:=hi2 i hil;obtain ⟨y,hy,hf⟩:=ho hd;obtain ⟨_,hcl,hat⟩:=World.cells?_some hc;refine ⟨y,cs',hy,hf,fun j u hu=>?_⟩;have hj:j<cs'.length:=(List.getElem?_eq_some_iff.1 hu).1;have h1:=hat j (by omega);rw [hu,ew,ew,hC] at h1;exact h1
   obtain ⟨l,xs,k1,k2,k3,k4⟩:=ut len off hel;subst k1;refine ⟨l,⟨_,cap,rfl,hl,hm,xs,k2,fun _=>⟨b,off,rfl,?_,k4⟩⟩,by omega,k3⟩;have hxl:=k2.length;have hp:=E.pos;have:0<xs.length:=by rw [hxl];exact Nat.mul_pos h0 hp
   exact World.block_lt_of_cell? w _ (k4 0 _ (List.getElem?_eq_getElem this))
theorem kx:Opens prog zt 37 (fun _=>True):=by
 intro H enc w base spare held fuel cs x h;obtain ⟨y0,y1,n,_,hl,h0,h1⟩:=trod_struct2 underlying37 h;have hl2:cs.length=2:=hl.trans (by kernel_rfl)
 match cs,hl2 with
 | [c0,c1],_ =>
  have e1:prog.cellsOf 3=1:=by kernel_rfl
  obtain ⟨a,g0,w0⟩:=bw underlying3 h0;obtain ⟨b,g1,w1⟩:=bw underlying3 h1;refine ⟨⟨a,b⟩,?_,trivial⟩;have g0':([c0,c1].drop 0).take (prog.cellsOf 3)=[.int .i64 a]:=g0;have g1':([c0,c1].drop 1).take (prog.cellsOf 3)=[.int .i64 b]:=g1;rw [e1] at g0' g1';simp at g0' g1';show [c0,c1]=[.int .i64 a,.int .i64 b];rw [g0',g1']
theorem CH:Opens prog cw 39 (fun _=>True):=by
 intro H enc w base spare held fuel cs x h;obtain ⟨y0,y1,n,_,hl,h0,h1⟩:=trod_struct2 underlying39 h;have hl2:cs.length=3:=hl.trans (by kernel_rfl)
 match cs,hl2 with
 | [c0,c1,c2],_ =>
  have e1:prog.cellsOf 9=1:=by kernel_rfl
  have e2:prog.cellsOf 37=2:=by kernel_rfl
  obtain ⟨a,g0,w0⟩:=lH underlying9 h0;obtain ⟨⟨m,u⟩,g1,w1⟩:=kx h1;refine ⟨⟨a,⟨m,u⟩⟩,?_,trivial⟩;have g0':([c0,c1,c2].drop 0).take (prog.cellsOf 9)=[.string a]:=g0;have g1':([c0,c1,c2].drop 1).take (prog.cellsOf 37)=[.int .i64 m,.int .i64 u]:=g1;rw [e1] at g0';rw [e2] at g1';simp at g0' g1';show [c0,c1,c2]=[.string a,.int .i64 m,.int .i64 u];rw [g0',g1'.1,g1'.2]
theorem CJ:Opens prog fV 197 (fun _=>True):=by
 intro H enc w base spare held fuel cs x h;obtain ⟨y0,y1,n,_,hl,h0,h1⟩:=trod_struct2 underlying197 h;have hl2:cs.length=5:=hl.trans (by kernel_rfl)
 match cs,hl2 with
 | [c0,c1,c2,c3,c4],_ =>
  have e1:prog.cellsOf 35=3:=by kernel_rfl
  have e2:prog.cellsOf 37=2:=by kernel_rfl
  obtain ⟨⟨a,b,c⟩,g0,_⟩:=nj h0;obtain ⟨⟨m,u⟩,g1,_⟩:=kx h1;refine ⟨⟨⟨a,b,c⟩,⟨m,u⟩⟩,?_,trivial⟩;have g0':([c0,c1,c2,c3,c4].drop 0).take (prog.cellsOf 35)=[.int .i64 a,.int .i64 b,.int .i64 c]:=g0;have g1':([c0,c1,c2,c3,c4].drop 3).take (prog.cellsOf 37)=[.int .i64 m,.int .i64 u]:=g1;rw [e1] at g0';rw [e2] at g1';simp at g0' g1';show [c0,c1,c2,c3,c4]=[.int .i64 a,.int .i64 b,.int .i64 c,.int .i64 m,.int .i64 u];rw [g0'.1,g0'.2.1,g0'.2.2,g1'.1,g1'.2]
theorem wk:Opens prog eM 171 (fun _=>True):=by
 intro H enc w base spare held fuel cs x h;obtain ⟨y0,y1,y2,y3,n,_,hl,h0,h1,h2,h3⟩:=trod_struct4 underlying171 h;have hl2:cs.length=7:=hl.trans (by kernel_rfl)
 match cs,hl2 with
 | [c0,c1,c2,c3,c4,c5,c6],_ =>
  have e1:prog.cellsOf 35=3:=by kernel_rfl
  have e2:prog.cellsOf 37=2:=by kernel_rfl
  have e3:prog.cellsOf 3=1:=by kernel_rfl
  obtain ⟨⟨a,b,c⟩,g0,_⟩:=nj h0;obtain ⟨⟨m,u⟩,g1,_⟩:=kx h1;obtain ⟨p,g2,_⟩:=bw underlying3 h2;obtain ⟨q,g3,_⟩:=bw underlying3 h3;refine ⟨⟨⟨a,b,c⟩,⟨m,u⟩,p,q⟩,?_,trivial⟩;have g0':([c0,c1,c2,c3,c4,c5,c6].drop 0).take (prog.cellsOf 35)=[.int .i64 a,.int .i64 b,.int .i64 c]:=g0;have g1':([c0,c1,c2,c3,c4,c5,c6].drop 3).take (prog.cellsOf 37)=[.int .i64 m,.int .i64 u]:=g1;have g2':([c0,c1,c2,c3,c4,c5,c6].drop 5).take (prog.cellsOf 3)=[.int .i64 p]:=g2;have g3':([c0,c1,c2,c3,c4,c5,c6].drop 6).take (prog.cellsOf 3)=[.int .i64 q]:=g3;rw [e1] at g0';rw [e2] at g1';rw [e3] at g2' g3';simp at g0' g1' g2' g3';show [c0,c1,c2,c3,c4,c5,c6]=[.int .i64 a,.int .i64 b,.int .i64 c,.int .i64 m,.int .i64 u,.int .i64 p,.int .i64 q];rw [g0'.1,g0'.2.1,g0'.2.2,g1'.1,g1'.2,g2',g3']
theorem CK:∀N:Nat,OpensN prog N (nc N) 42 (fun _=>True):=by
 intro N;induction N using Nat.strongRecOn with
 | ind N ih =>
  intro H enc w base spare held cs x h;obtain ⟨xs,n,hN,_,hl,hlen,hf⟩:=DataW.trod_struct underlying42 h;have hl2:cs.length=5:=hl.trans (by kernel_rfl);have hg:∀(i:Nat) (f:Field),_=some f→∃y,DataW.trod enc prog w base spare held n f.type ((cs.drop f.offset).take (prog.cellsOf f.type))=some y:=fun i f hi=>by
   have h1:=hf i f hi;have h2:i<xs.length:=by rw [hlen];exact (Array.getElem?_eq_some_iff.1 hi).1
   rw [List.getElem?_eq_getElem h2] at h1;exact ⟨_,h1⟩
  subst hN
  match cs,hl2 with
  | [c0,c1,c2,c3,c4],_ =>
   obtain ⟨_,h0⟩:=hg 0 _ rfl;obtain ⟨_,h1⟩:=hg 1 _ rfl;obtain ⟨_,h2⟩:=hg 2 _ rfl;have e1:prog.cellsOf 3=1:=by kernel_rfl
   have e2:prog.cellsOf 39=3:=by kernel_rfl
   have e3:prog.cellsOf 40=1:=by kernel_rfl
   obtain ⟨k,g0,_⟩:=bw underlying3 h0;obtain ⟨⟨nm,⟨m,u⟩⟩,g1,_⟩:=CH h1;cases n with
   | zero=>simp [DataW.trod] at h2
   | succ n =>
    obtain ⟨ks,⟨A,cap,g2,a2,b2,r2⟩,_⟩:=(OpensN.sl (ih n (by omega)) underlying40 ((by kernel_rfl:prog.cellsOf 42=5).trans (Jw n).symm)) h2;refine ⟨.mk k ⟨nm,⟨m,u⟩⟩ ks,⟨A,cap,?_,a2,b2,r2.map fun _ _ hx=>qC (by omega) hx⟩,trivial⟩;have g0':([c0,c1,c2,c3,c4].drop 0).take (prog.cellsOf 3)=[.int .i64 k]:=g0;have g1':([c0,c1,c2,c3,c4].drop 1).take (prog.cellsOf 39)=[.string nm,.int .i64 m,.int .i64 u]:=g1;have g2':([c0,c1,c2,c3,c4].drop 4).take (prog.cellsOf 40)=[.slice A ks.length cap]:=g2;rw [e1] at g0';rw [e2] at g1';rw [e3] at g2';simp at g0' g1' g2';show [c0,c1,c2,c3,c4]=[.int .i64 k,.string nm,.int .i64 m,.int .i64 u,.slice A ks.length cap];rw [g0',g1'.1,g1'.2.1,g1'.2.2,g2']
section
variable {H:Type} {enc:TypeId×Value→H} {w:World} {base:Nat} {spare:Nat→Bool} {held:Bool}
end
end
def KI (base:Nat) (w:World) (b:Nat):Prop:=base≤b∧b<w.heap.size
section
variable {α:Type} {E:El α} {base:Nat} {w:World} {S:Nat→Prop} {e t:TypeId}
end
section
variable {α:Type} {e:TypeId} {n:Nat} {pos:0<n} {f:α→List Value} {len:∀x,(f x).length=n} {one:∀x,∀u∈f x,u.oneCell'=true}
theorem OwnRows.newP {w:World} {base:Nat} {v:Value} {l:List α} (h:OwnRows (El.plain n pos f len one) e w base v l):∃A cap,v = .slice A l.length cap∧RowsAt (El.plain n pos f len one) w (KI base w) A l∧l.length≤cap:=by
 rcases Nat.eq_zero_or_pos l.length with hl|hl
 ·obtain ⟨A,cap,hv,_,hc,_⟩:=h.form;obtain rfl:l=[]:=List.eq_nil_of_length_eq_zero hl;exact ⟨A,cap,hv,RowsAt.nil _ _ _ _,hc⟩
 ·obtain ⟨g,cap,hv,hg,hg2,hc,_,_,hr⟩:=h.addr hl;obtain ⟨xs,h1,h2⟩:=hr;refine ⟨_,cap,hv,⟨xs,Cy h1,fun hp=>?_⟩,hc⟩;obtain ⟨b,off,hA,_,hcells⟩:=h2 hp;injection hA with hA;injection hA with e1 e2;subst e1;subst e2;exact ⟨_,_,rfl,⟨hg,hg2⟩,hcells⟩
end
end Go.Proofs.YtjndcdcbjidocaaGreatDoor
