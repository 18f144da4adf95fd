/- Part 13 of 56 of the proof of both_hold (no condition). -/
import Derived.Test.YtcgpepnbohejfaaGreatDoorK11
set_option linter.unusedVariables false
set_option linter.unusedSimpArgs false
set_option maxRecDepth 100000
set_option maxHeartbeats 64000000
namespace Go.Proofs.YtcgpepnbohejfaaGreatDoor
open Go.RowKit Go.Proofs.Tryz
def lr (a:Tm):Nat→List Tm→Int
 | _,[]=>-1
 | k,b :: l=>bif decide (a=b) then (k:Int) else lr a (k+1) l
theorem mu (a b:Tm) (k:Nat) (l:List Tm):lr a k (b :: l)=bif decide (a=b) then (k:Int) else lr a (k+1) l:=rfl
theorem mv (a:Tm):∀(l:List Tm) (k:Nat) (set:List Bool),(lr a k l = -1∧iN a l=false∧ce l set a=false)∨∃i,i<l.length∧lr a k l=((k+i:Nat):Int)∧iN a l=true∧ce l set a=(set.drop i).headD false
 | [],k,set=>.inl ⟨rfl,rfl,rfl⟩
 | b :: l,k,set=>by
  rw [mu,mo,oK];by_cases h:a=b
  ·refine .inr ⟨0,by simp,?_,?_,?_⟩
   ·rw [decide_eq_true h];rfl
   ·rw [decide_eq_true h.symm];rfl
   ·rw [decide_eq_true h.symm];rfl
  ·rw [decide_eq_false h,decide_eq_false (Ne.symm h)];rcases mv a l (k+1) set.tail with ⟨h1,h2,h3⟩|⟨i,hi,h1,h2,h3⟩
   ·exact .inl ⟨h1,h2,h3⟩
   ·refine .inr ⟨i+1,by simp;omega,?_,h2,?_⟩
    ·rw [cond_false,h1];congr 1;omega
    ·rw [cond_false,h3,List.drop_tail]
theorem ro (A:Option Addr) (B cap:Nat) (l:List Tm) (nm:ByteArray) (m u:Int) (w:World) (hm:l.length≤maxLen) (hB:B≤w.heap.size) (hr:RowsAt c7 w (Lo B) A l) :
  Calls prog 184 #[.slice A l.length cap,.agg #[.string nm,.int .i64 m,.int .i64 u]] w (rf w (.int .i64 (lr ⟨nm,⟨m,u⟩⟩ 0 l))):=by
 unfold maxLen at hm;have HR:=Lib.hid hr;clear hr;obtain ⟨v,hv⟩:∃v,lr ⟨nm,⟨m,u⟩⟩ 0 l=v:=⟨_,rfl⟩;rw [hv];have HV:Hid (lr ⟨nm,⟨m,u⟩⟩ 0 (l.drop 0)=v):=Lib.hid hv;clear hv
 go_enter func184,ntmps184
 go_wp2_with fail
 go_loopg [8] l.length (fun m0 v8 wq=>∃k:Nat,v8 = .int .i64 (k:Int)∧k≤l.length∧l.length≤k+m0∧Hid (lr ⟨nm,⟨m,u⟩⟩ k (l.drop k)=v)∧Hid (Below (w.alloc (.cells #[.string nm,.int .i64 m,.int .i64 u] 44)).heap.size (w.alloc (.cells #[.string nm,.int .i64 m,.int .i64 u] 44)) wq))
 case atStart=>exact ⟨0,rfl,Nat.zero_le _,by omega,HV,Lib.hid (Below.refl _ _)⟩
 case round =>
  obtain ⟨k,rfl,hk,hkm,HI,HB⟩:=hrel;have hb:=HB.out;have hbw:Below w.heap.size w wr:=by exact bO
  have x0:wr.cell? ⟨w.heap.size,0,none⟩=some (.string nm):=(hb.cell (p:=⟨w.heap.size,0,none⟩) (by simp)).trans (gG w _ _ 0);have x1:wr.cell? ⟨w.heap.size,1,none⟩=some (.int .i64 m):=(hb.cell (p:=⟨w.heap.size,1,none⟩) (by simp)).trans (gG w _ _ 1);have x2:wr.cell? ⟨w.heap.size,2,none⟩=some (.int .i64 u):=(hb.cell (p:=⟨w.heap.size,2,none⟩) (by simp)).trans (gG w _ _ 2);have hz0:w.heap.size<wr.heap.size:=by have:=hb.size;simp at this;omega
  clear hb;by_cases hlt:k<l.length
  ·obtain ⟨⟨n1,⟨m1,u1⟩⟩,hx⟩:∃x,l[k]=x:=⟨_,rfl⟩;obtain ⟨g,off,rfl,hbl,c0,c1,c2⟩:=Bc (HR.out.below (B'':=w.heap.size) hbw hB hB) hlt hx;have hbl2:g<wr.heap.size:=Nat.lt_of_lt_of_le hbl hbw.size;have hlti:(k:Int)<(l.length:Int):=by omega
   obtain ⟨_,k1,k2⟩:=Hk nm m u n1 m1 u1;obtain ⟨q,hq⟩:∃q,decide ((⟨nm,⟨m,u⟩⟩:Tm)=⟨n1,⟨m1,u1⟩⟩)=q:=⟨_,rfl⟩;have HS:Hid ((bif q then (k:Int) else lr ⟨nm,⟨m,u⟩⟩ (k+1) (l.drop (k+1)))=v):=Lib.hid (by have h:=HI.out;rw [jy hlt hx,mu] at h;rw [←hq];exact h);rw [hq] at k1;clear hq hx hbl hbw;cases q <;> (go_wp2_with fail;go_quiet (fail);go_wp2_with fail;first|(go_roundg (gk-1);(case measure=>omega);(case rel=>exact ⟨k+1,by go_num,by omega,by omega,Lib.hid HS.out,Lib.hid bO⟩))|(go_ret;exact ⟨n7 (show (k:Int)=v from HS.out),by exact bO⟩))
  ·have HS:Hid (-1=v):=Lib.hid (by have h:=HI.out;rw [oz hlt] at h;exact h);clear hbw;go_wp2_with fail
   go_ret
   exact ⟨n7 HS.out,by exact bO⟩
theorem BA (A2 A3:Option Addr) (c2 c3 B:Nat) (L:List Tm) (set:List Bool) (nm:ByteArray) (m u:Int) (w:World) (hB:B≤w.heap.size) (hL:RowsAt c7 w (Lo B) A2 L) (hL8:L.length≤1000) (hS:RowsAt c9 w (Lo B) A3 set) (hS8:set.length≤1000) :
  Calls prog 200 #[.agg #[.slice A2 L.length c2,.slice A3 set.length c3],.agg #[.string nm,.int .i64 m,.int .i64 u]] w (rf w (.bool (ce L set ⟨nm,⟨m,u⟩⟩))):=by
 have HF:=Lib.hid (fun W (hb:Below w.heap.size w W)=>ro A2 B c2 L nm m u W (by unfold maxLen;omega) (Nat.le_trans hB hb.size) (hL.below hb hB (Nat.le_refl _)));have HS:=Lib.hid hS;have HI:=Lib.hid (mv ⟨nm,⟨m,u⟩⟩ L 0 set);clear hL hS;generalize lr ⟨nm,⟨m,u⟩⟩ 0 L=i at *
 generalize ce L set ⟨nm,⟨m,u⟩⟩=q at *
 have HI2:Hid ((i = -1∧q=false)∨∃j:Nat,i=(j:Int)∧q=(set.drop j).headD false):=Lib.hid (by
  rcases HI.out with ⟨h1,_,h2⟩|⟨j,_,h1,_,h2⟩
  ·exact .inl ⟨h1,h2⟩
  ·exact .inr ⟨j,by rw [h1,Nat.zero_add],h2⟩)
 clear HI;rcases HI2.out with ⟨rfl,rfl⟩|⟨j,rfl,hq⟩
 ·go_enter func200,ntmps200
  go_wp2_with fail
  refine (HF.out _ bO).mono ?_;rintro e w2 ⟨rfl,hb2⟩;have HB2:=Lib.hid hb2;clear hb2;go_wp2_with fail
  go_ret
  exact ⟨rfl,by exact bO⟩
 ·have hj0:(0:Int)≤(j:Int):=by omega
  by_cases hlt:j<set.length
  ·have hlti:(j:Int)<(set.length:Int):=by omega
   obtain ⟨y,hy⟩:∃x,set[j]=x:=⟨_,rfl⟩;have HQ:Hid (q=y):=Lib.hid (by rw [hq,jy hlt hy];rfl);clear hq HI2
   go_enter func200,ntmps200
   go_wp2_with fail
   refine (HF.out _ bO).mono ?_;rintro e w2 ⟨rfl,hb2⟩;have HB2:Hid (Below w.heap.size w w2):=Lib.hid (Below.tr (Below.al (Below.al (Below.refl _ _) _) _) hb2);obtain ⟨g2,off2,rfl,hbl3,e0⟩:=DO (HS.out.below (B'':=B) HB2.out hB (Nat.le_refl _)) hlt hy;have hbl4:g2<w2.heap.size:=Nat.lt_of_lt_of_le hbl3 (Nat.le_trans hB HB2.out.size);have x1:w2.cell? ⟨w.heap.size,1,none⟩=some (.slice (some ⟨g2,off2,none⟩) set.length c3):=by
    have h1:=hb2.cell (p:=⟨w.heap.size,1,none⟩) (by simp;omega);rw [h1];simp
   have hz:w.heap.size<w2.heap.size:=by have:=hb2.size;simp at this;omega
   clear hy hbl3 hb2;go_wp2_with fail
   go_ret
   exact ⟨aO HQ.out.symm,HB2.out⟩
  ·have hlti:¬(j:Int)<(set.length:Int):=by omega
   have HQ:Hid (q=false):=Lib.hid (by rw [hq,List.drop_eq_nil_of_le (by omega)];rfl);clear hq HI2
   go_enter func200,ntmps200
   go_wp2_with fail
   refine (HF.out _ bO).mono ?_;rintro e w2 ⟨rfl,hb2⟩;have HB2:Hid (Below w.heap.size w w2):=Lib.hid (Below.tr (Below.al (Below.al (Below.refl _ _) _) _) hb2);have x1:w2.cell? ⟨w.heap.size,1,none⟩=some (.slice A3 set.length c3):=by
    have h1:=hb2.cell (p:=⟨w.heap.size,1,none⟩) (by simp;omega);rw [h1];simp
   have hz:w.heap.size<w2.heap.size:=by have:=hb2.size;simp at this;omega
   clear hb2;go_wp2_with fail
   go_ret
   exact ⟨aO HQ.out.symm,HB2.out⟩
theorem BB:∀(d:Nat) (x:Ex) (A A2 A3:Option Addr) (cap c2 c3 B:Nat) (L:List Tm) (set:List Bool) (w:World) (hx:ExF w B d A x) (hL:RowsAt c7 w (Lo B) A2 L) (hL8:L.length≤1000) (hS:RowsAt c9 w (Lo B) A3 set) (hS8:set.length≤1000),
  Calls prog 201 #[x.val A cap,.func (.func 200) #[.agg #[.slice A2 L.length c2,.slice A3 set.length c3]] #[]] w (rf w (.bool (sy (ce L set) x))):=by
 intro d;induction d using Nat.strongRecOn with
 | ind d ih =>
  intro x A A2 A3 cap c2 c3 B L set w hx hL hL8 hS hS8;obtain ⟨k,⟨nm,⟨m,u⟩⟩,l⟩:=x;obtain ⟨hm,hBw,hr⟩:=hx;unfold Ex.val;rw [Bz];dsimp only [Ex.k,Ex.atom,Ex.kids] at hm hr ⊢;have IH:=Lib.hid ih;have HR:=Lib.hid hr;have HL:=Lib.hid hL;have HS:=Lib.hid hS;clear hr ih hL hS;cases hE:l.isEmpty with
  | true =>
   obtain rfl:=List.isEmpty_iff.1 hE;have HH:=Lib.hid (fun W (hb:Below w.heap.size w W)=>BA A2 A3 c2 c3 B L set nm m u W (Nat.le_trans hBw hb.size) (HL.out.below hb hBw (Nat.le_refl _)) hL8 (HS.out.below hb hBw (Nat.le_refl _)) hS8);simp only [cond_true];generalize ce L set ⟨nm,⟨m,u⟩⟩=q at *
   go_enter func201,ntmps201
   go_wp2_with fail
   refine (HH.out _ bO).mono ?_;rintro e w2 ⟨rfl,hb2⟩;have HB2:=Lib.hid hb2;clear hb2;go_wp2_with fail
   go_ret
   exact ⟨rfl,by exact bO⟩
  | false =>
   have hl0:¬(l.length:Int)=0:=by
    have:l≠[]:=fun e=>by rw [e] at hE;cases hE
    have:=List.length_pos_iff.2 this;omega
   simp only [cond_false];have hl0':((l.length:Int) == 0)=false:=by simpa using hl0
   obtain ⟨r,hr⟩:∃r,decide (k≤(zR (ce L set) l:Int))=r:=⟨_,rfl⟩;rw [hr];have HQ:Hid (decide (k≤((0+zR (ce L set) (l.drop 0):Nat):Int))=r):=Lib.hid (by rw [List.drop_zero,Nat.zero_add];exact hr);have hm2:=hm;unfold maxLen at hm2;clear hr
   go_enter func201,ntmps201
   go_wp2_with fail
   go_loopg [5,19] l.length (fun m0 v5 v19 wq=>∃kk n:Nat,v19 = .int .i64 (kk:Int)∧v5 = .int .i64 (n:Int)∧kk≤l.length∧l.length≤kk+m0∧n≤kk∧Hid (decide (k≤((n+zR (ce L set) (l.drop kk):Nat):Int))=r)∧Hid (Below (w.alloc (.cells #[.int .i64 k,.string nm,.int .i64 m,.int .i64 u,.slice A l.length cap] 47)).heap.size (w.alloc (.cells #[.int .i64 k,.string nm,.int .i64 m,.int .i64 u,.slice A l.length cap] 47)) wq))
   case atStart=>exact ⟨0,0,rfl,rfl,Nat.zero_le _,by omega,by omega,HQ,Lib.hid (Below.refl _ _)⟩
   case round =>
    obtain ⟨kk,n,rfl,rfl,hk,hkm,hn,HI,HB⟩:=hrel;have hb:=HB.out;have HBW:Hid (Below w.heap.size w wr):=Lib.hid (Below.tr (Below.al (Below.refl _ _) _) hb);have x0:wr.cell? ⟨w.heap.size,0,none⟩=some (.int .i64 k):=(hb.cell (p:=⟨w.heap.size,0,none⟩) (by simp)).trans (gG w _ _ 0);have hz0:w.heap.size<wr.heap.size:=by have:=hb.size;simp at this;omega
    clear hb;by_cases hlt:kk<l.length
    ·obtain ⟨⟨k1,⟨nm1,⟨m1,u1⟩⟩,l1⟩,hx⟩:∃x,l[kk]=x:=⟨_,rfl⟩;obtain ⟨g1',off,A1,cap1,rfl,hbl,c0,c1,c2',c3',c4,hc1,hc2,d1,rfl,hr1⟩:=Br (HR.out.below (B'':=B) HBW.out hBw (Nat.le_refl _)) hlt hx;have hbl0:g1'<B:=hbl;have hbl2:g1'<wr.heap.size:=by omega
     have hlti:(kk:Int)<(l.length:Int):=by omega
     have HX1:Hid (ExF wr B d1 A1 (.mk k1 ⟨nm1,⟨m1,u1⟩⟩ l1)):=Lib.hid ⟨Nat.le_trans hc1 hc2,by omega,hr1⟩;have HQ2:Hid (decide (k≤((n+((bif sy (ce L set) (.mk k1 ⟨nm1,⟨m1,u1⟩⟩ l1) then 1 else 0)+zR (ce L set) (l.drop (kk+1))):Nat):Int))=r):=Lib.hid (by have h:=HI.out;rw [jy hlt hx,vm] at h;exact h);have HC:Hid (∀W,Below wr.heap.size wr W→Calls prog 201 #[.agg #[.int .i64 k1,.string nm1,.int .i64 m1,.int .i64 u1,.slice A1 l1.length cap1],.func (.func 200) #[.agg #[.slice A2 L.length c2,.slice A3 set.length c3]] #[]] W (rf W (.bool (sy (ce L set) (.mk k1 ⟨nm1,⟨m1,u1⟩⟩ l1))))):=Lib.hid (fun W hb1 =>
      IH.out d1 (by omega) (.mk k1 ⟨nm1,⟨m1,u1⟩⟩ l1) A1 A2 A3 cap1 c2 c3 B L set W (HX1.out.below hb1) (HL.out.below (Below.tr HBW.out hb1) hBw (Nat.le_refl _)) hL8 (HS.out.below (Below.tr HBW.out hb1) hBw (Nat.le_refl _)) hS8)
     generalize sy (ce L set) (.mk k1 ⟨nm1,⟨m1,u1⟩⟩ l1)=q1 at HC HQ2;clear hx hbl hr1 hbl0;go_wp2_with fail
     refine (HC.out _ bO).mono ?_;rintro e w2 ⟨rfl,hb2⟩;have HB2:Hid (Below (w.alloc (.cells #[.int .i64 k,.string nm,.int .i64 m,.int .i64 u,.slice (some ⟨g1',off,none⟩) l.length cap] 47)).heap.size (w.alloc (.cells #[.int .i64 k,.string nm,.int .i64 m,.int .i64 u,.slice (some ⟨g1',off,none⟩) l.length cap] 47)) w2):=Lib.hid (Below.tr (Below.al HB.out _) hb2);clear hb2;cases q1 with
     | true =>
      have HE:Hid (decide (k≤((n+1+zR (ce L set) (l.drop (kk+1)):Nat):Int))=r):=Lib.hid (by have h:=HQ2.out;rw [cond_true,←Nat.add_assoc] at h;exact h);go_wp2_with fail
      go_roundg (gk-1)
      case measure=>omega
      case rel=>exact ⟨kk+1,n+1,by go_num,by go_num,by omega,by omega,by omega,HE,HB2⟩
     | false =>
      have HE:Hid (decide (k≤((n+zR (ce L set) (l.drop (kk+1)):Nat):Int))=r):=Lib.hid (by have h:=HQ2.out;rw [cond_false,Nat.zero_add] at h;exact h);go_wp2_with fail
      go_roundg (gk-1)
      case measure=>omega
      case rel=>exact ⟨kk+1,n,by go_num,by go_num,by omega,by omega,by omega,HE,HB2⟩
    ·have hlti:¬(kk:Int)<(l.length:Int):=by omega
     have HE:Hid (decide (k≤(n:Int))=r):=Lib.hid (by have h:=HI.out;rw [oz hlt] at h;exact h);go_wp2_with fail
     go_ret
     exact ⟨aO HE.out,by exact bO⟩
theorem zS (d:Nat) (x:Ex) (A A2 A3:Option Addr) (cap c2 c3 B:Nat) (L:List Tm) (set:List Bool) (w:World) (hx:ExF w B d A x) (hL:RowsAt c7 w (Lo B) A2 L) (hL8:L.length≤1000) (hS:RowsAt c9 w (Lo B) A3 set) (hS8:set.length≤1000) :
  Calls prog 155 #[x.val A cap,.slice A2 L.length c2,.slice A3 set.length c3] w (rf w (.bool (sy (ce L set) x))):=by
 have HE:=Lib.hid (fun W (hb:Below w.heap.size w W)=>BB d x A A2 A3 cap c2 c3 B L set W (hx.below hb) (hL.below hb hx.hB (Nat.le_refl _)) hL8 (hS.below hb hx.hB (Nat.le_refl _)) hS8);clear hx hL hS;obtain ⟨k,⟨nm,⟨m,u⟩⟩,l⟩:=x;unfold Ex.val at *
 dsimp only [Ex.k,Ex.atom,Ex.kids] at HE ⊢;generalize sy (ce L set) (.mk k ⟨nm,⟨m,u⟩⟩ l)=q at *
 go_enter func155,ntmps155
 go_wp2_with fail
 refine (HE.out _ bO).mono ?_;rintro e w2 ⟨rfl,hb2⟩;have HB2:=Lib.hid hb2;clear hb2;go_wp2_with fail
 go_ret
 exact ⟨rfl,by exact bO⟩
def Gi (a b:Int):Nat→Int→Int
 | 0,_=>0
 | n+1,m=>bif cS m a && cS m b then m else Gi a b n (m+1)
end Go.Proofs.YtcgpepnbohejfaaGreatDoor
