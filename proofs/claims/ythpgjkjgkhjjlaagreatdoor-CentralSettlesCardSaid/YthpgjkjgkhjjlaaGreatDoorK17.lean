/- Part K17 of a proof of statements of chapter 15 (no condition). -/
import Derived.Test.YthpgjkjgkhjjlaaGreatDoorK15
set_option linter.unusedVariables false
set_option linter.unusedSimpArgs false
set_option maxRecDepth 100000
set_option maxHeartbeats 64000000
namespace Go.Proofs.YthpgjkjgkhjjlaaGreatDoor
open Go.RowKit Go.Proofs.Tryz
def pC (a:Tm):Nat->List Tm->Int
 | _,[]=>-1
 | k,b :: l=>bif decide (a=b) then (k:Int) else pC a (k+1) l
theorem se (a b:Tm) (k:Nat) (l:List Tm):pC a k (b :: l)=bif decide (a=b) then (k:Int) else pC a (k+1) l:=rfl
theorem sg (a:Tm):∀(l:List Tm) (k:Nat) (set:List Bool),(pC a k l = -1/\lF a l=false/\cE l set a=false)\/∃i,i<l.length/\pC a k l=((k+i:Nat):Int)/\lF a l=true/\cE l set a=(set.drop i).headD false
 | [],k,set=>.inl ⟨rfl,rfl,rfl⟩
 | b :: l,k,set=>by
  rw [se,r7,lI];by_cases h:a=b
  ·refine .inr ⟨0,by simp,?_,?_,?_⟩
   ·rw [qDt h];rfl
   ·rw [qDt h.symm];rfl
   ·rw [qDt h.symm];rfl
  ·rw [qDf h,qDf (Ne.symm h)];rcases sg a l (k+1) set.tail with ⟨h1,h2,h3⟩|⟨i,hi,h1,h2,h3⟩
   ·exact .inl ⟨h1,h2,h3⟩
   ·refine .inr ⟨i+1,by simp;omega,?_,h2,?_⟩
    ·rw [qCf,h1];congr 1;omega
    ·rw [qCf,h3,List.drop_tail]
theorem Ac (A:Option Addr) (B cap:Nat) (l:List Tm) (nm:ByteArray) (m u:Int) (w:World) (hm:l.length<=maxLen) (hB:B<=w.heap.size) (hr:RowsAt c6 w (Lo B) A l) :
  Calls prog 287 #[.slice A l.length cap,.agg #[.string nm,.int .i64 m,.int .i64 u]] w (uL w (.int .i64 (pC ⟨nm,⟨m,u⟩⟩ 0 l))):=by
 unfold maxLen at hm;have HR:=Lib.hid hr;clear hr;obtain ⟨v,hv⟩:=qGe (pC ⟨nm,⟨m,u⟩⟩ 0 l);rw [hv];have HV:Hid (pC ⟨nm,⟨m,u⟩⟩ 0 (l.drop 0)=v):=Lib.hid hv;clear hv
 go_enter func287,ntmps287
 go_wp2_with fail
 go_loopg [8] l.length (fun m0 v8 wq=>∃k:Nat,v8 = .int .i64 (k:Int)/\k<=l.length/\l.length<=k+m0/\Hid (pC ⟨nm,⟨m,u⟩⟩ k (l.drop k)=v)/\Hid (Below (w.alloc (.cells #[.string nm,.int .i64 m,.int .i64 u] 44)).heap.size (w.alloc (.cells #[.string nm,.int .i64 m,.int .i64 u] 44)) wq))
 case atStart=>exact ⟨0,rfl,Nat.zero_le _,by omega,HV,Lib.hid (Below.refl _ _)⟩
 case round =>
  obtain ⟨k,rfl,hk,hkm,HI,HB⟩:=hrel;have hb:=HB.out;have hbw:Below w.heap.size w wr:=by exact cV
  have x0:wr.cell? ⟨w.heap.size,0,none⟩=some (.string nm):=(hb.cell (p:=⟨w.heap.size,0,none⟩) (by simp)).trans (kn w _ _ 0);have x1:wr.cell? ⟨w.heap.size,1,none⟩=some (.int .i64 m):=(hb.cell (p:=⟨w.heap.size,1,none⟩) (by simp)).trans (kn w _ _ 1);have x2:wr.cell? ⟨w.heap.size,2,none⟩=some (.int .i64 u):=(hb.cell (p:=⟨w.heap.size,2,none⟩) (by simp)).trans (kn w _ _ 2);have hz0:w.heap.size<wr.heap.size:=by have:=hb.size;simp at this;omega
  clear hb;by_cases hlt:k<l.length
  ·obtain ⟨⟨n1,⟨m1,u1⟩⟩,hx⟩:∃x,l[k]=x:=⟨_,rfl⟩;obtain ⟨g,off,rfl,hbl,c0,c1,c2⟩:=KJ (HR.out.below (B'':=w.heap.size) hbw hB hB) hlt hx;have hbl2:g<wr.heap.size:=Nat.lt_of_lt_of_le hbl hbw.size;have hlti:(k:Int)<(l.length:Int):=by omega
   obtain ⟨_,k1,k2⟩:=RT nm m u n1 m1 u1;obtain ⟨q,hq⟩:=qGe (decide ((⟨nm,⟨m,u⟩⟩:Tm)=⟨n1,⟨m1,u1⟩⟩));have HS:Hid ((bif q then (k:Int) else pC ⟨nm,⟨m,u⟩⟩ (k+1) (l.drop (k+1)))=v):=Lib.hid (by have h:=HI.out;rw [nS hlt hx,se] at h;rw [<-hq];exact h);rw [hq] at k1;clear hq hx hbl hbw;cases q <;> (go_wp2_with fail;go_quiet (fail);go_wp2_with fail;first|(go_roundg (gk-1);(case measure=>omega);(case rel=>exact ⟨k+1,by go_num,by omega,by omega,Lib.hid HS.out,Lib.hid cV⟩))|(go_ret;exact ⟨nN (show (k:Int)=v from HS.out),by exact cV⟩))
  ·have HS:Hid (-1=v):=Lib.hid (by have h:=HI.out;rw [xH hlt] at h;exact h);clear hbw;go_wp2_with fail
   go_ret
   exact ⟨nN HS.out,by exact cV⟩
theorem K6 (A2 A3:Option Addr) (c2 c3 B:Nat) (L:List Tm) (set:List Bool) (nm:ByteArray) (m u:Int) (w:World) (hB:B<=w.heap.size) (hL:RowsAt c6 w (Lo B) A2 L) (hL8:L.length<=1000) (hS:RowsAt cJ w (Lo B) A3 set) (hS8:set.length<=1000) :
  Calls prog 303 #[.agg #[.slice A2 L.length c2,.slice A3 set.length c3],.agg #[.string nm,.int .i64 m,.int .i64 u]] w (uL w (.bool (cE L set ⟨nm,⟨m,u⟩⟩))):=by
 have HF:=Lib.hid (fun W (hb:Below w.heap.size w W)=>Ac A2 B c2 L nm m u W (by unfold maxLen;omega) (Nat.le_trans hB hb.size) (hL.below hb hB (Nat.le_refl _)));have HS:=Lib.hid hS;have HI:=Lib.hid (sg ⟨nm,⟨m,u⟩⟩ L 0 set);clear hL hS;generalize pC ⟨nm,⟨m,u⟩⟩ 0 L=i at *
 generalize cE L set ⟨nm,⟨m,u⟩⟩=q at *
 have HI2:Hid ((i = -1/\q=false)\/∃j:Nat,i=(j:Int)/\q=(set.drop j).headD false):=Lib.hid (by
  rcases HI.out with ⟨h1,_,h2⟩|⟨j,_,h1,_,h2⟩
  ·exact .inl ⟨h1,h2⟩
  ·exact .inr ⟨j,by rw [h1,Nat.zero_add],h2⟩)
 clear HI;rcases HI2.out with ⟨rfl,rfl⟩|⟨j,rfl,hq⟩
 ·go_enter func303,ntmps303
  go_wp2_with fail
  refine (HF.out _ cV).mono ?_;rintro e w2 ⟨rfl,hb2⟩;have HB2:=Lib.hid hb2;clear hb2;go_wp2_with fail
  go_ret
  exact ⟨rfl,by exact cV⟩
 ·have hj0:(0:Int)<=(j:Int):=by omega
  by_cases hlt:j<set.length
  ·have hlti:(j:Int)<(set.length:Int):=by omega
   obtain ⟨y,hy⟩:∃x,set[j]=x:=⟨_,rfl⟩;have HQ:Hid (q=y):=Lib.hid (by rw [hq,nS hlt hy];rfl);clear hq HI2
   go_enter func303,ntmps303
   go_wp2_with fail
   refine (HF.out _ cV).mono ?_;rintro e w2 ⟨rfl,hb2⟩;have HB2:Hid (Below w.heap.size w w2):=Lib.hid (Below.tr (Below.al (Below.al (Below.refl _ _) _) _) hb2);obtain ⟨g2,off2,rfl,hbl3,e0⟩:=NJ (HS.out.below (B'':=B) HB2.out hB (Nat.le_refl _)) hlt hy;have hbl4:g2<w2.heap.size:=Nat.lt_of_lt_of_le hbl3 (Nat.le_trans hB HB2.out.size);have x1:w2.cell? ⟨w.heap.size,1,none⟩=some (.slice (some ⟨g2,off2,none⟩) set.length c3):=by
    have h1:=hb2.cell (p:=⟨w.heap.size,1,none⟩) (by simp;omega);rw [h1];simp
   have hz:w.heap.size<w2.heap.size:=by have:=hb2.size;simp at this;omega
   clear hy hbl3 hb2;go_wp2_with fail
   go_ret
   exact ⟨bp HQ.out.symm,HB2.out⟩
  ·have hlti:¬(j:Int)<(set.length:Int):=by omega
   have HQ:Hid (q=false):=Lib.hid (by rw [hq,qDn (by omega)];rfl);clear hq HI2
   go_enter func303,ntmps303
   go_wp2_with fail
   refine (HF.out _ cV).mono ?_;rintro e w2 ⟨rfl,hb2⟩;have HB2:Hid (Below w.heap.size w w2):=Lib.hid (Below.tr (Below.al (Below.al (Below.refl _ _) _) _) hb2);have x1:w2.cell? ⟨w.heap.size,1,none⟩=some (.slice A3 set.length c3):=by
    have h1:=hb2.cell (p:=⟨w.heap.size,1,none⟩) (by simp;omega);rw [h1];simp
   have hz:w.heap.size<w2.heap.size:=by have:=hb2.size;simp at this;omega
   clear hb2;go_wp2_with fail
   go_ret
   exact ⟨bp HQ.out.symm,HB2.out⟩
theorem K7:∀(d:Nat) (x:Ex) (A A2 A3:Option Addr) (cap c2 c3 B:Nat) (L:List Tm) (set:List Bool) (w:World) (hx:ExF w B d A x) (hL:RowsAt c6 w (Lo B) A2 L) (hL8:L.length≤1000) (hS:RowsAt cJ w (Lo B) A3 set) (hS8:set.length<=1000),
  Calls prog 304 #[x.val A cap,.func (.func 303) #[.agg #[.slice A2 L.length c2,.slice A3 set.length c3]] #[]] w (uL w (.bool (oJ (cE L set) x))):=by
 intro d;induction d using Nat.strongRecOn with
 | ind d ih =>
  intro x A A2 A3 cap c2 c3 B L set w hx hL hL8 hS hS8;obtain ⟨k,⟨nm,⟨m,u⟩⟩,l⟩:=x;obtain ⟨hm,hBw,hr⟩:=hx;unfold Ex.val;rw [FY];dsimp only [Ex.k,Ex.atom,Ex.kids] at hm hr ⊢;have IH:=Lib.hid ih;have HR:=Lib.hid hr;have HL:=Lib.hid hL;have HS:=Lib.hid hS;clear hr ih hL hS;cases hE:l.isEmpty with
  | true =>
   obtain rfl:=List.isEmpty_iff.1 hE;have HH:=Lib.hid (fun W (hb:Below w.heap.size w W)=>K6 A2 A3 c2 c3 B L set nm m u W (Nat.le_trans hBw hb.size) (HL.out.below hb hBw (Nat.le_refl _)) hL8 (HS.out.below hb hBw (Nat.le_refl _)) hS8);simp only [qCt];generalize cE L set ⟨nm,⟨m,u⟩⟩=q at *
   go_enter func304,ntmps304
   go_wp2_with fail
   refine (HH.out _ cV).mono ?_;rintro e w2 ⟨rfl,hb2⟩;have HB2:=Lib.hid hb2;clear hb2;go_wp2_with fail
   go_ret
   exact ⟨rfl,by exact cV⟩
  | false =>
   have hl0:¬(l.length:Int)=0:=by
    have:l≠[]:=fun e=>by rw [e] at hE;cases hE
    have:=List.length_pos_iff.2 this;omega
   simp only [qCf];have hl0':((l.length:Int) == 0)=false:=by simpa using hl0
   obtain ⟨r,hr⟩:=qGe (decide (k<=(FX (cE L set) l:Int)));rw [hr];have HQ:Hid (decide (k<=((0+FX (cE L set) (l.drop 0):Nat):Int))=r):=Lib.hid (by rw [List.drop_zero,Nat.zero_add];exact hr);have hm2:=hm;unfold maxLen at hm2;clear hr
   go_enter func304,ntmps304
   go_wp2_with fail
   go_loopg [5,19] l.length (fun m0 v5 v19 wq=>∃kk n:Nat,v19 = .int .i64 (kk:Int)/\v5 = .int .i64 (n:Int)/\kk<=l.length/\l.length<=kk+m0/\n<=kk/\Hid (decide (k<=((n+FX (cE L set) (l.drop kk):Nat):Int))=r)/\Hid (Below (w.alloc (.cells #[.int .i64 k,.string nm,.int .i64 m,.int .i64 u,.slice A l.length cap] 47)).heap.size (w.alloc (.cells #[.int .i64 k,.string nm,.int .i64 m,.int .i64 u,.slice A l.length cap] 47)) wq))
   case atStart=>exact ⟨0,0,rfl,rfl,Nat.zero_le _,by omega,by omega,HQ,Lib.hid (Below.refl _ _)⟩
   case round =>
    obtain ⟨kk,n,rfl,rfl,hk,hkm,hn,HI,HB⟩:=hrel;have hb:=HB.out;have HBW:Hid (Below w.heap.size w wr):=Lib.hid (Below.tr (Below.al (Below.refl _ _) _) hb);have x0:wr.cell? ⟨w.heap.size,0,none⟩=some (.int .i64 k):=(hb.cell (p:=⟨w.heap.size,0,none⟩) (by simp)).trans (kn w _ _ 0);have hz0:w.heap.size<wr.heap.size:=by have:=hb.size;simp at this;omega
    clear hb;by_cases hlt:kk<l.length
    ·obtain ⟨⟨k1,⟨nm1,⟨m1,u1⟩⟩,l1⟩,hx⟩:∃x,l[kk]=x:=⟨_,rfl⟩;obtain ⟨g1',off,A1,cap1,rfl,hbl,c0,c1,c2',c3',c4,hc1,hc2,d1,rfl,hr1⟩:=K0 (HR.out.below (B'':=B) HBW.out hBw (Nat.le_refl _)) hlt hx;have hbl0:g1'<B:=hbl;have hbl2:g1'<wr.heap.size:=by omega
     have hlti:(kk:Int)<(l.length:Int):=by omega
     have HX1:Hid (ExF wr B d1 A1 (.mk k1 ⟨nm1,⟨m1,u1⟩⟩ l1)):=Lib.hid ⟨Nat.le_trans hc1 hc2,by omega,hr1⟩;have HQ2:Hid (decide (k<=((n+((bif oJ (cE L set) (.mk k1 ⟨nm1,⟨m1,u1⟩⟩ l1) then 1 else 0)+FX (cE L set) (l.drop (kk+1))):Nat):Int))=r):=Lib.hid (by have h:=HI.out;rw [nS hlt hx,pB] at h;exact h);have HC:Hid (∀W,Below wr.heap.size wr W->Calls prog 304 #[.agg #[.int .i64 k1,.string nm1,.int .i64 m1,.int .i64 u1,.slice A1 l1.length cap1],.func (.func 303) #[.agg #[.slice A2 L.length c2,.slice A3 set.length c3]] #[]] W (uL W (.bool (oJ (cE L set) (.mk k1 ⟨nm1,⟨m1,u1⟩⟩ l1))))):=Lib.hid (fun W hb1 =>
      IH.out d1 (by omega) (.mk k1 ⟨nm1,⟨m1,u1⟩⟩ l1) A1 A2 A3 cap1 c2 c3 B L set W (HX1.out.below hb1) (HL.out.below (Below.tr HBW.out hb1) hBw (Nat.le_refl _)) hL8 (HS.out.below (Below.tr HBW.out hb1) hBw (Nat.le_refl _)) hS8)
     generalize oJ (cE L set) (.mk k1 ⟨nm1,⟨m1,u1⟩⟩ l1)=q1 at HC HQ2;clear hx hbl hr1 hbl0;go_wp2_with fail
     refine (HC.out _ cV).mono ?_;rintro e w2 ⟨rfl,hb2⟩;have HB2:Hid (Below (w.alloc (.cells #[.int .i64 k,.string nm,.int .i64 m,.int .i64 u,.slice (some ⟨g1',off,none⟩) l.length cap] 47)).heap.size (w.alloc (.cells #[.int .i64 k,.string nm,.int .i64 m,.int .i64 u,.slice (some ⟨g1',off,none⟩) l.length cap] 47)) w2):=Lib.hid (Below.tr (Below.al HB.out _) hb2);clear hb2;cases q1 with
     | true =>
      have HE:Hid (decide (k<=((n+1+FX (cE L set) (l.drop (kk+1)):Nat):Int))=r):=Lib.hid (by have h:=HQ2.out;rw [qCt,<-Nat.add_assoc] at h;exact h);go_wp2_with fail
      go_roundg (gk-1)
      case measure=>omega
      case rel=>exact ⟨kk+1,n+1,by go_num,by go_num,by omega,by omega,by omega,HE,HB2⟩
     | false =>
      have HE:Hid (decide (k<=((n+FX (cE L set) (l.drop (kk+1)):Nat):Int))=r):=Lib.hid (by have h:=HQ2.out;rw [qCf,Nat.zero_add] at h;exact h);go_wp2_with fail
      go_roundg (gk-1)
      case measure=>omega
      case rel=>exact ⟨kk+1,n,by go_num,by go_num,by omega,by omega,by omega,HE,HB2⟩
    ·have hlti:¬(kk:Int)<(l.length:Int):=by omega
     have HE:Hid (decide (k<=(n:Int))=r):=Lib.hid (by have h:=HI.out;rw [xH hlt] at h;exact h);go_wp2_with fail
     go_ret
     exact ⟨bp HE.out,by exact cV⟩
theorem Jm (d:Nat) (x:Ex) (A A2 A3:Option Addr) (cap c2 c3 B:Nat) (L:List Tm) (set:List Bool) (w:World) (hx:ExF w B d A x) (hL:RowsAt c6 w (Lo B) A2 L) (hL8:L.length<=1000) (hS:RowsAt cJ w (Lo B) A3 set) (hS8:set.length<=1000) :
  Calls prog 250 #[x.val A cap,.slice A2 L.length c2,.slice A3 set.length c3] w (uL w (.bool (oJ (cE L set) x))):=by
 have HE:=Lib.hid (fun W (hb:Below w.heap.size w W)=>K7 d x A A2 A3 cap c2 c3 B L set W (hx.below hb) (hL.below hb hx.hB (Nat.le_refl _)) hL8 (hS.below hb hx.hB (Nat.le_refl _)) hS8);clear hx hL hS;obtain ⟨k,⟨nm,⟨m,u⟩⟩,l⟩:=x;unfold Ex.val at *
 dsimp only [Ex.k,Ex.atom,Ex.kids] at HE ⊢;generalize oJ (cE L set) (.mk k ⟨nm,⟨m,u⟩⟩ l)=q at *
 go_enter func250,ntmps250
 go_wp2_with fail
 refine (HE.out _ cV).mono ?_;rintro e w2 ⟨rfl,hb2⟩;have HB2:=Lib.hid hb2;clear hb2;go_wp2_with fail
 go_ret
 exact ⟨rfl,by exact cV⟩
inductive NR:D->D->Prop
 | same (d:D):NR d d
 | nil {α:Type} {E:El α}:NR (.sc (.slice none 0 0)) (.sl E [])
theorem NR.rep {w:World} {F:Nat->Prop} {ρ:Nat->Value} {d0 d:D} {v:Value} (h:NR d0 d) (hv:d0.rep w F ρ v):d.rep w F ρ v:=by
 cases h with
 | same=>exact hv
 | nil=>exact ⟨none,0,hv,by simp [maxLen],RowsAt.nil _ _ _ _⟩
theorem NR.reps {w:World} {F:Nat->Prop} {ρ:Nat->Value}:∀{l0 l:List D} {vs:List Value},All2 NR l0 l->All2 (D.rep w F ρ) l0 vs->All2 (D.rep w F ρ) l vs
 | [],[],[],_,_=>trivial
 | _ :: _,_ :: _,_ :: _,h,k=>⟨h.1.rep k.1,NR.reps h.2 k.2⟩
 | [],_ :: _,_,h,_=>h.elim
 | _ :: _,[],_,h,_=>h.elim
 | [],[],_ :: _,_,k=>k.elim
 | _ :: _,_ :: _,[],_,k=>k.elim
section
variable {P:Program} {o:Oper} {s:Mst}
theorem lT {t e:TypeId} {x y:Operand} {row:Bool} {n m i k off:Nat} {α:Type} {E:El α} {l l':List α} {u z:α} {ds:List D} [I:TI P t row n] [J:Dp E] (ho:o.op = .store t x y) (hx:s.ev x = .c (.optr k m i off)) (hk:s.h k=some (.arr e E l)) (hm:E.n=m) (hu:l[i]? = some u)
  (hd:(s.ev y).cells=some ds) (hok:ds.all (okD s.h)=true) (hno:iW ds=[]) (hn:ds.length=n) (hl:off+n<=m) (hz:All2 NR ((J.deep u).take off++ds++(J.deep u).drop (off+n)) (J.deep z)) (hl':l.set i z=l'):LOp P o s [k] ⟨.c .any,[(k,some (.arr e E l'))],[]⟩:=by
 intro c st ρ a w hr h1 h2 _ h4;subst hl';subst hm;have he:=h1 x (by simp [ho,Op.operands]);have he2:=h1 y (by simp [ho,Op.operands]);rw [hx] at he;rw [<-he2] at hd;have hv:=hr.ev x;rw [he] at hv;obtain ⟨g,len,cap,hg,hv⟩:=hv;have hk':=(h2 k (by simp [aX])).trans hk;have hil:i<l.length:=(List.getElem?_eq_some_iff.1 hu).1;have hui:l[i]=u:=by rw [qGg hil] at hu;exact Option.some.inj hu
 obtain ⟨xs,hown,hreps⟩:=hr.hp k _ hk';have hown0:=hown;rw [hg] at hown;obtain rfl:len=l.length:=by
  rcases hown.2 with ⟨hv,_⟩|⟨g',cap',cur,hv,_⟩
  ·cases hv
  ·injection hv
 obtain ⟨hc1,hc2⟩:=TV.cells_rep (hr.ev y) hd fun q hq u hu=>hr.okD (ji (List.all_eq_true.1 hok q hq) fun j hj=>by have:=gv (hj▸hq);rw [hno] at this;simp [aX] at this) hu;generalize hvs:(a.eval y).cells.toList=vs at *
 have hsz:vs.length=n:=by rw [<-hc1.length,hn]
 have hxl:=hown.1;have hin:i*E.n+E.n<=l.length*E.n:=by have:=Nat.mul_le_mul_right E.n (show i+1<=l.length from hil);rwa [Nat.add_mul,Nat.one_mul] at this
 have hst:=run_storeCells_cells (P:=P) g (i*E.n+off) vs 0 w (fun j hj=>by have:=(fg hown (j:=i*E.n+off+j) (by omega)).1;simpa using this) (fun j hj=>by have:=(fg hown (j:=i*E.n+off+j) (by omega)).2;simpa using this) hc2;simp only [Nat.add_zero] at hst;obtain ⟨cs,hcs1,hcs2⟩:=hreps.get i hil;have hcl:=E.len hcs1;rw [hui] at hcs1;have hcs:cs=(xs.drop (i*E.n)).take E.n:=by
  apply List.ext_getElem?
  intro j;rw [List.getElem?_take];by_cases hj:j<E.n
  ·rw [if_pos hj,List.getElem?_drop,hcs2 j hj]
  ·rw [if_neg hj,List.getElem?_eq_none (by omega)]
 have hz':E.rep w (Fz c st.h ρ w) z (cs.take off++vs++cs.drop (off+n)):=J.put (ρ:=ρ) (NR.reps hz ((((J.get hcs1).take off).append hc1).append ((J.get hcs1).drop (off+n))));have hrow:=fy vs (i*E.n+off) w xs hown (by omega);rw [oM (n:=E.n) (by omega) hcs (by omega),hsz] at hrow;have hkb:kb (ρ k)=some g:=by rw [hg];rfl
 have hsize:=cm (g:=g) vs (i*E.n+off) w;have hoth:∀b,b≠g->(w.setCells g (i*E.n+off) vs).heap[b]? = w.heap[b]?:=fun b hb=>cf vs _ w b hb;have hbel:=dm (B:=0) (w:=w) (Nat.zero_le g) vs (i*E.n+off) w (Below.refl _ _);have hkk:∀k':Nat,aL [(k,some (Box.arr e E (l.set i z)))] k'=true->k'=k:=fun k' h=>by
  exact UM
 have hfz:∀b,Fz c st.h ρ w b->Fz c (hput [(k,some (Box.arr e E (l.set i z)))] st.h) ρ (w.setCells g (i*E.n+off) vs) b/\(w.setCells g (i*E.n+off) vs).heap[b]? = w.heap[b]?:=fun b ⟨f1,f2,f3⟩=>by
  have hbg:b≠g:=fun e=>f3 k _ hk' (by rw [hkb,e]);refine ⟨⟨f1,by rw [hsize];exact f2,fun k' bx hk2=>?_⟩,hoth b hbg⟩;simp only [hput] at hk2;cases h9:k.beq k' with
  | true=>rw [<-qNb h9,hkb];intro e;injection e with e;exact hbg e.symm
  | false=>rw [h9] at hk2;exact f3 k' bx hk2
 refine Oper.wp_skip (w':=w.setCells g (i*E.n+off) vs) ?_ ⟨ρ,hr.app (e:=⟨.c .any,[(k,some (.arr e E (l.set i z)))],[]⟩) h4 (fun k h=>by simp [aX] at h) (fun _ _=>rfl) (fun k' h=>.inr (by rw [hkk k' h];exact hr.nfh hk')) ⟨hbel.os,hbel.tape,hbel.output,hbel.size,fun b hlt hn=>hoth b fun e=>hn ⟨k,_,by simp [aL],hk',by rw [hkb,e]⟩⟩ ?_ ?_ (fun k h=>by simp [TV.has,V0.has,D.has] at h) ?_ ?_ trivial⟩
 ·unfold execOp;rw [ho];have hi:=I.s;cases hq:P.info? t with
  | none=>simp [hq] at hi
  | some ti =>
   have hs:(a.eval y).cells.size=ti.size:=by
    simp [hq] at hi;rw [<-Array.length_toList,hvs];omega
   simp only [hv,Instr.storeAt,Instr.sureAddr,Sem.run_bind,Sem.run_pure,Result.andThen_ok];have h3:(storeVar t ⟨g,i*E.n+off,none⟩ (a.eval y)).run P w = .ok () (w.setCells g (i*E.n+off) vs):=by
    simp [storeVar,sizeOf,typeInfo,hq,hs,hvs,hst]
   rw [h3];rfl
 ·intro k' bx g' h _ hg';exact U6
 ·intro k1 k2 _ _ _ h h' _ _ _ _;exact VM
 ·intro k1 k2 bx h hp hx;exact UJ
 ·intro k2 bx h hp;rw [hkk k2 h] at hp ⊢;simp only [hput,Nat.beq_refl,qCt,Option.some.injEq] at hp;subst hp;refine ⟨_,by rw [List.length_set,hg];exact hrow,?_⟩;exact (Reps.set hreps hz' hil).same (fun b hb=>(hfz b hb).2) fun b hb=>(hfz b hb).1
end
theorem All2.setAt {α:Type _} {β:Type _} {R:α->β->Prop}:∀{l:List α} {m:List β} {i:Nat} {x y:α},All2 R l m->l[i]? = some y->(∀u,R y u->R x u)->All2 R (l.set i x) m
 | [],_,_,_,_,_,h,_=>by simp at h
 | _ :: _,[],_,_,_,h,_,_=>h.elim
 | a :: l,b :: m,0,x,y,h,hi,hr=>by
  simp at hi;subst hi;exact ⟨hr b h.1,h.2⟩
 | a :: l,b :: m,i+1,x,y,h,hi,hr=>⟨h.1,All2.setAt (i:=i) h.2 (by simpa using hi) hr⟩
section
variable {P:Program} {nt:Nat} {Ks:List Nat} {Q:Exit->Mst->Prop} {s:Mst}
theorem lU {x:Code} {α:Type} {ty:TypeId} {cs new:List D} (k0 off k:Nat) (e:TypeId) (E:El α) (h0:s.h k0=some (.box ty cs)) (hc0:cs[off]? = some (.sc (.slice none 0 0))) (hf:s.f k=true) (hn:cs.set off (.own k)=new)
  (h:AW P nt Ks x Q ((s.app none ⟨.c .any,[(k,some (.arr e E []))],[k]⟩).app none ⟨.c .any,[(k0,some (.box ty new))],[]⟩)):AW P nt Ks x Q s:=by
 intro c ρ a w hc hK hr;subst hn;have hkk:∀k':Nat,aL [(k,some (Box.arr e E ([]:List α)))] k'=true->k'=k:=fun k' h=>by
  exact UM
 have h2:=hr.app (ρ':=upd ρ k (.slice none 0 0)) (w':=w) (dst:=none) (v:=undef) (e:=⟨.c .any,[(k,some (.arr e E []))],[k]⟩) (fun d hd=>by cases hd)
  (fun k' hk=>by have h9:k'=k:=(by simp [aX] at hk;exact hk.symm);subst h9;exact ⟨hf,by simp [aL]⟩)
  (fun k' hk=>dW (by simpa [aX] using hk)) (fun k' hk=>.inl (by rw [hkk k' hk];simp [aX])) (Frx.refl _ _)
  (fun k' bx g hk _ hg=>by rw [hkk k' hk,aW] at hg;cases hg) (fun k1 k2 b b' g h1 h2 _ _ _ _=>by rw [hkk k1 h1,hkk k2 h2]) (fun k' hk=>by simp [TV.has,V0.has,D.has] at hk) (fun k1 k2 bx hk hb hx=>by
   rw [hkk k2 hk] at hb;simp only [Go.Proofs.YthpgjkjgkhjjlaaGreatDoor.hput,Nat.beq_refl,qCt,Option.some.injEq] at hb;subst hb;simp [Box.has] at hx)
  (fun k' bx hk hb=>by
   rw [hkk k' hk] at hb ⊢;simp only [Go.Proofs.YthpgjkjgkhjjlaaGreatDoor.hput,Nat.beq_refl,qCt,Option.some.injEq] at hb;subst hb;rw [aW];exact ⟨[],World.ownsRow_nil _ _ _ _,rfl⟩)
  trivial
 have hne:k.beq k0=false:=by
  cases h9:k.beq k0 with
  | false=>rfl
  | true=>rw [<-qNb h9,hr.wf.h k hf] at h0;cases h0
 have h0':(s.app none ⟨.c .any,[(k,some (.arr e E []))],[k]⟩).h k0=some (.box ty cs):=by
  show hput _ _ _=_;simp only [Go.Proofs.YthpgjkjgkhjjlaaGreatDoor.hput,hne,qCf];exact h0
 obtain ⟨g,vs,hg,hB,hA,h1⟩:=h2.hp k0 _ h0';refine h c _ a w hc hK (h2.setBox (dst:=none) (v:=undef) (fun d hd=>by cases hd) h0' hg ⟨rfl,rfl,rfl,Nat.le_refl _,fun _ _ _=>rfl⟩ hB (hA.setAt hc0 fun u hu=>?_) h1 fun k' hh=>?_)
 ·show u=upd ρ k (.slice none 0 0) k;rw [aW];exact hu
 ·obtain ⟨d,hd,hd2⟩:=List.any_eq_true.1 hh;rcases List.mem_or_eq_of_mem_set hd with hd|rfl
  ·exact h2.nfb h0' (by simp only [Box.has];exact List.any_eq_true.2 ⟨d,hd,hd2⟩)
  ·simp only [D.has] at hd2;have:k=k':=qNb hd2;subst this;simp [Mst.app,aX]
end
section
variable {P:Program} {nt:Nat} {Ks:List Nat} {Q:Exit->Mst->Prop} {s:Mst}
theorem m8 (id:Nat) {l:List Oper} {dr:Bool} {y:Code} (h:AW P nt Ks (.seq (.region id l.toArray dr) y) Q s):AW P nt Ks (.seq (.region id l.toArray dr) y) Q s:=h
theorem m9 (id:Nat) {l:List Oper} {dr:Bool} (h:AW P nt Ks (.region id l.toArray dr) Q s):AW P nt Ks (.region id l.toArray dr) Q s:=h
theorem LK {x:Code} {α:Type} {ty e:TypeId} {E:El α} {l:List α} {cs new:List D} (k0 off k:Nat) (h0:s.h k0=some (.box ty cs)) (hc0:cs[off]? = some (.own k)) (hk:s.h k=some (.arr e E l)) (hn:cs.set off (.ocut k)=new)
  (h:AW P nt Ks x Q (s.app none ⟨.c .any,[(k0,some (.box ty new))],[]⟩)):AW P nt Ks x Q s:=by
 intro c ρ a w hc hK hr;subst hn;obtain ⟨g,vs,hg,hB,hA,h1⟩:=hr.hp k0 _ h0;refine h c ρ a w hc hK (hr.setBox (dst:=none) (v:=undef) (fun d hd=>by cases hd) h0 hg ⟨rfl,rfl,rfl,Nat.le_refl _,fun _ _ _=>rfl⟩ hB (hA.setAt hc0 fun u hu=>?_) h1 fun k' hh=>?_)
 ·have hu:u=ρ k:=hu;rw [hu];exact pG hr hk rfl
 ·obtain ⟨d,hd,hd2⟩:=List.any_eq_true.1 hh;rcases List.mem_or_eq_of_mem_set hd with hd|rfl
  ·exact hr.nfb h0 (by simp only [Box.has];exact List.any_eq_true.2 ⟨d,hd,hd2⟩)
  ·simp only [D.has] at hd2;have:k=k':=qNb hd2;subst this;exact hr.nfh hk
end
theorem Ee {s:Mst} {α:Type} {E:El α} [J:Dp E] {x:Operand} {k n:Nat} {e:TypeId} {cs:List D} (m:List α) (hx:s.ev x = .c (.slb k n)) (hk:s.h k=some (.box e cs)) (hm:All2 NR cs (m.flatMap J.deep)) (hn:m.length=n):N5 s E x m [k]:=fun c st ρ a w hr he h2=>by
 have hv:=hr.ev x;rw [he,hx] at hv;obtain ⟨g,hg,hv⟩:=hv;subst hn;obtain ⟨vs,hB,hA,_⟩:=hr.box ((h2 k (by simp [aX])).trans hk) hg;exact ⟨_,_,vs,hv,ga (NR.reps hm hA),fun _=>⟨g,0,rfl,fun j u hu=>by rw [Nat.zero_add];exact hB.cellx j (by simpa using hu)⟩⟩
theorem AV {s:Mst} {α:Type} {E:El α} [J:Dp E] {x:Operand} {k n:Nat} {e:TypeId} {cs:List D} (m:List α) (hx:s.ev x = .c (.slb k n)) (hk:s.h k=some (.box e cs)) (hn:m.length=n) (hm:All2 NR cs (m.flatMap J.deep):=by (repeat' (first|exact trivial|exact .same _|exact .nil|refine ⟨?_,?_⟩));first|done|fail):N5 s E x m [k]:=Ee m hx hk hm hn
theorem Ia (m:Int):FSpec prog 192 [iV m] [] [] (.b (cL m)) []:=by
 unfold cL;refine a7 func192 ?_;repeat' (first|refine av ?_ ?_|refine aq ?_|exact aw|refine ap fun hb=>?_)
 all_goals (refine eU ?_;simp [*])
theorem pZ (a b:Int):FSpec prog 181 [iV a,iV b] [] [] (.b (es a b)) [] :=
 de (fun b W=>by kernel_rfl) rfl fun w S ρ vs _ h=>by
  match vs,h with
  | [_,_],⟨rfl,rfl,_⟩=>exact (xG a b w).mono fun _ _=>jc
theorem xo (r:Rs):FSpec prog 191 [r.a] [] [] (.b (br r)) []:=by
 unfold br;refine a7 func191 ?_;repeat' (first|refine av ?_ ?_|refine aq ?_|exact aw|refine ap fun hb=>?_)
 all_goals (refine eU ?_;first|(simp [*];done)|(simp [*];omega)|(simp [*] <;> rfl))
theorem fp (r:Rs) (x:Am):FSpec prog 123 [r.a,x.a] [] [] (.b (aS r x)) []:=by
 unfold aS;refine a7 func123 ?_;have:=xo r;have:=Ia x.mode;repeat' (first|refine av ?_ ?_|refine gV ?_|refine aq ?_|exact aw|refine ap fun hb=>?_)
 all_goals (refine eU ?_;simp [*] <;> rfl)
theorem i4 (x:Am):FSpec prog 180 [x.a] [] [] (.b (aR x)) []:=by
 refine a7 func180 ?_;refine ao ?_;exact eU rfl
theorem Ib (r:Rs) (x:Am):FSpec prog 179 [r.a,x.a] [] [] (.b (bQ r x)) []:=by
 unfold bQ;refine a7 func179 ?_;have:=xo r;have:=i4 x;have:=fp r x;repeat' (first|refine av ?_ ?_|refine gV ?_|refine aq ?_|exact aw|refine ap fun hb=>?_)
 all_goals (refine eU ?_;simp [*])
theorem gX (r:Rs) (x y:Am):FSpec prog 115 [r.a,x.a,y.a] [] [] (.b (bq r x y)) []:=by
 unfold bq;refine a7 func115 ?_;repeat' (first|refine av ?_ ?_|(refine aa 9 rfl ?_;first|(refine cB [] (Ib r x) ?_)|(refine cB [] (Ib r y) ?_)|(refine cB [] (i4 x) ?_)|(refine cB [] (i4 y) ?_)|(refine cB [] (pZ x.mode y.mode) ?_))|refine aq ?_|exact aw|refine ap fun hb=>?_)
 all_goals (refine eU ?_;simp [*])
theorem Sq (a b:Int):FSpec prog 305 [iV a,iV b] [] [] (.i (oR a b)) []:=by
 obtain ⟨v,hv⟩:=qGe (oR a b);rw [hv];refine a7 func305 ?_;refine ao ?_;refine ab (fun x:Nat×Int=>x.1<=5/\x.2+x.1=6/\LL a b x.1 x.2=v) (fun x=>bP [] [(0,.i a),(1,.i b),(5,.i x.2)] []) (fun x=>x.1) (5,1) ⟨by decide,rfl,hv⟩ aT ?_;rintro ⟨n,m⟩ ⟨h5,hm,hs⟩;dsimp only at *
 cases n with
 | zero =>
  refine ao ?_;exact eU (congrArg _ hs)
 | succ n =>
  unfold LL at hs;repeat' (first|refine av ?_ ?_|(refine aa 9 rfl ?_;first|(refine cB [] (pZ m a) ?_)|(refine cB [] (pZ m b) ?_))|refine aq ?_|exact aw|refine ap fun hb=>?_)
  ·refine eU (congrArg _ ?_);rw [<-hs];simp [*]
  all_goals
   refine ⟨(n,m+1),⟨by dsimp only;omega,by dsimp only;omega,?_⟩,by dsimp only;omega,?_⟩
   ·rw [<-hs];simp [*]
   ·exact aT
theorem On (r:Rs) (l:List Am):FSpec prog 333 [r.a,.one (.sl I9 l)] [] [] (.b (iX r l)) [] :=
 vh (fun b W=>by kernel_rfl) rfl fun w S ρ vs hp hS h=>by
  match vs,h with
  | [_,_],⟨h1,⟨A,c,rfl,hc,hR⟩,_⟩=>rw [Rs.open h1];exact (xI r A w.heap.size c l w hp.1 (Nat.le_trans hc.1 hc.2) (Nat.le_refl _) (hR.lo hS)).mono fun _ _=>jc
abbrev Ai (d:Nat) (k:Int) (a:Tm) (l:List Ex):List D:=[.sc (.int .i64 k),.sc (.string a.name),.sc (.int .i64 a.am.mode),.sc (.int .i64 a.am.units),.sl (pA d) l]
theorem Ck (s:ByteArray):FSpec prog 175 [.one (.sc (.string s))] [] [] (.b (dh s.toList)) [] :=
 de (fun b W=>by kernel_rfl) rfl fun w S ρ vs _ h=>by
  match vs,h with
  | [_],⟨rfl,_⟩=>exact (mD s w).mono fun e w' h=>⟨_,h.1,by rw [h.2];exact Below.refl _ _,rfl⟩
theorem QN:∀(x:Ex) (d dp:Nat),dp<=5->FSpec prog 174 [x.a d,iV dp] [] [] (.tup [iV (iC x dp).1,iV (iC x dp).2]) []:=by
  refine Ex.ind (fun k a l ih=>?_);intro d dp hdp;obtain ⟨r,hr⟩:=qGe (iC (.mk k a l) dp);rw [hr];rw [Dt] at hr;show FSpec prog 174 [.ag (Ai d k a l),iV dp] [] [] (.tup [iV r.1,iV r.2]) [];refine a7 func174 ?_;refine aY (fun c ρ a w hr=>jP (t:=0) (i:=4) hr rfl rfl) (fun hx=>?_);obtain ⟨hlen,hne⟩:=hx;by_cases hc:4<dp\/24<l.length
  · rw [if_pos hc] at hr
    obtain rfl:=hr;repeat' (first|refine av ?_ ?_|refine aq ?_|exact aw|refine ap fun hb=>?_|(refine fE (qf []) ?_;exact af))
    all_goals (exfalso;omega)
  rw [if_neg hc] at hr;refine ao ?_;refine ab (fun x:Nat×Nat×Nat=>x.1<=l.length/\x.2.1<=24/\x.2.2<=5/\lE (l.drop x.1) dp x.2.1 x.2.2=r) (fun x=>bP [2] [(1,.i dp),(2,.c (.ptr 2 0)),(6,.i x.2.1),(7,.i x.2.2),(8,.i x.1)] [(2,.box 47 (Ai d k a l))]) (fun x=>l.length-x.1) (0,1,0) ⟨Nat.zero_le _,by decide,by decide,hr⟩ aT ?_;rintro ⟨i,n,m⟩ ⟨hi,hn,hm,hs⟩;dsimp only at *
  by_cases hlt:i<l.length
  case neg =>
    rw [qDn (by omega)] at hs;obtain rfl:=hs;refine ao ?_
    (refine fE (qf []) ?_;exact af)
  rw [qDc hlt,uS] at hs;obtain ⟨e,rfl⟩:=hne (by omega);obtain ⟨⟨n1,m1⟩,h1⟩:∃p,iC l[i] (dp+1)=p:=⟨_,rfl⟩;have h5:n1<=25/\m1<=5:=by
    rcases xT l[i] (dp+1) with ⟨a1,a2,a3⟩|⟨a1,a3⟩ <;> rw [h1] at a3 <;> injection a3 <;> omega
  have kS:FSpec prog 174 [l[i].a e,iV ((dp:Int)+1)] [] [] (.tup [iV n1,iV m1]) []:=by
    have:=ih l[i] (List.getElem_mem hlt) e (dp+1) (by omega);rw [h1] at this;exact this
  rw [h1] at hs;dsimp only at hs;clear ih h1;repeat' (first|refine av ?_ ?_|refine gV ?_|refine aq ?_|exact aw|refine ap fun hb=>?_)
  all_goals first
    | (obtain rfl:(25,0)=r:=by rw [<-hs,if_pos (by omega)]
       refine fE (qf []) ?_;exact af)
    | (refine ⟨(i+1,n+n1,max m m1),⟨by dsimp only;omega,by dsimp only;omega,by dsimp only;omega,by rw [<-hs,if_neg (by omega),show (if m<m1 then m1 else m)=max m m1 by split <;> omega]⟩,by dsimp only;omega,?_⟩
       dsimp only;exact aT)
theorem Ic (x:Ex) (d:Nat) {n:Nat} (hn:(if Ds x=true then x.cnt else 0)=n):FSpec prog 111 [x.a d] [] [] (.i n) []:=by
 obtain ⟨⟨a,b⟩,h⟩:∃p,iC x 1=p:=⟨_,rfl⟩;have h0:=K1 x;have kS:FSpec prog 174 [x.a d,iV 1] [] [] (.tup [iV a,iV b]) []:=by
  have:=QN x d 1 (by decide);rw [h] at this;exact this
 have h1:Ds x=true->a=x.cnt:=fun e=>by
  rcases xT x 1 with ⟨a1,a2,a3⟩|⟨a1,a3⟩
  ·rw [h] at a3;injection a3
  ·rw [a3] at h0;simp [e] at h0
 rw [h] at h0;refine a7 func111 ?_;repeat' (first|refine av ?_ ?_|refine gV ?_|refine aq ?_|exact aw|refine ap fun hb=>?_)
 ·obtain rfl:0=n:=by rw [<-hn,if_neg];rw [<-h0];omega
  exact U4
 ·obtain rfl:a=n:=by
   have h2:Ds x=true:=by
    have h:¬24<a:=by omega
    rw [h0] at h;simpa using h
   rw [<-hn,if_pos h2];exact h1 h2
  exact U4
def Uj:Option (List Tm)->TV
 | some _=>.tup [.one (.own 1),.one (.sc (.bool true))]
 | none=>.tup [.one .any,.one (.sc (.bool false))]
def Uk (o:Option (List Tm)):List (Nat×Option Box):=[(0,none),(1,o.map (.arr 44 c6))]
theorem Sr:∀(x:Ex) (d:Nat) (acc:List Tm),acc.length+x.cnt<=1000->FSpec prog 112 [.one (.own 0),x.a d] [(0,.arr 44 c6 acc)] [1] (Uj (BR x acc)) (Uk (BR x acc)):=by
 refine Ex.ind (fun k a l ih=>?_);intro d acc hl;rw [Ex.cnt_mk] at hl;obtain ⟨R,hR⟩:=qGe (BR (.mk k a l) acc);rw [hR];rw [Hj] at hR;show FSpec prog 112 [.one (.own 0),.ag (Ai d k a l)] [(0,.arr 44 c6 acc)] [1] (Uj R) (Uk R);cases hE:l.isEmpty with
 | true =>
  obtain rfl:=List.isEmpty_iff.1 hE;rw [hE,qCt,Hi] at hR;cases hk:decide (k=0) && iD a with
  | false =>
   rw [hk] at hR;obtain rfl:none=R:=hR;refine a7 func112 ?_;have:=Ck a.name;have:=pV a.am;repeat' (first|refine av ?_ ?_|refine gV ?_|refine aq ?_|exact aw|refine ap fun hb=>?_|(refine fE (qf []) ?_;exact .tup ⟨.one (.any _),.one (gc rfl),trivial⟩))
   all_goals (exfalso;revert hk;simp [iD, *])
  | true =>
   rw [hk,qCt] at hR;obtain ⟨h0,h1,h2⟩:k=0/\dh a.name.toList=true/\cr a.am=true:=by simpa [iD] using hk
   refine iF func112 rfl (fun b W=>by kernel_rfl) (by cases R <;> rfl) (qNl rfl) ?_;have:=Ck a.name;have:=pV a.am;refine ao ?_;refine ab (fun i=>i<=acc.length/\lF a (acc.drop i)=lF a acc) (fun i=>bP [0,3] [(0,.c (.own 0)),(3,.c (.ptr 3 0)),(6,.i i)] [(3,.box 47 (Ai d k a [])),(0,.arr 44 c6 acc)]) (fun i=>acc.length-i) 0 ⟨Nat.zero_le _,rfl⟩ aT ?_;rintro i ⟨hi,hs⟩;by_cases hlt:i<acc.length
   ·rw [qDc hlt,r7] at hs;repeat' (first|refine av ?_ ?_|refine aq ?_|exact aw|refine ap fun hb=>?_)
    ·obtain rfl:some acc=R:=by rw [<-hR,iU,<-hs];simp [hb]
     refine fE (qf [(1,0)]) ?_;exact af
    ·refine ⟨i+1,⟨by omega,?_⟩,by omega,?_⟩
     ·rw [<-hs];simp [hb]
     ·exact aT
   ·obtain rfl:some (acc++[a])=R:=by rw [<-hR,iU,<-hs,qDn (by omega)];rfl
    repeat' (first|refine av ?_ ?_|(refine aa 8 rfl ?_;refine be (ae rfl rfl (aH rfl rfl) (aN [a] rfl rfl rfl rfl) rfl aQ aQ) rfl rfl rfl ?_)|refine aq ?_|exact aw|refine ap fun hb=>?_|(refine fE (qf [(1,50)]) ?_;exact af))
 | false =>
  have hl0:0<l.length:=List.length_pos_iff.2 fun e=>by rw [e] at hE;cases hE
  rw [hE,qCf] at hR;refine iF func112 rfl (fun b W=>by kernel_rfl) (by cases R <;> rfl) (qNl rfl) ?_;refine aY (fun c ρ a w hr=>jP (t:=1) (i:=4) hr rfl rfl) (fun hx=>?_);obtain ⟨hlen,hne⟩:=hx;obtain ⟨e,rfl⟩:=hne hl0;cases hg:r9 k a l with
  | false =>
   rw [hg] at hR;obtain rfl:=hR;repeat' (first|refine av ?_ ?_|refine aq ?_|exact aw|refine ap fun hb=>?_|(refine fE (qf []) ?_;exact .tup ⟨.one (.any _),.one (gc rfl),trivial⟩))
   all_goals (exfalso;revert hg;simp [r9, *];try omega)
  | true =>
   rw [hg,qCt] at hR;obtain ⟨⟨h1,h2⟩,h3⟩:(1<=k/\k<=(l.length:Int))/\a=jK:=by simpa [r9] using hg
   subst h3;refine ao ?_;refine ab (fun x:Nat×List Tm=>x.1<=l.length/\x.2.length+i9 (l.drop x.1)<=1000/\FV (l.drop x.1) x.2=R) (fun x=>bP [0,3,1000] [(0,.c (.own 1000)),(3,.c (.ptr 3 0)),(7,.i x.1)] [(3,.box 47 (Ai (e+1) k jK l)),(1000,.arr 44 c6 x.2)]) (fun x=>l.length-x.1) (0,acc) ⟨Nat.zero_le _,by simpa using (by omega),hR⟩ (by exact bo (qf [(1000,0)])) ?_;rintro ⟨i,acc1⟩ ⟨hi,hc,hs⟩;dsimp only at *
   by_cases hlt:i<l.length
   ·rw [qDc hlt] at hs hc;rw [Az] at hs;rw [ig] at hc;have kS:=ih l[i] (List.getElem_mem hlt) e acc1 (by omega);have hlen2:=K3 l[i] acc1;clear ih;cases h1:BR l[i] acc1 with
    | none =>
     rw [h1] at hs kS;obtain rfl:=hs;repeat' (first|refine av ?_ ?_|refine aa 9 rfl (cH (qf [(0,1000),(1,1001)]) kS ?_)|refine aq ?_|exact aw|refine ap fun hb=>?_|(refine fE (qf []) ?_;exact .tup ⟨.one (.any _),.one (gc rfl),trivial⟩))
    | some r =>
     rw [h1] at hs kS;have hlen3:=hlen2 r h1;repeat' (first|refine av ?_ ?_|refine aa 9 rfl (cH (qf [(0,1000),(1,1001)]) kS ?_)|refine aq ?_|exact aw|refine ap fun hb=>?_)
     exact Vk
   ·rw [qDn (by omega)] at hs;obtain rfl:=hs;refine ao ?_
    (refine fE (qf [(1,1000)]) ?_;exact af)
theorem p6 (d:Nat) (x:Ex):FSpec prog 65 [x.a d] [] [] (.tup [.one (.sl c6 (bJ x)),.one (.sc (.bool (kv x)))]) []:=by
 obtain ⟨v,hv⟩:=qGe (kv x);obtain ⟨T,hT⟩:=qGe (bJ x);have hcl:=xU x [];rw [hv,hT];unfold bJ at hT;rw [hv] at hT;unfold kv at hv;have hcnt:=x.cnt_pos;cases hk:Ds x with
 | false =>
  obtain rfl:false=v:=by rw [<-hv,hk];rfl
  obtain rfl:=hT;have kN:=Ic x d (n:=0) (by rw [hk];rfl);refine a7 func65 ?_;refine ao ?_
  (refine fE (qf []) ?_;exact af)
 | true =>
  have kN:=Ic x d (n:=x.cnt) (by rw [hk];rfl);have h24:x.cnt<=24:=by have h:=hk;simp [Ds] at h;exact h.2
  have kA:=(Sr x d [] (by simp;omega)).nil0 (by decide) fun q k=>rfl;rw [hk,Bool.true_and] at hv;rw [Hk] at kA;cases hs:C9 x with
  | false =>
   obtain rfl:false=v:=by rw [<-hv,hs];rfl
   obtain rfl:=hT;rw [hs] at kA;refine a7 func65 ?_;exact Vy
  | true =>
   rw [hs,Bool.true_and] at hv;rw [hs,if_pos rfl] at kA;obtain ⟨L,hL⟩:=qGe (fV x []);rw [hL] at hv hT kA hcl;simp only [List.length_nil,Nat.zero_add] at hcl;refine a7 func65 ?_;by_cases h8:8<L.length
   ·have hno:¬sa L:=fun h=>by have:=h.1;omega
    obtain rfl:false=v:=by rw [<-hv,qDf hno]
    obtain rfl:=hT;exact Vy
   repeat' (first|refine av ?_ ?_|(refine aa 9 rfl ?_;first|(refine cB [] kN ?_)|(refine cH (qf [(0,1000),(1,1001)]) kA ?_))|refine aq ?_|exact aw|refine ap fun hb=>?_)
   refine ab (fun i=>i<=L.length/\Dist L i 0) (fun i=>bP [1001] [(4,.c (.own 1001)),(6,.i i)] [(1001,.arr 44 c6 L)]) (fun i=>L.length-i) 0 ⟨Nat.zero_le _,Dist.start L⟩ aT ?_;rintro i ⟨hi,hd⟩;by_cases hlt:i<L.length
   ·refine ao ?_;refine ab (fun j=>j<=i/\Dist L i j) (fun j=>bP [1001] [(4,.c (.own 1001)),(6,.i i),(7,.i j)] [(1001,.arr 44 c6 L)]) (fun j=>i-j) 0 ⟨Nat.zero_le _,hd⟩ aT ?_;rintro j ⟨hj,hd⟩;by_cases hji:j<i
    ·repeat' (first
      | refine av ?_ ?_
      | refine aq ?_
      | exact aw|refine ap fun hb=>?_)
     ·have hno:¬sa L:=Dist.not hlt hji (toList_inj hb);obtain rfl:false=v:=by rw [<-hv,qDf hno]
      obtain rfl:=hT;exact VU
     ·refine ⟨j+1,⟨by omega,hd.step hlt hji fun e=>hb (by rw [e])⟩,by omega,?_⟩;exact aT
    ·refine ao ?_;refine ⟨i+1,⟨by omega,hd.row hji⟩,by omega,?_⟩;exact aT
   ·have hok:sa L:=⟨by omega,hd.all hlt⟩;obtain rfl:true=v:=by rw [<-hv,qDt hok]
    obtain rfl:=hT;refine ao ?_
    (refine fE (qf []) ?_;exact af)
theorem QO (d:Nat) (x:Ex):FSpec prog 225 [x.a d] [] [] (.b (kv x)) []:=by
 refine a7 func225 ?_;have:=p6 d x;exact UG
theorem Oq (d:Nat) (x:Ex):FSpec prog 33 [x.a d] [] [] (.c (.sl c6 (bJ x))) []:=by
 refine a7 func33 ?_;have:=p6 d x;exact UG
theorem Ih {P:Program} {o:Oper} {s:Mst} {ts:Array TypeId} {x y:Operand} {a b:Int} (ho:o.op = .call { callee:=.builtin .max,args:=#[x,y],argTypes:=ts }) (hx:s.ev x = .i a) (hy:s.ev y = .i b):LOp P o s [] ⟨.i (max a b),[],[]⟩ :=
 iz (by rw [ho];rfl) hx hy fun ev w hx hy=>by
  have h:(if b > a then b else a)=max a b:=by rw [Int.max_def];split <;> split <;> omega
  simp [execOp,ho,hx,hy,resolve,invoke,builtin,Builtin.max_,Builtin.max2,h]
theorem Mb (s:ByteArray):FSpec prog 185 [.one (.sc (.string s))] [] [] (.b (dh s.toList)) [] :=
 de (fun b W=>by kernel_rfl) rfl fun w S ρ vs _ h=>by
  match vs,h with
  | [_],⟨rfl,_⟩=>exact (oy s w).mono fun e w' h=>⟨_,h.1,by rw [h.2];exact Below.refl _ _,rfl⟩
theorem St:∀(x:Ex) (d lev n:Nat),lev<=5->n<=24->FSpec prog 284 [x.a d,iV lev,.one (.ptr 0 0)] [(0,.box 3 [.sc (.int .i64 n)])] [] (.i (ku x lev n).1) [(0,some (.box 3 [.sc (.int .i64 (ku x lev n).2)]))]:=by
 refine Ex.ind (fun k a l ih=>?_);intro d lev n hlev hn;obtain ⟨r,hr⟩:=qGe (ku (.mk k a l) lev n);rw [hr];rw [Hg] at hr;show FSpec prog 284 [.ag (Ai d k a l),iV lev,.one (.ptr 0 0)] [(0,.box 3 [.sc (.int .i64 n)])] [] (.i r.1) [(0,some (.box 3 [.sc (.int .i64 r.2)]))];refine a7 func284 ?_;refine aY (fun c ρ a w hr=>jP (t:=0) (i:=4) hr rfl rfl) (fun hx=>?_);obtain ⟨hlen,hne⟩:=hx;by_cases hc:4<lev\/24<n+1
 ·rw [if_pos hc] at hr;obtain rfl:=hr;repeat' (first|refine av ?_ ?_|refine aq ?_|exact aw|refine ap fun hb=>?_|exact bg|fail)
  all_goals (exfalso;omega)
 rw [if_neg hc] at hr;refine ao ?_;refine ab (fun x:Nat×Nat×Nat=>x.1<=l.length/\x.2.1<=24/\x.2.2<=5/\oz (l.drop x.1) lev x.2.1 x.2.2=r) (fun x=>bP [0] [(1,.i lev),(2,.c (.ptr 0 0)),(7,.i x.2.2),(25,.c (.sl (pA d) l)),(26,.i l.length),(27,.i x.1)] [(0,.box 3 [.sc (.int .i64 x.2.1)])]) (fun x=>l.length-x.1) (0,n+1,0) ⟨Nat.zero_le _,by dsimp only;omega,Nat.zero_le _,hr⟩ aT ?_;rintro ⟨i,n1,m⟩ ⟨hi,hn1,hm,hs⟩;dsimp only at *
 by_cases hlt:i<l.length
 case neg =>
  rw [qDn (by omega)] at hs;obtain rfl:=hs;exact UG
 rw [qDc hlt,xS] at hs;obtain ⟨e,rfl⟩:=hne (by omega);obtain ⟨⟨a1,n2⟩,h1⟩:∃p,ku l[i] (lev+1) n1=p:=⟨_,rfl⟩;have h5:a1<=5/\(a1≠0->n2<=24):=by
  rcases Hh l[i] (lev+1) n1 with ⟨b1,b2,b3⟩|⟨b1,b2,b3⟩ <;> rw [h1] at *
  ·injection b3;omega
  ·dsimp only at b2;omega
 have kS:FSpec prog 284 [l[i].a e,iV ((lev:Int)+1),.one (.ptr 0 0)] [(0,.box 3 [.sc (.int .i64 n1)])] [] (.i a1) [(0,some (.box 3 [.sc (.int .i64 n2)]))]:=by
  have:=ih l[i] (List.getElem_mem hlt) e (lev+1) n1 (by omega) hn1;rw [h1] at this;exact this
 rw [h1] at hs;dsimp only at hs;clear ih h1;repeat' (first|refine av ?_ ?_|(refine aa 9 rfl ?_;first|(refine sx (Ih rfl rfl rfl) ?_)|(refine cH (qf [(0,0)]) kS ?_))|refine aq ?_|exact aw|refine ap fun hb=>?_)
 ·obtain rfl:(0,n2)=r:=by rw [<-hs,if_pos (by omega)]
  exact U4
 ·refine ⟨(i+1,n2,max m a1),⟨by dsimp only;omega,by dsimp only;omega,by dsimp only;omega,by rw [<-hs,if_neg (by omega)]⟩,by dsimp only;omega,?_⟩;dsimp only;exact aT
theorem Gp (x:Ex) (d:Nat) {n:Nat} (hn:(if Ds x then x.dep else 0:Nat)=n):FSpec prog 238 [x.a d] [] [] (.i n) []:=by
 have kM:=St x d 1 0 (by decide) (by decide);rw [NE,hn] at kM;obtain ⟨m,hm⟩:=qGe ((ku x 1 0).2);rw [hm] at kM;refine a7 func238 ?_;repeat' (first|refine av ?_ ?_|refine aa 9 rfl (cH (qf [(0,3)]) kM ?_)|refine aq ?_|exact aw|refine ap fun hb=>?_|exact bg|fail)
def TJ (o:Option (List Tm)):List (Nat×Option Box):=match o with
 | some r=>[(0,some (.box 88 [.own 2])),(1,none),(2,some (.arr 44 c6 r))]
 | none=>[(0,none),(1,none),(2,none)]
def oD:List Tm->List Tm->Tm->Int
 | [],acc,_=>if acc.length=8 then 4 else 0
 | b :: l,acc,a=>bif decide (a=b) then 0 else bif decide (a.name=b.name) then 13 else oD l acc a
theorem yE (b:Tm) (l acc:List Tm) (a:Tm):oD (b :: l) acc a=bif decide (a=b) then 0 else bif decide (a.name=b.name) then 13 else oD l acc a:=rfl
theorem Es (acc:List Tm) (a:Tm):∀l,(iE l acc a=none/\(oD l acc a=4\/oD l acc a=13))\/(∃r,iE l acc a=some r)/\oD l acc a=0
 | []=>by
  unfold iE oD;by_cases h:acc.length=8
  ·rw [if_pos h,if_pos h];exact .inl ⟨rfl,.inl rfl⟩
  ·rw [if_neg h,if_neg h];exact .inr ⟨⟨_,rfl⟩,rfl⟩
 | b :: l=>by
  rw [lH,yE];cases decide (a=b) with
  | true=>exact .inr ⟨⟨_,rfl⟩,rfl⟩
  | false =>
   cases decide (a.name=b.name) with
   | true=>exact .inl ⟨rfl,.inr rfl⟩
   | false=>exact Es acc a l
theorem PI (acc:List Tm) (a:Tm) (h8:acc.length<=8) {c:Int} (hc:oD acc acc a=c) {R:Option (List Tm)} (hR:iE acc acc a=R):FSpec prog 286 [.one (.ptr 0 0),a.a] [(0,.box 88 [.own 1]),(1,.arr 44 c6 acc)] [2] (.i c) (TJ R):=by
 refine iF func286 rfl (fun b W=>by kernel_rfl) (by cases R <;> rfl) (qNl rfl) ?_;refine ao ?_;refine ab (fun i=>i<=acc.length/\oD (acc.drop i) acc a=c/\iE (acc.drop i) acc a=R) (fun i=>bP [0,1,3] [(0,.c (.ptr 0 0)),(3,.c (.ptr 3 0)),(9,.c (.own 1)),(10,.i acc.length),(11,.i i)] [(0,.box 88 [.own 1]),(1,.arr 44 c6 acc),(3,.box 44 [.sc (.string a.name),.sc (.int .i64 a.am.mode),.sc (.int .i64 a.am.units)])]) (fun i=>acc.length-i) 0 ⟨Nat.zero_le _,hc,hR⟩ aT ?_;rintro i ⟨hi,hc,hR⟩;by_cases hlt:i<acc.length
 ·rw [qDc hlt] at hc hR;rw [yE] at hc;rw [lH] at hR;by_cases h1:a=acc[i]
  ·rw [qDt h1] at hc hR;obtain rfl:=hc;obtain rfl:=hR;refine ao ?_
   (refine cc (qf [(2,1)]) ?_;exact af)
  rw [qDf h1,qCf] at hc hR;by_cases h2:a.name=acc[i].name
  ·rw [qDt h2] at hc hR;obtain rfl:=hc;obtain rfl:=hR;repeat' (first|refine av ?_ ?_|refine aq ?_|exact aw|(refine ap fun hb=>?_;first|(exact absurd (by rw [h2]) hb)|skip)|exact bg|fail)
  ·rw [qDf h2] at hc hR;repeat' (first|refine av ?_ ?_|refine aq ?_|exact aw|(refine ap fun hb=>?_;first|(exact absurd (toList_inj hb) h2)|skip))
   refine ⟨i+1,⟨by omega,hc,hR⟩,by omega,?_⟩;exact aT
 ·rw [qDn (by omega)] at hc hR;unfold oD at hc;unfold iE at hR;by_cases h9:acc.length=8
  ·rw [if_pos h9] at hc hR;obtain rfl:=hc;obtain rfl:=hR;exact UG
  ·rw [if_neg h9] at hc hR;obtain rfl:=hc;obtain rfl:=hR;repeat' (first|refine av ?_ ?_|(refine aa 8 rfl ?_;refine be (ae rfl rfl (aH rfl rfl) (aN [a] rfl rfl rfl rfl) rfl aQ aQ) rfl rfl rfl ?_)|refine aq ?_|exact aw|refine ap fun hb=>?_|(refine cc (qf [(2,35)]) ?_;exact af))
theorem Gq (a:Tm):FSpec prog 285 [a.a] [] [] (.b (iD a)) []:=by
 have hu:=Di a.am.mode a.am.units;unfold iD;rw [show cr a.am=_ from hu];refine a7 func285 ?_;repeat' (first|refine av ?_ ?_|(refine aa 9 rfl ?_;first|(refine cB [] (Mb a.name) ?_)|(refine cB [] (fp ⟨⟨#[]⟩,1,1,0⟩ a.am) ?_)|(refine cB [] (fp ⟨⟨#[]⟩,2,8,0⟩ a.am) ?_))|refine aq ?_|exact aw|refine ap fun hb=>?_)
 all_goals (refine eU ?_;simp [*])
theorem Ow:∀(x:Ex) (d:Nat) (acc:List Tm),acc.length<=8->FSpec prog 239 [x.a d,.one (.ptr 0 0)] [(0,.box 88 [.own 1]),(1,.arr 44 c6 acc)] [2] (.b (Jl x acc).isSome) (TJ (Jl x acc)):=by
 refine Ex.ind (fun k a l ih=>?_);intro d acc h8;obtain ⟨R,hR⟩:=qGe (Jl (.mk k a l) acc);rw [hR];rw [FW] at hR;show FSpec prog 239 [.ag (Ai d k a l),.one (.ptr 0 0)] [(0,.box 88 [.own 1]),(1,.arr 44 c6 acc)] [2] (.b R.isSome) (TJ R);refine iF func239 rfl (fun b W=>by kernel_rfl) (by cases R <;> rfl) (qNl rfl) ?_;cases hE:l.isEmpty with
 | true =>
  obtain rfl:=List.isEmpty_iff.1 hE;rw [hE,qCt,Du] at hR;cases hk:decide (k=0) && iD a with
  | false =>
   rw [hk] at hR;obtain rfl:none=R:=hR;repeat' (first|refine av ?_ ?_|refine aa 9 rfl (cB [] (Gq a) ?_)|refine aq ?_|exact aw|refine ap fun hb=>?_|exact bg|fail)
   all_goals (exfalso;revert hk;simp [*])
  | true =>
   rw [hk,qCt] at hR;obtain ⟨h0,h1⟩:k=0/\iD a=true:=by simpa using hk
   rcases Es acc a acc with ⟨e1,e2⟩|⟨⟨r,e1⟩,e2⟩
   ·obtain rfl:none=R:=e1.symm.trans hR;rcases e2 with e2|e2;all_goals
     repeat' (first|refine av ?_ ?_|(refine aa 9 rfl ?_;first|(refine cB [] (Gq a) ?_)|(refine cH (qf [(0,0),(1,1),(2,1001)]) (PI acc a h8 e2 e1) ?_))|refine aq ?_|exact aw|(refine ap fun hb=>?_;first|(simp [h1] at hb;done)|skip)|exact bg|fail)
   ·obtain rfl:some r=R:=e1.symm.trans hR;repeat' (first|refine av ?_ ?_|(refine aa 9 rfl ?_;first|(refine cB [] (Gq a) ?_)|(refine cH (qf [(0,0),(1,1),(2,1001)]) (PI acc a h8 e2 e1) ?_))|refine aq ?_|exact aw|(refine ap fun hb=>?_;first|(simp [h1] at hb;done)|skip)|(refine cc (qf [(2,1001)]) ?_;exact af))
 | false =>
  have hl0:0<l.length:=List.length_pos_iff.2 fun e=>by rw [e] at hE;cases hE
  rw [hE,qCf] at hR;refine aY (fun c ρ a w hr=>jP (t:=0) (i:=4) hr rfl rfl) (fun hx=>?_);obtain ⟨hlen,hne⟩:=hx;obtain ⟨e,rfl⟩:=hne hl0;cases hg:r9 k a l with
  | false =>
   rw [hg] at hR;obtain rfl:none=R:=hR;repeat' (first|refine av ?_ ?_|refine aq ?_|exact aw|refine ap fun hb=>?_|exact bg|fail)
   all_goals (exfalso;revert hg;simp [r9, *];try omega)
  | true =>
   rw [hg,qCt] at hR;obtain ⟨⟨h1,h2⟩,h3⟩:(1<=k/\k<=(l.length:Int))/\a=jK:=by simpa [r9] using hg
   subst h3;refine ao ?_;refine ab (fun x:Nat×List Tm=>x.1<=l.length/\x.2.length<=8/\NF (l.drop x.1) x.2=R) (fun x=>bP [0,1,1000] [(1,.c (.ptr 0 0)),(44,.c (.sl (pA (e+1)) l)),(45,.i l.length),(46,.i x.1)] [(0,.box 88 [.own 1000]),(1000,.arr 44 c6 x.2)]) (fun x=>l.length-x.1) (0,acc) ⟨Nat.zero_le _,h8,hR⟩ (by exact bo (qf [(1000,1)])) ?_;rintro ⟨i,acc1⟩ ⟨hi,hc,hs⟩;dsimp only at *
   by_cases hlt:i<l.length
   ·rw [qDc hlt] at hs;rw [xV] at hs;have kS:=ih l[i] (List.getElem_mem hlt) e acc1 hc;have hlen2:=NH l[i] acc1;clear ih;cases h1:Jl l[i] acc1 with
    | none =>
     rw [h1] at hs kS;obtain rfl:none=R:=hs;repeat' (first|refine av ?_ ?_|refine aa 9 rfl (cH (qf [(0,0),(1,1000),(2,1001)]) kS ?_)|refine aq ?_|exact aw|refine ap fun hb=>?_|exact bg|fail)
    | some r =>
     rw [h1] at hs kS;have hlen3:=hlen2 r hc h1;repeat' (first|refine av ?_ ?_|refine aa 9 rfl (cH (qf [(0,0),(1,1000),(2,1001)]) kS ?_)|refine aq ?_|exact aw|refine ap fun hb=>?_)
     exact Vk
   ·rw [qDn (by omega)] at hs;obtain rfl:some acc1=R:=hs;refine ao ?_
    (refine cc (qf [(2,1000)]) ?_;exact af)
theorem yG {n:ByteArray}:∀{acc:List ByteArray} {kk:Nat},kk<=acc.length->(∀m∈acc.drop kk,jN n m=true)->(∀j (h:j<acc.length),j<kk->jN n acc[j]=false)->ja n acc=acc.take kk++n :: acc.drop kk
 | [],kk,_,_,_=>by simp [ja]
 | m :: l,0,_,h1,_=>by have:=h1 m (by simp);simp [ja,this]
 | m :: l,kk+1,hk,h1,h2=>by
  have h3:=h2 0 (by simp) (by omega);have h4:=yG (kk:=kk) (acc:=l) (by simpa using hk) (by simpa using h1) (fun j hj hjk=>by have:=h2 (j+1) (by simpa using hj) (by omega);simpa using this);simp at h3;simp [ja,h3,h4]
theorem OF {n:ByteArray} {acc:List ByteArray} {kk:Nat} (ha:oU acc) (hk:kk<=acc.length) (h1:∀m∈acc.drop kk,jN n m=true) (h2:∀j (h:j<acc.length),j+1=kk->jN n acc[j]=false):ja n acc=acc.take kk++n :: acc.drop kk:=by
 refine yG hk h1 fun j hj hjk=>?_;rcases Nat.lt_or_ge (j+1) kk with h|h
 ·cases hc:jN n acc[j] with
  | false=>rfl
  | true =>
   have h3:=h2 (kk-1) (by omega) (by omega);have h4:=(List.pairwise_iff_getElem.1 ha) j (kk-1) hj (by omega) (by omega);rw [ij hc h4] at h3;cases h3
 ·exact h2 j hj (by omega)
theorem lX (acc:List ByteArray) (e:En) (l:List En):ew acc (e :: l)=ew (bif eY e.name acc then acc else ja e.name acc) l:=rfl
theorem A8 (n m:ByteArray) (l:List ByteArray):eY n (m :: l)=(m.toList == n.toList || eY n l):=rfl
theorem EB {n:ByteArray}:∀{l:List ByteArray},eY n l=false->n ∉ l
 | [],_=>by simp
 | m :: l,h=>by
  rw [A8,Bool.or_eq_false_iff] at h;intro hm;rcases List.mem_cons.1 hm with rfl|hm
  ·have h:=h.1;simp at h
  ·exact EB h.2 hm
theorem lh (n:ByteArray):∀l:List ByteArray,(ja n l).length=l.length+1
 | []=>rfl
 | m :: l=>by
  unfold ja;cases jN n m with
  | true=>rfl
  | false=>simp [lh n l]
theorem OG:ElTB prog xF 135 9 16:=ElTB.mk' underlying135 (.string ⟨#[]⟩) 1 16 (by kernel_rfl) rfl rfl
instance:ST prog xF 135 9 16:=⟨OG⟩
theorem yH (l:List En) (hl:l.length<=100000):FSpec prog 69 [.one (.sl ke l)] [] [] (.c (.sl xF (cg l))) []:=by
 refine a7 func69 ?_;refine ao ?_;refine cj 3 1000 9 xF rfl rfl rfl ?_;refine ab (fun x:Nat×List ByteArray=>x.1<=l.length/\x.2.length<=x.1/\oU x.2/\ew x.2 (l.drop x.1)=cg l) (fun x=>bP [1000] [(0,.c (.sl ke l)),(3,.c (.own 1000)),(4,.i x.1)] [(1000,.arr 9 xF x.2)]) (fun x=>l.length-x.1) (0,[]) ⟨Nat.zero_le _,Nat.le_refl _,by simp [oU],rfl⟩ aT ?_;rintro ⟨i,acc⟩ ⟨hi,hal,hasc,hs⟩;dsimp only at *
 by_cases hlt:i<l.length
 case neg =>
  have e:acc=cg l:=by rw [<-hs,qDn (by omega)];rfl
  refine ao ?_;rw [<-e];exact U4
 rw [qDc hlt,lX] at hs;obtain ⟨n,hn⟩:=qGe (l[i].name);rw [hn] at hs;refine ao ?_;refine ab (fun x:Nat×Bool=>x.1<=acc.length/\eY n acc=(x.2 || eY n (acc.drop x.1))) (fun x=>bP [1000] [(0,.c (.sl ke l)),(3,.c (.own 1000)),(4,.i i),(5,.b x.2),(6,.i x.1)] [(1000,.arr 9 xF acc)]) (fun x=>acc.length-x.1) (0,false) ⟨Nat.zero_le _,rfl⟩ aT ?_;rintro ⟨k,is⟩ ⟨hk,hh⟩;dsimp only at *
 by_cases hkl:k<acc.length
 ·rw [qDc hkl,A8] at hh;repeat' (first|refine av ?_ ?_|refine aq ?_|exact aw|refine ap fun hb=>?_)
  ·refine ⟨(k+1,true),⟨by dsimp only;omega,by dsimp only;rw [hh,hb];simp⟩,by dsimp only;omega,?_⟩;exact aT
  ·refine ⟨(k+1,acc[k].toList == l[i].name.toList),⟨by dsimp only;omega,by dsimp only;rw [hh,hb,hn];simp⟩,by dsimp only;omega,?_⟩;exact aT
 have hh2:eY n acc=is:=by rw [hh,qDn (by omega)];simp [eY]
 clear hh;cases is with
 | true =>
  rw [hh2] at hs;refine ao ?_;refine ⟨(i+1,acc),⟨by dsimp only;omega,by dsimp only;omega,hasc,hs⟩,by dsimp only;omega,?_⟩;exact aT
 | false =>
  rw [hh2] at hs;have hnm:=EB hh2;have hL:(acc++[l[i].name]).length=acc.length+1:=by simp
  have e1:acc.take acc.length++n :: acc.drop acc.length=acc++[l[i].name]:=by simp [hn]
  rw [qCf] at hs;repeat' (first|refine av ?_ ?_|(refine aa 8 rfl ?_;refine be (ae rfl rfl (aH rfl rfl) (aN [l[i].name] rfl rfl rfl rfl) rfl aQ aQ) rfl rfl rfl ?_)|refine aq ?_|exact aw|refine ap fun hb=>?_)
  refine ab (fun k=>k<=acc.length/\∀m∈acc.drop k,jN n m=true) (fun k=>bP [1000] [(0,.c (.sl ke l)),(3,.c (.own 1000)),(4,.i i),(7,.i k)] [(1000,.arr 9 xF (acc.take k++n :: acc.drop k))]) (fun k=>k) acc.length ⟨Nat.le_refl _,by simp⟩ (by dsimp only;rw [e1];exact bo (qf [(1000,42)])) ?_;rintro k ⟨hk,hall⟩;have hW:(acc.take k++n :: acc.drop k).length=acc.length+1:=by simp;omega
  have hgk:(acc.take k++n :: acc.drop k)[k]? = some n:=by rw [List.getElem?_append_right (by simp;omega)];simp [Nat.min_eq_left hk]
  have hdone:(∀j (h:j<acc.length),j+1=k->jN n acc[j]=false)->ja n acc=acc.take k++n :: acc.drop k:=fun h2=>OF hasc hk hall h2;by_cases hk0:k=0
  ·subst hk0;refine ao ?_;refine ⟨(i+1,ja n acc),⟨by dsimp only;omega,by dsimp only;rw [lh];omega,pP hasc hnm,hs⟩,by dsimp only;omega,?_⟩;dsimp only;rw [hdone (fun j _ h=>by omega)];exact aT
  ·obtain ⟨m,hm⟩:=qGe (acc[k-1]'(by omega));have hgm:(acc.take k++n :: acc.drop k)[((k:Int)-1).toNat]? = some m:=by
    rw [show ((k:Int)-1).toNat=k-1 by omega,List.getElem?_append_left (by simp;omega)];simp [<-hm,List.getElem?_take,show k-1<k by omega,show k-1<acc.length by omega]
   have e3:acc.drop (k-1)=m :: acc.drop k:=by
    rw [List.drop_eq_getElem_cons (i:=k-1) (by omega),hm,show k-1+1=k by omega]
   have e4:acc.take k=acc.take (k-1)++[m]:=by
    have:=List.take_succ_eq_append_getElem (l:=acc) (i:=k-1) (by omega);rw [show k-1+1=k by omega,hm] at this;exact this
   have l1:(acc.take (k-1)).length=k-1:=by simp;omega
   have hset:((acc.take k++n :: acc.drop k).set k m).set ((k:Int)-1).toNat n=acc.take (k-1)++n :: acc.drop (k-1):=by
    rw [show ((k:Int)-1).toNat=k-1 by omega,e3,List.set_append_right _ _ (by simp;omega),e4];rw [show k-(acc.take (k-1)++[m]).length=0 by simp;omega,List.set_cons_zero,List.append_assoc,List.set_append_right _ _ (by omega),l1,Nat.sub_self];rfl
   have hW2:((acc.take k++n :: acc.drop k).set k m).length=acc.length+1:=by rw [List.length_set,hW]
   cases hc:jN n m with
   | false =>
    refine ao ?_;refine ⟨(i+1,ja n acc),⟨by dsimp only;omega,by dsimp only;rw [lh];omega,pP hasc hnm,hs⟩,by dsimp only;omega,?_⟩;dsimp only;rw [hdone (fun j hj h=>by rw [<-hc,<-hm];congr 2;omega)];exact aT
   | true =>
    repeat' (first|refine av ?_ ?_|refine aq ?_|(refine aa 4 rfl ?_;first|(refine a8 (ak (z:=m) rfl rfl rfl rfl (by first|assumption|exact qGg (by omega)) rfl rfl rfl rfl (qNl rfl) rfl rfl) rfl rfl rfl ?_)|(refine a8 (ak (z:=n) rfl rfl rfl rfl (by first|assumption|exact qGg (by omega)) rfl rfl rfl rfl (qNl rfl) rfl rfl) rfl rfl rfl ?_))|exact aw|refine ap fun hb=>?_)
    refine ⟨k-1,⟨by omega,?_⟩,by omega,?_⟩
    ·rw [e3];intro y hy;rcases List.mem_cons.1 hy with rfl|hy
     ·exact hc
     ·exact hall y hy
    ·rw [<-hset];exact aT
theorem GE (d:Nat) (x:Ex):FSpec prog 177 [x.a d] [] [] (.b (kv x)) []:=by
 obtain ⟨v,hv⟩:=qGe (kv x);rw [hv];rw [Qi] at hv;have kP:=Ow x d [] (by simp);have h0:=x.dep_pos;refine a7 func177 ?_;cases hk:Ds x with
 | false =>
  rw [hk] at hv;obtain rfl:false=v:=hv;have:=Gp x d (n:=0) (by rw [hk];rfl);exact UG
 | true =>
  rw [hk,Bool.true_and] at hv;repeat' (first|refine av ?_ ?_|((fail_if_success (first|refine m8 2 ?_|refine m9 2 ?_));refine aq ?_)|exact aw|refine ap fun hb=>?_)
  refine lU 3 0 1000 44 c6 rfl rfl rfl rfl ?_;cases hp:Jl x [] with
  | none =>
   rw [hp] at kP hv;obtain rfl:false=v:=hv;exact Vr
  | some r =>
   rw [hp] at kP hv;obtain rfl:true=v:=hv;exact Vr
theorem SQ (l:List Tm) (a:Tm):FSpec prog 287 [.one (.sl c6 l),a.a] [] [] (.i (pC a 0 l)) []:=by
 obtain ⟨v,hv⟩:=qGe (pC a 0 l);rw [hv];refine a7 func287 ?_;refine aY (fun c ρ a w hr=>bV (t:=0) hr rfl) (fun hl0=>?_);refine ao ?_;refine ab (fun i=>i<=l.length/\pC a i (l.drop i)=v) (fun i=>bP [3] [(0,.c (.sl c6 l)),(3,.c (.ptr 3 0)),(7,.i l.length),(8,.i i)] [(3,.box 44 [.sc (.string a.name),.sc (.int .i64 a.am.mode),.sc (.int .i64 a.am.units)])]) (fun i=>l.length-i) 0 ⟨Nat.zero_le _,hv⟩ aT ?_;rintro i ⟨hi,hs⟩;by_cases hlt:i<l.length
 ·rw [qDc hlt,se] at hs;repeat' (first|refine av ?_ ?_|refine aq ?_|exact aw|refine ap fun hb=>?_)
  ·exact Vz
  ·refine ⟨i+1,⟨by omega,?_⟩,by omega,?_⟩
   ·rw [<-hs];simp [*]
   ·exact aT
 ·exact U5
theorem MB (l:List Tm) (a:Tm) {v:Bool} (hv:lF a l=v):FSpec prog 240 [.one (.sl c6 l),a.a] [] [] (.b v) []:=by
 refine a7 func240 ?_;have:=SQ l a;refine ao ?_;refine eU ?_;rcases sg a l 0 [] with ⟨h1,h2,_⟩|⟨i,_,h1,h2,_⟩
 ·rw [h1,<-hv,h2];rfl
 ·rw [h1,<-hv,h2];simp
theorem MC:∀(x:Ex) (d:Nat) (acc:List Tm),acc.length+x.cnt<=1000->FSpec prog 178 [.one (.own 0),x.a d] [(0,.arr 44 c6 acc)] [1] (.c (.own 1)) [(0,none),(1,some (.arr 44 c6 (fV x acc)))]:=by
 refine Ex.ind (fun k a l ih=>?_);intro d acc hl;rw [Ex.cnt_mk] at hl;obtain ⟨R,hR⟩:=qGe (fV (.mk k a l) acc);rw [hR];rw [lG] at hR;show FSpec prog 178 [.one (.own 0),.ag (Ai d k a l)] [(0,.arr 44 c6 acc)] [1] (.c (.own 1)) [(0,none),(1,some (.arr 44 c6 R))];refine a7 func178 ?_;cases hE:l.isEmpty with
 | true =>
  obtain rfl:=List.isEmpty_iff.1 hE;rw [hE,qCt,iU] at hR;cases hh:lF a acc with
  | true =>
   rw [hh] at hR;obtain rfl:acc=R:=hR;repeat' (first|refine av ?_ ?_|refine aa 9 rfl (cB [0] (MB acc a hh) ?_)|refine aq ?_|exact aw|refine ap fun hb=>?_|(refine cc (qf [(1,0)]) ?_;exact af))
  | false =>
   rw [hh] at hR;obtain rfl:acc++[a]=R:=hR;repeat' (first|refine av ?_ ?_|(refine aa 8 rfl ?_;refine be (ae rfl rfl (aH rfl rfl) (aN [a] rfl rfl rfl rfl) rfl aQ aQ) rfl rfl rfl ?_)|refine aa 9 rfl (cB [0] (MB acc a hh) ?_)|refine aq ?_|exact aw|refine ap fun hb=>?_|(refine cc (qf [(1,20)]) ?_;exact af))
 | false =>
  have hl0:0<l.length:=List.length_pos_iff.2 fun e=>by rw [e] at hE;cases hE
  rw [hE,qCf] at hR;refine aY (fun c ρ a w hr=>jP (t:=1) (i:=4) hr rfl rfl) (fun hx=>?_);obtain ⟨hlen,hne⟩:=hx;obtain ⟨e,rfl⟩:=hne hl0;refine ao ?_;refine ab (fun x:Nat×List Tm=>x.1<=l.length/\x.2.length+i9 (l.drop x.1)<=1000/\ia (l.drop x.1) x.2=R) (fun x=>bP [0,1000] [(0,.c (.own 1000)),(22,.c (.sl (pA (e+1)) l)),(23,.i l.length),(24,.i x.1)] [(1000,.arr 44 c6 x.2)]) (fun x=>l.length-x.1) (0,acc) ⟨Nat.zero_le _,by simpa using (by omega),hR⟩ (by exact bo (qf [(1000,0)])) ?_;rintro ⟨i,acc1⟩ ⟨hi,hc,hs⟩;dsimp only at *
  by_cases hlt:i<l.length
  ·rw [qDc hlt] at hs hc;rw [ii] at hs;rw [ig] at hc;have kS:=ih l[i] (List.getElem_mem hlt) e acc1 (by omega);have hlen2:=xU l[i] acc1;obtain ⟨r,h1⟩:=qGe (fV l[i] acc1);rw [h1] at hs kS hlen2;clear ih h1;repeat' (first|refine av ?_ ?_|refine aa 9 rfl (cH (qf [(0,1000),(1,1001)]) kS ?_)|refine aq ?_|exact aw|refine ap fun hb=>?_)
   exact Vk
  ·rw [qDn (by omega)] at hs;obtain rfl:acc1=R:=hs;refine ao ?_
   (refine cc (qf [(1,1000)]) ?_;exact af)
theorem mg (d:Nat) (x:Ex) {L:List Tm} (hL:bJ x=L):FSpec prog 113 [x.a d] [] [] (.c (.sl c6 L)) []:=by
 subst hL;unfold bJ;refine a7 func113 ?_;cases hv:kv x with
 | false =>
  have:=GE d x;exact UG
 | true =>
  have h24:x.cnt<=24:=by have h:=hv;simp [kv,Ds] at h;exact h.1.2
  have kA:=(MC x d [] (by simp;omega)).nil0 (by decide) fun q k=>rfl;repeat' (first|refine av ?_ ?_|(refine aa 9 rfl ?_;first|(refine cB [] (GE d x) ?_)|(refine cH (qf [(0,1000),(1,1001)]) kA ?_))|refine aq ?_|exact aw|(refine ap fun hb=>?_;first|(simp [hv] at hb;done)|skip)|exact bg|fail)
section
variable {β:Type} (V:β->Value) (z:β) (n:ByteArray) (a:β)
def mt (l:List (ByteArray×β)):List (Value×Value):=l.map fun x=>(.string x.1,V x.2)
def pk:List (ByteArray×β)->β
 | []=>z
 | x :: l=>bif bC x.1 n then x.2 else pk l
def fe:List (ByteArray×β)->List (ByteArray×β)
 | []=>[(n,a)]
 | x :: l=>bif bC x.1 n then (x.1,a) :: l else x :: fe l
def MD:Nat->List (ByteArray×β)->Option (Nat×β)
 | _,[]=>none
 | j,x :: l=>bif bC x.1 n then some (j,x.2) else MD (j+1) l
end
section
variable {P:Program} {β:Type} {V:β->Value} {z:β} {n:ByteArray} {a:β}
theorem Q2 (m n:ByteArray):(n == m)=bC m n:=by
 rw [Bool.eq_iff_iff,bj,MapKept.bytes_beq];exact eq_comm
theorem CG:∀(l:List (ByteArray×β)) (i j:Nat),Instr.findNow .string (.string n) (fM i (mt V l)) j=some ((MD n j l).map fun x=>(x.1,V x.2))
 | [],_,_=>rfl
 | x :: l,i,j=>by
  have ih:=CG l (i+1) (j+1);show (match some (n == x.1) with|some true=>some (some (j,V x.2))|some false=>Instr.findNow .string (.string n) (fM (i+1) (mt V l)) (j+1)|none=>none)=_;rw [Q2,MD];cases bC x.1 n with
  | true=>rfl
  | false=>exact ih
theorem ME:∀(l:List (ByteArray×β)) (j:Nat),pk z n l=match MD n j l with|some x=>x.2|none=>z
 | [],_=>rfl
 | x :: l,j=>by
  have ih:=ME l (j+1);unfold pk MD;cases bC x.1 n with
  | true=>rfl
  | false=>exact ih
theorem vv:∀(l:List (ByteArray×β)) (j:Nat),MD n j l=none->fe n a l=l++[(n,a)]
 | [],_,_=>rfl
 | x :: l,j,h=>by
  unfold MD at h;unfold fe;cases hx:bC x.1 n with
  | true=>rw [hx] at h;cases h
  | false =>
   rw [hx] at h;rw [qCf,vv l (j+1) h];rfl
theorem EU:∀(l m:List (Value×Value)) (i:Nat),fM i (l++m)=fM i l++fM (i+l.length) m
 | [],_,_=>rfl
 | x :: l,m,i=>by
  show _ :: fM (i+1) (l++m)=_ :: (fM (i+1) l++_);rw [EU l m (i+1),List.length_cons,show i+1+l.length=i+(l.length+1) by omega]
theorem vw:∀(l:List (ByteArray×β)) (i j k:Nat) (b:β),MD n j l=some (k,b)->j<=k/\(fM i (mt V l))[k-j]? = some ⟨.string n,V b,i+(k-j)⟩/\(fM i (mt V l)).set (k-j) ⟨.string n,V a,i+(k-j)⟩=fM i (mt V (fe n a l))/\(fe n a l).length=l.length
 | [],_,_,_,_,h=>by cases h
 | x :: l,i,j,k,b,h=>by
  unfold MD at h;unfold fe;cases hx:bC x.1 n with
  | true =>
   rw [hx] at h;simp only [qCt,Option.some.injEq,Prod.mk.injEq] at h;obtain ⟨rfl,rfl⟩:=h;obtain rfl:=bj.1 hx;rw [Nat.sub_self];exact ⟨Nat.le_refl _,rfl,rfl,rfl⟩
  | false =>
   rw [hx] at h;obtain ⟨h1,h2,h3,h4⟩:=vw l (i+1) (j+1) k b h;have e:k-j=(k-(j+1))+1:=by omega
   rw [qCf,e];refine ⟨by omega,?_,?_,?_⟩
   ·show (fM (i+1) (mt V l))[k-(j+1)]? = _;rw [h2,show i+1+(k-(j+1))=i+(k-(j+1)+1) by omega]
   ·show (⟨.string x.1,V x.2,i⟩:MapEntry) :: (fM (i+1) (mt V l)).set (k-(j+1)) _=_ :: fM (i+1) (mt V (fe n a l));rw [<-h3,show i+1+(k-(j+1))=i+(k-(j+1)+1) by omega]
   ·simp [h4]
variable {w:World} {g t K E:Nat} {l:List (ByteArray×β)}
theorem MF (ht:P.underlying t=some (.map K E)) (hK:P.underlying K=some .string) (hz:(zeroValue E).run P w = .ok (V z) w) (hb:w.heap[g]? = some (mQ (mt V l))):(Instr.lookup t (.map (some g)) (.string n) false).run P w = .ok (V (pk z n l)) w:=by
 have h1:=CG (V:=V) (n:=n) l 0 0;have hk:MapKept.IsKey .string (.string n):=by simp [MapKept.IsKey]
 rw [ME l 0];cases hf:MD n 0 l with
 | none =>
  rw [hf] at h1;simp [Instr.lookup,run_underlying ht,MapKept.run_getObj_map hb,MapKept.run_checkKey hK hk,MapKept.run_findKey hK h1,hz,Result.andThen]
 | some x =>
  rw [hf] at h1;simp [Instr.lookup,run_underlying ht,MapKept.run_getObj_map hb,MapKept.run_checkKey hK hk,MapKept.run_findKey hK h1,Result.andThen]
theorem MG (ht:P.underlying t=some (.map K E)) (hK:P.underlying K=some .string) (hb:w.heap[g]? = some (mQ (mt V l))):(Instr.mapUpdate t (.map (some g)) (.string n) (V a)).run P w = .ok () { w with heap:=w.heap.setIfInBounds g (mQ (mt V (fe n a l))) }:=by
 have h1:=CG (V:=V) (n:=n) l 0 0;have hk:MapKept.IsKey .string (.string n):=by simp [MapKept.IsKey]
 cases hf:MD n 0 l with
 | none =>
  rw [hf] at h1;have e:mQ (mt V (fe n a l)) = .map ((fM 0 (mt V l)).toArray.push ⟨.string n,V a,(mt V l).length⟩) ((mt V l).length+1):=by
   rw [vv l 0 hf];unfold mQ mt;rw [List.map_append,EU];simp [fM]
  rw [e];simp [Instr.mapUpdate,run_underlying ht,MapKept.run_getObj_map hb,MapKept.run_checkKey hK hk,MapKept.run_findKey hK h1,MapKept.run_setObj_map _ hb,Result.andThen]
 | some x =>
  obtain ⟨k,b⟩:=x;rw [hf] at h1;obtain ⟨_,h2,h3,h4⟩:=vw (V:=V) (a:=a) l 0 0 k b hf;simp only [Nat.sub_zero,Nat.zero_add] at h2 h3;have e:mQ (mt V (fe n a l)) = .map ((fM 0 (mt V l)).toArray.modify k fun e=>{ e with key:=.string n,val:=V a }) (mt V l).length:=by
   unfold mQ;rw [<-h3];have hl:(mt V (fe n a l)).length=(mt V l).length:=by simp [mt,h4]
   rw [hl];congr 1
   apply Array.ext'
   rw [Array.toList_modify];apply List.ext_getElem?
   intro j;rw [List.getElem?_modify,List.getElem?_set];by_cases hkj:k=j
   ·subst hkj;have hlt:=(List.getElem?_eq_some_iff.1 h2).1;simp only [if_true,h2,Option.map_eq_map,Option.map_some];rw [if_pos hlt]
   ·simp [hkj]
  rw [e];simp [Instr.mapUpdate,run_underlying ht,MapKept.run_getObj_map hb,MapKept.run_checkKey hK hk,MapKept.run_findKey hK h1,h2,MapKept.run_keyThatStays hk,MapKept.run_setObj_map _ hb,Result.andThen]
end
section
variable {P:Program} {o:Oper} {s:Mst} {β:Type} {V:β->Value} {z:β} {n:ByteArray} {a:β} {l:List (ByteArray×β)}
theorem Bo {t k:Nat} (ho:o.op = .makeMap t none) (hdk:o.dst=some k):LOp P o s [] ⟨.c (.own k),[(k,some (.mp []))],[k]⟩:=by
 intro c st ρ a w hr h1 h2 h3 h4;have hfk:st.f k=true:=h3 k (by simp [aX]);have hkk:∀k':Nat,aL [(k,some (Box.mp []))] k'=true->k'=k:=fun k' h=>by
  exact UM
 refine Oper.wp_value (v:=.map (some w.heap.size)) (w':=w.alloc (.map #[] 0)) ?_ ⟨upd ρ k (.map (some w.heap.size)),hr.app (e:=⟨.c (.own k),[(k,some (.mp []))],[k]⟩) h4 (fun k' h=>?_) (fun k' h=>?_) (fun k' h=>.inl ?_) (Frx.alloc _ _ _) (fun k' bx g' h _ hg'=>?_) (fun k1 k2 _ _ _ h h' _ _ _ _=>?_) (fun k' h=>.inl ?_) (fun k1 k2 bx h hp hx=>?_) (fun k2 bx h hp=>?_) ?_⟩
 ·unfold execOp;rw [ho];simp [Instr.makeMap,Result.andThen]
 ·have:k'=k:=by simp [aX] at h;exact h.symm
  subst this;exact ⟨hfk,by simp [aL]⟩
 ·exact dW (by simpa [aX] using h)
 ·rw [hkk k' h];simp [aX]
 ·exact U1
 ·exact VM
 ·have:k'=k:=by simp [TV.has,V0.has,D.has] at h;exact h.symm
  subst this;simp [aX]
 ·exact UJ
 ·rw [hkk k2 h] at hp ⊢;simp only [hput,Nat.beq_refl,qCt,Option.some.injEq] at hp;subst hp;rw [aW];exact ⟨_,rfl,(MapKept.heap_alloc w _).1⟩
 ·exact (aW _ _ _).symm
theorem MH {t K E k:Nat} {x y:Operand} {d:TV} (ht:P.underlying t=some (.map K E)) (hK:P.underlying K=some .string) (hz:∀w,(zeroValue E).run P w = .ok (V z) w) (ho:o.op = .lookup t x y false) (hx:s.ev x = .c (.own k)) (hk:s.h k=some (.mp (mt V l))) (hy:s.ev y = .c (.sc (.string n)))
  (hd:∀w F ρ,d.rep w F ρ (V (pk z n l))) (hn:∀j,d.has j=false):LOp P o s [k] ⟨d,[],[]⟩ :=
 bY fun c st ρ a w hr h1 h2=>by
  have e1:=h1 x (by simp [ho,Op.operands]);have e2:=h1 y (by simp [ho,Op.operands]);have hv1:=hr.ev x;have hv2:=hr.ev y;rw [e1,hx] at hv1;rw [e2,hy] at hv2;have hv1:a.eval x=ρ k:=hv1;have hv2:a.eval y = .string n:=hv2;obtain ⟨g,hg,hb⟩:=hr.hp k _ ((h2 k (by simp [aX])).trans hk);refine ⟨V (pk z n l),?_,hd _ _ _,fun j hj=>by rw [hn j] at hj;cases hj⟩;unfold execOp;rw [ho];simp only [hv1,hv2,hg,Sem.run_bind,MF ht hK (hz w) hb,Result.andThen_ok,Sem.run_pure]
theorem MI {t K E k:Nat} {x y q:Operand} (ht:P.underlying t=some (.map K E)) (hK:P.underlying K=some .string) (ho:o.op = .mapUpdate t x y q) (hx:s.ev x = .c (.own k)) (hk:s.h k=some (.mp (mt V l))) (hy:s.ev y = .c (.sc (.string n)))
  (hq:∀w F ρ v,(s.ev q).rep w F ρ v->v=V a):LOp P o s [k] ⟨.c .any,[(k,some (.mp (mt V (fe n a l))))],[]⟩:=by
 intro c st ρ ac w hr h1 h2 h3 h4;have e1:=h1 x (by simp [ho,Op.operands]);have e2:=h1 y (by simp [ho,Op.operands]);have e3:=h1 q (by simp [ho,Op.operands]);have hv1:=hr.ev x;have hv2:=hr.ev y;have hv3:=hr.ev q;rw [e1,hx] at hv1;rw [e2,hy] at hv2;rw [e3] at hv3;have hv1:ac.eval x=ρ k:=hv1;have hv2:ac.eval y = .string n:=hv2;have hv3:=hq _ _ _ _ hv3;have hk':=(h2 k (by simp [aX])).trans hk;obtain ⟨g,hg,hb⟩:=hr.hp k _ hk';have hkb:kb (ρ k)=some g:=by rw [hg];rfl
 have hkk:∀k':Nat,aL [(k,some (Box.mp (mt V (fe n a l))))] k'=true->k'=k:=fun k' h=>by
  exact UM
 have hset:=MapKept.heap_set (o':=mQ (mt V (fe n a l))) hb;have hlt:g<w.heap.size:=(Array.getElem?_eq_some_iff.1 hb).1;refine Oper.wp_skip (w':={ w with heap:=w.heap.setIfInBounds g (mQ (mt V (fe n a l))) }) ?_ ⟨ρ,hr.app (e:=⟨.c .any,[(k,some (.mp (mt V (fe n a l))))],[]⟩) h4 (fun k h=>by simp [aX] at h) (fun _ _=>rfl) (fun k' h=>.inr (by rw [hkk k' h];exact hr.nfh hk')) ⟨rfl,rfl,rfl,by simp,fun b hlt hn=>hset.2 b fun e=>hn ⟨k,_,by simp [aL],hk',by rw [hkb,e]⟩⟩ ?_ ?_ (fun k h=>by simp [TV.has,V0.has,D.has] at h) ?_ ?_ trivial⟩
 ·unfold execOp;rw [ho];simp only [hv1,hv2,hv3,hg,Sem.run_bind,MG ht hK hb,Result.andThen_ok,Sem.run_pure]
 ·intro k' bx g' h _ hg';rw [hkk k' h,hkb] at hg';injection hg' with hg';subst hg';exact ⟨by simpa using hlt,.inr ⟨k,_,by simp [aL],hk',hkb⟩⟩
 ·intro k1 k2 _ _ _ h h' _ _ _ _;exact VM
 ·intro k1 k2 bx h hp hx;exact UJ
 ·intro k2 bx h hp;rw [hkk k2 h] at hp ⊢;simp only [hput,Nat.beq_refl,qCt,Option.some.injEq] at hp;subst hp;exact ⟨g,hg,hset.1⟩
theorem Bp {t K E k:Nat} {x:Operand} {L:List (Value×Value)} (ht:P.underlying t=some (.map K E)) (ho:o.op = .call { callee:=.builtin .len,args:=#[x],argTypes:=#[t] }) (hx:s.ev x = .c (.own k)) (hk:s.h k=some (.mp L)):LOp P o s [k] ⟨.i L.length,[],[]⟩ :=
 bY fun c st ρ a w hr h1 h2=>by
  have e1:=h1 x (by simp [ho,Op.operands,Call.operands]);have hv1:=hr.ev x;rw [e1,hx] at hv1;have hv1:a.eval x=ρ k:=hv1;obtain ⟨g,hg,hb⟩:=hr.hp k _ ((h2 k (by simp [aX])).trans hk);refine ⟨.int .i64 L.length,?_,rfl,fun k hk=>by simp [TV.has,V0.has,D.has] at hk⟩;have hl:∀(l:List (Value×Value)) (i:Nat),(fM i l).length=l.length:=by
   intro l;induction l with
   | nil=>intro _;rfl
   | cons x l ih=>intro i;show (fM (i+1) l).length+1=_;rw [ih];rfl
  unfold execOp;rw [ho];have hrun:(Builtin.len_ #[t] o.type #[.map (some g)]).run P w = .ok (.int .i64 L.length) w:=by
   simp [Builtin.len_,run_underlying ht,MapKept.run_getObj_map hb,Result.andThen,hl];rfl
  simp only [resolve,invoke,builtin,Sem.run_bind,Sem.run_pure,Result.andThen_ok,List.map_toArray,List.map_cons,List.map_nil,hv1,hg,hrun]
end
def Q3 (x:Am):Value:=.agg #[.int .i64 x.mode,.int .i64 x.units]
abbrev CH (l:List (ByteArray×Am)):List (Value×Value):=mt Q3 l
abbrev sK (n:ByteArray) (l:List (ByteArray×Am)):Am:=pk ⟨0,0⟩ n l
theorem ol {P:Program} {o:Oper} {s:Mst} {t k:Nat} (K E:Nat) {x y:Operand} {n:ByteArray} {l:List (ByteArray×Am)} (ht:P.underlying t=some (.map K E)) (hK:P.underlying K=some .string) (hz:∀w,(zeroValue E).run P w = .ok (Q3 ⟨0,0⟩) w) (ho:o.op = .lookup t x y false) (hx:s.ev x = .c (.own k)) (hk:s.h k=some (.mp (CH l))) (hy:s.ev y = .c (.sc (.string n))) {b:Am} (hb:sK n l=b):LOp P o s [k] ⟨.v b.a,[],[]⟩:=by
 subst hb;exact MH (V:=Q3) (z:=⟨0,0⟩) ht hK hz ho hx hk hy (fun _ _ _=>⟨_,rfl,rfl,rfl,trivial⟩) fun _=>rfl
theorem sL {P:Program} {o:Oper} {s:Mst} {t k:Nat} (K E:Nat) {x y q:Operand} {n:ByteArray} {l:List (ByteArray×Am)} {b:Am} (ht:P.underlying t=some (.map K E)) (hK:P.underlying K=some .string) (ho:o.op = .mapUpdate t x y q) (hx:s.ev x = .c (.own k)) (hk:s.h k=some (.mp (CH l))) (hy:s.ev y = .c (.sc (.string n))) (hq:s.ev q = .v b.a) {m:List (ByteArray×Am)} (hm:fe n b l=m):LOp P o s [k] ⟨.c .any,[(k,some (.mp (CH m)))],[]⟩:=by
 subst hm;exact MI (V:=Q3) ht hK ho hx hk hy fun w F ρ v hv=>by
  rw [hq] at hv;obtain ⟨cs,e,h⟩:=hv;rw [e]
  match cs,h with
  | [_,_],⟨rfl,rfl,_⟩=>rfl
section
variable {β:Type} {z a:β} {n:ByteArray}
theorem EV (m:ByteArray):∀l:List (ByteArray×β),pk z m (fe n a l)=bif bC n m then a else pk z m l
 | []=>rfl
 | x :: l=>by
  have ih:=EV m l;unfold fe;cases hx:bC x.1 n with
  | true =>
   obtain rfl:=bj.1 hx;show (bif bC x.1 m then a else pk z m l)=bif bC x.1 m then a else bif bC x.1 m then x.2 else pk z m l;cases bC x.1 m <;> rfl
  | false =>
   show (bif bC x.1 m then x.2 else pk z m (fe n a l))=bif bC n m then a else bif bC x.1 m then x.2 else pk z m l;rw [ih];cases h1:bC x.1 m with
   | false=>rfl
   | true =>
    cases h2:bC n m with
    | false=>rfl
    | true =>
     obtain rfl:=bj.1 h1;obtain rfl:=bj.1 h2;rw [bj.2 rfl] at hx;cases hx
theorem CJ:∀l:List (ByteArray×β),(fe n a l).length=bif eY n (l.map (·.1)) then l.length else l.length+1
 | []=>rfl
 | x :: l=>by
  have ih:=CJ l;unfold fe;show _=bif (bC x.1 n || eY n (l.map (·.1))) then _ else _;cases hx:bC x.1 n with
  | true=>rfl
  | false =>
   rw [Bool.false_or,qCf,List.length_cons,ih,List.length_cons];cases eY n (l.map (·.1)) <;> rfl
theorem CK (m:ByteArray):∀l:List (ByteArray×β),eY m ((fe n a l).map (·.1))=(bC n m || eY m (l.map (·.1)))
 | []=>rfl
 | x :: l=>by
  have ih:=CK m l;unfold fe;cases hx:bC x.1 n with
  | true =>
   obtain rfl:=bj.1 hx;show (bC x.1 m || eY m (l.map (·.1)))=(bC x.1 m || (bC x.1 m || eY m (l.map (·.1))));cases bC x.1 m <;> rfl
  | false =>
   show (bC x.1 m || eY m ((fe n a l).map (·.1)))=(bC n m || (bC x.1 m || eY m (l.map (·.1))));rw [ih];cases bC x.1 m <;> cases bC n m <;> rfl
end
def fu:List (ByteArray×Am)->List En->List (ByteArray×Am)
 | m,[]=>m
 | m,e :: l=>fu (fe e.name e.after m) l
def fT (l:List En):List (ByteArray×Am):=fu [] l
theorem pm:∀(l k:List En) (m:List (ByteArray×Am)),fu m (l++k)=fu (fu m l) k
 | [],_,_=>rfl
 | e :: l,k,m=>pm l k _
theorem J5 (l:List En) (e:En):fT (l++[e])=fe e.name e.after (fT l):=by
 unfold fT;rw [pm];rfl
theorem yZ (n:ByteArray):∀(l:List En) (m:List (ByteArray×Am)),sK n (fu m l)=eF n (sK n m) l
 | [],_=>rfl
 | e :: l,m=>by
  show sK n (fu (fe e.name e.after m) l)=eF n (bif bC e.name n then e.after else sK n m) l;rw [yZ n l,show sK n (fe e.name e.after m)=_ from EV n m]
theorem jq (l:List En) (n:ByteArray):sK n (fT l)=aC l n:=yZ n l []
theorem MJ (n m:ByteArray) (l:List ByteArray):eY m (ja n l)=(bC n m || eY m l):=by
 rw [Bool.eq_iff_iff,iJ,pN,Bool.or_eq_true,bj,iJ];exact or_congr_left eq_comm
theorem vx:∀(l:List En) (m:List (ByteArray×Am)) (acc:List ByteArray),m.length=acc.length->(∀x,eY x (m.map (·.1))=eY x acc)->(fu m l).length=(ew acc l).length
 | [],_,_,h,_=>h
 | e :: l,m,acc,h,hh=>by
  show (fu (fe e.name e.after m) l).length=(ew (bif eY e.name acc then acc else ja e.name acc) l).length;refine vx l _ _ ?_ fun x=>?_
  ·rw [CJ,hh,h];cases eY e.name acc with
   | true=>rfl
   | false=>rw [qCf,qCf,lh]
  ·rw [CK,hh];cases ha:eY e.name acc with
   | false=>rw [qCf,MJ]
   | true =>
    rw [qCt];cases he:bC e.name x with
    | false=>rfl
    | true=>rw [<-bj.1 he,ha];rfl
theorem qo (l:List En):(fT l).length=(cg l).length:=vx l [] [] rfl fun _=>rfl
theorem Bq:∀(l:List En) (m:List (ByteArray×Am)),m.length<=(fu m l).length
 | [],_=>Nat.le_refl _
 | e :: l,m=>by
  refine Nat.le_trans ?_ (Bq l (fe e.name e.after m));rw [CJ];cases eY e.name (m.map (·.1)) <;> simp
theorem J6 (l k:List En):(fT l).length<=(fT (l++k)).length:=by
 unfold fT;rw [pm];exact Bq k _
theorem vy (n:Int):∀(l:List Sv) (k i:Nat) (h:i<l.length),l[i].label=n->(bb n k l=((k+i:Nat):Int)↔bb n k (l.take i)<0)
 | s :: l,k,0,_,hn=>by
  have hn:s.label=n:=hn;show (bif decide (s.label=n) then (k:Int) else _)=_↔_;rw [qDt hn];simp [bb]
 | s :: l,k,i+1,h,hn=>by
  have ih:=vy n l (k+1) i (by simpa using h) (by simpa using hn);show (bif decide (s.label=n) then (k:Int) else bb n (k+1) l)=_↔(bif decide (s.label=n) then (k:Int) else bb n (k+1) (l.take i))<0;by_cases hs:s.label=n
  ·rw [qDt hs,qCt,qCt];constructor <;> intro h <;> omega
  ·rw [qDf hs,qCf,qCf,<-ih,show k+1+i=k+(i+1) by omega]
def Q4 (all:List Sv) (n:Int):Nat->Int->List Sv->Bool
 | _,_,[]=>true
 | k,at_,s :: l=>decide (1<=s.label) && decide (s.label<=99) && decide (bb s.label 0 (all.take k)<0) && decide (at_<=s.at_) && decide (s.at_<=n) && Q4 all n (k+1) s.at_ l
theorem MK (all:List Sv) (n:Int):∀(l:List Sv) (k:Nat) (at_:Int),all.drop k=l->0<=at_->Q4 all n k at_ l=ou all n k at_ l
 | [],_,_,_,_=>rfl
 | s :: l,k,at_,h,h0=>by
  have hk:k<all.length:=by
   have:=congrArg List.length h;simp at this;omega
  have hs:all[k]=s/\all.drop (k+1)=l:=by
   rw [qDc hk] at h;injection h with h1 h2;exact ⟨h1,h2⟩
  have hf:=vy s.label all 0 k hk (by rw [hs.1]);rw [Nat.zero_add] at hf;show (decide (1<=s.label) && decide (s.label<=99) && decide (bb s.label 0 (all.take k)<0) && decide (at_<=s.at_) && decide (s.at_<=n) && Q4 all n (k+1) s.at_ l)=(decide (1<=s.label) && decide (s.label<=99) && decide (0<=s.at_) && decide (s.at_<=n) && decide (at_<=s.at_) && decide (bb s.label 0 all=(k:Int)) && ou all n (k+1) s.at_ l);by_cases ha:at_<=s.at_
  ·rw [MK all n l (k+1) s.at_ hs.2 (by omega),decide_eq_decide.2 hf.symm,qDt ha,qDt (show 0<=s.at_ by omega)];cases decide (1<=s.label) <;> cases decide (s.label<=99) <;> cases decide (s.at_<=n) <;> cases decide (bb s.label 0 all=(k:Int)) <;> simp
  ·rw [qDf ha];simp
theorem EW {β:Type} (n:ByteArray) (a:β):∀l:List (ByteArray×β),(fe n a l).map (·.1)=bif eY n (l.map (·.1)) then l.map (·.1) else l.map (·.1)++[n]
 | []=>rfl
 | x :: l=>by
  have ih:=EW n a l;unfold fe;show _=bif (bC x.1 n || eY n (l.map (·.1))) then x.1 :: l.map (·.1) else x.1 :: l.map (·.1)++[n];cases bC x.1 n with
  | true=>rfl
  | false =>
   show x.1 :: (fe n a l).map (·.1)=_;rw [ih,Bool.false_or];cases eY n (l.map (·.1)) <;> rfl
theorem jf:∀(l:List En) (m:List (ByteArray×Am)),(m.map (·.1)).Nodup->((fu m l).map (·.1)).Nodup
 | [],_,h=>h
 | e :: l,m,h=>by
  refine jf l (fe e.name e.after m) ?_;rw [EW];cases hh:eY e.name (m.map (·.1)) with
  | true=>exact h
  | false =>
   rw [qCf];refine List.nodup_append.2 ⟨h,by simp,fun a ha b hb=>?_⟩;rw [List.mem_singleton] at hb;subst hb;intro e9;subst e9;rw [iJ.2 ha] at hh;cases hh
theorem mh {x:ByteArray}:∀(l:List En) (m:List (ByteArray×Am)),x∈(fu m l).map (·.1)↔x∈m.map (·.1)\/∃e∈l,e.name=x
 | [],m=>by simp [fu]
 | e :: l,m=>by
  show x∈(fu (fe e.name e.after m) l).map (·.1)↔_;rw [mh l,<-iJ,CK,Bool.or_eq_true,bj,iJ];constructor
  ·rintro ((h|h)|⟨f,h1,h2⟩)
   ·exact .inr ⟨e,by simp,h⟩
   ·exact .inl h
   ·exact .inr ⟨f,by simp [h1],h2⟩
  ·rintro (h|⟨f,h1,h2⟩)
   ·exact .inl (.inr h)
   ·rcases List.mem_cons.1 h1 with rfl|h1
    ·exact .inl (.inl h2)
    ·exact .inr ⟨f,h1,h2⟩
theorem y5:∀{l m:List ByteArray},oU l->oU m->(∀x,x∈l↔x∈m)->l=m
 | [],[],_,_,_=>rfl
 | [],b :: m,_,_,h=>absurd ((h b).2 (by simp)) (by simp)
 | a :: l,[],_,_,h=>absurd ((h a).1 (by simp)) (by simp)
 | a :: l,b :: m,h1,h2,h=>by
  obtain ⟨p1,q1⟩:=List.pairwise_cons.1 h1;obtain ⟨p2,q2⟩:=List.pairwise_cons.1 h2;have e:a=b:=by
   rcases List.mem_cons.1 ((h a).1 (by simp)) with e|ha
   ·exact e
   ·rcases List.mem_cons.1 ((h b).2 (by simp)) with e|hb
    ·exact e.symm
    ·have:=ij (p1 b hb) (p2 a ha);rw [fD] at this;cases this
  subst e;rw [y5 q1 q2 fun x=>?_];constructor
  ·intro hx;rcases List.mem_cons.1 ((h x).1 (by simp [hx])) with e|hm
   ·subst e;have:=p1 x hx;rw [fD] at this;cases this
   ·exact hm
  ·intro hx;rcases List.mem_cons.1 ((h x).2 (by simp [hx])) with e|hm
   ·subst e;have:=p2 x hx;rw [fD] at this;cases this
   ·exact hm
def jT (m:List (ByteArray×Am)) (seen:List Nat):List ByteArray:=(seen.filterMap fun j=>m[j]?).map (·.1)
theorem J9 {m:List (ByteArray×Am)} {seen:List Nat} {j:Nat} {x:ByteArray×Am} (h:m[j]? = some x):jT m (seen++[j])=jT m seen++[x.1]:=by
 unfold jT;rw [List.filterMap_append,List.map_append];simp [h]
theorem lr {n:Nat} {seen:List Nat} (hn:seen.Nodup) (hs:∀j∈seen,j<n):seen.length<=n:=by
 have hp:seen.Perm ((List.range n).filter fun j=>decide (j∈seen)):=(List.perm_ext_iff_of_nodup hn (List.nodup_range.filter _)).2 fun j=>by
  rw [List.mem_filter,List.mem_range,decide_eq_true_eq];exact ⟨fun h=>⟨hs j h,h⟩,fun h=>h.2⟩
 have h:=List.length_filter_le (fun j=>decide (j∈seen)) (List.range n);rw [<-hp.length_eq] at h;simpa using h
theorem EX {α β:Type} {f g:α->Option β}:∀{l:List α},(∀x∈l,f x=g x)->l.filterMap f=l.filterMap g
 | [],_=>rfl
 | x :: l,h=>by
  rw [List.filterMap_cons,List.filterMap_cons,h x (by simp),EX fun y hy=>h y (by simp [hy])]
theorem EY {m:List (ByteArray×Am)} {seen:List Nat} (hn:seen.Nodup) (hs:∀j∈seen,j<m.length) (ha:∀j,j<m.length->j∈seen):(jT m seen).Perm (m.map (·.1)):=by
 have hp:seen.Perm (List.range m.length):=(List.perm_ext_iff_of_nodup hn List.nodup_range).2 fun j=>by
  rw [List.mem_range];exact ⟨hs j,ha j⟩
 have h1:=(hp.filterMap fun j=>m[j]?).map (·.1);have h2:(List.range m.length).filterMap (fun j=>m[j]?)=m:=by
  have e:(List.range m.length).filterMap (fun j=>m[j]?)=(List.range m.length).filterMap (fun j=>some (m.getD j (.empty,⟨0,0⟩))):=by
   refine EX fun j hj=>?_;have hj:=List.mem_range.1 hj;rw [List.getD_eq_getElem?_getD,qGg hj,Option.getD_some]
  rw [e,show (fun j=>some (m.getD j (.empty,⟨0,0⟩)))=some ∘ (fun j=>m.getD j (.empty,⟨0,0⟩)) from rfl,List.filterMap_eq_map];apply List.ext_getElem
  ·simp
  ·intro i h1 h2;simp [List.getD_eq_getElem?_getD,qGg h2]
 unfold jT
 rwa [h2] at h1
theorem zo (d:Nat) (r:Rq) {b:Bool} (hB:m6 r=b):FSpec prog 136 [r.a d] [] [] (.b b) []:=by
 refine a7 func136 ?_;have kE:=GE d r.expr;repeat' (first|refine av ?_ ?_|refine gV ?_|refine aq ?_|exact aw|refine ap fun hb=>?_)
 all_goals (refine eU ?_;rw [<-hB];simp [m6, *];try omega)
end Go.Proofs.YthpgjkjgkhjjlaaGreatDoor
