/- Part 5 of 35 of the proof of centralNew_holds (no condition). -/
import Derived.Test.YtjndcdcbjidocaaGreatDoorK04
import Derived.Carry
import Derived.SizedLaws
import Derived.Orders
import Derived.Still
set_option linter.unusedVariables false
set_option linter.unusedSimpArgs false
set_option maxRecDepth 100000
set_option maxHeartbeats 64000000
namespace Go.Proofs.YtjndcdcbjidocaaGreatDoor
open Go.RowKit Go.Proofs.Tryz
theorem BP (A2 A3:Option Addr) (c2 c3 B:Nat) (L:List Tm) (set:List Bool) (nm:ByteArray) (m u:Int) (w:World) (hB:B≤w.heap.size) (hL:RowsAt bV w (Lo B) A2 L) (hL8:L.length≤1000) (hS:RowsAt cU w (Lo B) A3 set) (hS8:set.length≤1000) :
  Calls prog 258 #[.agg #[.slice A2 L.length c2,.slice A3 set.length c3],.agg #[.string nm,.int .i64 m,.int .i64 u]] w (lC w (.bool (ck L set ⟨nm,⟨m,u⟩⟩))):=by
 have HF:=Lib.hid (fun W (hb:Below w.heap.size w W)=>lp A2 B c2 L nm m u W (by unfold maxLen;omega) (Nat.le_trans hB hb.size) (hL.below hb hB (Nat.le_refl _)))
 have HS:=Lib.hid hS
 have HI:=Lib.hid (j8 ⟨nm,⟨m,u⟩⟩ L 0 set)
 clear hL hS
 generalize lJ ⟨nm,⟨m,u⟩⟩ 0 L=i at *
 generalize ck L set ⟨nm,⟨m,u⟩⟩=q at *
 have HI2:Hid ((i = -1∧q=false)∨∃j:Nat,i=(j:Int)∧q=(set.drop j).headD false):=Lib.hid (by
  rcases HI.out with ⟨h1,_,h2⟩|⟨j,_,h1,_,h2⟩
  ·exact .inl ⟨h1,h2⟩
  ·exact .inr ⟨j,by rw [h1,Nat.zero_add],h2⟩)
 clear HI
 rcases HI2.out with ⟨rfl,rfl⟩|⟨j,rfl,hq⟩
 ·go_enter func258,ntmps258
  go_wp2_with fail
  refine (HF.out _ aU).mono ?_
  rintro e w2 ⟨rfl,hb2⟩
  have HB2:=Lib.hid hb2
  clear hb2
  go_wp2_with fail
  go_ret
  exact ⟨rfl,by exact aU⟩
 ·have hj0:(0:Int)≤(j:Int):=by omega
  by_cases hlt:j<set.length
  ·have hlti:(j:Int)<(set.length:Int):=by omega
   obtain ⟨y,hy⟩:∃x,set[j]=x:=⟨_,rfl⟩
   have HQ:Hid (q=y):=Lib.hid (by rw [hq,d8 hlt hy];rfl)
   clear hq HI2
   go_enter func258,ntmps258
   go_wp2_with fail
   refine (HF.out _ aU).mono ?_
   rintro e w2 ⟨rfl,hb2⟩
   have HB2:Hid (Below w.heap.size w w2):=Lib.hid (Below.tr (Below.al (Below.al (Below.refl _ _) _) _) hb2)
   obtain ⟨g2,off2,rfl,hbl3,e0⟩:=Ei (HS.out.below (B'':=B) HB2.out hB (Nat.le_refl _)) hlt hy
   have hbl4:g2<w2.heap.size:=Nat.lt_of_lt_of_le hbl3 (Nat.le_trans hB HB2.out.size)
   have x1:w2.cell? ⟨w.heap.size,1,none⟩=some (.slice (some ⟨g2,off2,none⟩) set.length c3):=by
    have h1:=hb2.cell (p:=⟨w.heap.size,1,none⟩) (by simp;omega)
    rw [h1]
    simp
   have hz:w.heap.size<w2.heap.size:=by have:=hb2.size;simp at this;omega
   clear hy hbl3 hb2
   go_wp2_with fail
   go_ret
   exact ⟨aN HQ.out.symm,HB2.out⟩
  ·have hlti:¬(j:Int)<(set.length:Int):=by omega
   have HQ:Hid (q=false):=Lib.hid (by rw [hq,List.drop_eq_nil_of_le (by omega)];rfl)
   clear hq HI2
   go_enter func258,ntmps258
   go_wp2_with fail
   refine (HF.out _ aU).mono ?_
   rintro e w2 ⟨rfl,hb2⟩
   have HB2:Hid (Below w.heap.size w w2):=Lib.hid (Below.tr (Below.al (Below.al (Below.refl _ _) _) _) hb2)
   have x1:w2.cell? ⟨w.heap.size,1,none⟩=some (.slice A3 set.length c3):=by
    have h1:=hb2.cell (p:=⟨w.heap.size,1,none⟩) (by simp;omega)
    rw [h1]
    simp
   have hz:w.heap.size<w2.heap.size:=by have:=hb2.size;simp at this;omega
   clear hb2
   go_wp2_with fail
   go_ret
   exact ⟨aN HQ.out.symm,HB2.out⟩
theorem BQ:∀(d:Nat) (x:Ex) (A A2 A3:Option Addr) (cap c2 c3 B:Nat) (L:List Tm) (set:List Bool) (w:World) (hx:ExF w B d A x) (hL:RowsAt bV w (Lo B) A2 L) (hL8:L.length≤1000) (hS:RowsAt cU w (Lo B) A3 set) (hS8:set.length≤1000),
  Calls prog 259 #[x.val A cap,.func (.func 258) #[.agg #[.slice A2 L.length c2,.slice A3 set.length c3]] #[]] w (lC w (.bool (rj (ck L set) x))):=by
 intro d
 induction d using Nat.strongRecOn with
 | ind d ih =>
  intro x A A2 A3 cap c2 c3 B L set w hx hL hL8 hS hS8
  obtain ⟨k,⟨nm,⟨m,u⟩⟩,l⟩:=x
  obtain ⟨hm,hBw,hr⟩:=hx
  unfold Ex.val
  rw [BO]
  dsimp only [Ex.k,Ex.atom,Ex.kids] at hm hr ⊢
  have IH:=Lib.hid ih
  have HR:=Lib.hid hr
  have HL:=Lib.hid hL
  have HS:=Lib.hid hS
  clear hr ih hL hS
  cases hE:l.isEmpty with
  | true =>
   obtain rfl:=List.isEmpty_iff.1 hE
   have HH:=Lib.hid (fun W (hb:Below w.heap.size w W)=>BP A2 A3 c2 c3 B L set nm m u W (Nat.le_trans hBw hb.size) (HL.out.below hb hBw (Nat.le_refl _)) hL8 (HS.out.below hb hBw (Nat.le_refl _)) hS8)
   simp only [cond_true]
   generalize ck L set ⟨nm,⟨m,u⟩⟩=q at *
   go_enter func259,ntmps259
   go_wp2_with fail
   refine (HH.out _ aU).mono ?_
   rintro e w2 ⟨rfl,hb2⟩
   have HB2:=Lib.hid hb2
   clear hb2
   go_wp2_with fail
   go_ret
   exact ⟨rfl,by exact aU⟩
  | false =>
   have hl0:¬(l.length:Int)=0:=by
    have:l≠[]:=fun e=>by rw [e] at hE;cases hE
    have:=List.length_pos_iff.2 this
    omega
   simp only [cond_false]
   have hl0':((l.length:Int) == 0)=false:=by simpa using hl0
   obtain ⟨r,hr⟩:∃r,decide (k≤(zZ (ck L set) l:Int))=r:=⟨_,rfl⟩
   rw [hr]
   have HQ:Hid (decide (k≤((0+zZ (ck L set) (l.drop 0):Nat):Int))=r):=Lib.hid (by rw [List.drop_zero,Nat.zero_add];exact hr)
   have hm2:=hm
   unfold maxLen at hm2
   clear hr
   go_enter func259,ntmps259
   go_wp2_with fail
   go_loopg [5,19] l.length (fun m0 v5 v19 wq=>∃kk n:Nat,v19 = .int .i64 (kk:Int)∧v5 = .int .i64 (n:Int)∧kk≤l.length∧l.length≤kk+m0∧n≤kk∧Hid (decide (k≤((n+zZ (ck L set) (l.drop kk):Nat):Int))=r)∧Hid (Below (w.alloc (.cells #[.int .i64 k,.string nm,.int .i64 m,.int .i64 u,.slice A l.length cap] 42)).heap.size (w.alloc (.cells #[.int .i64 k,.string nm,.int .i64 m,.int .i64 u,.slice A l.length cap] 42)) wq))
   case atStart=>exact ⟨0,0,rfl,rfl,Nat.zero_le _,by omega,by omega,HQ,Lib.hid (Below.refl _ _)⟩
   case round =>
    obtain ⟨kk,n,rfl,rfl,hk,hkm,hn,HI,HB⟩:=hrel
    have hb:=HB.out
    have HBW:Hid (Below w.heap.size w wr):=Lib.hid (Below.tr (Below.al (Below.refl _ _) _) hb)
    have x0:wr.cell? ⟨w.heap.size,0,none⟩=some (.int .i64 k):=(hb.cell (p:=⟨w.heap.size,0,none⟩) (by simp)).trans (dP w _ _ 0)
    have hz0:w.heap.size<wr.heap.size:=by have:=hb.size;simp at this;omega
    clear hb
    by_cases hlt:kk<l.length
    ·obtain ⟨⟨k1,⟨nm1,⟨m1,u1⟩⟩,l1⟩,hx⟩:∃x,l[kk]=x:=⟨_,rfl⟩
     obtain ⟨g1',off,A1,cap1,rfl,hbl,c0,c1,c2',c3',c4,hc1,hc2,d1,rfl,hr1⟩:=me (HR.out.below (B'':=B) HBW.out hBw (Nat.le_refl _)) hlt hx
     have hbl0:g1'<B:=hbl
     have hbl2:g1'<wr.heap.size:=by omega
     have hlti:(kk:Int)<(l.length:Int):=by omega
     have HX1:Hid (ExF wr B d1 A1 (.mk k1 ⟨nm1,⟨m1,u1⟩⟩ l1)):=Lib.hid ⟨Nat.le_trans hc1 hc2,by omega,hr1⟩
     have HQ2:Hid (decide (k≤((n+((bif rj (ck L set) (.mk k1 ⟨nm1,⟨m1,u1⟩⟩ l1) then 1 else 0)+zZ (ck L set) (l.drop (kk+1))):Nat):Int))=r):=Lib.hid (by have h:=HI.out;rw [d8 hlt hx,vu] at h;exact h)
     have HC:Hid (∀W,Below wr.heap.size wr W→Calls prog 259 #[.agg #[.int .i64 k1,.string nm1,.int .i64 m1,.int .i64 u1,.slice A1 l1.length cap1],.func (.func 258) #[.agg #[.slice A2 L.length c2,.slice A3 set.length c3]] #[]] W (lC W (.bool (rj (ck L set) (.mk k1 ⟨nm1,⟨m1,u1⟩⟩ l1))))):=Lib.hid (fun W hb1 =>
      IH.out d1 (by omega) (.mk k1 ⟨nm1,⟨m1,u1⟩⟩ l1) A1 A2 A3 cap1 c2 c3 B L set W (HX1.out.below hb1) (HL.out.below (Below.tr HBW.out hb1) hBw (Nat.le_refl _)) hL8 (HS.out.below (Below.tr HBW.out hb1) hBw (Nat.le_refl _)) hS8)
     generalize rj (ck L set) (.mk k1 ⟨nm1,⟨m1,u1⟩⟩ l1)=q1 at HC HQ2
     clear hx hbl hr1 hbl0
     go_wp2_with fail
     refine (HC.out _ aU).mono ?_
     rintro e w2 ⟨rfl,hb2⟩
     have HB2:Hid (Below (w.alloc (.cells #[.int .i64 k,.string nm,.int .i64 m,.int .i64 u,.slice (some ⟨g1',off,none⟩) l.length cap] 42)).heap.size (w.alloc (.cells #[.int .i64 k,.string nm,.int .i64 m,.int .i64 u,.slice (some ⟨g1',off,none⟩) l.length cap] 42)) w2):=Lib.hid (Below.tr (Below.al HB.out _) hb2)
     clear hb2
     cases q1 with
     | true =>
      have HE:Hid (decide (k≤((n+1+zZ (ck L set) (l.drop (kk+1)):Nat):Int))=r):=Lib.hid (by have h:=HQ2.out;rw [cond_true,←Nat.add_assoc] at h;exact h)
      go_wp2_with fail
      go_roundg (gk-1)
      case measure=>omega
      case rel=>exact ⟨kk+1,n+1,by go_num,by go_num,by omega,by omega,by omega,HE,HB2⟩
     | false =>
      have HE:Hid (decide (k≤((n+zZ (ck L set) (l.drop (kk+1)):Nat):Int))=r):=Lib.hid (by have h:=HQ2.out;rw [cond_false,Nat.zero_add] at h;exact h)
      go_wp2_with fail
      go_roundg (gk-1)
      case measure=>omega
      case rel=>exact ⟨kk+1,n,by go_num,by go_num,by omega,by omega,by omega,HE,HB2⟩
    ·have hlti:¬(kk:Int)<(l.length:Int):=by omega
     have HE:Hid (decide (k≤(n:Int))=r):=Lib.hid (by have h:=HI.out;rw [gz hlt] at h;exact h)
     go_wp2_with fail
     go_ret
     exact ⟨aN HE.out,by exact aU⟩
theorem sa (d:Nat) (x:Ex) (A A2 A3:Option Addr) (cap c2 c3 B:Nat) (L:List Tm) (set:List Bool) (w:World) (hx:ExF w B d A x) (hL:RowsAt bV w (Lo B) A2 L) (hL8:L.length≤1000) (hS:RowsAt cU w (Lo B) A3 set) (hS8:set.length≤1000) :
  Calls prog 193 #[x.val A cap,.slice A2 L.length c2,.slice A3 set.length c3] w (lC w (.bool (rj (ck L set) x))):=by
 have HE:=Lib.hid (fun W (hb:Below w.heap.size w W)=>BQ d x A A2 A3 cap c2 c3 B L set W (hx.below hb) (hL.below hb hx.hB (Nat.le_refl _)) hL8 (hS.below hb hx.hB (Nat.le_refl _)) hS8)
 clear hx hL hS
 obtain ⟨k,⟨nm,⟨m,u⟩⟩,l⟩:=x
 unfold Ex.val at *
 dsimp only [Ex.k,Ex.atom,Ex.kids] at HE ⊢
 generalize rj (ck L set) (.mk k ⟨nm,⟨m,u⟩⟩ l)=q at *
 go_enter func193,ntmps193
 go_wp2_with fail
 refine (HE.out _ aU).mono ?_
 rintro e w2 ⟨rfl,hb2⟩
 have HB2:=Lib.hid hb2
 clear hb2
 go_wp2_with fail
 go_ret
 exact ⟨rfl,by exact aU⟩
theorem z7 (d:Nat) (x:Ex) (A A3:Option Addr) (cap c3 B:Nat) (set:List Bool) (w:World) (hx:ExF w B d A x) (hS:RowsAt cU w (Lo B) A3 set) (hS8:set.length≤1000) :
  Calls prog 119 #[x.val A cap,.slice A3 set.length c3] w (lC w (.bool (dw x set))):=by
 have HA:=Lib.hid (fun W (hb:Below w.heap.size w W)=>z6 d x A cap B W (hx.below hb))
 have HH:=Lib.hid (fun W (hb:Below w.heap.size w W) (A2:Option Addr) (c2:Nat) (hL:RowsAt bV W (Lo W.heap.size) A2 (cj x)) (hL8:(cj x).length≤1000)=>sa d x A A2 A3 cap c2 c3 W.heap.size (cj x) set W ((hx.below hb).up (Nat.le_trans hx.hB hb.size) (Nat.le_refl _)) hL hL8 (hS.below hb hx.hB (Nat.le_trans hx.hB hb.size)) hS8)
 have HV:=Lib.hid (ni (x:=x))
 have HN:=Lib.hid (pw (x:=x))
 have HQ:Hid (dw x set=(ib x && rj (ck (cj x) set) x)):=Lib.hid rfl
 clear hx hS
 obtain ⟨k,⟨nm,⟨m,u⟩⟩,l⟩:=x
 unfold Ex.val at *
 dsimp only [Ex.k,Ex.atom,Ex.kids] at HA HH ⊢
 generalize rj (ck (cj (.mk k ⟨nm,⟨m,u⟩⟩ l)) set) (.mk k ⟨nm,⟨m,u⟩⟩ l)=q at *
 generalize dw (.mk k ⟨nm,⟨m,u⟩⟩ l) set=r at *
 generalize ib (.mk k ⟨nm,⟨m,u⟩⟩ l)=V at *
 generalize cj (.mk k ⟨nm,⟨m,u⟩⟩ l)=L at *
 go_enter func119,ntmps119
 go_wp2_with fail
 refine (HA.out _ aU).mono ?_
 rintro e w2 ⟨v,rfl,ho,hb2⟩
 have HB2:Hid (Below w.heap.size w w2):=Lib.hid (Below.tr (Below.al (Below.refl _ _) _) hb2)
 obtain ⟨A2,c2,rfl,hr2,_,_⟩:=ho.form
 have HR2:=Lib.hid hr2
 obtain ⟨hc_w2,hf_w2⟩:=gy hb2
 have hs_w2:=hb2.size
 (try simp at hs_w2)
 have hz_w2_0:w.heap.size<w2.heap.size:=(by omega)
 clear hs_w2
 clear hb2 ho hr2
 cases V with
 | false =>
  have hL0:L.length=0:=by rw [HN.out rfl];rfl
  have hL1:¬(0:Int)<(L.length:Int):=by omega
  go_wp2_with fail
  go_ret
  exact ⟨aN (by rw [HQ.out];rfl),HB2.out⟩
 | true =>
  have hL1:(0:Int)<(L.length:Int):=by have:=(HV.out (by trivial)).2.2.2.1;omega
  go_wp2_with fail
  refine (HH.out _ HB2.out A2 c2 HR2.out (by have:=(HV.out (by trivial)).2.2.1;omega)).mono ?_
  rintro e w3 ⟨rfl,hb3⟩
  have HB3:Hid (Below w.heap.size w w3):=Lib.hid (Below.tr HB2.out hb3)
  clear hb3
  go_wp2_with fail
  go_ret
  exact ⟨aN (by rw [HQ.out];rfl),HB3.out⟩
structure Nd where
 proc:Pr
 expr:Ex
 gen:Int
def JA (d:Nat):El Nd where
 n:=9
 pos:=by decide
 rep:=fun w S x cs=>∃A cap,cs=[.int .i64 x.proc.site,.int .i64 x.proc.inc,.int .i64 x.proc.num,.int .i64 x.expr.k,.string x.expr.atom.name,.int .i64 x.expr.atom.am.mode,.int .i64 x.expr.atom.am.units,.slice A x.expr.kids.length cap,.int .i64 x.gen]∧(x.expr.kids.length≤cap∧cap≤maxLen)∧RowsAt (mY d) w S A x.expr.kids
 len:=fun h=>by obtain ⟨A,cap,rfl,_⟩:=h;rfl
 one:=fun h=>by obtain ⟨A,cap,rfl,_⟩:=h;intro u hu;simp at hu;rcases hu with rfl|rfl|rfl|rfl|rfl|rfl|rfl|rfl|rfl <;> rfl
 same:=fun h hk hS=>by
  obtain ⟨A,cap,e,h1,h2⟩:=h
  exact ⟨A,cap,e,h1,h2.same hk hS⟩
structure Ws where
 queues:List Qu
 needs:List Nd
structure WF (w:World) (B d:Nat) (A1 A2:Option Addr) (s:Ws):Prop where
 r1:RowsAt Jz w (Lo B) A1 s.queues
 r2:RowsAt (JA d) w (Lo B) A2 s.needs
 m1:s.queues.length≤maxLen
 m2:s.needs.length≤maxLen
 hB:B≤w.heap.size
theorem WF.below {w w':World} {B d:Nat} {A1 A2:Option Addr} {s:Ws} (f:WF w B d A1 A2 s) (hb:Below w.heap.size w w'):WF w' B d A1 A2 s :=
 ⟨f.r1.below hb f.hB (Nat.le_refl _),f.r2.below hb f.hB (Nat.le_refl _),f.m1,f.m2,Nat.le_trans f.hB hb.size⟩
def Ws.val (s:Ws) (A1 A2:Option Addr) (c1 c2:Nat):Value:=.agg #[.slice A1 s.queues.length c1,.slice A2 s.needs.length c2]
section
open Go.WideShapes Go.ChangeShapes Go.Deep Go.Joins
theorem Reps.map {α:Type} {E E':El α} {w:World} {S:Nat→Prop} (hf:∀x cs,E.rep w S x cs→E'.rep w S x cs):∀{l:List α} {xs:List Value},Reps E w S l xs→Reps E' w S l xs
 | [],_,h=>h
 | _ :: _,_,h=>by
  obtain ⟨cs,rest,rfl,h1,h2⟩:=h
  exact ⟨cs,rest,rfl,hf _ _ h1,Reps.map hf h2⟩
theorem RowsAt.map {α:Type} {E E':El α} {w:World} {S:Nat→Prop} {A:Option Addr} {l:List α} (hf:∀x cs,E.rep w S x cs→E'.rep w S x cs) (h:RowsAt E w S A l):RowsAt E' w S A l:=by
 obtain ⟨xs,h1,h2⟩:=h
 exact ⟨xs,h1.map hf,h2⟩
theorem xm:∀{d d':Nat} {w:World} {S:Nat→Prop} {x:Ex} {cs:List Value},d≤d'→(mY d).rep w S x cs→(mY d').rep w S x cs
 | 0,_,_,_,_,_,_,h=>h.elim
 | d+1,0,_,_,_,_,hd,_=>absurd hd (by omega)
 | d+1,d'+1,_,_,_,_,hd,h=>by
  obtain ⟨A,cap,rfl,h1,h2,h3⟩:=h
  exact ⟨A,cap,rfl,h1,h2,h3.map fun _ _ hx=>xm (by omega) hx⟩
def OpensN {α:Type} (P:Program) (N:Nat) (E:El α) (t:TypeId) (fits:α→Prop):Prop :=
 ∀{H:Type} {enc:TypeId×Value→H} {w:World} {base:Nat} {spare:Nat→Bool} {held:Bool} {cs:List Value} {x:DataW H×List MemPlace},DataW.trod enc P w base spare held N t cs=some x→∃y,E.rep w (Lo w.heap.size) y cs∧fits y
theorem Opens.n {α:Type} {P:Program} {E:El α} {t:TypeId} {fits:α→Prop} (h:Opens P E t fits) (N:Nat):OpensN P N E t fits:=fun hx=>h hx
theorem OpensN.sl {α:Type} {P:Program} {N:Nat} {E:El α} {t e:TypeId} {fits:α→Prop} (ho:OpensN P N E e fits) (ht:P.underlying t=some (.slice e)) (hC:P.cellsOf e=E.n):OpensN P (N+1) E.sl t (fun l=>l.length≤maxLen∧∀y∈l,fits y):=by
 intro H enc w base spare held cs x h
 rcases DataW.trod_slice ht h with ⟨rfl,_⟩|⟨a,len,cap,elems,rest,n,hn,rfl,_,hb,hl,hm,hlen,hi,_,_⟩
 ·exact ⟨[],⟨none,0,rfl,by simp,by simp [maxLen],RowsAt.nil _ _ _ _⟩,by simp [maxLen],by simp⟩
 ·obtain rfl:N=n:=by omega
  rcases Nat.eq_zero_or_pos len with h0|h0
  ·subst h0
   exact ⟨[],⟨some a,cap,rfl,by simp,hm,RowsAt.nil _ _ _ _⟩,by simp [maxLen],by simp⟩
  ·have hi2:∀i,i<len→∃cs' y,w.cells? base (a.add (i*P.cellsOf e)) (P.cellsOf e)=some cs'∧DataW.trod enc P w base spare held N e cs'=some y:=by
    intro i hil
    have h1:=hi i hil
    rw [List.getElem?_eq_getElem (by omega)] at h1
    obtain ⟨cs',h2,h3⟩:=Option.bind_eq_some_iff.1 h1
    exact ⟨cs',_,h2,h3⟩
   have hplain:∃b off,a=⟨b,off,none⟩:=by
    obtain ⟨cs',_,hc,_⟩:=hi2 0 (by omega)
    obtain ⟨_,hcl,hat⟩:=World.cells?_some hc
    have hp:=E.pos
    have h1:=hat 0 (by omega)
    rw [Nat.zero_mul,List.getElem?_eq_getElem (by omega)] at h1
    have e0:(a.add 0).add 0=a.add 0:=by rw [Go.Deep.add_add]
    rw [e0] at h1
    exact o8 h1
   obtain ⟨b,off,rfl⟩:=hplain
   have hel:∀i,i<len→∃y cs,E.rep w (Lo w.heap.size) y cs∧fits y∧∀j u,cs[j]? = some u→w.cell? ⟨b,off+i*E.n+j,none⟩=some u:=by
    intro i hil
    obtain ⟨cs',_,hc,hd⟩:=hi2 i hil
    obtain ⟨y,hy,hf⟩:=ho hd
    obtain ⟨_,hcl,hat⟩:=World.cells?_some hc
    refine ⟨y,cs',hy,hf,fun j u hu=>?_⟩
    have hj:j<cs'.length:=(List.getElem?_eq_some_iff.1 hu).1
    have h1:=hat j (by omega)
    rw [hu,cL,cL,hC] at h1
    exact h1
   obtain ⟨l,xs,k1,k2,k3,k4⟩:=th len off hel
   subst k1
   refine ⟨l,⟨_,cap,rfl,hl,hm,xs,k2,fun _=>⟨b,off,rfl,?_,k4⟩⟩,by omega,k3⟩
   have hxl:=k2.length
   have hp:=E.pos
   have:0<xs.length:=by rw [hxl];exact Nat.mul_pos h0 hp
   exact World.block_lt_of_cell? w _ (k4 0 _ (List.getElem?_eq_getElem this))
section
variable {H:Type} {enc:TypeId×Value→H} {w:World} {base:Nat} {spare:Nat→Bool} {held:Bool}
end
end
def New (base:Nat) (w:World) (b:Nat):Prop:=base≤b∧b<w.heap.size
def El.from {α:Type} (E:El α) (base:Nat):El α where
 n:=E.n
 pos:=E.pos
 rep:=fun w S x cs=>E.rep w (fun b=>S b∧base≤b) x cs
 len:=fun h=>E.len h
 one:=fun h=>E.one h
 same:=fun h hk hS=>E.same h (fun b hb=>hk b hb.1) fun b hb=>⟨hS b hb.1,hb.2⟩
section
variable {α:Type} {E:El α} {base:Nat} {w:World} {S:Nat→Prop} {e t:TypeId}
theorem Reps.from:∀{l:List α} {xs:List Value},Reps (E.from base) w S l xs→Reps E w (fun b=>S b∧base≤b) l xs
 | [],_,h=>h
 | _ :: _,_,h=>by
  obtain ⟨cs,rest,rfl,h1,h2⟩:=h
  exact ⟨cs,rest,rfl,h1,Reps.from h2⟩
theorem OwnRows.from {v:Value} {l:List α} (h:OwnRows (E.from base) e w base v l):∃A cap,v = .slice A l.length cap∧RowsAt E w (New base w) A l∧l.length≤cap∧cap≤maxLen:=by
 obtain ⟨h0,xs,h1,h3⟩:=h
 have hc:∀g,v.ownBlock=some g→∀j u,xs[j]? = some u→w.cell? ((⟨g,0,none⟩:Addr).add j)=some u:=fun g hg=>h1.cells hg
 rcases h1.2 with ⟨hv,hn⟩|⟨g,cap,cur,hv,hg,hh,hnc,hcm,hcs,ht⟩
 ·have hl:l=[]:=List.eq_nil_of_length_eq_zero hn
  subst hl
  exact ⟨none,0,hv,RowsAt.nil _ _ _ _,by simp,by simp [maxLen]⟩
 ·refine ⟨_,cap,hv,⟨xs,h3.from.same (fun _ _=>rfl) (fun b hb=>⟨hb.2,hb.1.1⟩),fun _=>⟨g,0,rfl,⟨hg,(Array.getElem?_eq_some_iff.1 hh).1⟩,fun j u hu=>?_⟩⟩,hnc,hcm⟩
  have:=hc g (by rw [hv];rfl) j u hu
  rwa [cL] at this
theorem ElTB.from {P:Program} {by_:Nat} (T:ElTB P E t e by_) (base:Nat):ElTB P (E.from base) t e by_:=⟨T.under,T.info⟩
end
section
variable {α:Type} {e:TypeId} {n:Nat} {pos:0<n} {f:α→List Value} {len:∀x,(f x).length=n} {one:∀x,∀u∈f x,u.oneCell'=true}
theorem OwnRows.newP {w:World} {base:Nat} {v:Value} {l:List α} (h:OwnRows (El.plain n pos f len one) e w base v l):∃A cap,v = .slice A l.length cap∧RowsAt (El.plain n pos f len one) w (New base w) A l∧l.length≤cap:=by
 rcases Nat.eq_zero_or_pos l.length with hl|hl
 ·obtain ⟨A,cap,hv,_,hc,_⟩:=h.form
  obtain rfl:l=[]:=List.eq_nil_of_length_eq_zero hl
  exact ⟨A,cap,hv,RowsAt.nil _ _ _ _,hc⟩
 ·obtain ⟨g,cap,hv,hg,hg2,hc,_,_,hr⟩:=h.addr hl
  obtain ⟨xs,h1,h2⟩:=hr
  refine ⟨_,cap,hv,⟨xs,yx h1,fun hp=>?_⟩,hc⟩
  obtain ⟨b,off,hA,_,hcells⟩:=h2 hp
  injection hA with hA
  injection hA with e1 e2
  subst e1
  subst e2
  exact ⟨_,_,rfl,⟨hg,hg2⟩,hcells⟩
end
theorem New.grow {base B:Nat} {w w':World} (hb:Below B w w') (hB:w.heap.size≤B) {α:Type} {E:El α} {A:Option Addr} {l:List α} (h:RowsAt E w (New base w) A l):RowsAt E w' (New base w') A l :=
 h.same (fun b hb2=>hb.block b (Nat.lt_of_lt_of_le hb2.2 hB)) fun b hb2=>⟨hb2.1,Nat.lt_of_lt_of_le hb2.2 hb.size⟩
theorem New.lo {base:Nat} {w:World} {α:Type} {E:El α} {A:Option Addr} {l:List α} (h:RowsAt E w (New base w) A l):RowsAt E w (Lo w.heap.size) A l:=h.mono fun _ hb=>hb.2
theorem New.older {base base':Nat} {w:World} {α:Type} {E:El α} {A:Option Addr} {l:List α} (h:RowsAt E w (New base w) A l) (hb:base'≤base):RowsAt E w (New base' w) A l:=h.mono fun _ hb2=>⟨Nat.le_trans hb hb2.1,hb2.2⟩
def All2 {α:Type _} {β:Type _} (R:α→β→Prop):List α→List β→Prop
 | [],[]=>True
 | a :: l,b :: m=>R a b∧All2 R l m
 | _,_=>False
section
variable {α:Type _} {β:Type _} {R R':α→β→Prop}
theorem All2.length:∀{l:List α} {m:List β},All2 R l m→l.length=m.length
 | [],[],_=>rfl
 | _ :: _,_ :: _,h=>by simp [All2.length h.2]
 | [],_ :: _,h=>h.elim
 | _ :: _,[],h=>h.elim
theorem All2.imp:∀{l:List α} {m:List β},All2 R l m→(∀a b,a∈l→R a b→R' a b)→All2 R' l m
 | [],[],_,_=>trivial
 | _ :: _,_ :: _,h,f=>⟨f _ _ (by simp) h.1,All2.imp h.2 fun a b ha=>f a b (by simp [ha])⟩
 | [],_ :: _,h,_=>h.elim
 | _ :: _,[],h,_=>h.elim
theorem All2.get:∀{l:List α} {m:List β},All2 R l m→∀{i:Nat} {a:α},l[i]? = some a→∃b,m[i]? = some b∧R a b
 | [],[],_,_,_,h=>by simp at h
 | _ :: _,_ :: _,h,0,_,e=>by simp at e;subst e;exact ⟨_,by simp,h.1⟩
 | _ :: _,_ :: _,h,i+1,_,e=>by simpa using All2.get h.2 (by simpa using e)
 | [],_ :: _,h,_,_,_=>h.elim
 | _ :: _,[],h,_,_,_=>h.elim
theorem All2.append:∀{l l':List α} {m m':List β},All2 R l m→All2 R l' m'→All2 R (l++l') (m++m')
 | [],_,[],_,_,k=>k
 | _ :: _,_,_ :: _,_,h,k=>⟨h.1,All2.append h.2 k⟩
 | [],_,_ :: _,_,h,_=>h.elim
 | _ :: _,_,[],_,h,_=>h.elim
theorem All2.drop:∀(k:Nat) {l:List α} {m:List β},All2 R l m→All2 R (l.drop k) (m.drop k)
 | 0,_,_,h=>by simpa using h
 | _+1,[],[],_=>trivial
 | k+1,_ :: _,_ :: _,h=>by simpa using All2.drop k h.2
 | _+1,[],_ :: _,h=>h.elim
 | _+1,_ :: _,[],h=>h.elim
theorem All2.take:∀(k:Nat) {l:List α} {m:List β},All2 R l m→All2 R (l.take k) (m.take k)
 | 0,_,_,h=>by simp [All2]
 | _+1,[],[],_=>trivial
 | k+1,_ :: _,_ :: _,h=>by simpa using ⟨h.1,All2.take k h.2⟩
 | _+1,[],_ :: _,h=>h.elim
 | _+1,_ :: _,[],h=>h.elim
theorem All2.mapL {γ:Type _} {f:γ→α}:∀{l:List γ} {m:List β},All2 R (l.map f) m↔All2 (fun c b=>R (f c) b) l m
 | [],[]=>Iff.rfl
 | _ :: _,_ :: _=>and_congr Iff.rfl All2.mapL
 | [],_ :: _=>Iff.rfl
 | _ :: _,[]=>Iff.rfl
end
inductive D:Type 1 where
 | any
 | sc (v:Value)
 | sl {α:Type} (E:El α) (l:List α)
 | full {α:Type} (E:El α) (l:List α)
 | own (k:Nat)
 | slb (k n:Nat)
 | ptr (k off:Nat)
 | eptr {α:Type} (E:El α) (l:List α) (i off:Nat)
 | optr (k m i off:Nat)
 | ocut (k:Nat)
 | osl (k m lo hi:Nat) (fl:Bool)
 | clo (f:FuncId) (ks:List Nat)
inductive V0:Type 1 where
 | one (d:D)
 | ag (l:List D)
inductive TV:Type 1 where
 | v (x:V0)
 | tup (l:List V0)
inductive Box:Type 1 where
 | box (t:TypeId) (cs:List D)
 | arr {α:Type} (e:TypeId) (E:El α) (l:List α)
 | mp (l:List (Value×Value))
 | it (k n:Nat) (seen:List Nat)
structure Mst:Type 1 where
 t:Nat→TV
 h:Nat→Option Box
 f:Nat→Bool
def kb:Value→Option Nat
 | .pointer (some a)=>some a.block
 | .slice (some a) _ _=>some a.block
 | .map (some b)=>some b
 | _=>none
def ed:Nat→List (Value×Value)→List MapEntry
 | _,[]=>[]
 | i,x :: l=>⟨x.1,x.2,i⟩ :: ed (i+1) l
def jD (l:List (Value×Value)):Obj:=.map (ed 0 l).toArray l.length
def D.rep (w:World) (F:Nat→Prop) (ρ:Nat→Value):D→Value→Prop
 | .any,_=>True
 | .sc x,v=>v=x
 | .sl E l,v=>∃A cap,v = .slice A l.length cap∧(l.length≤cap∧cap≤maxLen)∧RowsAt E w F A l
 | .full E l,v=>∃A,v = .slice A l.length l.length∧l.length≤maxLen∧RowsAt E w F A l
 | .own k,v=>v=ρ k
 | .slb k n,v=>∃g,ρ k = .pointer (some ⟨g,0,none⟩)∧v = .slice (some ⟨g,0,none⟩) n n
 | .ptr k off,v=>∃g,ρ k = .pointer (some ⟨g,0,none⟩)∧v = .pointer (some ⟨g,off,none⟩)
 | .eptr E l i off,v=>∃b o,v = .pointer (some ⟨b,o+i*E.n+off,none⟩)∧RowsAt E w F (some ⟨b,o,none⟩) l∧i<l.length
 | .optr k m i off,v=>∃g n cap,ρ k = .slice (some ⟨g,0,none⟩) n cap∧v = .pointer (some ⟨g,i*m+off,none⟩)
 | .ocut k,v=>∃A n cap c,ρ k = .slice A n cap∧(n≤c∧c≤cap)∧v = .slice A n c
 | .osl k m lo hi fl,v=>∃g n cap c A,ρ k = .slice (some ⟨g,0,none⟩) n cap∧(lo≤hi∧hi≤n∧hi≤lo+c∧lo+c≤cap)∧(fl=true→lo+c=hi)∧v = .slice (some A) (hi-lo) c∧(lo=0∨0<c→A=⟨g,lo*m,none⟩)
 | .clo f ks,v=>∃vs:List Value,v = .func (.func f) #[] vs.toArray∧All2 (fun k u=>u=ρ k) ks vs
def V0.rep (w:World) (F:Nat→Prop) (ρ:Nat→Value):V0→Value→Prop
 | .one d,v=>d.rep w F ρ v
 | .ag l,v=>∃cs:List Value,v = .agg cs.toArray∧All2 (D.rep w F ρ) l cs
def TV.rep (w:World) (F:Nat→Prop) (ρ:Nat→Value):TV→Value→Prop
 | .v x,u=>x.rep w F ρ u
 | .tup l,u=>∃vs:List Value,u = .tuple vs.toArray∧All2 (V0.rep w F ρ) l vs
def Box.rep (w:World) (F:Nat→Prop) (ρ:Nat→Value):Box→Value→Prop
 | .box t cs,v=>∃(g:Nat) (vs:List Value),v = .pointer (some ⟨g,0,none⟩)∧Blk w g t vs.toArray∧All2 (D.rep w F ρ) cs vs∧∀u∈vs,u.oneCell'=true
 | .arr e E l,v=>∃xs,w.ownsRow 0 e E.n v l.length xs∧Reps E w F l xs
 | .mp l,v=>∃g,v = .map (some g)∧w.heap[g]? = some (jD l)
 | .it k n seen,v=>∃g m,v = .pointer (some ⟨g,0,none⟩)∧ρ k = .map (some m)∧w.heap[g]? = some (.mapIter (some m) n seen.toArray n)
def D.has (k:Nat):D→Bool
 | .own j | .slb j _ | .ptr j _ | .optr j _ _ _ | .ocut j | .osl j _ _ _ _=>j.beq k
 | .clo _ ks=>ks.any fun j=>j.beq k
 | _=>false
def V0.has (k:Nat):V0→Bool
 | .one d=>d.has k
 | .ag l=>l.any (D.has k)
def TV.has (k:Nat):TV→Bool
 | .v x=>x.has k
 | .tup l=>l.any (V0.has k)
def Box.has (k:Nat):Box→Bool
 | .box _ cs=>cs.any (D.has k)
 | .arr ..=>false
 | .mp _=>false
 | .it j _ _=>j.beq k
section
variable {w w':World} {F F':Nat→Prop} {ρ ρ':Nat→Value}
theorem D.rep.mono {d:D} {v:Value} (h:d.rep w F ρ v) (hF:∀b,F b→F' b∧w'.heap[b]? = w.heap[b]?) (hρ:∀k,d.has k=true→ρ' k=ρ k):d.rep w' F' ρ' v:=by
 have h1:∀b,F b→w'.heap[b]? = w.heap[b]?:=fun b hb=>(hF b hb).2
 have h2:∀b,F b→F' b:=fun b hb=>(hF b hb).1
 cases d with
 | any=>trivial
 | sc x=>exact h
 | sl E l=>obtain ⟨A,cap,e,h3,h4⟩:=h;exact ⟨A,cap,e,h3,h4.same h1 h2⟩
 | full E l=>obtain ⟨A,e,h3,h4⟩:=h;exact ⟨A,e,h3,h4.same h1 h2⟩
 | own k=>exact h.trans (hρ k (by simp [D.has])).symm
 | slb k n=>obtain ⟨g,h3,h4⟩:=h;exact ⟨g,(hρ k (by simp [D.has])).trans h3,h4⟩
 | ptr k off=>obtain ⟨g,h3,h4⟩:=h;exact ⟨g,(hρ k (by simp [D.has])).trans h3,h4⟩
 | eptr E l i off=>obtain ⟨b,o,e,h3,h4⟩:=h;exact ⟨b,o,e,h3.same h1 h2,h4⟩
 | optr k m i off=>obtain ⟨g,n,cap,h3,h4⟩:=h;exact ⟨g,n,cap,(hρ k (by simp [D.has])).trans h3,h4⟩
 | ocut k=>obtain ⟨A,n,cap,c,h3,h4⟩:=h;exact ⟨A,n,cap,c,(hρ k (by simp [D.has])).trans h3,h4⟩
 | osl k m lo hi fl=>obtain ⟨g,n,cap,c,A,h3,h4⟩:=h;exact ⟨g,n,cap,c,A,(hρ k (by simp [D.has])).trans h3,h4⟩
 | clo f ks=>obtain ⟨vs,e,h3⟩:=h;exact ⟨vs,e,h3.imp fun j u hj (hu:u=ρ j)=>hu.trans (hρ j (by simp only [D.has];exact List.any_eq_true.2 ⟨j,hj,Nat.beq_refl j⟩)).symm⟩
theorem V0.rep.mono {d:V0} {v:Value} (h:d.rep w F ρ v) (hF:∀b,F b→F' b∧w'.heap[b]? = w.heap[b]?) (hρ:∀k,d.has k=true→ρ' k=ρ k):d.rep w' F' ρ' v:=by
 cases d with
 | one d=>exact D.rep.mono (d:=d) h hF hρ
 | ag l =>
  obtain ⟨cs,e,h1⟩:=h
  exact ⟨cs,e,h1.imp fun a b ha (h2:D.rep w F ρ a b)=>D.rep.mono h2 hF fun k hk=>hρ k (by simp only [V0.has,List.any_eq_true];exact ⟨a,ha,hk⟩)⟩
theorem TV.rep.mono {d:TV} {v:Value} (h:d.rep w F ρ v) (hF:∀b,F b→F' b∧w'.heap[b]? = w.heap[b]?) (hρ:∀k,d.has k=true→ρ' k=ρ k):d.rep w' F' ρ' v:=by
 cases d with
 | v d=>exact V0.rep.mono (d:=d) h hF hρ
 | tup l =>
  obtain ⟨cs,e,h1⟩:=h
  exact ⟨cs,e,h1.imp fun a b ha (h2:V0.rep w F ρ a b)=>V0.rep.mono h2 hF fun k hk=>hρ k (by simp only [TV.has,List.any_eq_true];exact ⟨a,ha,hk⟩)⟩
theorem tB {e:TypeId} {n m:Nat} {v:Value} {xs:List Value} (h:w.ownsRow 0 e n v m xs) (hb:∀g,kb v=some g→w'.heap[g]? = w.heap[g]?):w'.ownsRow 0 e n v m xs:=by
 refine ⟨h.1,?_⟩
 rcases h.2 with hn|⟨g,cap,cur,hv,hg,hh,rest⟩
 ·exact .inl hn
 ·exact .inr ⟨g,cap,cur,hv,hg,by rw [hb g (by rw [hv];rfl)];exact hh,rest⟩
theorem Box.rep.mono {d:Box} {v:Value} (h:d.rep w F ρ v) (hb:∀g,kb v=some g→w'.heap[g]? = w.heap[g]?) (hF:∀b,F b→F' b∧w'.heap[b]? = w.heap[b]?) (hρ:∀k,d.has k=true→ρ' k=ρ k):d.rep w' F' ρ' v:=by
 cases d with
 | box t cs =>
  obtain ⟨g,vs,e,h1,h2,h3⟩:=h
  exact ⟨g,vs,e,(hb g (by rw [e];rfl)).trans h1,h2.imp fun a b ha (h4:D.rep w F ρ a b)=>D.rep.mono h4 hF fun k hk=>hρ k (by simp only [Box.has,List.any_eq_true];exact ⟨a,ha,hk⟩),h3⟩
 | arr e E l =>
  obtain ⟨xs,h1,h2⟩:=h
  exact ⟨xs,tB h1 hb,h2.same (fun b hb2=>(hF b hb2).2) fun b hb2=>(hF b hb2).1⟩
 | mp l =>
  obtain ⟨g,e,h1⟩:=h
  exact ⟨g,e,(hb g (by rw [e];rfl)).trans h1⟩
 | it k n seen =>
  obtain ⟨g,m,e,h1,h2⟩:=h
  exact ⟨g,m,e,(hρ k (by simp [Box.has])).trans h1,(hb g (by rw [e];rfl)).trans h2⟩
theorem Box.lt {d:Box} {v:Value} {g:Nat} (h:d.rep w F ρ v) (hg:kb v=some g):g<w.heap.size:=by
 cases d with
 | box t cs =>
  obtain ⟨g',vs,e,h1,_⟩:=h
  subst e
  injection hg with hg
  subst hg
  exact h1.lt
 | arr e E l =>
  obtain ⟨xs,h1,h2⟩:=h
  rcases h1.2 with ⟨hv,hn⟩|⟨g',cap,cur,hv,_,hh,_⟩
  ·subst hv;cases hg
  ·subst hv
   injection hg with hg
   subst hg
   exact (Array.getElem?_eq_some_iff.1 hh).1
 | mp l =>
  obtain ⟨g',e,h1⟩:=h
  subst e
  injection hg with hg
  subst hg
  exact (Array.getElem?_eq_some_iff.1 h1).1
 | it k n seen =>
  obtain ⟨g',m,e,_,h1⟩:=h
  subst e
  injection hg with hg
  subst hg
  exact (Array.getElem?_eq_some_iff.1 h1).1
end
def PinW (w:World) (X:Nat→Prop):Prop:=Tog w∧¬X 1
theorem PinW.sub {w w':World} {X X':Nat→Prop} (h:PinW w X) (hw:∀b,b<w.heap.size→¬X b→w'.heap[b]? = w.heap[b]?) (hX:∀b,b<w.heap.size→X' b→X b):PinW w' X':=by
 have hb:1<w.heap.size:=World.block_lt_of_cell? w _ (h.1.at_ 0 0 (by decide) (by decide))
 exact ⟨⟨fun i j hi hj=>(World.cell?_of_block (a:=⟨1,i*5+j,none⟩) (hw _ hb h.2)).trans (h.1.at_ i j hi hj)⟩,fun hx=>h.2 (hX _ hb hx)⟩
structure Ctx where
 w0:World
 S:Nat→Prop
 X:Nat→Prop
 nt:Nat
 K:List Nat
 ρ0:Nat→Value
 hS:∀b,S b→b<w0.heap.size
 hX:∀b,X b→S b
 hpin:PinW w0 X:=by exact trivial
 dfr:List Deferred:=[]
def Fz (c:Ctx) (h:Nat→Option Box) (ρ:Nat→Value) (w:World) (b:Nat):Prop :=
 (c.S b∨c.w0.heap.size≤b)∧b<w.heap.size∧∀k bx,h k=some bx→kb (ρ k)≠some b
structure Frx (w w':World) (M:Nat→Prop):Prop where
 os:w'.os=w.os
 tape:w'.tape=w.tape
 output:w'.output=w.output
 size:w.heap.size≤w'.heap.size
 keep:∀b,b<w.heap.size→¬M b→w'.heap[b]? = w.heap[b]?
theorem Frx.refl (w:World) (M:Nat→Prop):Frx w w M:=⟨rfl,rfl,rfl,Nat.le_refl _,fun _ _ _=>rfl⟩
theorem Frx.drew {w w':World} {M:Nat→Prop} (h:Frx w w' M):Frx w { w' with drawn:=w'.drawn+1 } M:=⟨h.os,h.tape,h.output,h.size,h.keep⟩
theorem Frx.alloc (w:World) (o:Obj) (M:Nat→Prop):Frx w (w.alloc o) M:=⟨rfl,rfl,rfl,by simp,fun b hb _=>Below.heap_alloc w o b hb⟩
theorem Frx.below {w w':World} {M:Nat→Prop} (h:Below w.heap.size w w'):Frx w w' M:=⟨h.os,h.tape,h.output,h.size,fun b hb _=>h.block b hb⟩
structure Mst.Wf (s:Mst):Prop where
 h:∀k,s.f k=true→s.h k=none
 t:∀k t,s.f k=true→(s.t t).has k=false
 b:∀k k' b,s.f k=true→s.h k'=some b→b.has k=false
structure Rp (c:Ctx) (s:Mst) (ρ:Nat→Value) (a:Act) (w:World):Prop where
 dfr:a.defers=c.dfr
 siz:a.tmps.size=c.nt
 frm:Frx c.w0 w c.X
 tmp:∀t,(s.t t).rep w (Fz c s.h ρ w) ρ (a.tmps.getD t undef)
 hp:∀k b,s.h k=some b→b.rep w (Fz c s.h ρ w) ρ (ρ k)
 inb:∀k b g,s.h k=some b→kb (ρ k)=some g→c.X g∨c.w0.heap.size≤g
 dis:∀k k' b b' g,s.h k=some b→s.h k'=some b'→kb (ρ k)=some g→kb (ρ k')=some g→k=k'
 ent:∀k,k∈c.K→ρ k=c.ρ0 k∧s.f k=false
 wf:s.Wf
section
variable {c:Ctx} {s s':Mst} {ρ ρ':Nat→Value} {a a':Act} {w w':World} {M:Nat→Prop}
theorem Rp.pin (h:Rp c s ρ a w):PinW w fun _=>False:=c.hpin.sub h.frm.keep fun _ _ h=>h.elim
theorem Rp.ltb (h:Rp c s ρ a w) {k:Nat} {b:Box} {g:Nat} (hk:s.h k=some b) (hg:kb (ρ k)=some g):g<w.heap.size:=Box.lt (h.hp k b hk) hg
structure Stp (c:Ctx) (s s':Mst) (ρ ρ':Nat→Value) (w w':World) (M:Nat→Prop):Prop where
 ch:∀k,¬M k→s'.h k=s.h k
 pl:∀k,s.f k=false→ρ' k=ρ k
 fr:∀k,s'.f k=true→s.f k=true
 fw:Frx w w' fun b=>∃k bx,M k∧s.h k=some bx∧kb (ρ k)=some b
 nb:∀k bx g,M k→s'.h k=some bx→kb (ρ' k)=some g→g<w'.heap.size∧(w.heap.size≤g∨∃k0 b0,M k0∧s.h k0=some b0∧kb (ρ k0)=some g)
 ds:∀k k' b b' g,M k→M k'→s'.h k=some b→s'.h k'=some b'→kb (ρ' k)=some g→kb (ρ' k')=some g→k=k'
theorem Rp.place (h:Rp c s ρ a w) (p:Stp c s s' ρ ρ' w w' M) {k:Nat} {b:Box} (hk:s.h k=some b):ρ' k=ρ k:=by
 refine p.pl k ?_
 cases hf:s.f k with
 | false=>rfl
 | true=>rw [h.wf.h k hf] at hk;cases hk
theorem Rp.fz (h:Rp c s ρ a w) (p:Stp c s s' ρ ρ' w w' M):∀b,Fz c s.h ρ w b→Fz c s'.h ρ' w' b∧w'.heap[b]? = w.heap[b]?:=by
 intro b ⟨h1,h2,h3⟩
 refine ⟨⟨h1,Nat.lt_of_lt_of_le h2 p.fw.size,fun k bx hk hg=>?_⟩,p.fw.keep b h2 fun ⟨k,bx,_,hk,hg⟩=>h3 k bx hk hg⟩
 by_cases hm:M k
 ·rcases (p.nb k bx b hm hk hg).2 with h4|⟨k0,b0,_,hk0,hg0⟩
  ·omega
  ·exact h3 k0 b0 hk0 hg0
 ·rw [p.ch k hm] at hk
  rw [h.place p hk] at hg
  exact h3 k bx hk hg
theorem Rp.old (h:Rp c s ρ a w) (p:Stp c s s' ρ ρ' w w' M) {d:TV} {v:Value} (hd:d.rep w (Fz c s.h ρ w) ρ v) (hk:∀k,s.f k=true→d.has k=false):d.rep w' (Fz c s'.h ρ' w') ρ' v :=
 hd.mono (h.fz p) fun k hh=>p.pl k (by
  cases hf:s.f k with
  | false=>rfl
  | true=>rw [hk k hf] at hh;cases hh)
theorem Rp.step (h:Rp c s ρ a w) (p:Stp c s s' ρ ρ' w w' M) (hd:a'.defers=c.dfr) (hsz:a'.tmps.size=c.nt) (hwf:s'.Wf) (hfr:∀k,k∈c.K→s'.f k=false)
  (hnew:∀k bx,M k→s'.h k=some bx→bx.rep w' (Fz c s'.h ρ' w') ρ' (ρ' k))
  (htmp:∀t,(s'.t t).rep w' (Fz c s'.h ρ' w') ρ' (a'.tmps.getD t undef)):Rp c s' ρ' a' w' where
 dfr:=hd
 siz:=hsz
 frm:=⟨p.fw.os.trans h.frm.os,p.fw.tape.trans h.frm.tape,p.fw.output.trans h.frm.output,Nat.le_trans h.frm.size p.fw.size,fun b hb hx=>by
  rw [p.fw.keep b (Nat.lt_of_lt_of_le hb h.frm.size) fun ⟨k,bx,_,hk,hg⟩=>?_,h.frm.keep b hb hx]
  rcases h.inb k bx b hk hg with h1|h1
  ·exact hx h1
  ·omega⟩
 tmp:=htmp
 hp:=fun k b hk=>by
  by_cases hm:M k
  ·exact hnew k b hm hk
  ·rw [p.ch k hm] at hk
   have hpl:=h.place p hk
   rw [hpl]
   refine (h.hp k b hk).mono (fun g hg=>p.fw.keep g (h.ltb hk hg) fun ⟨k',b',hm',hk',hg'⟩=>hm (by rw [h.dis k k' b b' g hk hk' hg hg'];exact hm')) (h.fz p) fun k' hh=>p.pl k' ?_
   cases hf:s.f k' with
   | false=>rfl
   | true=>rw [h.wf.b k' k b hf hk] at hh;cases hh
 inb:=fun k b g hk hg=>by
  by_cases hm:M k
  ·rcases (p.nb k b g hm hk hg).2 with h1|⟨k0,b0,_,hk0,hg0⟩
   ·exact .inr (Nat.le_trans h.frm.size h1)
   ·exact h.inb k0 b0 g hk0 hg0
  ·rw [p.ch k hm] at hk
   rw [h.place p hk] at hg
   exact h.inb k b g hk hg
 dis:=by
  have mix:∀k k' b b' g,M k→¬M k'→s'.h k=some b→s'.h k'=some b'→kb (ρ' k)=some g→kb (ρ' k')=some g→False:=fun k k' b b' g hm hm' hk hk' hg hg'=>by
   rw [p.ch k' hm'] at hk'
   rw [h.place p hk'] at hg'
   rcases (p.nb k b g hm hk hg).2 with h1|⟨k0,b0,hm0,hk0,hg0⟩
   ·have:=h.ltb hk' hg';omega
   ·exact hm' (by rw [←h.dis k0 k' b0 b' g hk0 hk' hg0 hg'];exact hm0)
  intro k k' b b' g hk hk' hg hg'
  by_cases hm:M k
  ·by_cases hm':M k'
   ·exact p.ds k k' b b' g hm hm' hk hk' hg hg'
   ·exact (mix k k' b b' g hm hm' hk hk' hg hg').elim
  ·by_cases hm':M k'
   ·exact (mix k' k b' b g hm' hm hk' hk hg' hg).elim
   ·rw [p.ch k hm] at hk
    rw [p.ch k' hm'] at hk'
    rw [h.place p hk] at hg
    rw [h.place p hk'] at hg'
    exact h.dis k k' b b' g hk hk' hg hg'
 ent:=fun k hk=>⟨(p.pl k (h.ent k hk).2).trans (h.ent k hk).1,hfr k hk⟩
 wf:=hwf
end
structure Mef:Type 1 where
 d:TV
 hs:List (Nat×Option Box)
 us:List Nat
def aI:List Nat→Nat→Bool
 | [],_=>false
 | k :: r,n=>k.beq n || aI r n
def aA:List (Nat×Option Box)→Nat→Bool
 | [],_=>false
 | (k,_) :: r,n=>k.beq n || aA r n
def hput:List (Nat×Option Box)→(Nat→Option Box)→Nat→Option Box
 | [],h=>h
 | (k,b) :: r,h=>fun n=>bif k.beq n then b else hput r h n
def jj:Option Nat→TV→(Nat→TV)→Nat→TV
 | none,_,t=>t
 | some k,d,t=>fun n=>bif k.beq n then d else t n
def Mst.app (s:Mst) (dst:Option Nat) (e:Mef):Mst:={ t:=jj dst e.d s.t,h:=hput e.hs s.h,f:=fun n=>s.f n && !aI e.us n }
abbrev TV.c (d:D):TV:=.v (.one d)
abbrev TV.i (n:Int):TV:=.v (.one (.sc (.int .i64 n)))
abbrev TV.b (x:Bool):TV:=.v (.one (.sc (.bool x)))
def tC:Value→TV
 | .agg cs=>.v (.ag (cs.toList.map .sc))
 | v=>.v (.one (.sc v))
def Mst.ev (s:Mst):Operand→TV
 | .tmp t=>s.t t
 | .const v=>tC v
 | .global g=>.v (.one (.sc (.pointer (some ⟨g,0,none⟩))))
 | .func f=>.v (.one (.sc (.func (.func f) #[] #[])))
theorem bO:∀{l:List (Nat×Option Box)} {h:Nat→Option Box} {n:Nat},aA l n=false→hput l h n=h n
 | [],_,_,_=>rfl
 | (k,b) :: r,h,n,e=>by
  simp only [aA,Bool.or_eq_false_iff] at e
  simp only [hput,e.1,cond_false]
  exact bO e.2
theorem tD:∀{l:List (Nat×Option Box)} {h h':Nat→Option Box} {n:Nat},aA l n=true→hput l h n=hput l h' n
 | [],_,_,_,e=>by simp [aA] at e
 | (k,b) :: r,h,h',n,e=>by
  simp only [hput]
  cases hk:k.beq n with
  | true=>rfl
  | false =>
   simp only [aA,hk,Bool.false_or] at e
   simp only [cond_false]
   exact tD e
theorem z8 {l m:List (Nat×Option Box)} {h:Nat→Option Box} (hd:∀n,aA l n=true→aA m n=false):hput l (hput m h)=hput m (hput l h):=by
 funext n
 cases hl:aA l n with
 | true=>rw [bO (hd n hl),tD hl]
 | false =>
  rw [bO hl]
  cases hm:aA m n with
  | true=>exact tD hm
  | false=>rw [bO hm,bO hm,bO hl]
theorem Aa {a b:Option Nat} {x y:TV} {t:Nat→TV} (h:∀d,a=some d→b≠some d):jj a x (jj b y t)=jj b y (jj a x t):=by
 cases a with
 | none=>rfl
 | some d =>
  cases b with
  | none=>rfl
  | some e =>
   have hne:d≠e:=fun he=>h d rfl (he▸rfl)
   funext n
   simp only [jj]
   cases h1:d.beq n with
   | false=>rfl
   | true =>
    have:e.beq n=false:=by
     cases h2:e.beq n with
     | false=>rfl
     | true=>exact absurd ((Nat.eq_of_beq_eq_true h1).trans (Nat.eq_of_beq_eq_true h2).symm) hne
    simp [this]
theorem tE {a:Option Nat} {x:TV} {t:Nat→TV} {n:Nat} (h:a≠some n):jj a x t n=t n:=by
 cases a with
 | none=>rfl
 | some d =>
  simp only [jj]
  cases h1:d.beq n with
  | false=>rfl
  | true=>exact absurd (by rw [Nat.eq_of_beq_eq_true h1]) h
theorem Mst.app_comm {s:Mst} {a b:Option Nat} {x y:Mef} (h:∀d,a=some d→b≠some d) (hd:∀n,aA x.hs n=true→aA y.hs n=false):(s.app a x).app b y=(s.app b y).app a x:=by
 simp only [Mst.app,Mst.mk.injEq]
 refine ⟨(Aa h).symm,(z8 hd).symm,?_⟩
 funext n
 cases s.f n <;> cases aI x.us n <;> cases aI y.us n <;> rfl
section
variable {c:Ctx} {s st:Mst} {ρ:Nat→Value} {a:Act} {w:World} {P:Program}
theorem All2.scs {w:World} {F:Nat→Prop} {ρ:Nat→Value}:∀(l:List Value),All2 (D.rep w F ρ) (l.map .sc) l
 | []=>trivial
 | x :: l=>⟨rfl,All2.scs l⟩
theorem Rp.ev (h:Rp c s ρ a w) (x:Operand):(s.ev x).rep w (Fz c s.h ρ w) ρ (a.eval x):=by
 cases x with
 | tmp t=>exact h.tmp t
 | const v =>
  cases v with
  | agg cs=>exact ⟨cs.toList,by simp [Act.eval],All2.scs _⟩
  | _=>exact rfl
 | global g=>exact rfl
 | func f=>exact rfl
theorem Rp.drew (h:Rp c s ρ a w):Rp c s ρ a { w with drawn:=w.drawn+1 } where
 dfr:=h.dfr
 siz:=h.siz
 frm:=⟨h.frm.os,h.frm.tape,h.frm.output,h.frm.size,h.frm.keep⟩
 tmp:=fun t=>(h.tmp t).mono (fun b hb=>⟨hb,rfl⟩) fun _ _=>rfl
 hp:=fun k b hk=>(h.hp k b hk).mono (fun _ _=>rfl) (fun b hb=>⟨hb,rfl⟩) fun _ _=>rfl
 inb:=h.inb
 dis:=h.dis
 ent:=h.ent
 wf:=h.wf
def LOp (P:Program) (o:Oper) (s:Mst) (R:List Nat) (e:Mef):Prop :=
 ∀(c:Ctx) (st:Mst) (ρ:Nat→Value) (a:Act) (w:World),Rp c st ρ a w→(∀x,x∈o.op.operands→st.ev x=s.ev x)→(∀k,aI R k=true→st.h k=s.h k)→(∀k,aI e.us k=true→st.f k=true)→(∀d,o.dst=some d→d<c.nt)→
  o.wp P a w (fun a' w'=>∃ρ',Rp c (st.app o.dst e) ρ' a' w') fun _ _ _=>False
theorem Oper.wp_post {o:Oper} {a:Act} {w:World} {K K':Act→World→Prop} {Q:Exit→Act→World→Prop} (h:o.wp P a w K fun _ _ _=>False) (hK:∀a w,K a w→K' a w):o.wp P a w K' Q:=by
 unfold Oper.wp at *
 generalize (execOp a.eval o).run P w=r at *
 cases r with
 | ok n w' =>
  cases n <;> simp only [Oper.upon] at h ⊢ <;>
   first
    | exact hK _ _ h
    | exact Calls.mono h (fun e w'' he=>by cases e <;> first|exact hK _ _ he|exact he.elim|(obtain ⟨_,_,hf⟩:=he;exact hf.elim))
    | exact Rows.mono h (fun _ _ he=>hK _ _ he)
 | halt x w'=>cases x <;> simp only [Oper.upon] at h
def Mst.gd (s:Mst) (ops:Array Oper) (o:Oper):Option Bool :=
 match o.guard with
 | none=>some true
 | some (j,want) =>
  match ((ops[j]?).bind (·.dst)).map s.t with
  | some (.v (.one (.sc (.bool b))))=>some (b == want)
  | some (.v (.one (.sc (.tuple _))))=>some false
  | _=>none
theorem Rp.gd {ops:Array Oper} {o:Oper} {g:Bool} (h:Rp c s ρ a w) (hg:s.gd ops o=some g):Region.wanted o (yielded ops a.tmps)=g:=by
 unfold Mst.gd at hg
 unfold Region.wanted
 split at hg
 ·rename_i h1
  rw [h1]
  exact Option.some.inj hg
 ·rename_i j want h1
  rw [h1]
  dsimp only
  unfold yielded
  cases hd:(ops[j]?).bind (·.dst) with
  | none=>rw [hd] at hg;simp at hg
  | some t =>
   rw [hd] at hg
   simp only [Option.map_some,Option.bind_some] at hg ⊢
   have ht:=h.tmp t
   generalize s.t t=d at *
   split at hg
   ·rename_i b hb
    injection hb with hb
    subst hb
    have h2:a.tmps.getD t undef = .bool b:=ht
    have h3:a.tmps[t]? = some (.bool b):=by
     rw [Array.getD_eq_getD_getElem?] at h2
     cases h4:a.tmps[t]? with
     | none=>rw [h4] at h2;simp [undef] at h2
     | some v=>rw [h4] at h2;simp at h2;rw [h2]
    rw [h3]
    have hg:=Option.some.inj hg
    rw [←hg]
    cases b <;> cases want <;> rfl
   ·rename_i vs hb
    injection hb with hb
    subst hb
    have h2:a.tmps.getD t undef = .tuple vs:=ht
    rw [Array.getD_eq_getD_getElem?] at h2
    have hg:=Option.some.inj hg
    rw [←hg]
    cases h4:a.tmps[t]? with
    | none=>rfl
    | some v=>rw [h4] at h2;simp at h2;subst h2;rfl
   ·cases hg
def DW (P:Program) (ops:Array Oper):List Oper→List (List Nat×List Nat)→Mst→(Mst→Prop)→Prop
 | [],_,s,K=>K s
 | o :: r,fps,s,K=>∃R W fps',fps=(R,W) :: fps'∧∃g,s.gd ops o=some g∧
   (g=true→∃e,(LOp P o s R e∧(∀k,aA e.hs k=true→aI W k=true)∧∀k,aI e.us k=true→s.f k=true)∧DW P ops r fps' (s.app o.dst e) K)∧
   (g=false→DW P ops r fps' (s.app o.dst ⟨.c (.sc undef),[],[]⟩) K)
def gD (nt:Nat) (l:List Oper):Bool:=l.all fun o=>match o.dst with|some d=>Nat.blt d nt|none=>true
theorem sb {nt:Nat} {l:List Oper} (h:gD nt l=true) {o:Oper} (ho:o∈l) {d:Nat} (hd:o.dst=some d):d<nt:=by
 have:=List.all_eq_true.1 h o ho
 rw [hd] at this
 simpa using this
theorem Rp.put_any (h:Rp c s ρ a w) (dst:Option Nat):Rp c (s.app dst ⟨.c (.sc undef),[],[]⟩) ρ (a.put dst undef) w where
 dfr:=by cases dst <;> exact h.dfr
 siz:=by cases dst <;> simp [Act.put,h.siz]
 frm:=h.frm
 tmp:=fun t=>by
  cases dst with
  | none=>exact h.tmp t
  | some d =>
   simp only [Mst.app,jj]
   by_cases e:d=t
   ·subst e
    simp only [Nat.beq_refl,cond_true]
    show (a.tmps.setIfInBounds d undef).getD d undef=undef
    rw [Array.getD_eq_getD_getElem?,Array.getElem?_setIfInBounds]
    simp only [if_true]
    split <;> rfl
   ·have:d.beq t=false:=by
     cases h2:d.beq t with
     | false=>rfl
     | true=>exact absurd (Nat.eq_of_beq_eq_true h2) e
    simp only [this,cond_false,Act.put,Array.getD_eq_getD_getElem?,Array.getElem?_setIfInBounds_ne e]
    have:=h.tmp t
    rwa [Array.getD_eq_getD_getElem?] at this
 hp:=h.hp
 inb:=h.inb
 dis:=h.dis
 ent:=fun k hk=>⟨(h.ent k hk).1,by simp [Mst.app,aI,(h.ent k hk).2]⟩
 wf:=⟨fun k hk=>h.wf.h k (by simpa [Mst.app,aI] using hk),fun k t hk=>by
   have hk':s.f k=true:=by simpa [Mst.app,aI] using hk
   cases dst with
   | none=>exact h.wf.t k t hk'
   | some d =>
    simp only [Mst.app,jj]
    cases d.beq t with
    | true=>rfl
    | false=>exact h.wf.t k t hk',fun k k' b hk hb=>h.wf.b k k' b (by simpa [Mst.app,aI] using hk) hb⟩
def AW (P:Program) (nt:Nat) (K:List Nat) (code:Code) (Q:Exit→Mst→Prop) (s:Mst):Prop :=
 ∀(c:Ctx) (ρ:Nat→Value) (a:Act) (w:World),c.nt=nt→c.K=K→Rp c s ρ a w→code.wp P (fun e a' w'=>∃s' ρ',Q e s'∧Rp c s' ρ' a' w') a w
theorem iU {ops:Array Oper} {Q:Exit→Act→World→Prop} (c:Ctx):∀(l:List Oper) (fps:List (List Nat×List Nat)) (s:Mst) (K:Mst→Prop),gD c.nt l=true→DW P ops l fps s K→(∀s' ρ' a' w',K s'→Rp c s' ρ' a' w'→Q .normal a' w')→
  ∀(ρ:Nat→Value) (a:Act) (w:World),Rp c s ρ a w→wpList P ops Q l a w
 | [],_,s,K,_,h,hQ,ρ,a,w,hr=>hQ s ρ a w h hr
 | o :: l,fps,s,K,hnt,h,hQ,ρ,a,w,hr=>by
  obtain ⟨R,W,fps',_,g,hg,h1,h2⟩:=h
  have hnt':gD c.nt l=true:=by simp [gD] at hnt ⊢;exact hnt.2
  refine wpList_step fun K' hK'=>?_
  rw [hr.gd hg]
  cases g with
  | true =>
   obtain ⟨e,⟨he,hkw,hu⟩,hn⟩:=h1 rfl
   rw [if_pos rfl]
   have h3:=he c s ρ a w hr (fun _ _=>rfl) (fun _ _=>rfl) hu (fun d hd=>sb hnt (by simp) hd)
   refine Oper.wp_post h3 ?_
   rintro a' w' ⟨ρ',hr'⟩
   exact hK' _ _ (iU c l fps' _ K hnt' hn hQ ρ' a' w' hr')
  | false =>
   rw [if_neg (by simp)]
   exact hK' _ _ (iU c l fps' _ K hnt' (h2 rfl) hQ ρ _ w (hr.put_any o.dst))
theorem Ab {nt id:Nat} {Ks:List Nat} {l:List Oper} {fps:List (List Nat×List Nat)} {Q:Exit→Mst→Prop} (hnt:gD nt l=true) (h:DW P l.toArray l fps s fun s'=>Q .normal s'):AW P nt Ks (.region id l.toArray false) Q s:=by
 intro c ρ a w hc _ hr
 subst hc
 exact wp_region_lit (iU c l fps s _ hnt h (fun s' ρ' a' w' hq hr'=>⟨s',ρ',hq,hr'⟩) ρ a w hr)
end
section
variable {P:Program} {ops:Array Oper}
def Ek (ops:Array Oper):Nat→Nat→Nat→Bool
 | 0,_,_=>false
 | n+1,i,j=>match ops[j]? with
  | none=>false
  | some o=>o.after.any fun e=>Region.binds .any e && (e.on == i || Ek ops n i e.on)
def Io (x y:List Nat×List Nat):Bool:=x.2.all (fun k=>!aI y.1 k && !aI y.2 k) && y.2.all fun k=>!aI x.1 k
def lK (fps:List (List Nat×List Nat)) (i:Nat):List Nat×List Nat:=fps.getD i ([],[])
def tF (ops:Array Oper) (fps:List (List Nat×List Nat)) (listed:Array Bool) (k:Nat):Bool :=
 match ops[k]? with
 | none=>false
 | some o=>(List.range ops.size).all fun j=>j == k || listed.getD j true || Ek ops 6 k j || (match ops[j]? with|none=>true|some o'=>o.apart ops o' && Io (lK fps k) (lK fps j))
def mi (ops:Array Oper) (fps:List (List Nat×List Nat)):Nat→Nat→Array Bool→Bool
 | 0,_,listed=>(Region.ready .any ops listed).isEmpty
 | fuel+1,k,listed=>(Region.ready .any ops listed).contains k && tF ops fps listed k && mi ops fps fuel (k+1) (listed.setIfInBounds k true)
def DC (ops:Array Oper) (listed:Array Bool):Prop:=∀(k:Nat) (o:Oper),ops[k]? = some o→listed.getD k false=true→∀e∈o.after,Region.binds .any e=true→listed.getD e.on false=true
theorem yE {l:Array Bool} {i:Nat} (h:l.getD i true=false):l.getD i false=false:=by
 rw [Array.getD_eq_getD_getElem?] at *
 cases h1:l[i]? with
 | none=>rfl
 | some b=>rw [h1] at h;exact h
theorem px {listed:Array Bool} (hd:DC ops listed) {i:Nat} (hi:listed.getD i true=false):∀(n k:Nat),listed.getD k false=true→Ek ops n i k=false
 | 0,_,_=>rfl
 | n+1,k,hk=>by
  unfold Ek
  cases ho:ops[k]? with
  | none=>rfl
  | some o =>
   dsimp only
   rw [Array.any_eq_false']
   intro e he
   cases hb:Region.binds .any e with
   | false=>simp
   | true =>
    have h1:=hd k o ho hk e he hb
    have h2:(e.on == i)=false:=by
     rw [beq_eq_false_iff_ne]
     intro heq
     rw [heq,yE hi] at h1
     cases h1
    simp [h2,px hd hi n e.on h1]
theorem Ac {listed:Array Bool} (hd:DC ops listed) {i j:Nat} (hi:listed.getD i true=false) (hj:j∈Region.ready .any ops listed) (n:Nat):Ek ops n i j=false:=by
 cases n with
 | zero=>rfl
 | succ n =>
  obtain ⟨_,o,ho,hall⟩:=mem_ready.1 hj
  unfold Ek
  rw [ho]
  dsimp only
  rw [Array.any_eq_false']
  intro e he
  cases hb:Region.binds .any e with
  | false=>simp
  | true =>
   have h1:=hall e he hb
   have h2:(e.on == i)=false:=by
    rw [beq_eq_false_iff_ne]
    intro heq
    rw [heq,yE hi] at h1
    cases h1
   simp [h2,px hd hi n e.on h1]
theorem DC.set {listed:Array Bool} (hd:DC ops listed) {i:Nat} (hi:i∈Region.ready .any ops listed):DC ops (listed.setIfInBounds i true):=by
 have up:∀k,listed.getD k false=true→(listed.setIfInBounds i true).getD k false=true:=fun k hk=>by
  rw [Array.getD_eq_getD_getElem?] at *
  rw [Array.getElem?_setIfInBounds]
  split
  ·rename_i h1
   subst h1
   split
   ·rfl
   ·rename_i h2
    rw [Array.getElem?_eq_none (by omega)] at hk
    exact hk
  ·exact hk
 intro k o ho hk e he hb
 by_cases hki:i=k
 ·subst hki
  obtain ⟨_,o',ho',hall⟩:=mem_ready.1 hi
  rw [ho] at ho'
  injection ho' with ho'
  subst ho'
  exact up _ (hall e he hb)
 ·refine up _ (hd k o ho ?_ e he hb)
  rw [Array.getD_eq_getD_getElem?] at *
  rwa [Array.getElem?_setIfInBounds_ne hki] at hk
def Acts (P:Program) (ops:Array Oper) (o:Oper) (s:Mst) (R W:List Nat) (e:Mef):Prop :=
 (s.gd ops o=some true∧LOp P o s R e∧(∀k,aA e.hs k=true→aI W k=true)∧∀k,aI e.us k=true→s.f k=true)∨(s.gd ops o=some false∧e=⟨.c (.sc undef),[],[]⟩)
def Ix (P:Program) (ops:Array Oper) (fps:List (List Nat×List Nat)) (i:Nat) (K:Mst→Prop) (s:Mst):Prop :=
 match ops[i]? with
 | none=>K s
 | some o=>∃e,Acts P ops o s (lK fps i).1 (lK fps i).2 e∧K (s.app o.dst e)
theorem LOp.congr {o:Oper} {s s':Mst} {R:List Nat} {e:Mef} (h:LOp P o s R e) (he:∀x,x∈o.op.operands→s'.ev x=s.ev x) (hR:∀k,aI R k=true→s'.h k=s.h k):LOp P o s' R e :=
 fun c st ρ a w hr h1 h2 h3 h4=>h c st ρ a w hr (fun x hx=>(h1 x hx).trans (he x hx)) (fun k hk=>(h2 k hk).trans (hR k hk)) h3 h4
theorem vw {o:Oper} {s s':Mst} (h:∀t,t∈o.looksAt ops→s'.t t=s.t t):s'.gd ops o=s.gd ops o:=by
 unfold Mst.gd
 cases hg:o.guard with
 | none=>rfl
 | some g =>
  obtain ⟨j,want⟩:=g
  dsimp only
  cases hd:(ops[j]?).bind (·.dst) with
  | none=>rfl
  | some t=>simp only [Option.map_some];rw [h t (by simp [Oper.looksAt,hg,hd])]
theorem BR {o:Oper} {s s':Mst} (h:∀t,t∈o.looksAt ops→s'.t t=s.t t) {x:Operand} (hx:x∈o.op.operands):s'.ev x=s.ev x:=by
 cases x with
 | tmp t=>exact h t (by simp [Oper.looksAt];exact .inl ⟨_,hx,rfl⟩)
 | _=>rfl
theorem Acts.congr {o:Oper} {s s':Mst} {R W:List Nat} {e:Mef} (h:Acts P ops o s R W e) (ht:∀t,t∈o.looksAt ops→s'.t t=s.t t) (hR:∀k,aI R k=true→s'.h k=s.h k) (hf:∀k,aI e.us k=true→s.f k=true→s'.f k=true):Acts P ops o s' R W e:=by
 rcases h with ⟨h1,h2,h3,h4⟩|⟨h1,h2⟩
 ·exact .inl ⟨(vw ht).trans h1,h2.congr (fun x hx=>BR ht hx) hR,h3,fun k hk=>hf k hk (h4 k hk)⟩
 ·exact .inr ⟨(vw ht).trans h1,h2⟩
theorem Acts.keys {o:Oper} {s:Mst} {R W:List Nat} {e:Mef} (h:Acts P ops o s R W e) {k:Nat} (hk:aA e.hs k=true):aI W k=true:=by
 rcases h with ⟨_,_,h3,_⟩|⟨_,rfl⟩
 ·exact h3 k hk
 ·simp [aA] at hk
theorem Acts.fr {o:Oper} {s:Mst} {R W:List Nat} {e:Mef} (h:Acts P ops o s R W e) {k:Nat} (hk:aI e.us k=true):s.f k=true:=by
 rcases h with ⟨_,_,_,h4⟩|⟨_,rfl⟩
 ·exact h4 k hk
 ·simp [aI] at hk
theorem iW {l:List Nat} {p:Nat→Bool} (h:l.all p=true):∀k,aI l k=true→p k=true:=by
 induction l with
 | nil=>intro k hk;simp [aI] at hk
 | cons x l ih =>
  intro k hk
  simp only [List.all_cons,Bool.and_eq_true] at h
  simp only [aI,Bool.or_eq_true] at hk
  rcases hk with hk|hk
  ·rw [←Nat.eq_of_beq_eq_true hk];exact h.1
  ·exact ih h.2 k hk
theorem BS {x y:List Nat×List Nat} (h:Io x y=true):(∀k,aI x.2 k=true→aI y.1 k=false∧aI y.2 k=false)∧∀k,aI y.2 k=true→aI x.1 k=false:=by
 simp only [Io,Bool.and_eq_true] at h
 refine ⟨fun k hk=>?_,fun k hk=>?_⟩
 ·have:=iW h.1 k hk
  simpa using this
 ·have:=iW h.2 k hk
  simpa using this
theorem Acts.swap {oi oj:Oper} {s:Mst} {fi fj:List Nat×List Nat} {ei ej:Mef} (hap:oi.apart ops oj=true) (hnc:Io fi fj=true) (hi:Acts P ops oi s fi.1 fi.2 ei) (hj:Acts P ops oj (s.app oi.dst ei) fj.1 fj.2 ej) :
  Acts P ops oj s fj.1 fj.2 ej∧Acts P ops oi (s.app oj.dst ej) fi.1 fi.2 ei∧(s.app oj.dst ej).app oi.dst ei=(s.app oi.dst ei).app oj.dst ej:=by
 obtain ⟨h1,h2,h3⟩:=Oper.apart_spec hap
 obtain ⟨n1,n2⟩:=BS hnc
 have ki:∀k,aI fj.1 k=true→aA ei.hs k=false:=fun k hk=>by
  cases hh:aA ei.hs k with
  | false=>rfl
  | true=>rw [(n1 k (hi.keys hh)).1] at hk;cases hk
 have kj:∀k,aI fi.1 k=true→aA ej.hs k=false:=fun k hk=>by
  cases hh:aA ej.hs k with
  | false=>rfl
  | true=>rw [n2 k (hj.keys hh)] at hk;cases hk
 have kk:∀k,aA ei.hs k=true→aA ej.hs k=false:=fun k hk=>by
  cases hh:aA ej.hs k with
  | false=>rfl
  | true=>have:=(n1 k (hi.keys hk)).2;rw [hj.keys hh] at this;cases this
 refine ⟨hj.congr (fun t ht=>?_) (fun k hk=>?_) fun k _ hf=>?_,hi.congr (fun t ht=>?_) (fun k hk=>?_) fun k hk hf=>?_,(Mst.app_comm h2 kk).symm⟩
 ·exact (tE (fun e=>h1 t e ht)).symm
 ·exact (bO (ki k hk)).symm
 ·simp only [Mst.app,Bool.and_eq_true] at hf
  exact hf.1
 ·exact tE (fun e=>h3 t e ht)
 ·exact bO (kj k hk)
 ·simp only [Mst.app,hf,Bool.true_and]
  cases hh:aI ej.us k with
  | false=>rfl
  | true =>
   have:=hj.fr hh
   simp only [Mst.app,hk,Bool.not_true,Bool.and_false] at this
   cases this
def py (P:Program) (ops:Array Oper) (fps:List (List Nat×List Nat)) (K:Mst→Prop):Nat→Array Bool→Mst→Prop
 | 0,listed,s=>Region.ready .any ops listed=[]∧K s
 | fuel+1,listed,s=>(Region.ready .any ops listed=[]→K s)∧∀i∈Region.ready .any ops listed,Ix P ops fps i (py P ops fps K fuel (listed.setIfInBounds i true)) s
theorem tG {fps:List (List Nat×List Nat)} {K:Mst→Prop} {i:Nat} {oi:Oper} {ei:Mef} (hi:ops[i]? = some oi) :
  ∀(fuel:Nat) (listed:Array Bool) (s:Mst),DC ops listed→
   (∀j oj,ops[j]? = some oj→j≠i→listed.getD j true=false→Ek ops 6 i j=false→oi.apart ops oj=true∧Io (lK fps i) (lK fps j)=true)→
   i∈Region.ready .any ops listed→Acts P ops oi s (lK fps i).1 (lK fps i).2 ei→
   py P ops fps K fuel (listed.setIfInBounds i true) (s.app oi.dst ei)→py P ops fps K (fuel+1) listed s:=by
 intro fuel
 induction fuel with
 | zero =>
  intro listed s hdc _ hr hy H
  refine ⟨fun h=>(by rw [h] at hr;cases hr),fun j hj=>?_⟩
  by_cases hji:j=i
  ·subst hji;unfold Ix;rw [hi];exact ⟨ei,hy,H⟩
  ·have:=ready_mono hj hji
   rw [H.1] at this
   cases this
 | succ fuel ih =>
  intro listed s hdc hfree hr hy H
  refine ⟨fun h=>(by rw [h] at hr;cases hr),fun j hj=>?_⟩
  by_cases hji:j=i
  ·subst hji;unfold Ix;rw [hi];exact ⟨ei,hy,H⟩
  ·have h1:=H.2 j (ready_mono hj hji)
   obtain ⟨hjun,oj,hoj,hall⟩:=mem_ready.1 hj
   obtain ⟨hap,hnc⟩:=hfree j oj hoj hji hjun (Ac hdc (mem_ready.1 hr).1 hj 6)
   unfold Ix at h1 ⊢
   rw [hoj] at h1 ⊢
   obtain ⟨ej,hej,hK⟩:=h1
   obtain ⟨a1,a2,a3⟩:=hy.swap hap hnc hej
   refine ⟨ej,a1,ih (listed.setIfInBounds j true) _ (hdc.set hj) ?_ (ready_mono hr (Ne.symm hji)) a2 ?_⟩
   ·intro k ok hk hki hun hno
    refine hfree k ok hk hki ?_ hno
    by_cases hjk:j=k
    ·subst hjk;exact hjun
    ·rw [getD_set_ne true hjk] at hun;exact hun
   ·rw [Array.setIfInBounds_comm _ _ hji,a3]
    exact hK
theorem pz {fps:List (List Nat×List Nat)} {K:Mst→Prop}:∀(l:List Oper) (k:Nat) (listed:Array Bool) (s:Mst) (gps:List (List Nat×List Nat)),(∀j,l[j]? = ops[k+j]?)→(∀j,j<l.length→gps.getD j ([],[])=lK fps (k+j))→DC ops listed→
  mi ops fps l.length k listed=true→DW P ops l gps s K→py P ops fps K l.length listed s
 | [],_,_,_,_,_,_,_,hB,h=>⟨by simpa [mi] using hB,h⟩
 | o :: l,k,listed,s,gps,hl,hg,hdc,hB,h=>by
  have h0:ops[k]? = some o:=by simpa using (hl 0).symm
  simp only [List.length_cons,mi,Bool.and_eq_true] at hB
  obtain ⟨⟨hr,hf⟩,hB'⟩:=hB
  have hr':k∈Region.ready .any ops listed:=by simpa using hr
  obtain ⟨R,W,gps',rfl,g,hgd,ht,hff⟩:=h
  have hfp:lK fps k=(R,W):=by have:=hg 0 (by simp);simpa using this.symm
  have step:∃e,Acts P ops o s (lK fps k).1 (lK fps k).2 e∧DW P ops l gps' (s.app o.dst e) K:=by
   rw [hfp]
   cases g with
   | true=>obtain ⟨e,⟨h1,h2,h3⟩,h4⟩:=ht rfl;exact ⟨e,.inl ⟨hgd,h1,h2,h3⟩,h4⟩
   | false=>exact ⟨_,.inr ⟨hgd,rfl⟩,hff rfl⟩
  obtain ⟨e,hy,hK⟩:=step
  refine tG h0 l.length listed s hdc ?_ hr' hy ?_
  ·intro j oj hj hji hun hno
   unfold tF at hf
   rw [h0] at hf
   dsimp only at hf
   have hlt:j<ops.size:=(Array.getElem?_eq_some_iff.1 hj).1
   have h5:=List.all_eq_true.1 hf j (by simpa using hlt)
   rw [hj] at h5
   simp only [hun,hno,Bool.or_false,Bool.or_eq_true,Bool.and_eq_true,beq_iff_eq] at h5
   rcases h5 with h5|h5
   ·exact absurd h5 hji
   ·exact h5
  ·exact pz l (k+1) _ _ gps' (fun j=>by have:=hl (j+1);simpa [Nat.add_assoc,Nat.add_comm 1 j] using this) (fun j hj=>by have:=hg (j+1) (by simpa using hj);simpa [Nat.add_assoc,Nat.add_comm 1 j] using this) (hdc.set hr') hB' hK
theorem iX {fps:List (List Nat×List Nat)} {K:Mst→Prop} {Q:Exit→Act→World→Prop} (c:Ctx) (hnt:gD c.nt ops.toList=true) (hQ:∀s' ρ' a' w',K s'→Rp c s' ρ' a' w'→Q .normal a' w') :
  ∀(fuel:Nat) (listed:Array Bool) (s:Mst) (ρ:Nat→Value) (a:Act) (w:World),Rp c s ρ a w→py P ops fps K fuel listed s→wpAny P .any ops Q fuel listed a w
 | 0,_,s,ρ,a,w,hr,h=>⟨h.1,hQ _ _ _ _ h.2 hr⟩
 | fuel+1,listed,s,ρ,a,w,hr,h=>by
  refine ⟨fun h0=>hQ _ _ _ _ (h.1 h0) hr,fun i hi=>?_⟩
  have h1:=h.2 i hi
  unfold Ix at h1
  unfold wpOp
  split
  ·rename_i ho
   rw [ho] at h1
   exact iX c hnt hQ fuel _ s ρ a w hr h1
  ·rename_i o ho
   rw [ho] at h1
   obtain ⟨e,he,hK⟩:=h1
   have hmem:o∈ops.toList:=by
    have:=(Array.getElem?_eq_some_iff.1 ho).2
    rw [←this]
    simp
   rcases he with ⟨hg,hl,hk,hu⟩|⟨hg,rfl⟩
   ·rw [hr.gd hg,if_pos rfl]
    refine .inl (Oper.wp_post (hl c s ρ a w hr (fun _ _=>rfl) (fun _ _=>rfl) hu fun d hd=>sb hnt hmem hd) ?_)
    rintro a' w' ⟨ρ',hr'⟩
    exact iX c hnt hQ fuel _ _ ρ' a' w' hr' hK
   ·rw [hr.gd hg,if_neg (by simp)]
    exact iX c hnt hQ fuel _ _ ρ _ w (hr.put_any o.dst) hK
theorem pA {nt id:Nat} {Ks:List Nat} {l:List Oper} {fps:List (List Nat×List Nat)} {Q:Exit→Mst→Prop} {s:Mst} (hm:P.follows .mixedOrders=true) (hnt:gD nt l=true) (h:DW P l.toArray l fps s fun s'=>Q .normal s') (hB:mi l.toArray fps l.length 0 (Array.replicate l.length false)=true):AW P nt Ks (.region id l.toArray true) Q s:=by
 intro c ρ a w hc _ hr
 subst hc
 refine wp_region_any hm ?_
 have h1:=pz (P:=P) (ops:=l.toArray) (fps:=fps) l 0 (Array.replicate l.length false) s fps (by simp) (fun j _=>by simp [lK]) (fun k o _ hk=>by
  exfalso
  rw [Array.getD_eq_getD_getElem?,Array.getElem?_replicate] at hk
  split at hk <;> simp at hk) hB h
 exact iX c (by simpa using hnt) (fun s' ρ' a' w' hq hr'=>⟨s',ρ',hq,hr'⟩) _ _ s ρ a _ hr.drew (by simpa using h1)
end
end Go.Proofs.YtjndcdcbjidocaaGreatDoor
