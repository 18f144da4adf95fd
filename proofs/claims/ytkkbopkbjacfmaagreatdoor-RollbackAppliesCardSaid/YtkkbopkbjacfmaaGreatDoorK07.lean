/- Part K07 of a proof of statements of chapter 15 (no condition). -/
import Derived.Test.YtkkbopkbjacfmaaGreatDoorK04
import Derived.Test.YtkkbopkbjacfmaaGreatDoorK03
import Derived.Scope
set_option linter.unusedVariables false
set_option linter.unusedSimpArgs false
set_option maxRecDepth 100000
set_option maxHeartbeats 64000000
namespace Go.Proofs.YtkkbopkbjacfmaaGreatDoor
open Go.RowKit Go.Proofs.Tryz
def bj (a:Am):Bool:=bP a.mode && decide (a.units=0) || decide (a.mode=0) && decide (1<=a.units) && decide (a.units<=8)
def uc (x:Wt):Bool:=gm x.proc && bj x.am && decide (0<=x.prio) && decide (x.prio<=7) && decide (0<=x.passed) && decide (x.passed<=3)
def gZ (p:Pr):Nat->List Wt->Int
 | _,[]=>-1
 | k,x :: l=>bif decide (x.proc=p) then (k:Int) else gZ p (k+1) l
def dM (l:List Wt) (p:Pr):Int:=gZ p 0 l
def yr (all:List Wt):Nat->List Wt->Bool
 | _,[]=>true
 | k,x :: l=>uc x && decide (dM all x.proc=(k:Int)) && yr all (k+1) l
def fe (l:List Wt):Bool:=decide (l.length<=8) && yr l 0 l
theorem mH (all:List Wt) (k:Nat) (x:Wt) (l:List Wt):yr all k (x :: l)=(uc x && decide (dM all x.proc=(k:Int)) && yr all (k+1) l):=rfl
theorem eL (p:Pr) (k:Nat) (x:Wt) (l:List Wt):gZ p k (x :: l)=bif decide (x.proc=p) then (k:Int) else gZ p (k+1) l:=rfl
theorem zK (m u:Int):bj ⟨m,u⟩=(aH ⟨⟨#[]⟩,1,1,0⟩ ⟨m,u⟩ || aH ⟨⟨#[]⟩,2,8,0⟩ ⟨m,u⟩):=by
 unfold bj aH aW;simp
def ln (a:Am) (l:List Am):Bool:=l.any fun b=>!aJ a && !aJ b && !lP a.mode b.mode
def eC (r:Rs):Int->List Am->List Am->Bool
 | _,_,[]=>true
 | s,pre,a :: l=>bI r a && (if r.kind=2 then decide (s+a.units<=r.units) && eC r (s+a.units) (pre++[a]) l else !ln a pre && eC r s (pre++[a]) l)
theorem lR (r:Rs) (s:Int) (pre:List Am) (a:Am) (l:List Am):eC r s pre (a :: l)=(bI r a && (if r.kind=2 then decide (s+a.units<=r.units) && eC r (s+a.units) (pre++[a]) l else !ln a pre && eC r s (pre++[a]) l)):=rfl
def g9 (r:Rs) (l:List Am):Bool:=aW r && eC r 0 [] l
theorem cj {r:Rs} (h:aW r=true):r.kind=1/\r.units=1\/r.kind=2/\1<=r.units/\r.units<=8:=by
 unfold aW at h;simp at h;omega
theorem jv {r:Rs} {a:Am} (hp:bI r a=true) (hk:r.kind=1):a.units=0/\(a.mode=0\/bP a.mode=true):=by
 unfold bI aJ aH at hp;simp only [hk,if_true,qBa,Bool.or_eq_true,decide_eq_true_eq] at hp;rcases hp.2 with h|h
 ·rw [h];exact ⟨rfl,Or.inl rfl⟩
 ·exact ⟨h.2.2,Or.inr h.2.1⟩
theorem lS {r:Rs} {a:Am} (hp:bI r a=true) (hk:r.kind≠1):a.mode=0/\0<=a.units/\a.units<=8:=by
 have hs:aW r=true:=by unfold bI at hp;simp at hp;exact hp.1
 have:=cj hs;unfold bI aJ aH at hp;simp only [hk,if_false,qBa,Bool.or_eq_true,decide_eq_true_eq] at hp;rcases hp.2 with h|h
 ·rw [h];simp
 ·omega
theorem jw (a b:Int):lP a b=lP b a:=by
 unfold lP;rw [Bool.eq_iff_iff];simp only [qBa,Bool.or_eq_true,Bool.not_eq_true',decide_eq_true_eq,decide_eq_false_iff_not];constructor <;> (rintro ⟨⟨⟨⟨h1,h2⟩,h3⟩,h4⟩,h5⟩;refine ⟨⟨⟨⟨h2,h1⟩,h4⟩,h3⟩,?_⟩;omega)
def fB (pre:List Am) (m:Int):Bool:=decide (m≠0) && pre.any fun b=>decide (b.mode=m)
def jY (pre:List Am) (a:Int):Bool:=(List.range 6).any fun m=>fB pre m && !lP m a
theorem xh (pre:List Am) (a:Am) (m:Int):fB (pre++[a]) m=(fB pre m || decide (m≠0) && decide (a.mode=m)):=by
 unfold fB;rw [List.any_append];cases decide (m≠0) <;> simp
theorem GX {r:Rs} {a:Am} {pre:List Am} (hk:r.kind=1) (ha:bI r a=true) (hm:a.mode≠0) (hp:∀b∈pre,bI r b=true):ln a pre=jY pre a.mode:=by
 have hz:aJ a=false:=by unfold aJ;exact qDf fun e=>hm (by rw [e])
 rw [Bool.eq_iff_iff];unfold ln jY;simp only [List.any_eq_true,hz,Bool.not_false,Bool.true_and,qBa,Bool.not_eq_true',List.mem_range];constructor
 ·rintro ⟨b,hb,h1,h2⟩;obtain ⟨h3,h4⟩:=jv (hp b hb) hk;have h5:b.mode≠0:=fun e=>by
   obtain ⟨bm,bu⟩:=b;simp only at e h3;subst e;subst h3;simp [aJ] at h1
  have h6:=dL (h4.resolve_left h5);refine ⟨b.mode.toNat,by omega,?_,?_⟩
  ·rw [show ((b.mode.toNat:Nat):Int)=b.mode by omega];unfold fB;simp only [qBa,decide_eq_true_eq,List.any_eq_true];exact ⟨h5,b,hb,rfl⟩
  ·rw [show ((b.mode.toNat:Nat):Int)=b.mode by omega,jw];exact h2
 ·rintro ⟨m,hm6,h1,h2⟩;unfold fB at h1;simp only [qBa,decide_eq_true_eq,List.any_eq_true] at h1;obtain ⟨h3,b,hb,h4⟩:=h1;refine ⟨b,hb,?_,by rw [h4,jw];exact h2⟩;unfold aJ;exact qDf fun e=>h3 (by rw [<-h4,e])
theorem Ce {r:Rs} {a:Am} {pre:List Am} (hk:r.kind=1) (ha:bI r a=true) (hm:a.mode=0):ln a pre=false:=by
 have h:=(jv ha hk).1;have hz:aJ a=true:=by
  obtain ⟨m,u⟩:=a;simp only at hm h;subst hm;subst h;rfl
 unfold ln;simp [hz]
theorem Fd {r:Rs} {s:Int} {pre:List Am} {a:Am} {l:List Am} (hs:aW r=true) (hp:∀b∈pre,bI r b=true) (h0:0<=s/\s<=r.units) (h1:r.kind=1->s=0) :
  eC r s pre (a :: l)=(bI r a && decide (s+a.units<=r.units) && (decide (a.mode=0) || !jY pre a.mode) && eC r (s+a.units) (pre++[a]) l):=by
 have hk:=cj hs;rw [lR];cases ha:bI r a with
 | false=>rfl
 | true =>
  rcases hk with ⟨k1,k2⟩|⟨k1,k2,k3⟩
  ·have hu:=(jv ha k1).1;rw [hu,h1 k1,k2,if_neg (by omega)];by_cases hm:a.mode=0
   ·rw [Ce k1 ha hm];simp [hm]
   ·rw [GX k1 ha hm hp];simp [hm]
  ·have hm:=lS ha (by omega);rw [if_pos k1];simp [hm.1]
def sv (pre:List Am):Array Value:=#[.bool (fB pre 0),.bool (fB pre 1),.bool (fB pre 2),.bool (fB pre 3),.bool (fB pre 4),.bool (fB pre 5)]
theorem Kh {pre:List Am} {a:Am} (h:a.mode=0):sv (pre++[a])=sv pre:=by
 unfold sv;simp [xh,h]
theorem MW {pre:List Am} {a:Am} {m:Nat} (h:a.mode=(m:Int)) (h0:1<=m) (h5:m<=5):sv (pre++[a])=(sv pre).setIfInBounds m (.bool true):=by
 have:m=1\/m=2\/m=3\/m=4\/m=5:=by omega
 unfold sv;rcases this with rfl|rfl|rfl|rfl|rfl <;> simp [xh,h]
theorem GY (pre:List Am) {j:Nat} (hj:j<6) (w:World):(Instr.index 262 (.agg (sv pre)) (.int .i64 (j:Int))).run prog w = .ok (.bool (fB pre j)) w:=by
 have:j=0\/j=1\/j=2\/j=3\/j=4\/j=5:=by omega
 clear hj;rcases this with rfl|rfl|rfl|rfl|rfl|rfl <;> (show _=_) <;> kernel_rfl
theorem ud (r:Rs) (A:Option Addr) (B cap:Nat) (l:List Am) (w:World) (hT:Tog w) (hm:l.length<=maxLen) (hB:B<=w.heap.size) (hr:RowsAt E8 w (Lo B) A l) :
  Calls prog 122 #[r.val,.slice A l.length cap] w (xc w (.bool (g9 r l))):=by
 unfold maxLen at hm;have HR:=Lib.hid hr;have HT:=Lib.hid hT;clear hr hT;have HS:=Lib.hid (fun W=>jW r W);have HP:=Lib.hid (fun m u W=>wL r m u W);obtain ⟨q,hq⟩:=qGe (g9 r l);rw [hq];have HQ0:=Lib.hid hq;clear hq;cases hs:aW r with
 | false =>
  have HQ:Hid (q=false):=Lib.hid (by rw [<-HQ0.out];unfold g9;rw [hs];rfl);rw [hs] at HS;clear hs;obtain ⟨nm,kd,un,h⟩:=r;unfold Rs.val at *
  go_enter func122,ntmps122
  go_wp2_with fail
  refine wp_scope_straight ?_;go_wp2_with fail
  repeat' (first|(go_at_call 211;refine (HS.out _).mono ?_;rintro e wa1 ⟨rfl,hb_wa1⟩;obtain ⟨hc_wa1,hf_wa1⟩:=lN hb_wa1;have hs_wa1:=hb_wa1.size;(try simp at hs_wa1);have hz_wa1_w_0:w.heap.size<wa1.heap.size:=(by omega);clear hs_wa1;have HB_wa1:=Lib.hid hb_wa1;clear hb_wa1;go_wp2_with fail)|((try rw [Exit.noGoto_ret]);go_ret;exact ⟨aX HQ.out.symm,by exact fp⟩))
 | true =>
  have HQ:Hid (eC r 0 [] l=q):=Lib.hid (by have h:=HQ0.out;unfold g9 at h;rw [hs] at h;exact h);rw [hs] at HS;have HSH:=Lib.hid hs;have hu:0<=r.units:=by have:=cj hs;omega
  have hu8:r.units<=8:=by have:=cj hs;omega
  clear hs HQ0;obtain ⟨nm,kd,un,h⟩:=r;unfold Rs.val at *
  dsimp only at hu hu8
  go_enter func122,ntmps122
  go_wp2_with fail
  refine wp_scope_straight ?_;go_wp2_with fail
  refine (HS.out _).mono ?_;rintro e w1 ⟨rfl,hb1⟩;have HB1:=Lib.hid hb1;have HBW1:Hid (Below w.heap.size w w1):=Lib.hid fp;have HK1:Hid (Blk w1 w.heap.size 74 #[.string nm,.int .i64 kd,.int .i64 un,.int .i64 h]):=Lib.hid ((Blk.new w 74 #[.string nm,.int .i64 kd,.int .i64 un,.int .i64 h]).below hb1 (by simp));clear hb1;go_wp2_with fail
  refine wp_label ?_;go_wp2_with fail
  go_loopg [5,7,17] l.length (fun m v5 v7 v17 wq=>∃(k:Nat) (s:Int),v5 = .bool true/\v7 = .int .i64 s/\v17 = .int .i64 (k:Int)/\k<=l.length/\l.length<=k+m/\0<=s/\s<=un/\Hid (kd=1->s=0)/\Hid (eC ⟨nm,kd,un,h⟩ s (l.take k) (l.drop k)=q)/\Hid (∀b∈l.take k,bI ⟨nm,kd,un,h⟩ b=true)/\Hid (Below w.heap.size w wq)/\Hid (Blk wq w.heap.size 74 #[.string nm,.int .i64 kd,.int .i64 un,.int .i64 h])/\Hid (Blk wq w1.heap.size 262 (sv (l.take k))))
  case atStart=>exact ⟨0,0,rfl,rfl,rfl,Nat.zero_le _,by omega,by omega,hu,Lib.hid (fun _=>rfl),HQ,Lib.hid (by simp),Lib.hid fp,Lib.hid (HK1.out.alloc _),Lib.hid (Blk.new _ _ _)⟩
  case round =>
   obtain ⟨k,s,rfl,rfl,rfl,hk,hkm,hs0,hsu,HS0,HI,HPE,HB,HK,HV⟩:=hrel;have hsz:w.heap.size<=w1.heap.size:=HBW1.out.size;have hne:w.heap.size<w1.heap.size:=HK1.out.lt;by_cases hlt:k<l.length
   ·obtain ⟨⟨m,u⟩,hx⟩:∃x,l[k]=x:=⟨_,rfl⟩;obtain ⟨g,off,rfl,hbl,c0,c1⟩:=GP (HR.out.below (B'':=w.heap.size) HB.out hB hB) hlt hx;have hbl2:g<wr.heap.size:=Nat.lt_of_lt_of_le hbl HB.out.size;have hlti:(k:Int)<(l.length:Int):=by omega
    have HTK:Hid (l.take (k+1)=l.take k++[⟨m,u⟩]):=Lib.hid (by rw [List.take_add_one,qGg hlt,hx];rfl);have HST:Hid ((bI ⟨nm,kd,un,h⟩ ⟨m,u⟩ && decide (s+u<=un) && (decide (m=0) || !jY (l.take k) m) && eC ⟨nm,kd,un,h⟩ (s+u) (l.take (k+1)) (l.drop (k+1)))=q):=Lib.hid (by
     have h1:=HI.out;rw [Fb hlt hx,Fd HSH.out HPE.out ⟨hs0,hsu⟩ HS0.out] at h1;rw [HTK.out];exact h1)
    have k0:=HK.out.cellx 2 (v:=.int .i64 un) rfl;have j0:=HK.out.cellx 0 (v:=.string nm) rfl;have j1:=HK.out.cellx 1 (v:=.int .i64 kd) rfl;have j3:=HK.out.cellx 3 (v:=.int .i64 h) rfl;have hlw:w.heap.size<wr.heap.size:=HK.out.lt;clear hx hbl;cases hp:bI ⟨nm,kd,un,h⟩ ⟨m,u⟩ with
    | false =>
     have HQF:Hid (q=false):=Lib.hid (by rw [<-HST.out,hp];rfl);have HPF:Hid (∀W,Calls prog 212 #[.agg #[.string nm,.int .i64 kd,.int .i64 un,.int .i64 h],.agg #[.int .i64 m,.int .i64 u]] W (xc W (.bool false))):=Lib.hid (fun W=>hp▸HP.out m u W);clear hp;go_wp2_with fail
     refine (HPF.out _).mono ?_;rintro e w2 ⟨rfl,hb2⟩;have HB2:=Lib.hid hb2;clear hb2;go_wp2_with fail
     (try rw [Exit.noGoto_ret])
     go_ret
     exact ⟨aX HQF.out.symm,by exact fp⟩
    | true =>
     have HPT:Hid (∀W,Calls prog 212 #[.agg #[.string nm,.int .i64 kd,.int .i64 un,.int .i64 h],.agg #[.int .i64 m,.int .i64 u]] W (xc W (.bool true))):=Lib.hid (fun W=>hp▸HP.out m u W);have HP1:Hid (bI ⟨nm,kd,un,h⟩ ⟨m,u⟩=true):=Lib.hid hp;have hub:0<=u/\u<=8:=by
      by_cases hk1:kd=1
      ·have:=(jv hp hk1).1;dsimp only at this;omega
      ·have:=lS hp hk1;dsimp only at this;omega
     have hwr:IntKind.i64.wrap (s+u)=s+u:=IntWalk.i64_in _ (by omega);have HPE2:Hid (∀b∈l.take (k+1),bI ⟨nm,kd,un,h⟩ b=true):=Lib.hid (by
      rw [HTK.out];intro b hb;rcases List.mem_append.1 hb with hb|hb
      ·exact HPE.out b hb
      ·simp only [List.mem_singleton] at hb;subst hb;exact hp)
     have HS2:Hid (kd=1->s+u=0):=Lib.hid (fun hk1=>by have h1:=(jv hp hk1).1;have h2:=HS0.out hk1;dsimp only at h1;omega);clear hp;by_cases hfit:s+u<=un
     ·have hfi:¬(un<s+u):=by omega
      by_cases hm0:m=0
      ·subst hm0;have HN:Hid (eC ⟨nm,kd,un,h⟩ (s+u) (l.take (k+1)) (l.drop (k+1))=q):=Lib.hid (by have h1:=HST.out;rw [HP1.out,qDt hfit] at h1;simpa using h1);have HSV:Hid (sv (l.take (k+1))=sv (l.take k)):=Lib.hid (by rw [HTK.out];exact Kh rfl);go_wp2_with fail
       refine (HPT.out _).mono ?_;rintro e w2 ⟨rfl,hb2⟩;obtain ⟨hc_w2,hf_w2⟩:=lN hb2;have hs_w2:=hb2.size
       (try simp at hs_w2)
       have hz_w2_0:wr.heap.size<w2.heap.size:=(by omega);clear hs_w2;have hz:w.heap.size<w2.heap.size:=by omega
       have HB2:=Lib.hid hb2;have HK2:Hid (Blk w2 w.heap.size 74 #[.string nm,.int .i64 kd,.int .i64 un,.int .i64 h]):=Lib.hid ((HK.out.alloc _).below hb2 (by simp;omega));have HV2:Hid (Blk w2 w1.heap.size 262 (sv (l.take k))):=Lib.hid ((HV.out.alloc _).below hb2 (by have:=HV.out.lt;simp;omega));clear hb2;go_wp2_with fail
       go_roundg (gk-1)
       case measure=>omega
       case rel=>exact ⟨k+1,s+u,rfl,by go_num,by go_num,by omega,by omega,by omega,by omega,HS2,HN,HPE2,Lib.hid fp,HK2,Lib.hid (by rw [HSV.out];exact HV2.out)⟩
      ·have hk1:kd=1:=Classical.byContradiction fun hk1=>hm0 (lS HP1.out hk1).1;have hmb:bP m=true:=(jv HP1.out hk1).2.resolve_left hm0;obtain ⟨n,hn1,hn5,rfl⟩:∃n:Nat,1<=n/\n<=5/\m=(n:Int):=⟨m.toNat,by have:=dL hmb;omega,by have:=dL hmb;omega,by have:=dL hmb;omega⟩;have HC:Hid ((!jY (l.take k) n && eC ⟨nm,kd,un,h⟩ (s+u) (l.take (k+1)) (l.drop (k+1)))=q):=Lib.hid (by have h1:=HST.out;rw [HP1.out,qDt hfit,qDf hm0] at h1;simpa using h1);have hm0b:((n:Int) == 0)=false:=beq_eq_false_iff_ne.2 hm0;have HSV:Hid (sv (l.take (k+1))=(sv (l.take k)).setIfInBounds n (.bool true)):=Lib.hid (by rw [HTK.out];exact MW rfl hn1 hn5);clear hm0 hk1 hmb;go_wp2_with fail
       refine (HPT.out _).mono ?_;rintro e w2 ⟨rfl,hb2⟩;obtain ⟨hc_w2,hf_w2⟩:=lN hb2;have hs_w2:=hb2.size
       (try simp at hs_w2)
       have hz_w2_0:wr.heap.size<w2.heap.size:=(by omega);clear hs_w2;have hz:w.heap.size<w2.heap.size:=by omega
       have HB2:=Lib.hid hb2;have HK2:Hid (Blk w2 w.heap.size 74 #[.string nm,.int .i64 kd,.int .i64 un,.int .i64 h]):=Lib.hid ((HK.out.alloc _).below hb2 (by simp;omega));have HV2:Hid (Blk w2 w1.heap.size 262 (sv (l.take k))):=Lib.hid ((HV.out.alloc _).below hb2 (by have:=HV.out.lt;simp;omega));have HT2:=Lib.hid (HT.out.below (show Below w.heap.size w w2 by exact fp));have HBW2:Hid (Below w.heap.size w w2):=Lib.hid fp;have hv0:=HV2.out.cellx 0 (v:=.bool (fB (l.take k) 0)) rfl;have hv1:=HV2.out.cellx 1 (v:=.bool (fB (l.take k) 1)) rfl;have hv2:=HV2.out.cellx 2 (v:=.bool (fB (l.take k) 2)) rfl;have hv3:=HV2.out.cellx 3 (v:=.bool (fB (l.take k) 3)) rfl;have hv4:=HV2.out.cellx 4 (v:=.bool (fB (l.take k) 4)) rfl;have hv5:=HV2.out.cellx 5 (v:=.bool (fB (l.take k) 5)) rfl;have hlv:=HV2.out.lt;have hfz:=HV2.out.frozen n;obtain ⟨un',hcn⟩:∃u,w2.cell? ⟨w1.heap.size,n,none⟩=some u:=⟨_,(HV2.out.cell n).trans (Array.getElem?_eq_getElem (show n<(sv (l.take k)).size by simp [sv];omega))⟩;have HM:=Lib.hid (fun a=>nV a n w2 HT2.out);obtain ⟨G,hG⟩:∃G,G=gk:=⟨_,rfl⟩;subst hG;obtain ⟨wo,hwo⟩:∃x,x=wr:=⟨_,rfl⟩;subst hwo;clear hb2;go_wp2_with fail
       go_loopg [5,42] 6 (fun m v5 v42 wq=>∃j:Nat,v5 = .bool true/\v42 = .int .i64 (j:Int)/\j<=6/\6<=j+m/\wq=w2/\Hid (∀i:Nat,i<j->(fB (l.take k) i && !lP i n)=false))
       case atStart=>exact ⟨0,rfl,rfl,by omega,by omega,rfl,Lib.hid (fun _ h=>absurd h (by omega))⟩
       case round =>
        obtain ⟨j,rfl,rfl,hj6,hjm,rfl,HJ⟩:=hrel;by_cases hj:j<6
        ·have ki:=fun W=>GY (l.take k) hj W;unfold sv at ki;have hji:(j:Int)<6:=by omega
         have HMJ:=Lib.hid (HM.out j);obtain ⟨p1,hp1⟩:∃p,fB (l.take k) j=p:=⟨_,rfl⟩;obtain ⟨p2,hp2⟩:∃p,lP j n=p:=⟨_,rfl⟩;rw [hp1] at ki;rw [hp2] at HMJ;have HP12:=Lib.hid (And.intro hp1 hp2);clear hp1 hp2 hv0 hv1 hv2 hv3 hv4 hv5 hcn;cases p1 with
         | false =>
          go_wp2_with fail
          go_roundg (gk-1)
          case measure=>omega
          case rel=>exact ⟨j+1,rfl,by go_num,by omega,by omega,rfl,Lib.hid (fun i hi=>by
           rcases Nat.lt_or_ge i j with h1|h1
           ·exact HJ.out i h1
           ·obtain rfl:i=j:=by omega
            rw [HP12.out.1];rfl)⟩
         | true =>
          cases p2 with
          | true =>
           go_wp2_with fail
           refine HMJ.out.mono ?_;rintro e w3 ⟨rfl,hw3⟩;obtain rfl:=hw3.symm;clear hw3;go_wp2_with fail
           go_roundg (gk-1)
           case measure=>omega
           case rel=>exact ⟨j+1,rfl,by go_num,by omega,by omega,rfl,Lib.hid (fun i hi=>by
            rcases Nat.lt_or_ge i j with h1|h1
            ·exact HJ.out i h1
            ·obtain rfl:i=j:=by omega
             rw [HP12.out.2];simp)⟩
          | false =>
           have HQF:Hid (q=false):=Lib.hid (by
            have h1:jY (l.take k) n=true:=by
             unfold jY;rw [List.any_eq_true];exact ⟨j,by simpa using hj,by rw [HP12.out.1,HP12.out.2];rfl⟩
            rw [<-HC.out,h1];rfl)
           go_wp2_with fail
           refine HMJ.out.mono ?_;rintro e w3 ⟨rfl,hw3⟩;obtain rfl:=hw3.symm;clear hw3;go_wp2_with fail
           (try rw [Exit.noGoto_ret])
           go_ret
           exact ⟨aX HQF.out.symm,HBW2.out⟩
        ·have hji:¬(j:Int)<6:=by omega
         have HN:Hid (eC ⟨nm,kd,un,h⟩ (s+u) (l.take (k+1)) (l.drop (k+1))=q):=Lib.hid (by
          have h1:jY (l.take k) n=false:=by
           unfold jY;rw [List.any_eq_false];intro i hi;rw [HJ.out i (by have:=List.mem_range.1 hi;omega)];simp
          rw [<-HC.out,h1];rfl)
         go_wp2_with fail
         go_roundg (G-1)
         case measure=>omega
         case rel=>exact ⟨k+1,s+u,rfl,by go_num,by go_num,by omega,by omega,by omega,by omega,HS2,HN,HPE2,Lib.hid (Below.st HBW2.out (by simp;omega)),Lib.hid (HK2.out.far (by simp;omega) _),Lib.hid (by rw [HSV.out];exact HV2.out.set_ n _)⟩
     ·have hfi:un<s+u:=by omega
      have HQF:Hid (q=false):=Lib.hid (by rw [<-HST.out,HP1.out,qDf hfit];rfl);go_wp2_with fail
      refine (HPT.out _).mono ?_;rintro e w2 ⟨rfl,hb2⟩;obtain ⟨hc_w2,hf_w2⟩:=lN hb2;have hs_w2:=hb2.size
      (try simp at hs_w2)
      have hz_w2_0:wr.heap.size<w2.heap.size:=(by omega);clear hs_w2;have hz:w.heap.size<w2.heap.size:=by omega
      have HB2:=Lib.hid hb2;clear hb2;go_wp2_with fail
      (try rw [Exit.noGoto_ret])
      go_ret
      exact ⟨aX HQF.out.symm,by exact fp⟩
   ·have HQT:Hid (q=true):=Lib.hid (by have h1:=HI.out;rw [GV hlt] at h1;exact h1.symm);have hlti:¬(k:Int)<(l.length:Int):=by omega
    go_wp2_with fail
    (try rw [Exit.noGoto_ret])
    go_ret
    exact ⟨aX HQT.out.symm,by exact fp⟩
def ue (r:Rs):Option Pr->List Ho->Bool
 | _,[]=>true
 | p,x :: l=>gm x.proc && aH r x.am && (match p with|none=>true|some p=>decide (bH p x.proc<0)) && ue r (some x.proc) l
def qD (r:Rs) (l:List Ho):Bool:=aW r && decide (l.length<=8) && ue r none l && g9 r (iA l)
theorem xi (r:Rs) (p:Option Pr) (x:Ho) (l:List Ho):ue r p (x :: l)=(gm x.proc && aH r x.am && (match p with|none=>true|some p=>decide (bH p x.proc<0)) && ue r (some x.proc) l):=rfl
def uf (l:List Ho) (k:Nat):Option Pr:=if k=0 then none else (l[k-1]?).map (·.proc)
theorem ug (l:List Ho):uf l 0=none:=rfl
theorem jZ {l:List Ho} {k:Nat} {x:Ho} (h:k<l.length) (hx:l[k]=x):uf l (k+1)=some x.proc:=by
 unfold uf;rw [if_neg (by omega),Nat.add_sub_cancel,qGg h,hx];rfl
theorem xj {l:List Ho} {k:Nat} {x:Ho} (h0:0<k) (h:k-1<l.length) (hx:l[k-1]=x):uf l k=some x.proc:=by
 unfold uf;rw [if_neg (by omega),qGg h,hx];rfl
end Go.Proofs.YtkkbopkbjacfmaaGreatDoor
