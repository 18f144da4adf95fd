/- Part K05 of a proof of statements of chapter 15 (no condition). -/
import Derived.Test.YthpgjkjgkhjjlaaGreatDoorK02
import Derived.Test.YthpgjkjgkhjjlaaGreatDoorK03
import Derived.Scope
set_option linter.unusedVariables false
set_option linter.unusedSimpArgs false
set_option maxRecDepth 100000
set_option maxHeartbeats 64000000
namespace Go.Proofs.YthpgjkjgkhjjlaaGreatDoor
open Go.RowKit Go.Proofs.Tryz
def aR (a:Am):Bool:=decide (a=⟨0,0⟩)
def aS (r:Rs) (a:Am):Bool:=br r && (if r.kind=1 then cL a.mode && decide (a.units=0) else decide (a.mode=0) && decide (1<=a.units) && decide (a.units<=r.units))
def bQ (r:Rs) (a:Am):Bool:=br r && (aR a || aS r a)
def bq (r:Rs) (a b:Am):Bool:=bQ r a && bQ r b && (aR b || !aR a && (if r.kind=1 then es a.mode b.mode else decide (b.units<=a.units)))
theorem KM (m u:Int) (w:World):Calls prog 180 #[.agg #[.int .i64 m,.int .i64 u]] w (uL w (.bool (aR ⟨m,u⟩))):=by
 obtain ⟨_,k1,k2⟩:=RS m u 0 0
 go_enter func180,ntmps180
 go_wp2_with fail
 repeat' (first|(go_ret;refine ⟨bp ?_,by exact cV⟩;simp [aR]))
theorem KP (r:Rs) (m n:Int) (w:World):Calls prog 123 #[r.val,.agg #[.int .i64 m,.int .i64 n]] w (uL w (.bool (aS r ⟨m,n⟩))):=by
 obtain ⟨nm,kd,u,h⟩:=r;have HS:=Lib.hid (fun W=>lx ⟨nm,kd,u,h⟩ W);have HM:=Lib.hid (fun W=>fY m W);unfold Rs.val
 go_enter func123,ntmps123
 go_wp2_with fail
 repeat' (first|(go_at_call 191;refine (HS.out _).mono ?_;rintro e wa1 ⟨rfl,hb_wa1⟩;obtain ⟨hc_wa1,hf_wa1⟩:=uN hb_wa1;have hs_wa1:=hb_wa1.size;(try simp at hs_wa1);have hz_wa1_w_0:w.heap.size<wa1.heap.size:=(by omega);have hz_wa1_w_1:w.heap.size+1<wa1.heap.size:=(by omega);clear hs_wa1;have HB_wa1:=Lib.hid hb_wa1;clear hb_wa1;go_wp2_with fail)|(go_at_call 192;refine (HM.out _).mono ?_;rintro e wa2 ⟨rfl,hwa2⟩;obtain rfl:=hwa2.symm;clear hwa2;go_wp2_with fail)|(go_ret;refine ⟨bp ?_,by exact cV⟩;(first|(simp_all [aS];done)|(simp_all [aS];omega)|(rw [Bool.eq_iff_iff];simp_all [aS];done)|(rw [Bool.eq_iff_iff];simp_all [aS];omega))))
theorem z8 (r:Rs) (m n:Int) (w:World):Calls prog 179 #[r.val,.agg #[.int .i64 m,.int .i64 n]] w (uL w (.bool (bQ r ⟨m,n⟩))):=by
 obtain ⟨nm,kd,u,h⟩:=r;have HS:=Lib.hid (fun W=>lx ⟨nm,kd,u,h⟩ W);have HZ:=Lib.hid (fun W=>KM m n W);have HM:=Lib.hid (fun W=>KP ⟨nm,kd,u,h⟩ m n W);unfold Rs.val
 go_enter func179,ntmps179
 go_wp2_with fail
 repeat' (first|(go_at_call 191;refine (HS.out _).mono ?_;rintro e wa1 ⟨rfl,hb_wa1⟩;obtain ⟨hc_wa1,hf_wa1⟩:=uN hb_wa1;have hs_wa1:=hb_wa1.size;(try simp at hs_wa1);have hz_wa1_w_0:w.heap.size<wa1.heap.size:=(by omega);have hz_wa1_w_1:w.heap.size+1<wa1.heap.size:=(by omega);clear hs_wa1;have HB_wa1:=Lib.hid hb_wa1;clear hb_wa1;go_wp2_with fail)|(go_at_call 180;refine (HZ.out _).mono ?_;rintro e wa2 ⟨rfl,hb_wa2⟩;obtain ⟨hc_wa2,hf_wa2⟩:=uN hb_wa2;have hs_wa2:=hb_wa2.size;(try simp at hs_wa2);have hz_wa2_w_0:w.heap.size<wa2.heap.size:=(by omega);have hz_wa2_w_1:w.heap.size+1<wa2.heap.size:=(by omega);clear hs_wa2;have HB_wa2:=Lib.hid hb_wa2;clear hb_wa2;go_wp2_with fail)|(go_at_call 123;refine (HM.out _).mono ?_;rintro e wa3 ⟨rfl,hb_wa3⟩;obtain ⟨hc_wa3,hf_wa3⟩:=uN hb_wa3;have hs_wa3:=hb_wa3.size;(try simp at hs_wa3);have hz_wa3_w_0:w.heap.size<wa3.heap.size:=(by omega);have hz_wa3_w_1:w.heap.size+1<wa3.heap.size:=(by omega);clear hs_wa3;have HB_wa3:=Lib.hid hb_wa3;clear hb_wa3;go_wp2_with fail)|(go_ret;refine ⟨bp ?_,by exact cV⟩;(first|(simp_all [bQ];done)|(simp_all [bQ];omega)|(rw [Bool.eq_iff_iff];simp_all [bQ];done)|(rw [Bool.eq_iff_iff];simp_all [bQ];omega))))
def mo (a:Am) (l:List Am):Bool:=l.any fun b=>!aR a && !aR b && !mG a.mode b.mode
def fm (r:Rs):Int->List Am->List Am->Bool
 | _,_,[]=>true
 | s,pre,a :: l=>bQ r a && (if r.kind=2 then decide (s+a.units<=r.units) && fm r (s+a.units) (pre++[a]) l else !mo a pre && fm r s (pre++[a]) l)
theorem mI (r:Rs) (s:Int) (pre:List Am) (a:Am) (l:List Am):fm r s pre (a :: l)=(bQ r a && (if r.kind=2 then decide (s+a.units<=r.units) && fm r (s+a.units) (pre++[a]) l else !mo a pre && fm r s (pre++[a]) l)):=rfl
def iX (r:Rs) (l:List Am):Bool:=br r && fm r 0 [] l
theorem cW {r:Rs} (h:br r=true):r.kind=1/\r.units=1\/r.kind=2/\1<=r.units/\r.units<=8:=by
 unfold br at h;simp at h;omega
theorem ko {r:Rs} {a:Am} (hp:bQ r a=true) (hk:r.kind=1):a.units=0/\(a.mode=0\/cL a.mode=true):=by
 unfold bQ aR aS at hp;simp only [hk,if_true,qBa,Bool.or_eq_true,decide_eq_true_eq] at hp;rcases hp.2 with h|h
 ·rw [h];exact ⟨rfl,Or.inl rfl⟩
 ·exact ⟨h.2.2,Or.inr h.2.1⟩
theorem mJ {r:Rs} {a:Am} (hp:bQ r a=true) (hk:r.kind≠1):a.mode=0/\0<=a.units/\a.units<=8:=by
 have hs:br r=true:=by unfold bQ at hp;simp at hp;exact hp.1
 have:=cW hs;unfold bQ aR aS at hp;simp only [hk,if_false,qBa,Bool.or_eq_true,decide_eq_true_eq] at hp;rcases hp.2 with h|h
 ·rw [h];simp
 ·omega
theorem kq (a b:Int):mG a b=mG b a:=by
 unfold mG;rw [Bool.eq_iff_iff];simp only [qBa,Bool.or_eq_true,Bool.not_eq_true',decide_eq_true_eq,decide_eq_false_iff_not];constructor <;> (rintro ⟨⟨⟨⟨h1,h2⟩,h3⟩,h4⟩,h5⟩;refine ⟨⟨⟨⟨h2,h1⟩,h4⟩,h3⟩,?_⟩;omega)
def fZ (pre:List Am) (m:Int):Bool:=decide (m≠0) && pre.any fun b=>decide (b.mode=m)
def lz (pre:List Am) (a:Int):Bool:=(List.range 6).any fun m=>fZ pre m && !mG m a
theorem Ar (pre:List Am) (a:Am) (m:Int):fZ (pre++[a]) m=(fZ pre m || decide (m≠0) && decide (a.mode=m)):=by
 unfold fZ;rw [List.any_append];cases decide (m≠0) <;> simp
theorem KQ {r:Rs} {a:Am} {pre:List Am} (hk:r.kind=1) (ha:bQ r a=true) (hm:a.mode≠0) (hp:∀b∈pre,bQ r b=true):mo a pre=lz pre a.mode:=by
 have hz:aR a=false:=by unfold aR;exact qDf fun e=>hm (by rw [e])
 rw [Bool.eq_iff_iff];unfold mo lz;simp only [List.any_eq_true,hz,Bool.not_false,Bool.true_and,qBa,Bool.not_eq_true',List.mem_range];constructor
 ·rintro ⟨b,hb,h1,h2⟩;obtain ⟨h3,h4⟩:=ko (hp b hb) hk;have h5:b.mode≠0:=fun e=>by
   obtain ⟨bm,bu⟩:=b;simp only at e h3;subst e;subst h3;simp [aR] at h1
  have h6:=dR (h4.resolve_left h5);refine ⟨b.mode.toNat,by omega,?_,?_⟩
  ·rw [show ((b.mode.toNat:Nat):Int)=b.mode by omega];unfold fZ;simp only [qBa,decide_eq_true_eq,List.any_eq_true];exact ⟨h5,b,hb,rfl⟩
  ·rw [show ((b.mode.toNat:Nat):Int)=b.mode by omega,kq];exact h2
 ·rintro ⟨m,hm6,h1,h2⟩;unfold fZ at h1;simp only [qBa,decide_eq_true_eq,List.any_eq_true] at h1;obtain ⟨h3,b,hb,h4⟩:=h1;refine ⟨b,hb,?_,by rw [h4,kq];exact h2⟩;unfold aR;exact qDf fun e=>h3 (by rw [<-h4,e])
theorem FP {r:Rs} {a:Am} {pre:List Am} (hk:r.kind=1) (ha:bQ r a=true) (hm:a.mode=0):mo a pre=false:=by
 have h:=(ko ha hk).1;have hz:aR a=true:=by
  obtain ⟨m,u⟩:=a;simp only at hm h;subst hm;subst h;rfl
 unfold mo;simp [hz]
theorem Jd {r:Rs} {s:Int} {pre:List Am} {a:Am} {l:List Am} (hs:br r=true) (hp:∀b∈pre,bQ r b=true) (h0:0<=s/\s<=r.units) (h1:r.kind=1->s=0) :
  fm r s pre (a :: l)=(bQ r a && decide (s+a.units<=r.units) && (decide (a.mode=0) || !lz pre a.mode) && fm r (s+a.units) (pre++[a]) l):=by
 have hk:=cW hs;rw [mI];cases ha:bQ r a with
 | false=>rfl
 | true =>
  rcases hk with ⟨k1,k2⟩|⟨k1,k2,k3⟩
  ·have hu:=(ko ha k1).1;rw [hu,h1 k1,k2,if_neg (by omega)];by_cases hm:a.mode=0
   ·rw [FP k1 ha hm];simp [hm]
   ·rw [KQ k1 ha hm hp];simp [hm]
  ·have hm:=mJ ha (by omega);rw [if_pos k1];simp [hm.1]
def sv (pre:List Am):Array Value:=#[.bool (fZ pre 0),.bool (fZ pre 1),.bool (fZ pre 2),.bool (fZ pre 3),.bool (fZ pre 4),.bool (fZ pre 5)]
theorem NC {pre:List Am} {a:Am} (h:a.mode=0):sv (pre++[a])=sv pre:=by
 unfold sv;simp [Ar,h]
theorem Qe {pre:List Am} {a:Am} {m:Nat} (h:a.mode=(m:Int)) (h0:1<=m) (h5:m<=5):sv (pre++[a])=(sv pre).setIfInBounds m (.bool true):=by
 have:m=1\/m=2\/m=3\/m=4\/m=5:=by omega
 unfold sv;rcases this with rfl|rfl|rfl|rfl|rfl <;> simp [Ar,h]
theorem KR (pre:List Am) {j:Nat} (hj:j<6) (w:World):(Instr.index 247 (.agg (sv pre)) (.int .i64 (j:Int))).run prog w = .ok (.bool (fZ pre j)) w:=by
 have:j=0\/j=1\/j=2\/j=3\/j=4\/j=5:=by omega
 clear hj;rcases this with rfl|rfl|rfl|rfl|rfl|rfl <;> (show _=_) <;> kernel_rfl
theorem xI (r:Rs) (A:Option Addr) (B cap:Nat) (l:List Am) (w:World) (hT:Tog w) (hm:l.length<=maxLen) (hB:B<=w.heap.size) (hr:RowsAt I9 w (Lo B) A l) :
  Calls prog 333 #[r.val,.slice A l.length cap] w (uL w (.bool (iX r l))):=by
 unfold maxLen at hm;have HR:=Lib.hid hr;have HT:=Lib.hid hT;clear hr hT;have HS:=Lib.hid (fun W=>lx r W);have HP:=Lib.hid (fun m u W=>z8 r m u W);obtain ⟨q,hq⟩:=qGe (iX r l);rw [hq];have HQ0:=Lib.hid hq;clear hq;cases hs:br r with
 | false =>
  have HQ:Hid (q=false):=Lib.hid (by rw [<-HQ0.out];unfold iX;rw [hs];rfl);rw [hs] at HS;clear hs;obtain ⟨nm,kd,un,h⟩:=r;unfold Rs.val at *
  go_enter func333,ntmps333
  go_wp2_with fail
  refine wp_scope_straight ?_;go_wp2_with fail
  repeat' (first|(go_at_call 191;refine (HS.out _).mono ?_;rintro e wa1 ⟨rfl,hb_wa1⟩;obtain ⟨hc_wa1,hf_wa1⟩:=uN hb_wa1;have hs_wa1:=hb_wa1.size;(try simp at hs_wa1);have hz_wa1_w_0:w.heap.size<wa1.heap.size:=(by omega);clear hs_wa1;have HB_wa1:=Lib.hid hb_wa1;clear hb_wa1;go_wp2_with fail)|((try rw [Exit.noGoto_ret]);go_ret;exact ⟨bp HQ.out.symm,by exact cV⟩))
 | true =>
  have HQ:Hid (fm r 0 [] l=q):=Lib.hid (by have h:=HQ0.out;unfold iX at h;rw [hs] at h;exact h);rw [hs] at HS;have HSH:=Lib.hid hs;have hu:0<=r.units:=by have:=cW hs;omega
  have hu8:r.units<=8:=by have:=cW hs;omega
  clear hs HQ0;obtain ⟨nm,kd,un,h⟩:=r;unfold Rs.val at *
  dsimp only at hu hu8
  go_enter func333,ntmps333
  go_wp2_with fail
  refine wp_scope_straight ?_;go_wp2_with fail
  refine (HS.out _).mono ?_;rintro e w1 ⟨rfl,hb1⟩;have HB1:=Lib.hid hb1;have HBW1:Hid (Below w.heap.size w w1):=Lib.hid cV;have HK1:Hid (Blk w1 w.heap.size 63 #[.string nm,.int .i64 kd,.int .i64 un,.int .i64 h]):=Lib.hid ((Blk.new w 63 #[.string nm,.int .i64 kd,.int .i64 un,.int .i64 h]).below hb1 (by simp));clear hb1;go_wp2_with fail
  refine wp_label ?_;go_wp2_with fail
  go_loopg [5,7,17] l.length (fun m v5 v7 v17 wq=>∃(k:Nat) (s:Int),v5 = .bool true/\v7 = .int .i64 s/\v17 = .int .i64 (k:Int)/\k<=l.length/\l.length<=k+m/\0<=s/\s<=un/\Hid (kd=1->s=0)/\Hid (fm ⟨nm,kd,un,h⟩ s (l.take k) (l.drop k)=q)/\Hid (∀b∈l.take k,bQ ⟨nm,kd,un,h⟩ b=true)/\Hid (Below w.heap.size w wq)/\Hid (Blk wq w.heap.size 63 #[.string nm,.int .i64 kd,.int .i64 un,.int .i64 h])/\Hid (Blk wq w1.heap.size 247 (sv (l.take k))))
  case atStart=>exact ⟨0,0,rfl,rfl,rfl,Nat.zero_le _,by omega,by omega,hu,Lib.hid (fun _=>rfl),HQ,Lib.hid (by simp),Lib.hid cV,Lib.hid (HK1.out.alloc _),Lib.hid (Blk.new _ _ _)⟩
  case round =>
   obtain ⟨k,s,rfl,rfl,rfl,hk,hkm,hs0,hsu,HS0,HI,HPE,HB,HK,HV⟩:=hrel;have hsz:w.heap.size<=w1.heap.size:=HBW1.out.size;have hne:w.heap.size<w1.heap.size:=HK1.out.lt;by_cases hlt:k<l.length
   ·obtain ⟨⟨m,u⟩,hx⟩:∃x,l[k]=x:=⟨_,rfl⟩;obtain ⟨g,off,rfl,hbl,c0,c1⟩:=KI (HR.out.below (B'':=w.heap.size) HB.out hB hB) hlt hx;have hbl2:g<wr.heap.size:=Nat.lt_of_lt_of_le hbl HB.out.size;have hlti:(k:Int)<(l.length:Int):=by omega
    have HTK:Hid (l.take (k+1)=l.take k++[⟨m,u⟩]):=Lib.hid (by rw [List.take_add_one,qGg hlt,hx];rfl);have HST:Hid ((bQ ⟨nm,kd,un,h⟩ ⟨m,u⟩ && decide (s+u<=un) && (decide (m=0) || !lz (l.take k) m) && fm ⟨nm,kd,un,h⟩ (s+u) (l.take (k+1)) (l.drop (k+1)))=q):=Lib.hid (by
     have h1:=HI.out;rw [nS hlt hx,Jd HSH.out HPE.out ⟨hs0,hsu⟩ HS0.out] at h1;rw [HTK.out];exact h1)
    have k0:=HK.out.cellx 2 (v:=.int .i64 un) rfl;have j0:=HK.out.cellx 0 (v:=.string nm) rfl;have j1:=HK.out.cellx 1 (v:=.int .i64 kd) rfl;have j3:=HK.out.cellx 3 (v:=.int .i64 h) rfl;have hlw:w.heap.size<wr.heap.size:=HK.out.lt;clear hx hbl;cases hp:bQ ⟨nm,kd,un,h⟩ ⟨m,u⟩ with
    | false =>
     have HQF:Hid (q=false):=Lib.hid (by rw [<-HST.out,hp];rfl);have HPF:Hid (∀W,Calls prog 179 #[.agg #[.string nm,.int .i64 kd,.int .i64 un,.int .i64 h],.agg #[.int .i64 m,.int .i64 u]] W (uL W (.bool false))):=Lib.hid (fun W=>hp▸HP.out m u W);clear hp;go_wp2_with fail
     refine (HPF.out _).mono ?_;rintro e w2 ⟨rfl,hb2⟩;have HB2:=Lib.hid hb2;clear hb2;go_wp2_with fail
     (try rw [Exit.noGoto_ret])
     go_ret
     exact ⟨bp HQF.out.symm,by exact cV⟩
    | true =>
     have HPT:Hid (∀W,Calls prog 179 #[.agg #[.string nm,.int .i64 kd,.int .i64 un,.int .i64 h],.agg #[.int .i64 m,.int .i64 u]] W (uL W (.bool true))):=Lib.hid (fun W=>hp▸HP.out m u W);have HP1:Hid (bQ ⟨nm,kd,un,h⟩ ⟨m,u⟩=true):=Lib.hid hp;have hub:0<=u/\u<=8:=by
      by_cases hk1:kd=1
      ·have:=(ko hp hk1).1;dsimp only at this;omega
      ·have:=mJ hp hk1;dsimp only at this;omega
     have hwr:IntKind.i64.wrap (s+u)=s+u:=IntWalk.i64_in _ (by omega);have HPE2:Hid (∀b∈l.take (k+1),bQ ⟨nm,kd,un,h⟩ b=true):=Lib.hid (by
      rw [HTK.out];intro b hb;rcases List.mem_append.1 hb with hb|hb
      ·exact HPE.out b hb
      ·simp only [List.mem_singleton] at hb;subst hb;exact hp)
     have HS2:Hid (kd=1->s+u=0):=Lib.hid (fun hk1=>by have h1:=(ko hp hk1).1;have h2:=HS0.out hk1;dsimp only at h1;omega);clear hp;by_cases hfit:s+u<=un
     ·have hfi:¬(un<s+u):=by omega
      by_cases hm0:m=0
      ·subst hm0;have HN:Hid (fm ⟨nm,kd,un,h⟩ (s+u) (l.take (k+1)) (l.drop (k+1))=q):=Lib.hid (by have h1:=HST.out;rw [HP1.out,qDt hfit] at h1;simpa using h1);have HSV:Hid (sv (l.take (k+1))=sv (l.take k)):=Lib.hid (by rw [HTK.out];exact NC rfl);go_wp2_with fail
       refine (HPT.out _).mono ?_;rintro e w2 ⟨rfl,hb2⟩;obtain ⟨hc_w2,hf_w2⟩:=uN hb2;have hs_w2:=hb2.size
       (try simp at hs_w2)
       have hz_w2_0:wr.heap.size<w2.heap.size:=(by omega);clear hs_w2;have hz:w.heap.size<w2.heap.size:=by omega
       have HB2:=Lib.hid hb2;have HK2:Hid (Blk w2 w.heap.size 63 #[.string nm,.int .i64 kd,.int .i64 un,.int .i64 h]):=Lib.hid ((HK.out.alloc _).below hb2 (by simp;omega));have HV2:Hid (Blk w2 w1.heap.size 247 (sv (l.take k))):=Lib.hid ((HV.out.alloc _).below hb2 (by have:=HV.out.lt;simp;omega));clear hb2;go_wp2_with fail
       go_roundg (gk-1)
       case measure=>omega
       case rel=>exact ⟨k+1,s+u,rfl,by go_num,by go_num,by omega,by omega,by omega,by omega,HS2,HN,HPE2,Lib.hid cV,HK2,Lib.hid (by rw [HSV.out];exact HV2.out)⟩
      ·have hk1:kd=1:=Classical.byContradiction fun hk1=>hm0 (mJ HP1.out hk1).1;have hmb:cL m=true:=(ko HP1.out hk1).2.resolve_left hm0;obtain ⟨n,hn1,hn5,rfl⟩:∃n:Nat,1<=n/\n<=5/\m=(n:Int):=⟨m.toNat,by have:=dR hmb;omega,by have:=dR hmb;omega,by have:=dR hmb;omega⟩;have HC:Hid ((!lz (l.take k) n && fm ⟨nm,kd,un,h⟩ (s+u) (l.take (k+1)) (l.drop (k+1)))=q):=Lib.hid (by have h1:=HST.out;rw [HP1.out,qDt hfit,qDf hm0] at h1;simpa using h1);have hm0b:((n:Int) == 0)=false:=beq_eq_false_iff_ne.2 hm0;have HSV:Hid (sv (l.take (k+1))=(sv (l.take k)).setIfInBounds n (.bool true)):=Lib.hid (by rw [HTK.out];exact Qe rfl hn1 hn5);clear hm0 hk1 hmb;go_wp2_with fail
       refine (HPT.out _).mono ?_;rintro e w2 ⟨rfl,hb2⟩;obtain ⟨hc_w2,hf_w2⟩:=uN hb2;have hs_w2:=hb2.size
       (try simp at hs_w2)
       have hz_w2_0:wr.heap.size<w2.heap.size:=(by omega);clear hs_w2;have hz:w.heap.size<w2.heap.size:=by omega
       have HB2:=Lib.hid hb2;have HK2:Hid (Blk w2 w.heap.size 63 #[.string nm,.int .i64 kd,.int .i64 un,.int .i64 h]):=Lib.hid ((HK.out.alloc _).below hb2 (by simp;omega));have HV2:Hid (Blk w2 w1.heap.size 247 (sv (l.take k))):=Lib.hid ((HV.out.alloc _).below hb2 (by have:=HV.out.lt;simp;omega));have HT2:=Lib.hid (HT.out.below (show Below w.heap.size w w2 by exact cV));have HBW2:Hid (Below w.heap.size w w2):=Lib.hid cV;have hv0:=HV2.out.cellx 0 (v:=.bool (fZ (l.take k) 0)) rfl;have hv1:=HV2.out.cellx 1 (v:=.bool (fZ (l.take k) 1)) rfl;have hv2:=HV2.out.cellx 2 (v:=.bool (fZ (l.take k) 2)) rfl;have hv3:=HV2.out.cellx 3 (v:=.bool (fZ (l.take k) 3)) rfl;have hv4:=HV2.out.cellx 4 (v:=.bool (fZ (l.take k) 4)) rfl;have hv5:=HV2.out.cellx 5 (v:=.bool (fZ (l.take k) 5)) rfl;have hlv:=HV2.out.lt;have hfz:=HV2.out.frozen n;obtain ⟨un',hcn⟩:∃u,w2.cell? ⟨w1.heap.size,n,none⟩=some u:=⟨_,(HV2.out.cell n).trans (Array.getElem?_eq_getElem (show n<(sv (l.take k)).size by simp [sv];omega))⟩;have HM:=Lib.hid (fun a=>oG a n w2 HT2.out);obtain ⟨G,hG⟩:∃G,G=gk:=⟨_,rfl⟩;subst hG;obtain ⟨wo,hwo⟩:∃x,x=wr:=⟨_,rfl⟩;subst hwo;clear hb2;go_wp2_with fail
       go_loopg [5,42] 6 (fun m v5 v42 wq=>∃j:Nat,v5 = .bool true/\v42 = .int .i64 (j:Int)/\j<=6/\6<=j+m/\wq=w2/\Hid (∀i:Nat,i<j->(fZ (l.take k) i && !mG i n)=false))
       case atStart=>exact ⟨0,rfl,rfl,by omega,by omega,rfl,Lib.hid (fun _ h=>absurd h (by omega))⟩
       case round =>
        obtain ⟨j,rfl,rfl,hj6,hjm,rfl,HJ⟩:=hrel;by_cases hj:j<6
        ·have ki:=fun W=>KR (l.take k) hj W;unfold sv at ki;have hji:(j:Int)<6:=by omega
         have HMJ:=Lib.hid (HM.out j);obtain ⟨p1,hp1⟩:∃p,fZ (l.take k) j=p:=⟨_,rfl⟩;obtain ⟨p2,hp2⟩:∃p,mG j n=p:=⟨_,rfl⟩;rw [hp1] at ki;rw [hp2] at HMJ;have HP12:=Lib.hid (And.intro hp1 hp2);clear hp1 hp2 hv0 hv1 hv2 hv3 hv4 hv5 hcn;cases p1 with
         | false =>
          go_wp2_with fail
          go_roundg (gk-1)
          case measure=>omega
          case rel=>exact ⟨j+1,rfl,by go_num,by omega,by omega,rfl,Lib.hid (fun i hi=>by
           rcases Nat.lt_or_ge i j with h1|h1
           ·exact HJ.out i h1
           ·obtain rfl:i=j:=by omega
            rw [HP12.out.1];rfl)⟩
         | true =>
          cases p2 with
          | true =>
           go_wp2_with fail
           refine HMJ.out.mono ?_;rintro e w3 ⟨rfl,hw3⟩;obtain rfl:=hw3.symm;clear hw3;go_wp2_with fail
           go_roundg (gk-1)
           case measure=>omega
           case rel=>exact ⟨j+1,rfl,by go_num,by omega,by omega,rfl,Lib.hid (fun i hi=>by
            rcases Nat.lt_or_ge i j with h1|h1
            ·exact HJ.out i h1
            ·obtain rfl:i=j:=by omega
             rw [HP12.out.2];simp)⟩
          | false =>
           have HQF:Hid (q=false):=Lib.hid (by
            have h1:lz (l.take k) n=true:=by
             unfold lz;rw [List.any_eq_true];exact ⟨j,by simpa using hj,by rw [HP12.out.1,HP12.out.2];rfl⟩
            rw [<-HC.out,h1];rfl)
           go_wp2_with fail
           refine HMJ.out.mono ?_;rintro e w3 ⟨rfl,hw3⟩;obtain rfl:=hw3.symm;clear hw3;go_wp2_with fail
           (try rw [Exit.noGoto_ret])
           go_ret
           exact ⟨bp HQF.out.symm,HBW2.out⟩
        ·have hji:¬(j:Int)<6:=by omega
         have HN:Hid (fm ⟨nm,kd,un,h⟩ (s+u) (l.take (k+1)) (l.drop (k+1))=q):=Lib.hid (by
          have h1:lz (l.take k) n=false:=by
           unfold lz;rw [List.any_eq_false];intro i hi;rw [HJ.out i (by have:=List.mem_range.1 hi;omega)];simp
          rw [<-HC.out,h1];rfl)
         go_wp2_with fail
         go_roundg (G-1)
         case measure=>omega
         case rel=>exact ⟨k+1,s+u,rfl,by go_num,by go_num,by omega,by omega,by omega,by omega,HS2,HN,HPE2,Lib.hid (Below.st HBW2.out (by simp;omega)),Lib.hid (HK2.out.far (by simp;omega) _),Lib.hid (by rw [HSV.out];exact HV2.out.set_ n _)⟩
     ·have hfi:un<s+u:=by omega
      have HQF:Hid (q=false):=Lib.hid (by rw [<-HST.out,HP1.out,qDf hfit];rfl);go_wp2_with fail
      refine (HPT.out _).mono ?_;rintro e w2 ⟨rfl,hb2⟩;obtain ⟨hc_w2,hf_w2⟩:=uN hb2;have hs_w2:=hb2.size
      (try simp at hs_w2)
      have hz_w2_0:wr.heap.size<w2.heap.size:=(by omega);clear hs_w2;have hz:w.heap.size<w2.heap.size:=by omega
      have HB2:=Lib.hid hb2;clear hb2;go_wp2_with fail
      (try rw [Exit.noGoto_ret])
      go_ret
      exact ⟨bp HQF.out.symm,by exact cV⟩
   ·have HQT:Hid (q=true):=Lib.hid (by have h1:=HI.out;rw [xH hlt] at h1;exact h1.symm);have hlti:¬(k:Int)<(l.length:Int):=by omega
    go_wp2_with fail
    (try rw [Exit.noGoto_ret])
    go_ret
    exact ⟨bp HQT.out.symm,by exact cV⟩
def xJ (r:Rs):Option Pr->List Ho->Bool
 | _,[]=>true
 | p,x :: l=>jW x.proc && aS r x.am && (match p with|none=>true|some p=>decide (cl p x.proc<0)) && xJ r (some x.proc) l
def zX (r:Rs) (l:List Ho):Bool:=br r && decide (l.length<=8) && xJ r none l && iX r (js l)
theorem As (r:Rs) (p:Option Pr) (x:Ho) (l:List Ho):xJ r p (x :: l)=(jW x.proc && aS r x.am && (match p with|none=>true|some p=>decide (cl p x.proc<0)) && xJ r (some x.proc) l):=rfl
def xK (l:List Ho) (k:Nat):Option Pr:=if k=0 then none else (l[k-1]?).map (·.proc)
theorem xL (l:List Ho):xK l 0=none:=rfl
theorem lA {l:List Ho} {k:Nat} {x:Ho} (h:k<l.length) (hx:l[k]=x):xK l (k+1)=some x.proc:=by
 unfold xK;rw [if_neg (by omega),Nat.add_sub_cancel,qGg h,hx];rfl
theorem At {l:List Ho} {k:Nat} {x:Ho} (h0:0<k) (h:k-1<l.length) (hx:l[k-1]=x):xK l k=some x.proc:=by
 unfold xK;rw [if_neg (by omega),qGg h,hx];rfl
def xM (A:Option Addr) (cap k size:Nat):Option Addr:=if cap=k then A else A.map (·.add (k*size))
theorem Dj {P:Program} {t e:TypeId} {i:TypeInfo} (ht:P.underlying t=some (.slice e)) (hi:P.info? e=some i) (A:Option Addr) (n cap k:Nat) (hk:k<=cap) (w:World) :
  (Instr.slice t (.slice A n cap) none (some (.int .i64 (k:Int))) none).run P w = .ok (.slice A k cap) w:=by
 have he:P.elem t=e:=by simp [Program.elem,ht]
 have hh:((k:Int)).toNat=k:=by omega
 rw [run_slice_h w t A n cap (by rw [he];exact ht) .i64 k (by omega) (by omega),he,hh];have h0:∀a:Addr,a.add 0=a:=fun a=>by unfold Addr.add;simp
 cases A <;> simp [sizeOf,typeInfo,hi,sliced,Result.andThen,h0]
theorem KS {P:Program} {t e:TypeId} {i:TypeInfo} (ht:P.underlying t=some (.slice e)) (hi:P.info? e=some i) (A:Option Addr) (n cap k:Nat) (hk:k<=n) (w:World) :
  (Instr.slice t (.slice A n cap) (some (.int .i64 (k:Int))) none none).run P w = .ok (.slice (xM A cap k i.size) (n-k) (cap-k)) w:=by
 have he:P.elem t=e:=by simp [Program.elem,ht]
 have hh:((k:Int)).toNat=k:=by omega
 rw [run_slice_l w t A n cap (by rw [he];exact ht) .i64 k (by omega) (by omega),he,hh];simp [sizeOf,typeInfo,hi,sliced,Result.andThen,xM]
theorem Dk {t e:TypeId} {z:Value} {sz by_:Nat} (ht:prog.underlying t=some (.slice e)) (hi:(prog.info? e).map (fun i=>(i.zero,i.size,i.bytes))=some (some z,sz,by_)) (A:Option Addr) (n cap k:Nat) (hk:k<=n) (hc:n<=cap) :
  (∀w,(Instr.sliceAt t (.slice A n cap) none (some (.int .i64 (k:Int))) none).run prog w = .ok (.slice A k cap) w)/\
  ∀w,(Instr.sliceAt t (.slice A n cap) (some (.int .i64 (k:Int))) none none).run prog w = .ok (.slice (xM A cap k sz) (n-k) (cap-k)) w:=by
 obtain ⟨i0,hi0,hz0,hz1,hz2⟩:=info_parts hi;have he:prog.elem t=e:=by simp [Program.elem,ht]
 constructor
 ·intro w;rw [run_sliceAt_slice w t _ _ _ _ (by rw [he];exact ht)];exact Dj ht hi0 A n cap k (by omega) w
 ·intro w;rw [run_sliceAt_slice w t _ _ _ _ (by rw [he];exact ht),KS ht hi0 A n cap k hk w,hz1]
end Go.Proofs.YthpgjkjgkhjjlaaGreatDoor
