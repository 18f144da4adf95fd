/- Part 13 of 24 of the proof of rollbackOptions_holds (no condition). -/
import Derived.Test.YtdaajdflefnjfaaGreatK12
import Derived.Deep.DeepCutAuto
set_option linter.unusedVariables false
set_option linter.unusedSimpArgs false
set_option maxRecDepth 100000
set_option maxHeartbeats 64000000
namespace Go.Proofs.YtdaajdflefnjfaaGreat
open Go.RowKit Go.Proofs.Tryz
theorem j5 (x:Am):FSpec prog 37 [x.a] [] [] (.b (aF x)) [] :=
 aA (fun b W=>by kernel_rfl) rfl fun w S ρ vs _ h=>by
  match vs,h with
  | [_],⟨h1,_⟩=>rw [Am.open h1];exact (gW _ _ w).mono fun _ _=>dk
theorem oc (r:Rs) (x:Am):FSpec prog 172 [r.a,x.a] [] [] (.b (aC r x)) [] :=
 aA (fun b W=>by kernel_rfl) rfl fun w S ρ vs _ h=>by
  match vs,h with
  | [_,_],⟨h1,h2,_⟩=>rw [Rs.open h1,Am.open h2];exact (i8 r _ _ w).mono fun _ _=>dk
theorem ew (r:Rs) (x y:Am):FSpec prog 225 [r.a,x.a,y.a] [] [] (.b (aY r x y)) [] :=
 aA (fun b W=>by kernel_rfl) rfl fun w S ρ vs _ h=>by
  match vs,h with
  | [_,_,_],⟨h1,h2,h3,_⟩=>rw [Rs.open h1,Am.open h2,Am.open h3];exact (iL r _ _ _ _ w).mono fun _ _=>dk
theorem Eg (r:Rs) (x y:Am):FSpec prog 226 [r.a,x.a,y.a] [] [] (.v (bG r x y).a) [] :=
 aA (fun b W=>by kernel_rfl) rfl fun w S ρ vs _ h=>by
  match vs,h with
  | [_,_,_],⟨h1,h2,h3,_⟩=>rw [Rs.open h1,Am.open h2,Am.open h3];exact (Cy r _ _ _ _ w).mono fun _ _=>vG (l:=[.int .i64 (bG r x y).mode,.int .i64 (bG r x y).units]) rfl
theorem xQ (p q:Pr):FSpec prog 115 [p.a,q.a] [] [] (.i (dw p q)) [] :=
 aA (fun b W=>by kernel_rfl) rfl fun w S ρ vs _ h=>by
  match vs,h with
  | [_,_],⟨h1,h2,_⟩=>rw [Pr.open h1,Pr.open h2];exact (jt p q w).mono fun _ _=>dk
theorem iA (p:Pr):FSpec prog 29 [p.a] [] [] (.b (fo p)) [] :=
 aA (fun b W=>by kernel_rfl) rfl fun w S ρ vs _ h=>by
  match vs,h with
  | [_],⟨h1,_⟩=>rw [Pr.open h1];exact (jp p w).mono fun _ _=>dk
theorem IE (n:Int):FSpec prog 189 [.one (.sc (.int .i64 n))] [] [] (.i (bj n)) [] :=
 aA (fun b W=>by kernel_rfl) rfl fun w S ρ vs _ h=>by
  match vs,h with
  | [_],⟨rfl,_⟩=>exact (BF n w).mono fun e w' h=>⟨_,h.1,by rw [h.2];exact Below.refl _ _,rfl⟩
theorem Mq (l:List Ho) (p:Pr):FSpec prog 219 [.one (.sl oM l),p.a] [] [] (.v (aj l p).a) [] :=
 aA (fun b W=>by kernel_rfl) rfl fun w S ρ vs hS h=>by
  match vs,h with
  | [_,_],⟨⟨A,c,rfl,hc,hR⟩,h2,_⟩=>rw [Pr.open h2];exact (wJ A w.heap.size c l _ _ _ w (Nat.le_trans hc.1 hc.2) (Nat.le_refl _) (hR.lo hS)).mono fun _ _=>vG (l:=[.int .i64 (aj l p).mode,.int .i64 (aj l p).units]) rfl
theorem GV (l:List Ho) (p:Pr) (x:Am) (hl:l.length≤1000000):FSpec prog 165 [.one (.sl oM l),p.a,x.a] [] [] (.c (.sl oM (cM l p x))) [] :=
 aA (fun b W=>by kernel_rfl) rfl fun w S ρ vs hS h=>by
  match vs,h with
  | [_,_,_],⟨⟨A,c,rfl,hc,hR⟩,h2,h3,_⟩=>rw [Pr.open h2,Am.open h3];exact (wM A w.heap.size c l _ _ _ _ _ w hl (Nat.le_refl _) (hR.lo hS)).mono fun _ _=>jh
theorem JJ (q:Qu):FSpec prog 214 [q.a] [] [] (.b (gM q)) [] :=
 aA (fun b W=>by kernel_rfl) rfl fun w S ρ vs hS h=>by
  match vs,h with
  | [_],⟨h1,_⟩=>obtain ⟨A1,A2,A3,c1,c2,c3,rfl,hq,_⟩:=Qu.open h1;exact (mL q A1 A2 A3 c1 c2 c3 w _ (hq.qf hS)).mono fun _ _=>dk
theorem sj (q:Qu):FSpec prog 215 [q.a] [] [] (.b (av q)) [] :=
 aA (fun b W=>by kernel_rfl) rfl fun w S ρ vs hS h=>by
  match vs,h with
  | [_],⟨h1,_⟩=>obtain ⟨A1,A2,A3,c1,c2,c3,rfl,hq,_⟩:=Qu.open h1;exact (nG q A1 A2 A3 c1 c2 c3 w _ (hq.qf hS)).mono fun _ _=>dk
theorem cG (q:Qu):FSpec prog 157 [q.a] [] [] (.b (av q)) [] :=
 aA (fun b W=>by kernel_rfl) rfl fun w S ρ vs hS h=>by
  match vs,h with
  | [_],⟨h1,_⟩=>obtain ⟨A1,A2,A3,c1,c2,c3,rfl,hq,_⟩:=Qu.open h1;exact (pV q A1 A2 A3 c1 c2 c3 w _ (hq.qf hS)).mono fun _ _=>dk
theorem pt (l:List Qu) (n:ByteArray):FSpec prog 171 [.one (.sl lX l),.one (.sc (.string n))] [] [] (.i (bw n 0 l)) [] :=
 aA (fun b W=>by kernel_rfl) rfl fun w S ρ vs hS h=>by
  match vs,h with
  | [_,_],⟨⟨A,c,rfl,hc,hR⟩,rfl,_⟩=>exact (zf A w.heap.size c l n w (Nat.le_trans hc.1 hc.2) (Nat.le_refl _) ((vH hR).lo hS)).mono fun _ _=>dk
theorem Cz {l:List Wt} {p:Pr} {k:Nat} {x:Wt} (h:k<l.length) (hx:l[k]=x):ck (l.take (k+1)) p=ck (l.take k) p++bif decide (x.proc=p) then [] else [x]:=by
 rw [List.take_add_one,List.getElem?_eq_getElem h,hx]
 unfold ck
 rw [List.filter_append]
 congr 1
 cases hd:decide (x.proc=p) <;> simp [hd]
def KY (w:World) (l:List Wt) (p:Pr) (e:Ending) (w':World):Prop:=∃v,e = .returned (.tuple #[v,.bool (decide ((ck l p).length<l.length))])∧OwnRows nv 284 w' w.heap.size v (ck l p)∧Below w.heap.size w w'
theorem vO (A:Option Addr) (B cap:Nat) (l:List Wt) (x y z:Int) (w:World) (hm:l.length≤100000) (hB:B≤w.heap.size) (hr:RowsAt nv w (Lo B) A l) :
  Calls prog 166 #[.slice A l.length cap,.agg #[.int .i64 x,.int .i64 y,.int .i64 z]] w (KY w l ⟨x,y,z⟩):=by
 have HR:=Lib.hid hr
 clear hr
 go_enter func166,ntmps166
 go_wp2_with fail
 have HX0:Hid (Blk (w.alloc (.cells #[.int .i64 x,.int .i64 y,.int .i64 z] 23)) w.heap.size 23 #[.int .i64 x,.int .i64 y,.int .i64 z]):=Lib.hid (Blk.new _ _ _)
 have HB0:Hid (Below w.heap.size w (w.alloc (.cells #[.int .i64 x,.int .i64 y,.int .i64 z] 23))):=Lib.hid (Below.al (Below.refl _ _) _)
 generalize w.alloc (.cells #[.int .i64 x,.int .i64 y,.int .i64 z] 23)=w1 at *
 have HZ:Hid (w.heap.size<w1.heap.size):=Lib.hid HX0.out.lt
 go_loopg [6,7] l.length (fun m0 v6 v7 wq=>∃k:Nat,v7 = .int .i64 (k:Int)∧k≤l.length∧l.length≤k+m0∧Hid (OwnRows nv 284 wq w1.heap.size v6 (ck (l.take k) ⟨x,y,z⟩))∧Hid (Below w1.heap.size w1 wq))
 case atStart=>exact ⟨0,rfl,Nat.zero_le _,by omega,Lib.hid (OwnRows.nil _ _ _ _ (Nat.le_refl _)),Lib.hid (Below.refl _ _)⟩
 case round =>
  obtain ⟨k,rfl,hk,hkm,HO,HB⟩:=hrel
  have HBW:Hid (Below w.heap.size w wr):=Lib.hid (Below.tr HB0.out HB.out)
  have HXR:=Lib.hid (HX0.out.below HB.out HX0.out.lt)
  obtain ⟨x0,x1,x2,xl⟩:=HXR.out.c3
  have hfl:(ck (l.take k) ⟨x,y,z⟩).length≤k:=Nat.le_trans (iq _ _) (by rw [List.length_take];omega)
  by_cases hlt:k<l.length
  ·obtain ⟨⟨⟨a,b,c⟩,⟨m,u⟩,pr,pa⟩,hx⟩:∃x,l[k]=x:=⟨_,rfl⟩
   have HE:=Lib.hid (Cz (p:=⟨x,y,z⟩) hlt hx)
   obtain ⟨g,off,rfl,hbl,c0,c1,c2,c3,c4,c5,c6⟩:=dC (HR.out.below (B'':=B) HBW.out hB (Nat.le_refl _)) hlt hx
   have hbl2:g<wr.heap.size:=Nat.lt_of_lt_of_le hbl (Nat.le_trans hB HBW.out.size)
   have hlti:(k:Int)<(l.length:Int):=by omega
   obtain ⟨k1,_,k2⟩:=wH a b c x y z
   dsimp only at HE
   obtain ⟨q,hq⟩:∃q,decide ((⟨a,b,c⟩:Pr)=⟨x,y,z⟩)=q:=⟨_,rfl⟩
   rw [hq] at k1 HE
   clear hq hx hbl
   generalize ck (l.take k) ⟨x,y,z⟩=L at *
   cases q with
   | true =>
    have HE2:Hid (L=ck (l.take (k+1)) ⟨x,y,z⟩):=Lib.hid (by rw [HE.out];simp)
    rw [HE2.out] at HO
    go_wp2_with fail
    go_quiet (fail)
    go_wp2_with fail
    go_roundg (gk-1)
    case measure=>omega
    case rel=>exact ⟨k+1,by go_num,by omega,by omega,Lib.hid (HO.out.drewN _),Lib.hid (cI HB.out _)⟩
   | false =>
    have HE2:Hid (L++[⟨⟨a,b,c⟩,⟨m,u⟩,pr,pa⟩]=ck (l.take (k+1)) ⟨x,y,z⟩):=Lib.hid (by rw [HE.out];rfl)
    go_wp2_with fail
    go_quiet (fail)
    go_wp2_with (at_builtin;refine dd toZ rfl (.tmp 21) (.tmp 26) rfl (wr.drewN nq) w1.heap.size u6 L ⟨⟨a,b,c⟩,⟨m,u⟩,pr,pa⟩ [.int .i64 a,.int .i64 b,.int .i64 c,.int .i64 m,.int .i64 u,.int .i64 pr,.int .i64 pa] _ rfl rfl (HO.out.drewN nq) wr.heap.size rfl rfl rfl (by unfold maxLen;omega) (by omega) ?_;intro v7 w7 hown7 hb7 hsp7;have HB7:Hid (Below w1.heap.size w1 w7):=Lib.hid (HB.out.trans (F9 hb7));have HO7:=Lib.hid hown7;clear hown7 hb7 hsp7)
    rw [HE2.out] at HO7
    go_roundg (gk-1)
    case measure=>omega
    case rel=>exact ⟨k+1,by go_num,by omega,by omega,HO7,HB7⟩
  ·have HE:Hid (ck (l.take k) ⟨x,y,z⟩=ck l ⟨x,y,z⟩):=Lib.hid (by rw [List.take_of_length_le (by omega)])
   rw [HE.out] at HO
   have hlti:¬(k:Int)<(l.length:Int):=by omega
   obtain ⟨A7,c7,rfl,_,_,_⟩:=HO.out.form
   go_wp2_with fail
   go_ret2
   exact ⟨_,by congr 3,HO.out.older HB0.out.size,HBW.out⟩
theorem ue {w:Wt} {l:List Wt} {n:Nat} {x:Wt} (h:n<l.length) (hx:l[n]=x):eD w l (n+1)=bif decide (x.prio<w.prio) && decide (x.passed<3) then eD w l n else n+1:=by
 rw [eD,List.getElem?_eq_getElem h,hx]
theorem vP (w:World) (o:Obj):(w.alloc o).heap.size=w.heap.size+1:=by simp
def IF (w:World) (R:Int×List Wt) (e:Ending) (w':World):Prop:=∃v n,e = .returned (.tuple #[v,.int .i64 n,.int .i64 R.1])∧OwnRows nv 284 w' w.heap.size v R.2∧Below w.heap.size w w'
theorem GX {w w':World} {R:Int×List Wt} {k:Int} (hR:R=(k,[])) (hb:Below w.heap.size w w'):IF w R (.returned (.tuple #[.slice none 0 0,.int .i64 0,.int .i64 k])) w':=by
 subst hR
 exact ⟨_,_,rfl,OwnRows.nil _ _ _ _ hb.size,hb⟩
theorem vQ (A:Option Addr) (B cap:Nat) (l:List Wt) (x:Wt) (w:World) (hcap:l.length≤cap) (hcm:cap≤maxLen) (hB:B≤w.heap.size) (hr:RowsAt nv w (Lo B) A l) :
  Calls prog 246 #[.slice A l.length cap,x.val] w (IF w (kf l x)):=by
 obtain ⟨⟨a,b,c⟩,⟨m,u⟩,pr,pa⟩:=x
 have H1:=Lib.hid (fun W (hb:Below w.heap.size w W)=>pS A B cap l W (by omega) (Nat.le_trans hB hb.size) (hr.below hb hB (Nat.le_refl _)))
 have H2:=Lib.hid (fun W=>kx a b c m u pr pa W)
 have H3:=Lib.hid (fun W (hb:Below w.heap.size w W)=>ig A B cap l a b c W (by omega) (Nat.le_trans hB hb.size) (hr.below hb hB (Nat.le_refl _)))
 have HS:Hid ((bif !gj l then (2,[]) else bif !(qN ⟨⟨a,b,c⟩,⟨m,u⟩,pr,pa⟩ && decide (pa=0)) then (1,[]) else bif !decide (cq l ⟨a,b,c⟩<0) then (11,[]) else bif decide ((l.length:Int)=8) then (4,[]) else (0,iW l ⟨⟨a,b,c⟩,⟨m,u⟩,pr,pa⟩))=kf l ⟨⟨a,b,c⟩,⟨m,u⟩,pr,pa⟩):=Lib.hid (by
  unfold kf
  have e1:(!decide (cq l ⟨a,b,c⟩<0))=decide (0≤cq l ⟨a,b,c⟩):=by rw [Bool.eq_iff_iff];simp
  have e2:decide ((l.length:Int)=8)=decide (l.length=8):=by rw [Bool.eq_iff_iff];simp;omega
  rw [e1,e2])
 have HR:=Lib.hid hr
 have HLN:Hid (gj l=true→l.length≤8∧∀x∈l,0≤x.passed∧x.passed≤3):=Lib.hid (fun h=>⟨(lT.1 h).1,fun x hx=>by have:=(lT.1 h).2.1 x hx;unfold qN at this;simp at this;omega⟩)
 have hm:l.length≤9223372036854775807:=by unfold maxLen at hcm;omega
 clear hr hcm
 generalize kf l ⟨⟨a,b,c⟩,⟨m,u⟩,pr,pa⟩=R at *
 generalize gj l=p1 at *
 generalize qN ⟨⟨a,b,c⟩,⟨m,u⟩,pr,pa⟩=p2 at *
 unfold Wt.val
 dsimp only
 have HBX:Hid (∀W,Below (w.alloc (.cells #[.int .i64 a,.int .i64 b,.int .i64 c,.int .i64 m,.int .i64 u,.int .i64 pr,.int .i64 pa] 284)).heap.size (w.alloc (.cells #[.int .i64 a,.int .i64 b,.int .i64 c,.int .i64 m,.int .i64 u,.int .i64 pr,.int .i64 pa] 284)) W→Blk W w.heap.size 284 #[.int .i64 a,.int .i64 b,.int .i64 c,.int .i64 m,.int .i64 u,.int .i64 pr,.int .i64 pa]):=Lib.hid (fun W hb=>(Blk.new w _ _).below hb (by simp))
 go_enter func246,ntmps246
 go_wp2_with fail
 repeat' (first
  | (go_at_call 240;refine (H1.out _ aw).mono ?_;rintro e wa1 ⟨rfl,hb_wa1⟩;obtain ⟨hc_wa1,hf_wa1⟩:=bh hb_wa1;have hs_wa1:=hb_wa1.size;(try simp at hs_wa1);have hz_wa1_w_0:w.heap.size<wa1.heap.size:=(by omega);clear hs_wa1;have HB_wa1:=Lib.hid hb_wa1;clear hb_wa1;go_wp2_with fail)
  | (go_at_call 251;refine (H2.out _).mono ?_;rintro e wa2 ⟨rfl,hb_wa2⟩;obtain ⟨hc_wa2,hf_wa2⟩:=bh hb_wa2;have hs_wa2:=hb_wa2.size;(try simp at hs_wa2);have hz_wa2_w_0:w.heap.size<wa2.heap.size:=(by omega);clear hs_wa2;have HB_wa2:=Lib.hid hb_wa2;clear hb_wa2;go_wp2_with fail)
  | (go_at_call 218;refine (H3.out _ aw).mono ?_;rintro e wa3 ⟨rfl,hb_wa3⟩;obtain ⟨hc_wa3,hf_wa3⟩:=bh hb_wa3;have hs_wa3:=hb_wa3.size;(try simp at hs_wa3);have hz_wa3_w_0:w.heap.size<wa3.heap.size:=(by omega);clear hs_wa3;have HB_wa3:=Lib.hid hb_wa3;clear hb_wa3;go_wp2_with fail)
  | (go_ret3;exact GX (by rw [←HS.out];(try simp only [Bool.not_eq_eq_eq_not,Bool.not_true,Bool.not_false,bne_iff_ne,ne_eq,bne_eq_false_iff_eq,beq_iff_eq] at *);(try rw [show decide (cq l ⟨a,b,c⟩<0)=false from decide_eq_false (by omega)]);(try rw [show decide (cq l ⟨a,b,c⟩<0)=true from decide_eq_true (by omega)]);(try rw [show decide ((l.length:Int)=8)=true from decide_eq_true (by omega)]);simp [*]) aw))
 rename_i q1 q2 q3 q4 q5 K1 J1
 have hp1:p1=true:=by cases p1 with|true=>rfl|false=>exact absurd (by assumption:(!false)=false) (by decide)
 have g2:p2=true:=by assumption
 have g3:(pa != 0)=false:=by assumption
 have g4:cq l ⟨a,b,c⟩<0:=by assumption
 have g5:((l.length:Int) == 8)=false:=by assumption
 have h8:l.length≤8:=(HLN.out hp1).1
 have HPS:=Lib.hid (HLN.out hp1).2
 have hR:R=(0,iW l ⟨⟨a,b,c⟩,⟨m,u⟩,pr,pa⟩):=by
  have g3':pa=0:=by simpa using g3
  have g5':¬(l.length:Int)=8:=by simpa using g5
  rw [←HS.out,hp1,g2,decide_eq_true g3',decide_eq_true g4,decide_eq_false g5']
  rfl
 have HX3:Hid (Blk wa3 w.heap.size 284 #[.int .i64 a,.int .i64 b,.int .i64 c,.int .i64 m,.int .i64 u,.int .i64 pr,.int .i64 pa]):=Lib.hid (HBX.out _ aw)
 have HB3:Hid (Below w.heap.size w wa3):=Lib.hid aw
 obtain ⟨X,hX⟩:∃X:Wt,X=⟨⟨a,b,c⟩,⟨m,u⟩,pr,pa⟩:=⟨_,rfl⟩
 rw [←hX] at hR
 have HX:=Lib.hid hX
 have HRR:=Lib.hid hR
 clear hX hR q1 q2 q3 q4 q5 g2 g3 g4 g5 hc_wa1 hf_wa1 hc_wa2 hf_wa2 hc_wa3 hf_wa3 HB_wa1 HB_wa2 HB_wa3 HBX hz_wa1_w_0 hz_wa2_w_0 HS H1 H2 H3 HLN hp1
 go_loopg [7] l.length (fun m0 v7 wq=>∃k:Nat,v7 = .int .i64 (k:Int)∧k≤l.length∧k≤m0∧Hid (eD X l k=eD X l l.length)∧Hid (Below wa3.heap.size wa3 wq))
 case atStart=>exact ⟨l.length,rfl,Nat.le_refl _,Nat.le_refl _,Lib.hid rfl,Lib.hid (Below.refl _ _)⟩
 case round =>
  obtain ⟨k,rfl,hk,hkm,HI,HB⟩:=hrel
  have HBW:Hid (Below w.heap.size w wr):=Lib.hid (Below.tr HB3.out HB.out)
  have HXR:=Lib.hid (HX3.out.below HB.out HX3.out.lt)
  obtain ⟨x0,x1,x2,x3,x4,x5,x6,xl⟩:=HXR.out.c7
  have HKL:Hid (eD X l k≤k):=Lib.hid (qX X l k)
  go_upto_region 10 with fail
  go_cut [53] (fun v53 wx=>v53 = .bool (decide (eD X l k<k))∧Hid (Below wr.heap.size wr wx))
  case first =>
   rcases Nat.eq_zero_or_pos k with rfl|hk0
   ·have HD:Hid (false=decide (eD X l 0<0)):=Lib.hid (by simp)
    go_wp2_with fail
    go_quiet (fail)
    go_wp2_with fail
    go_meet
    exact ⟨by rw [←HD.out],Lib.hid aw⟩
   ·obtain ⟨j,hj⟩:∃j,k=j+1:=⟨k-1,by omega⟩
    have hjl:j<l.length:=by omega
    obtain ⟨⟨⟨a',b',c'⟩,⟨m',u'⟩,pr',pa'⟩,hy⟩:∃y,l[j]=y:=⟨_,rfl⟩
    have HST:Hid (eD X l k=bif decide (pr'<X.prio) && decide (pa'<3) then eD X l j else k):=Lib.hid (by rw [hj];exact ue (w:=X) hjl hy)
    have HPR:Hid (X.prio=pr):=Lib.hid (by rw [HX.out])
    obtain ⟨g,off,rfl,hbl,d0,d1,d2,d3,d4,d5,d6⟩:=dC (HR.out.below (B'':=B) HBW.out hB (Nat.le_refl _)) hjl hy
    have hbl2:g<wr.heap.size:=Nat.lt_of_lt_of_le hbl (Nat.le_trans hB HBW.out.size)
    have HLE:Hid (eD X l j<k):=Lib.hid (by have:=qX X l j;omega)
    have hw1:IntKind.i64.wrap ((k:Int)-1)=(j:Int):=by rw [IntWalk.i64_in _ (by omega)];omega
    have hpos:decide ((0:Int)<(k:Int))=true:=decide_eq_true (by omega)
    have HJ:=Lib.hid hj
    clear hy hbl d0 d1 d2 d3 d4 hj
    by_cases hp:pr'<pr
    ·by_cases hq:pa'<3
     ·have HD:Hid (true=decide (eD X l k<k)):=Lib.hid (by rw [HST.out,HPR.out,decide_eq_true hp,decide_eq_true hq];exact (decide_eq_true HLE.out).symm)
      go_wp2_with fail
      go_quiet (fail)
      go_wp2_with fail
      go_meet
      exact ⟨by rw [←HD.out],Lib.hid aw⟩
     ·have HD:Hid (false=decide (eD X l k<k)):=Lib.hid (by rw [HST.out,HPR.out,decide_eq_true hp,decide_eq_false hq];simp)
      have hdq:decide (pa'<3)=false:=decide_eq_false hq
      go_wp2_with fail
      go_quiet (fail)
      go_wp2_with fail
      go_meet
      exact ⟨by rw [←HD.out],Lib.hid aw⟩
    ·have HD:Hid (false=decide (eD X l k<k)):=Lib.hid (by rw [HST.out,HPR.out,decide_eq_false hp];simp)
     have hdp:decide (pr'<pr)=false:=decide_eq_false hp
     go_wp2_with fail
     go_quiet (fail)
     go_wp2_with fail
     go_meet
     exact ⟨by rw [←HD.out],Lib.hid aw⟩
  case rest =>
  obtain ⟨rfl,HBc⟩:=hcut
  obtain ⟨w9,hw9⟩:∃v,v=wc:=⟨_,rfl⟩
  subst hw9
  have HB9:Hid (Below wa3.heap.size wa3 w9):=Lib.hid (Below.tr HB.out HBc.out)
  by_cases hgo:eD X l k<k
  ·have hd:decide (eD X l k<k)=true:=decide_eq_true hgo
   obtain ⟨j,rfl⟩:∃j,k=j+1:=⟨k-1,by omega⟩
   have hjl:j<l.length:=by omega
   have HST:Hid (eD X l j=eD X l l.length):=Lib.hid (by
    have h1:=ue (w:=X) hjl rfl
    have h2:=HI.out
    cases hc:decide (l[j].prio<X.prio) && decide (l[j].passed<3) with
    | true=>rw [hc] at h1;rw [←h2,h1];rfl
    | false=>rw [hc] at h1;rw [h1] at hgo;exact absurd hgo (by simp))
   have hw1:IntKind.i64.wrap (((j+1:Nat):Int)-1)=(j:Int):=by rw [IntWalk.i64_in _ (by omega)];omega
   clear hgo
   rw [hd]
   go_wp2_with fail
   go_roundg (gk-1)
   case measure=>omega
   case rel=>exact ⟨j,by go_num,by omega,by omega,HST,HB9⟩
  ·have hd:decide (eD X l k<k)=false:=decide_eq_false hgo
   have HK:Hid (eD X l l.length=k):=Lib.hid (by have h1:=HKL.out;have h2:=HI.out;omega)
   clear hgo HI HKL
   rw [hd]
   have HBW9:Hid (Below w.heap.size w w9):=Lib.hid (Below.tr HB3.out HB9.out)
   have HX9:=Lib.hid (HX3.out.below HB9.out HX3.out.lt)
   obtain ⟨y0,y1,y2,y3,y4,y5,y6,yl⟩:=HX9.out.c7
   clear x0 x1 x2 x3 x4 x5 x6 xl
   have hct:=(Jb underlying163 (e:=284) (z:=.agg #[.int .i64 0,.int .i64 0,.int .i64 0,.int .i64 0,.int .i64 0,.int .i64 0,.int .i64 0]) (sz:=7) (by_:=56) (by kernel_rfl) A l.length cap k hk hcap).1
   go_upto_region 12 with fail
   go_cut [8] (fun v8 wx=>Hid (OwnRows nv 284 wx w.heap.size v8 (l.take k++[X]))∧Hid (Below w.heap.size w wx))
   case first =>
    go_wp2_with fail
    have HTL:Hid ((l.take k).length=k):=Lib.hid (by rw [List.length_take];omega)
    have HR9:Hid (RowsAt nv w9 (Lo w9.heap.size) A (l.take k)):=Lib.hid ((HR.out.below (B'':=w9.heap.size) HBW9.out hB (Nat.le_trans hB HBW9.out.size)).take k)
    go_region_law (first
     | (refine xI toZ rfl (.tmp 56) (.tmp 59) rfl w9 (l.take k) (k) (A) (cap) w9.heap.size rfl rfl aw (Nat.le_refl _) (by first|exact Blk.new _ _ _|exact (Blk.new _ _ _).alloc _) HTL.out HR9.out (In.lo w9) (by have hl9:=HTL.out;omega) (by decide) ?_;intro v1x w1x hown1 hb1 hs1 hk1;have HO1x:=Lib.hid hown1.uninn;have HB1x:=Lib.hid hb1;have HK1x:=Lib.hid hk1;have HS1x:=Lib.hid hs1;clear hown1 hb1 hs1 hk1;have HX1:=Lib.hid (HX9.out.below HB1x.out HX9.out.lt);obtain ⟨z0,z1,z2,z3,z4,z5,z6,zl⟩:=HX1.out.c7;clear y0 y1 y2 y3 y4 y5 y6 yl;skip)
     | (refine xI toZ rfl (.tmp 56) (.tmp 59) rfl w9 (l.take k) (k) (A) (cap) (w9.heap.size+1) rfl rfl aw (Nat.le_succ _) (by have h:=Blk.new (w9.alloc (.cells #[.int .i64 a,.int .i64 b,.int .i64 c,.int .i64 m,.int .i64 u,.int .i64 pr,.int .i64 pa] 284)) 284 #[];rw [vP] at h;exact h) HTL.out HR9.out (In.lo w9) (by have hl9:=HTL.out;omega) (by decide) ?_;intro v1x w1x hown1 hb1 hs1 hk1;have HO1x:=Lib.hid hown1.uninn;have HB1x:=Lib.hid hb1;have HK1x:=Lib.hid hk1;have HS1x:=Lib.hid hs1;clear hown1 hb1 hs1 hk1;have HX1:=Lib.hid (HX9.out.below HB1x.out HX9.out.lt);obtain ⟨z0,z1,z2,z3,z4,z5,z6,zl⟩:=HX1.out.c7;clear y0 y1 y2 y3 y4 y5 y6 yl;skip)
     | (refine vF toZ rfl (.tmp 60) (.tmp 62) rfl w9.heap.size v1x (l.take k) ⟨⟨a,b,c⟩,⟨m,u⟩,pr,pa⟩ [.int .i64 a,.int .i64 b,.int .i64 c,.int .i64 m,.int .i64 u,.int .i64 pr,.int .i64 pa] _ rfl rfl HO1x.out w1x.heap.size rfl rfl rfl (by have hl9:=HTL.out;simp at hl9 ⊢;first|omega|(unfold maxLen;omega)) (by have hl9:=HTL.out;simp at hl9 ⊢;first|omega|(unfold maxLen;omega)) ?_;intro v2x w2x hown2 hb2 _;have HO2x:=Lib.hid hown2;have HB2x:Hid (Below w9.heap.size w9 w2x):=Lib.hid (HB1x.out.trans hb2);clear hown2 hb2;skip)
     | (refine ij toZ rfl (.tmp 60) (.tmp 62) rfl w9.heap.size v1x (l.take k) [⟨⟨a,b,c⟩,⟨m,u⟩,pr,pa⟩] 1 rfl (some ⟨w9.heap.size+1,0,none⟩) 1 rfl HO1x.out rfl (RowsAt.ofBlk (cs:=#[.int .i64 a,.int .i64 b,.int .i64 c,.int .i64 m,.int .i64 u,.int .i64 pr,.int .i64 pa]) ((HK1x.out (w9.heap.size+1) (by simp <;> omega) (by omega)).1.trans (by have h:=Blk.new (w9.alloc (.cells #[] 284)) 284 #[.int .i64 a,.int .i64 b,.int .i64 c,.int .i64 m,.int .i64 u,.int .i64 pr,.int .i64 pa];rw [vP] at h;exact h)) ⟨Nat.lt_of_lt_of_le (by simp <;> omega) HS1x.out,(HK1x.out (w9.heap.size+1) (by simp <;> omega) (by omega)).2⟩ rfl) (by have hl9:=HTL.out;simp at hl9 ⊢;first|omega|(unfold maxLen;omega)) (by have hl9:=HTL.out;simp at hl9 ⊢;first|omega|(unfold maxLen;omega)) ?_;intro v2x w2x hown2 hb2 _;have HO2x:=Lib.hid hown2;have HB2x:Hid (Below w9.heap.size w9 w2x):=Lib.hid (HB1x.out.trans hb2);clear hown2 hb2;skip)
     | (refine ij toZ rfl (.tmp 60) (.tmp 62) rfl w9.heap.size v1x (l.take k) [⟨⟨a,b,c⟩,⟨m,u⟩,pr,pa⟩] 1 rfl (some ⟨w9.heap.size,0,none⟩) 1 rfl HO1x.out rfl (RowsAt.ofBlk (cs:=#[.int .i64 a,.int .i64 b,.int .i64 c,.int .i64 m,.int .i64 u,.int .i64 pr,.int .i64 pa]) ((HK1x.out (w9.heap.size) (by simp <;> omega) (by omega)).1.trans ((Blk.new w9 284 #[.int .i64 a,.int .i64 b,.int .i64 c,.int .i64 m,.int .i64 u,.int .i64 pr,.int .i64 pa]).alloc _)) ⟨Nat.lt_of_lt_of_le (by simp <;> omega) HS1x.out,(HK1x.out (w9.heap.size) (by simp <;> omega) (by omega)).2⟩ rfl) (by have hl9:=HTL.out;simp at hl9 ⊢;first|omega|(unfold maxLen;omega)) (by have hl9:=HTL.out;simp at hl9 ⊢;first|omega|(unfold maxLen;omega)) ?_;intro v2x w2x hown2 hb2 _;have HO2x:=Lib.hid hown2;have HB2x:Hid (Below w9.heap.size w9 w2x):=Lib.hid (HB1x.out.trans hb2);clear hown2 hb2;skip))
    all_goals (
     go_wp2_with fail
     go_meet
     exact ⟨Lib.hid (by rw [HX.out];exact HO2x.out.older HBW9.out.size),Lib.hid (Below.tr HBW9.out HB2x.out)⟩)
   case rest =>
   obtain ⟨HO2,HB2⟩:=hcut
   obtain ⟨w8,hw8⟩:∃v,v=wc:=⟨_,rfl⟩
   subst hw8
   have HI0:=Lib.hid (show OwnRows nv 284 w8 w.heap.size _ (l.take k++X :: ((l.take k).drop k).map jZ) from by rw [List.drop_eq_nil_of_le (by rw [List.length_take];omega)];exact HO2.out)
   clear HO2 hct y0 y1 y2 y3 y4 y5 y6 yl hd
   go_wp2_with fail
   go_loopg [8,9] l.length (fun m0 v8 v9 wq=>∃i:Nat,v9 = .int .i64 (i:Int)∧k≤i∧i≤l.length∧l.length≤i+m0∧Hid (OwnRows nv 284 wq w.heap.size v8 (l.take k++X :: ((l.take i).drop k).map jZ))∧Hid (Below w.heap.size w wq))
   case atStart=>exact ⟨k,rfl,Nat.le_refl _,hk,by omega,HI0,HB2⟩
   case round =>
    obtain ⟨i,rfl,hki,hi,him,HO,HB⟩:=hrel
    by_cases hlt:i<l.length
    ·obtain ⟨⟨⟨a',b',c'⟩,⟨m',u'⟩,pr',pa'⟩,hy⟩:∃y,l[i]=y:=⟨_,rfl⟩
     obtain ⟨g,off,rfl,hbl,d0,d1,d2,d3,d4,d5,d6⟩:=dC (HR.out.below (B'':=B) HB.out hB (Nat.le_refl _)) hlt hy
     have hbl2:g<wr.heap.size:=Nat.lt_of_lt_of_le hbl (Nat.le_trans hB HB.out.size)
     have hlti:(i:Int)<(l.length:Int):=by omega
     have hps:=HPS.out l[i] (List.getElem_mem hlt)
     rw [hy] at hps
     dsimp only at hps
     have hw1:IntKind.i64.wrap (pa'+1)=pa'+1:=IntWalk.i64_in _ (by omega)
     have HE:Hid ((l.take k++X :: ((l.take i).drop k).map jZ)++[⟨⟨a',b',c'⟩,⟨m',u'⟩,pr',pa'+1⟩]=l.take k++X :: ((l.take (i+1)).drop k).map jZ):=Lib.hid (by
      rw [List.take_add_one,List.getElem?_eq_getElem hlt,hy,List.drop_append,List.length_take,Nat.min_eq_left hi,show k-i=0 by omega]
      simp [jZ])
     have HLL:Hid ((l.take k++X :: ((l.take i).drop k).map jZ).length≤20):=Lib.hid (by simp;omega)
     generalize l.take k++X :: ((l.take i).drop k).map jZ=L at *
     clear hy hbl hps
     have HOA:=Lib.hid (HO.out.alloc (.cells #[.int .i64 a',.int .i64 b',.int .i64 c',.int .i64 m',.int .i64 u',.int .i64 pr',.int .i64 (pa'+1)] 284))
     have HBA:Hid (Below w.heap.size w (wr.alloc (.cells #[.int .i64 a',.int .i64 b',.int .i64 c',.int .i64 m',.int .i64 u',.int .i64 pr',.int .i64 (pa'+1)] 284))):=Lib.hid (Below.al HB.out _)
     go_wp2_with (at_builtin;refine dd toZ rfl (.tmp 79) (.tmp 81) rfl (wr.alloc (.cells #[.int .i64 a',.int .i64 b',.int .i64 c',.int .i64 m',.int .i64 u',.int .i64 pr',.int .i64 (pa'+1)] 284)) w.heap.size u8 L ⟨⟨a',b',c'⟩,⟨m',u'⟩,pr',pa'+1⟩ [.int .i64 a',.int .i64 b',.int .i64 c',.int .i64 m',.int .i64 u',.int .i64 pr',.int .i64 (pa'+1)] _ rfl rfl HOA.out (wr.heap.size+1) rfl (by rw [vP]) rfl (by have:=HLL.out;unfold maxLen;omega) (by have:=HLL.out;omega) ?_;intro v7 w7 hown7 hb7 _;have HB7:Hid (Below w.heap.size w w7):=Lib.hid (HBA.out.trans hb7);have HO7:=Lib.hid hown7;clear hown7 hb7)
     rw [HE.out] at HO7
     go_roundg (gk-1)
     case measure=>omega
     case rel=>exact ⟨i+1,by go_num,by omega,by omega,by omega,HO7,HB7⟩
    ·have HE:Hid (l.take k++X :: ((l.take i).drop k).map jZ=R.2):=Lib.hid (by rw [HRR.out,show l.take i=l from List.take_of_length_le (by omega)];unfold iW;rw [HK.out])
     rw [HE.out] at HO
     have hlti:¬(i:Int)<(l.length:Int):=by omega
     have HR1:Hid (R.1=0):=Lib.hid (by rw [HRR.out])
     go_wp2_with fail
     go_ret3
     exact ⟨u8,(k:Int),by rw [HR1.out];rfl,HO.out,HB.out⟩
theorem xR (n:ByteArray) (a:Am) (e:En) (l:List En):cz n a (e :: l)=cz n (bif e.name.toList == n.toList then e.after else a) l:=rfl
theorem zJ (A:Option Addr) (B cap:Nat) (l:List En) (n:ByteArray) (w:World) (hm:l.length≤maxLen) (hB:B≤w.heap.size) (hr:RowsAt iI w (Lo B) A l) :
  Calls prog 72 #[.slice A l.length cap,.string n] w (gV w (ay l n).val):=by
 unfold maxLen at hm
 have HR:=Lib.hid hr
 clear hr
 obtain ⟨v,hv⟩:∃v,ay l n=v:=⟨_,rfl⟩
 rw [hv]
 have HV:Hid (cz n ⟨0,0⟩ (l.drop 0)=v):=Lib.hid hv
 clear hv
 go_enter func72,ntmps72
 go_wp2_with fail
 have HZ:Hid (Blk ((w.alloc (.cells #[.int .i64 0,.int .i64 0] 29)).alloc (.cells #[.int .i64 0,.int .i64 0] 29)) w.heap.size 29 #[.int .i64 0,.int .i64 0]):=Lib.hid ((Blk.new w _ _).alloc _)
 have HA:Hid (Blk ((w.alloc (.cells #[.int .i64 0,.int .i64 0] 29)).alloc (.cells #[.int .i64 0,.int .i64 0] 29)) (w.heap.size+1) 29 #[.int .i64 0,.int .i64 0]):=Lib.hid (by have:=Blk.new (w.alloc (.cells #[.int .i64 0,.int .i64 0] 29)) 29 #[.int .i64 0,.int .i64 0];simpa using this)
 have HB0:Hid (Below w.heap.size w ((w.alloc (.cells #[.int .i64 0,.int .i64 0] 29)).alloc (.cells #[.int .i64 0,.int .i64 0] 29))):=Lib.hid (Below.al (Below.al (Below.refl _ _) _) _)
 generalize (w.alloc (.cells #[.int .i64 0,.int .i64 0] 29)).alloc (.cells #[.int .i64 0,.int .i64 0] 29)=w1 at *
 go_loopg [6] l.length (fun m0 v6 wq=>∃(k:Nat) (m u:Int),v6 = .int .i64 (k:Int)∧k≤l.length∧l.length≤k+m0∧Hid (cz n ⟨m,u⟩ (l.drop k)=v)∧Hid (Blk wq w.heap.size 29 #[.int .i64 0,.int .i64 0])∧Hid (Blk wq (w.heap.size+1) 29 #[.int .i64 m,.int .i64 u])∧Hid (Below w.heap.size w wq))
 case atStart=>exact ⟨0,0,0,rfl,Nat.zero_le _,by omega,HV,HZ,HA,HB0⟩
 case round =>
  obtain ⟨k,m,u,rfl,hk,hkm,HI,HZ1,HA1,HB⟩:=hrel
  by_cases hlt:k<l.length
  ·obtain ⟨⟨nm,⟨a,b⟩,⟨c,d⟩⟩,hx⟩:∃x,l[k]=x:=⟨_,rfl⟩
   obtain ⟨g,off,rfl,hbl,c0,c1,c2,c3,c4⟩:=D2 (HR.out.below (B'':=B) HB.out hB (Nat.le_refl _)) hlt hx
   have hbl2:g<wr.heap.size:=Nat.lt_of_lt_of_le hbl (Nat.le_trans hB HB.out.size)
   have hlti:(k:Int)<(l.length:Int):=by omega
   obtain ⟨q1,hq⟩:∃p,(nm.toList == n.toList)=p:=⟨_,rfl⟩
   have HS:Hid (cz n (bif q1 then ⟨c,d⟩ else ⟨m,u⟩) (l.drop (k+1))=v):=Lib.hid (by have h:=HI.out;rw [db hlt hx,xR] at h;rw [←hq];exact h)
   clear hx hbl c1 c2
   cases q1 with
   | true =>
    go_wp2_with ((refine ro rfl _ _ _ rfl _ _ _ _ _ #[.int .i64 c,.int .i64 d] rfl rfl HA1.out (by kernel_rfl) (by first|(simp;done)|exact Nat.le_of_ble_eq_true rfl) (by first|(simp [Value.oneCell'];done)|rfl) rfl ?_;intro w4 hk_w4 hb_w4;have HA4:=Lib.hid hk_w4;have HU_w4:=Lib.hid hb_w4;clear hk_w4 hb_w4))
    have HB4:Hid (Below w.heap.size w w4):=Lib.hid (HB.out.trans (HU_w4.out.below (by simp) HB.out.size))
    have HZ4:=Lib.hid ((HU_w4.out.block _ HZ1.out.lt (by simp)).trans HZ1.out)
    go_roundg (gk-1)
    case measure=>omega
    case rel=>exact ⟨k+1,c,d,by go_num,by omega,by omega,HS,HZ4,HA4,HB4⟩
   | false =>
    go_wp2_with fail
    go_roundg (gk-1)
    case measure=>omega
    case rel=>exact ⟨k+1,m,u,by go_num,by omega,by omega,HS,HZ1,HA1,HB⟩
  ·have HS:Hid ((⟨m,u⟩:Am)=v):=Lib.hid (by have h:=HI.out;rw [dJ hlt] at h;exact h)
   have hlti:¬(k:Int)<(l.length:Int):=by omega
   obtain ⟨a0,a1,al⟩:=HA1.out.c2
   go_wp2_with ((refine ro rfl _ _ _ rfl _ _ _ _ _ #[.int .i64 m,.int .i64 u] rfl rfl HZ1.out (by kernel_rfl) (by first|(simp;done)|exact Nat.le_of_ble_eq_true rfl) (by first|(simp [Value.oneCell'];done)|rfl) rfl ?_;intro w4 hk_w4 hb_w4;have HZ4:=Lib.hid hk_w4;have HU_w4:=Lib.hid hb_w4;clear hk_w4 hb_w4))
   refine xH rfl _ _ _ _ rfl HZ4.out underlying29 rfl (by kernel_rfl) rfl ⟨?_,HB.out.trans (HU_w4.out.below (Nat.le_refl _) HB.out.size)⟩
   rw [←HS.out]
   rfl
theorem xS (n:Int) (k:Nat) (s:Sv) (l:List Sv):aE n k (s :: l)=bif decide (s.label=n) then (k:Int) else aE n (k+1) l:=rfl
theorem zK (A:Option Addr) (B cap:Nat) (l:List Sv) (n:Int) (w:World) (hm:l.length≤maxLen) (hB:B≤w.heap.size) (hr:RowsAt iF w (Lo B) A l) :
  Calls prog 75 #[.slice A l.length cap,.int .i64 n] w (gV w (.int .i64 (aE n 0 l))):=by
 unfold maxLen at hm
 have HR:=Lib.hid hr
 clear hr
 obtain ⟨v,hv⟩:∃v,aE n 0 l=v:=⟨_,rfl⟩
 rw [hv]
 have HV:Hid (aE n 0 (l.drop 0)=v):=Lib.hid hv
 clear hv
 go_enter func75,ntmps75
 go_wp2_with fail
 go_loopg [5] l.length (fun m0 v5 wq=>∃k:Nat,v5 = .int .i64 (k:Int)∧k≤l.length∧l.length≤k+m0∧Hid (aE n k (l.drop k)=v)∧wq=w)
 case atStart=>exact ⟨0,rfl,Nat.zero_le _,by omega,HV,rfl⟩
 case round =>
  obtain ⟨k,rfl,hk,hkm,HI,hww⟩:=hrel
  obtain rfl:=hww.symm
  clear hww
  by_cases hlt:k<l.length
  ·obtain ⟨⟨a,b⟩,hx⟩:∃x,l[k]=x:=⟨_,rfl⟩
   obtain ⟨g,off,rfl,hbl,c0,c1⟩:=D3 HR.out hlt hx
   have hbl2:g<w.heap.size:=Nat.lt_of_lt_of_le hbl hB
   have hlti:(k:Int)<(l.length:Int):=by omega
   have HS:Hid ((bif decide (a=n) then (k:Int) else aE n (k+1) (l.drop (k+1)))=v):=Lib.hid (by have h:=HI.out;rw [db hlt hx,xS] at h;exact h)
   clear hx hbl c1
   by_cases hq:a=n
   ·have HS2:Hid ((k:Int)=v):=Lib.hid (by have h:=HS.out;rw [decide_eq_true hq] at h;exact h)
    go_wp2_with fail
    go_ret
    exact ⟨fp HS2.out,Below.refl _ _⟩
   ·have HS2:Hid (aE n (k+1) (l.drop (k+1))=v):=Lib.hid (by have h:=HS.out;rw [decide_eq_false hq] at h;exact h)
    go_wp2_with fail
    go_roundg (gk-1)
    case measure=>omega
    case rel=>exact ⟨k+1,by go_num,by omega,by omega,HS2,rfl⟩
  ·have HS:Hid (-1=v):=Lib.hid (by have h:=HI.out;rw [dJ hlt] at h;exact h)
   have hlti:¬(k:Int)<(l.length:Int):=by omega
   go_wp2_with fail
   go_ret
   exact ⟨fp HS.out,Below.refl _ _⟩
theorem zL (m u m' u':Int) (w:World):Calls prog 73 #[.agg #[.int .i64 m,.int .i64 u],.agg #[.int .i64 m',.int .i64 u']] w (gV w (.bool (cm ⟨m,u⟩ ⟨m',u'⟩))):=by
 have H1:=Lib.hid (fun W=>js m' u' W)
 have H2:=Lib.hid (fun W=>js m u W)
 have H3:=Lib.hid (fun W=>gL m' m W)
 obtain ⟨_,k1,k2⟩:=Az m u m' u'
 obtain ⟨_,k3,k4⟩:=Az m u 0 0
 have HS:Hid ((aR ⟨m',u'⟩ && !decide ((⟨m,u⟩:Am)=⟨m',u'⟩) && (decide ((⟨m,u⟩:Am)=⟨0,0⟩) || aR ⟨m,u⟩ && (bif !decide (m=0) then cu m' m else decide (u<u'))))=cm ⟨m,u⟩ ⟨m',u'⟩):=Lib.hid (by
  unfold cm aF
  rfl)
 generalize cm ⟨m,u⟩ ⟨m',u'⟩=R at *
 generalize aR ⟨m,u⟩=s1 at *
 generalize aR ⟨m',u'⟩=s2 at *
 generalize cu m' m=s3 at *
 generalize decide ((⟨m,u⟩:Am)=⟨m',u'⟩)=d1 at *
 generalize decide ((⟨m,u⟩:Am)=⟨0,0⟩)=d2 at *
 go_enter func73,ntmps73
 go_wp2_with fail
 repeat' (first
  | (go_at_call 38;(with_reducible refine (H1.out _).mono ?_);rintro e wa1 ⟨rfl,hb_wa1⟩;obtain ⟨hc_wa1,hf_wa1⟩:=bh hb_wa1;have hs_wa1:=hb_wa1.size;(try simp at hs_wa1);have hz_wa1_w_0:w.heap.size<wa1.heap.size:=(by omega);have hz_wa1_w_1:w.heap.size+1<wa1.heap.size:=(by omega);clear hs_wa1;have HB_wa1:=Lib.hid hb_wa1;clear hb_wa1;go_wp2_with fail)
  | (go_at_call 38;(with_reducible refine (H2.out _).mono ?_);rintro e wa2 ⟨rfl,hb_wa2⟩;obtain ⟨hc_wa2,hf_wa2⟩:=bh hb_wa2;have hs_wa2:=hb_wa2.size;(try simp at hs_wa2);have hz_wa2_w_0:w.heap.size<wa2.heap.size:=(by omega);have hz_wa2_w_1:w.heap.size+1<wa2.heap.size:=(by omega);clear hs_wa2;have HB_wa2:=Lib.hid hb_wa2;clear hb_wa2;go_wp2_with fail)
  | (go_at_call 112;refine (H3.out _).mono ?_;rintro e wa3 ⟨rfl,hwa3⟩;obtain rfl:=hwa3.symm;clear hwa3;go_wp2_with fail)
  | (go_ret;exact ⟨ax (by (rw [←HS.out];first|(simp [*];done)|(simp [*];omega)|((try simp only [Bool.not_eq_eq_eq_not,Bool.not_true,Bool.not_false,bne_iff_ne,ne_eq,bne_eq_false_iff_eq] at *);first|(simp [*];done)|(simp [*];omega)))),by exact aw⟩))
def Wt.a (x:Wt):V0:=.ag [.sc (.int .i64 x.proc.site),.sc (.int .i64 x.proc.inc),.sc (.int .i64 x.proc.num),.sc (.int .i64 x.am.mode),.sc (.int .i64 x.am.units),.sc (.int .i64 x.prio),.sc (.int .i64 x.passed)]
theorem Wt.open {w:World} {S:Nat→Prop} {ρ:Nat→Value} {v:Value} {p:Wt} (h:p.a.rep w S ρ v):v=p.val:=q8 rfl h
section
variable {w w':World} {S:Nat→Prop} {ρ:Nat→Value} {q:Qu} {e:Ending}
theorem A9 {α:Type} {t:TypeId} {l:List α} {n:Nat} {pos:0<n} {f:α→List Value} {len:∀x,(f x).length=n} {one:∀x,∀u∈f x,u.oneCell'=true} {v:Value} (h:OwnRows (El.plain n pos f len one) t w' w.heap.size v l):(D.sl (El.plain n pos f len one) l).rep w' (Gr S w.heap.size w') ρ v:=by
 obtain ⟨A,cap,rfl,hr,h1,h2⟩:=OwnRows.nw h
 exact ⟨A,cap,rfl,⟨h1,h2⟩,hr.grNew⟩
theorem JK {A1 A2 A3:Option Addr} {c1 c2 c3:Nat} (h:QS w' (New w.heap.size w') A1 A2 A3 q) (h1:q.holds.length≤c1∧c1≤maxLen) (h2:q.convs.length≤c2∧c2≤maxLen) (h3:q.waits.length≤c3∧c3≤maxLen):q.a.rep w' (Gr S w.heap.size w') ρ (q.val A1 A2 A3 c1 c2 c3) :=
 ⟨_,rfl,rfl,rfl,rfl,rfl,⟨A1,c1,rfl,h1,h.r1.grNew⟩,⟨A2,c2,rfl,h2,h.r2.grNew⟩,⟨A3,c3,rfl,h3,h.r3.grNew⟩,rfl,trivial⟩
end
theorem od (l:List Wt) (p:Pr) (hl:l.length≤100000):FSpec prog 166 [.one (.sl nv l),p.a] [] [] (.tup [.one (.sl nv (ck l p)),.one (.sc (.bool (decide ((ck l p).length<l.length))))]) [] :=
 aA (fun b W=>by kernel_rfl) rfl fun w S ρ vs hS h=>by
  match vs,h with
  | [_,_],⟨⟨A,c,rfl,hc,hR⟩,h2,_⟩ =>
   rw [Pr.open h2]
   refine (vO A w.heap.size c l _ _ _ w hl (Nat.le_refl _) (hR.lo hS)).mono ?_
   rintro e w' ⟨v,rfl,ho,hb⟩
   exact ⟨_,rfl,hb,[v,_],rfl,A9 (S:=S) (ρ:=ρ) ho,rfl,trivial⟩
theorem Eh (l:List Wt) (x:Wt):FSpec prog 246 [.one (.sl nv l),x.a] [] [] (.tup [.one (.sl nv (kf l x).2),.one .any,.one (.sc (.int .i64 (kf l x).1))]) [] :=
 aA (fun b W=>by kernel_rfl) rfl fun w S ρ vs hS h=>by
  match vs,h with
  | [_,_],⟨⟨A,c,rfl,hc,hR⟩,h2,_⟩ =>
   rw [Wt.open h2]
   refine (vQ A w.heap.size c l x w hc.1 hc.2 (Nat.le_refl _) (hR.lo hS)).mono ?_
   rintro e w' ⟨v,n,rfl,ho,hb⟩
   exact ⟨_,rfl,hb,[v,_,_],rfl,A9 (S:=S) (ρ:=ρ) ho,trivial,rfl,trivial⟩
def Ei (o:Option Am):Am:=o.getD ⟨0,0⟩
theorem GY (q:Qu) (p:Pr):FSpec prog 162 [q.a,p.a] [] [] (.tup [(Ei (ai q p)).a,.one (.sc (.bool (ai q p).isSome))]) [] :=
 aA (fun b W=>by kernel_rfl) rfl fun w S ρ vs hS h=>by
  match vs,h with
  | [_,_],⟨h1,h2,_⟩ =>
   obtain ⟨A1,A2,A3,c1,c2,c3,rfl,hq,_⟩:=Qu.open h1
   rw [Pr.open h2]
   refine (uS q A1 A2 A3 c1 c2 c3 _ _ _ w _ (hq.qf hS)).mono ?_
   rintro e w' ⟨rfl,hb⟩
   cases h:ai q p with
   | some a=>exact ⟨_,rfl,hb,_,rfl,⟨_,rfl,rfl,rfl,trivial⟩,rfl,trivial⟩
   | none=>exact ⟨_,rfl,hb,_,rfl,⟨_,rfl,rfl,rfl,trivial⟩,rfl,trivial⟩
theorem Ej (l:List Qu):FSpec prog 114 [.one (.sl lX l)] [] [] (.b (eU l)) [] :=
 aA (fun b W=>by kernel_rfl) rfl fun w S ρ vs hS h=>by
  match vs,h with
  | [_],⟨⟨A,c,rfl,hc,hR⟩,_⟩=>exact (BT A w.heap.size c l w (Nat.le_trans hc.1 hc.2) (Nat.le_refl _) ((vH hR).lo hS)).mono fun _ _=>dk
theorem oe (l:List Qu) (hm:l.length≤12) (h8:∀q∈l,ld q):FSpec prog 119 [.one (.sl lX l)] [] [] (.c (.sl nu (aD l))) [] :=
 aA (fun b W=>by kernel_rfl) rfl fun w S ρ vs hS h=>by
  match vs,h with
  | [_],⟨⟨A,c,rfl,hc,hR⟩,_⟩=>exact (wT A w.heap.size c l w hm h8 (Nat.le_refl _) ((vH hR).lo hS)).mono fun _ _=>jh
theorem iY (l:List En) (n:ByteArray):FSpec prog 72 [.one (.sl iI l),.one (.sc (.string n))] [] [] (.v (ay l n).a) [] :=
 aA (fun b W=>by kernel_rfl) rfl fun w S ρ vs hS h=>by
  match vs,h with
  | [_,_],⟨⟨A,c,rfl,hc,hR⟩,rfl,_⟩=>exact (zJ A w.heap.size c l n w (Nat.le_trans hc.1 hc.2) (Nat.le_refl _) (hR.lo hS)).mono fun _ _=>vG (l:=[.int .i64 (ay l n).mode,.int .i64 (ay l n).units]) rfl
theorem Ek (x y:Am):FSpec prog 73 [x.a,y.a] [] [] (.b (cm x y)) [] :=
 aA (fun b W=>by kernel_rfl) rfl fun w S ρ vs _ h=>by
  match vs,h with
  | [_,_],⟨h1,h2,_⟩=>rw [Am.open h1,Am.open h2];exact (zL _ _ _ _ w).mono fun _ _=>dk
theorem jK (l:List Sv) (n:Int):FSpec prog 75 [.one (.sl iF l),.one (.sc (.int .i64 n))] [] [] (.i (aE n 0 l)) [] :=
 aA (fun b W=>by kernel_rfl) rfl fun w S ρ vs hS h=>by
  match vs,h with
  | [_,_],⟨⟨A,c,rfl,hc,hR⟩,rfl,_⟩=>exact (zK A w.heap.size c l n w (Nat.le_trans hc.1 hc.2) (Nat.le_refl _) (hR.lo hS)).mono fun _ _=>dk
section
variable {w:World} {S:Nat→Prop} {ρ:Nat→Value} {v:Value}
end
def KZ (q:Qu) (v1 v2 v3:Value):List Value:=[.string q.res.name,.int .i64 q.res.kind,.int .i64 q.res.units,.int .i64 q.res.home,v1,v2,v3,.int .i64 q.gen]
def qv (q:Qu) (v1 v2 v3:Value):Array Value:=#[.string q.res.name,.int .i64 q.res.kind,.int .i64 q.res.units,.int .i64 q.res.home,v1,v2,v3,.int .i64 q.gen]
abbrev qc (q:Qu) (A1 A2 A3:Option Addr) (c1 c2 c3:Nat):Array Value:=qv q (.slice A1 q.holds.length c1) (.slice A2 q.convs.length c2) (.slice A3 q.waits.length c3)
theorem Mr (q:Qu) (A1 A2 A3:Option Addr) (c1 c2 c3:Nat):q.val A1 A2 A3 c1 c2 c3 = .agg (qc q A1 A2 A3 c1 c2 c3):=rfl
theorem Em:(prog.info? 165).map (·.size)=some 8:=by kernel_rfl
theorem JL (q:Qu) (v1 v2 v3:Value):((qv q v1 v2 v3).extract 0 (0+(KZ q v1 v2 v3).length)).toList=KZ q v1 v2 v3:=by unfold qv KZ;rfl
theorem JM (q:Qu) (v1 v2 v3:Value):(prog.info? 165).map (·.size)=some (KZ q v1 v2 v3).length:=Em
theorem JN {ops:Array Oper} {rest:List Oper} {o:Oper} {a:Act} {w:World} {Q:Exit→Act→World→Prop} (hgd:o.guard=none) (x y:Operand) (ho:o.op = .store 165 x y) (g:Nat) (old:Array Value) (q:Qu) (v1 v2 v3:Value)
  (hx:a.eval x = .pointer (some ⟨g,0,none⟩)) (hy:a.eval y = .agg (qv q v1 v2 v3)) (hb:Blk w g 165 old) (hl:old.size=8) (h1:v1.oneCell'=true) (h2:v2.oneCell'=true) (h3:v3.oneCell'=true)
  (h:∀w',Blk w' g 165 (qv q v1 v2 v3)→But g w w'→wpList prog ops Q rest (a.put o.dst undef) w'):wpList prog ops Q (o :: rest) a w:=by
 refine ro hgd 165 x y ho g 0 165 old (qv q v1 v2 v3) (qv q v1 v2 v3) hx hy hb Em (by rw [hl];exact Nat.le_refl 8) ?_ ?_ h
 ·unfold qv
  have e1:∀s,(Value.string s).oneCell'=true:=fun _=>rfl
  have e2:∀k n,(Value.int k n).oneCell'=true:=fun _ _=>rfl
  simp [h1,h2,h3,e1,e2]
 ·have e:old.toList.drop (0+(qv q v1 v2 v3).size)=[]:=List.drop_eq_nil_of_le (by rw [Array.length_toList,hl];exact Nat.le_refl 8)
  rw [e,List.take_zero,List.nil_append,List.append_nil]
theorem K0 {ops:Array Oper} {rest:List Oper} {o:Oper} {a:Act} {w:World} {Q:Exit→Act→World→Prop} (hgd:o.guard=none) (x:Operand) (ho:o.op = .load 165 x) (g:Nat) (q:Qu) (v1 v2 v3:Value)
  (hx:a.eval x = .pointer (some ⟨g,0,none⟩)) (hb:Blk w g 165 (qv q v1 v2 v3)) (h:wpList prog ops Q rest (a.put o.dst (.agg (qv q v1 v2 v3))) w):wpList prog ops Q (o :: rest) a w :=
 Ge hgd 165 x ho g 0 165 (qv q v1 v2 v3) (KZ q v1 v2 v3) _ hx hb (JL _ _ _ _) underlying165 rfl (JM _ _ _ _) h
theorem Eo (w:World) (o:Obj):(w.alloc o).heap.size=w.heap.size+1:=by simp
def Ms (w:World) (q:Qu) (e:Ending) (w':World):Prop:=∃B1 B2 B3 d1 d2 d3,e = .returned (q.val B1 B2 B3 d1 d2 d3)∧QS w' (New w.heap.size w') B1 B2 B3 q∧(q.holds.length≤d1∧d1≤maxLen)∧(q.convs.length≤d2∧d2≤maxLen)∧(q.waits.length≤d3∧d3≤maxLen)∧Below w.heap.size w w'
theorem zM (q:Qu) (A1 A2 A3:Option Addr) (c1 c2 c3:Nat) (w:World) (S:Nat→Prop) (hS:In w S) (hq:QS w S A1 A2 A3 q) (h1:q.holds.length≤100000) (h2:q.convs.length≤100000) (h3:q.waits.length≤100000) :
  Calls prog 164 #[q.val A1 A2 A3 c1 c2 c3] w (Ms w q):=by
 have HQ:=Lib.hid hq
 have HS:=Lib.hid hS
 rw [Mr]
 have HQ1:=Lib.hid hq.r1
 have HQ2:=Lib.hid hq.r2
 have HQ3:=Lib.hid hq.r3
 clear hq hS
 have HX:Hid (Blk ((w.alloc (.cells (qc q A1 A2 A3 c1 c2 c3) 165)).alloc (.cells #[.string { data:=#[] },.int .i64 0,.int .i64 0,.int .i64 0,.slice none 0 0,.slice none 0 0,.slice none 0 0,.int .i64 0] 165)) w.heap.size 165 (qc q A1 A2 A3 c1 c2 c3)):=Lib.hid ((Blk.new w _ _).alloc _)
 have HZ:Hid (Blk ((w.alloc (.cells (qc q A1 A2 A3 c1 c2 c3) 165)).alloc (.cells #[.string { data:=#[] },.int .i64 0,.int .i64 0,.int .i64 0,.slice none 0 0,.slice none 0 0,.slice none 0 0,.int .i64 0] 165)) (w.heap.size+1) 165 #[.string { data:=#[] },.int .i64 0,.int .i64 0,.int .i64 0,.slice none 0 0,.slice none 0 0,.slice none 0 0,.int .i64 0]):=Lib.hid (by have:=Blk.new (w.alloc (.cells (qc q A1 A2 A3 c1 c2 c3) 165)) 165 #[.string { data:=#[] },.int .i64 0,.int .i64 0,.int .i64 0,.slice none 0 0,.slice none 0 0,.slice none 0 0,.int .i64 0];rwa [Eo] at this)
 have HB1:Hid (Below w.heap.size w ((w.alloc (.cells (qc q A1 A2 A3 c1 c2 c3) 165)).alloc (.cells #[.string { data:=#[] },.int .i64 0,.int .i64 0,.int .i64 0,.slice none 0 0,.slice none 0 0,.slice none 0 0,.int .i64 0] 165))):=Lib.hid (Below.al (Below.al (Below.refl _ _) _) _)
 go_enter func164,ntmps164
 go_upto_region 1 with fail
 generalize (w.alloc (.cells (qc q A1 A2 A3 c1 c2 c3) 165)).alloc (.cells #[.string { data:=#[] },.int .i64 0,.int .i64 0,.int .i64 0,.slice none 0 0,.slice none 0 0,.slice none 0 0,.int .i64 0] 165)=w1 at *
 have hz1:w.heap.size+1<w1.heap.size:=HZ.out.lt
 have ql:w.heap.size<w1.heap.size:=by omega
 have q4:=HX.out.cellx 4 (v:=.slice A1 q.holds.length c1) rfl
 have q5:=HX.out.cellx 5 (v:=.slice A2 q.convs.length c2) rfl
 have q6:=HX.out.cellx 6 (v:=.slice A3 q.waits.length c3) rfl
 have HS1:=Lib.hid (HS.out.below HB1.out)
 go_wp2_with (first
  | (at_builtin;refine rH za rfl (.tmp 3) (.tmp 5) rfl w1 q.holds.length A1 c1 _ rfl rfl rfl rfl (HQ1.out.grow HS.out HB1.out) (HS.out.below HB1.out) (by omega) (by decide) ?_;intro v3 w3 hown3 hb3;obtain ⟨B1,d1,rfl,hr1,hl1,hm1⟩:=hown3.uninn.nw;have HR1:=Lib.hid (New.older (base':=w1.heap.size) hr1 (by omega));have HM1:=Lib.hid (And.intro hl1 hm1);have HB3:Hid (Below w.heap.size w w3):=Lib.hid (Below.tr HB1.out hb3);have hsz3:w1.heap.size≤w3.heap.size:=(by have:=hb3.size;omega);have HX3:=Lib.hid (HX.out.below hb3 HX.out.lt);have HZ3:=Lib.hid (HZ.out.below hb3 HZ.out.lt);clear hown3 hb3 hr1 hl1 hm1 q4 q5 q6)
  | ((refine pe rfl _ _ _ rfl _ _ _ _ _ (qv q (.slice B1 q.holds.length d1) (.slice A2 q.convs.length c2) (.slice A3 q.waits.length c3)) rfl rfl HX3.out (by kernel_rfl) (by first|(simp;done)|exact Nat.le_of_ble_eq_true rfl) rfl rfl rfl ?_;intro w4 hk_w4 hb_w4;have HX4:=Lib.hid hk_w4;have HU_w4:=Lib.hid hb_w4;clear hk_w4 hb_w4);have HB4:Hid (Below w.heap.size w w4):=Lib.hid (HB3.out.trans (HU_w4.out.below (Nat.le_refl _) HB3.out.size));have hsz4:w1.heap.size≤w4.heap.size:=(by have:=HU_w4.out.size;omega);have HZ4:Hid (Blk w4 (w.heap.size+1) 165 #[.string { data:=#[] },.int .i64 0,.int .i64 0,.int .i64 0,.slice none 0 0,.slice none 0 0,.slice none 0 0,.int .i64 0]):=Lib.hid ((HU_w4.out.block _ HZ3.out.lt (by simp)).trans HZ3.out);have HG1:=Lib.hid (HR1.out.same (w':=w4) (S':=New w1.heap.size w4) (fun b hb=>HU_w4.out.block b hb.2 (by have:=hb.1;omega)) (fun b hb=>⟨hb.1,Nat.lt_of_lt_of_le hb.2 HU_w4.out.size⟩));have q5:=HX4.out.cellx 5 (v:=.slice A2 q.convs.length c2) rfl;have ql4:=HX4.out.lt)
  | (at_builtin;refine rH toZ rfl (.tmp 8) (.tmp 10) rfl w4 q.convs.length A2 c2 _ rfl rfl rfl rfl (HQ2.out.grow HS.out HB4.out) (HS.out.below HB4.out) (by omega) (by decide) ?_;intro v5 w5 hown5 hb5;obtain ⟨B2,d2,rfl,hr2,hl2,hm2⟩:=hown5.uninn.nw;have HR2:=Lib.hid (New.older (base':=w1.heap.size) hr2 (by omega));have HM2:=Lib.hid (And.intro hl2 hm2);have HB5:Hid (Below w.heap.size w w5):=Lib.hid (Below.tr HB4.out hb5);have hsz5:w1.heap.size≤w5.heap.size:=(by have:=hb5.size;omega);have HX5:=Lib.hid (HX4.out.below hb5 HX4.out.lt);have HZ5:=Lib.hid (HZ4.out.below hb5 HZ4.out.lt);have HH1:=Lib.hid (New.grow hb5 (Nat.le_refl _) HG1.out);clear hown5 hb5 hr2 hl2 hm2 q5)
  | ((refine pe rfl _ _ _ rfl _ _ _ _ _ (qv q (.slice B1 q.holds.length d1) (.slice B2 q.convs.length d2) (.slice A3 q.waits.length c3)) rfl rfl HX5.out (by kernel_rfl) (by first|(simp;done)|exact Nat.le_of_ble_eq_true rfl) rfl rfl rfl ?_;intro w6 hk_w6 hb_w6;have HX6:=Lib.hid hk_w6;have HU_w6:=Lib.hid hb_w6;clear hk_w6 hb_w6);have HB6:Hid (Below w.heap.size w w6):=Lib.hid (HB5.out.trans (HU_w6.out.below (Nat.le_refl _) HB5.out.size));have hsz6:w1.heap.size≤w6.heap.size:=(by have:=HU_w6.out.size;omega);have HZ6:Hid (Blk w6 (w.heap.size+1) 165 #[.string { data:=#[] },.int .i64 0,.int .i64 0,.int .i64 0,.slice none 0 0,.slice none 0 0,.slice none 0 0,.int .i64 0]):=Lib.hid ((HU_w6.out.block _ HZ5.out.lt (by simp)).trans HZ5.out);have HI1:=Lib.hid (HH1.out.same (w':=w6) (S':=New w1.heap.size w6) (fun b hb=>HU_w6.out.block b hb.2 (by have:=hb.1;omega)) (fun b hb=>⟨hb.1,Nat.lt_of_lt_of_le hb.2 HU_w6.out.size⟩));have HI2:=Lib.hid (HR2.out.same (w':=w6) (S':=New w1.heap.size w6) (fun b hb=>HU_w6.out.block b hb.2 (by have:=hb.1;omega)) (fun b hb=>⟨hb.1,Nat.lt_of_lt_of_le hb.2 HU_w6.out.size⟩));have q6:=HX6.out.cellx 6 (v:=.slice A3 q.waits.length c3) rfl;have ql6:=HX6.out.lt)
  | (at_builtin;refine rH toZ rfl (.tmp 13) (.tmp 15) rfl w6 q.waits.length A3 c3 _ rfl rfl rfl rfl (HQ3.out.grow HS.out HB6.out) (HS.out.below HB6.out) (by omega) (by decide) ?_;intro v7 w7 hown7 hb7;obtain ⟨B3,d3,rfl,hr3,hl3,hm3⟩:=hown7.uninn.nw;have HR3:=Lib.hid (New.older (base':=w1.heap.size) hr3 (by omega));have HM3:=Lib.hid (And.intro hl3 hm3);have HB7:Hid (Below w.heap.size w w7):=Lib.hid (Below.tr HB6.out hb7);have hsz7:w1.heap.size≤w7.heap.size:=(by have:=hb7.size;omega);have HX7:=Lib.hid (HX6.out.below hb7 HX6.out.lt);have HZ7:=Lib.hid (HZ6.out.below hb7 HZ6.out.lt);have HJ1:=Lib.hid (New.grow hb7 (Nat.le_refl _) HI1.out);have HJ2:=Lib.hid (New.grow hb7 (Nat.le_refl _) HI2.out);clear hown7 hb7 hr3 hl3 hm3 q6)
  | ((refine pe rfl _ _ _ rfl _ _ _ _ _ (qv q (.slice B1 q.holds.length d1) (.slice B2 q.convs.length d2) (.slice B3 q.waits.length d3)) rfl rfl HX7.out (by kernel_rfl) (by first|(simp;done)|exact Nat.le_of_ble_eq_true rfl) rfl rfl rfl ?_;intro w8 hk_w8 hb_w8;have HX8:=Lib.hid hk_w8;have HU_w8:=Lib.hid hb_w8;clear hk_w8 hb_w8);have HB8:Hid (Below w.heap.size w w8):=Lib.hid (HB7.out.trans (HU_w8.out.below (Nat.le_refl _) HB7.out.size));have hsz8:w1.heap.size≤w8.heap.size:=(by have:=HU_w8.out.size;omega);have HZ8:Hid (Blk w8 (w.heap.size+1) 165 #[.string { data:=#[] },.int .i64 0,.int .i64 0,.int .i64 0,.slice none 0 0,.slice none 0 0,.slice none 0 0,.int .i64 0]):=Lib.hid ((HU_w8.out.block _ HZ7.out.lt (by simp)).trans HZ7.out);have HK1:=Lib.hid (HJ1.out.same (w':=w8) (S':=New w1.heap.size w8) (fun b hb=>HU_w8.out.block b hb.2 (by have:=hb.1;omega)) (fun b hb=>⟨hb.1,Nat.lt_of_lt_of_le hb.2 HU_w8.out.size⟩));have HK2:=Lib.hid (HJ2.out.same (w':=w8) (S':=New w1.heap.size w8) (fun b hb=>HU_w8.out.block b hb.2 (by have:=hb.1;omega)) (fun b hb=>⟨hb.1,Nat.lt_of_lt_of_le hb.2 HU_w8.out.size⟩));have HK3:=Lib.hid (HR3.out.same (w':=w8) (S':=New w1.heap.size w8) (fun b hb=>HU_w8.out.block b hb.2 (by have:=hb.1;omega)) (fun b hb=>⟨hb.1,Nat.lt_of_lt_of_le hb.2 HU_w8.out.size⟩)))
  | (refine K0 rfl (.tmp 1) rfl w.heap.size q (.slice B1 q.holds.length d1) (.slice B2 q.convs.length d2) (.slice B3 q.waits.length d3) rfl HX8.out ?_)
  | (refine JN rfl (.tmp 2) (.tmp 18) rfl (w.heap.size+1) _ q (.slice B1 q.holds.length d1) (.slice B2 q.convs.length d2) (.slice B3 q.waits.length d3) rfl rfl HZ8.out rfl rfl rfl rfl ?_;intro w9 hk9 hb9;have HX9:=Lib.hid hk9;have HU_w9:=Lib.hid hb9;clear hk9 hb9;have HB9:Hid (Below w.heap.size w w9):=Lib.hid (HB8.out.trans (HU_w9.out.below (Nat.le_succ _) HB8.out.size));have HL1:=Lib.hid (HK1.out.same (w':=w9) (S':=New w.heap.size w9) (fun b hb=>HU_w9.out.block b hb.2 (by have:=hb.1;omega)) (fun b hb=>⟨by have:=hb.1;omega,Nat.lt_of_lt_of_le hb.2 HU_w9.out.size⟩));have HL2:=Lib.hid (HK2.out.same (w':=w9) (S':=New w.heap.size w9) (fun b hb=>HU_w9.out.block b hb.2 (by have:=hb.1;omega)) (fun b hb=>⟨by have:=hb.1;omega,Nat.lt_of_lt_of_le hb.2 HU_w9.out.size⟩));have HL3:=Lib.hid (HK3.out.same (w':=w9) (S':=New w.heap.size w9) (fun b hb=>HU_w9.out.block b hb.2 (by have:=hb.1;omega)) (fun b hb=>⟨by have:=hb.1;omega,Nat.lt_of_lt_of_le hb.2 HU_w9.out.size⟩))))
 refine xH rfl _ _ _ _ rfl HX9.out underlying165 rfl (by kernel_rfl) rfl ⟨B1,B2,B3,d1,d2,d3,rfl,⟨HL1.out,HL2.out,HL3.out,by unfold maxLen;omega,by unfold maxLen;omega,by unfold maxLen;omega⟩,HM1.out,HM2.out,HM3.out,HB9.out⟩
theorem Ep {n:Nat} {q:Qu} {acc:List Ho} (hs:Sd q) (h:av q=true):eN n q acc=(q,acc):=by
 cases n with
 | zero=>rfl
 | succ n =>
  have h2:=(dg.1 h).2
  unfold eN
  cases hh:dv q with
  | none=>rfl
  | some x=>dsimp only;rw [h2 x hh];rfl
theorem CA {n:Nat} {q:Qu} {acc:List Ho} (hs:Sd q) (h:av q=false) (hn:gP q≤n):∃x,dv q=some x∧Sd (io q x)∧gP (io q x)+1=gP q∧0<n∧eN n q acc=eN (n-1) (io q x) (acc++[⟨x.proc,x.am⟩]):=by
 cases hh:dv q with
 | none=>rw [dg.2 ⟨hs,fun x hx=>by rw [hh] at hx;cases hx⟩] at h;cases h
 | some x =>
  have hr:go q.res q.holds x.proc x.am=true:=by
   cases hc:go q.res q.holds x.proc x.am with
   | true=>rfl
   | false=>rw [dg.2 ⟨hs,fun y hy=>by rw [hh] at hy;injection hy with hy;rw [←hy];exact hc⟩] at h;cases h
  have hp:=zA hh
  obtain ⟨m,rfl⟩:∃m,n=m+1:=⟨n-1,by omega⟩
  refine ⟨x,rfl,hs.pop hh hr,hp,Nat.succ_pos _,?_⟩
  rw [eN,hh]
  dsimp only
  rw [hr]
  rfl
theorem mU (q:Qu) (h1:q.holds.length≤100000) (h2:q.convs.length≤100000) (h3:q.waits.length≤100000):FSpec prog 164 [q.a] [] [] (.v q.a) [] :=
 aA (fun b W=>by kernel_rfl) rfl fun w S ρ vs hS h=>by
  match vs,h with
  | [_],⟨hq,_⟩ =>
   obtain ⟨A1,A2,A3,c1,c2,c3,rfl,hq,_⟩:=Qu.open hq
   refine (zM q A1 A2 A3 c1 c2 c3 w S hS hq h1 h2 h3).mono ?_
   rintro e w' ⟨B1,B2,B3,d1,d2,d3,rfl,hq2,b1,b2,b3,hb⟩
   exact ⟨_,rfl,hb,JK hq2 b1 b2 b3⟩
def IG (q:Qu):Wt:=(dv q).getD ⟨⟨0,0,0⟩,⟨0,0⟩,0,0⟩
theorem IH (q:Qu):FSpec prog 241 [q.a] [] [] (.tup [(IG q).a,.one (.sc (.bool (dv q).isSome))]) [] :=
 aA (fun b W=>by kernel_rfl) rfl fun w S ρ vs hS h=>by
  match vs,h with
  | [_],⟨h1,_⟩ =>
   obtain ⟨A1,A2,A3,c1,c2,c3,rfl,hq,_⟩:=Qu.open h1
   refine (tM q A1 A2 A3 c1 c2 c3 w _ (hq.qf hS)).mono ?_
   rintro e w' ⟨rfl,hb⟩
   unfold IG
   cases h:dv q with
   | some a=>exact ⟨_,rfl,hb,_,rfl,⟨_,rfl,rfl,rfl,rfl,rfl,rfl,rfl,rfl,trivial⟩,rfl,trivial⟩
   | none=>exact ⟨_,rfl,hb,_,rfl,⟨_,rfl,rfl,rfl,rfl,rfl,rfl,rfl,rfl,trivial⟩,rfl,trivial⟩
def Mt:List D:=[.sc (.string ⟨#[]⟩),.sc (.int .i64 0),.sc (.int .i64 0),.sc (.int .i64 0),.sc (.slice none 0 0),.sc (.slice none 0 0),.sc (.slice none 0 0),.sc (.int .i64 0)]
theorem Er (q:Qu) (hs:Sd q):FSpec prog 220 [q.a] [] [] (.tup [(vw q).1.a,.one (.sl oM (vw q).2)]) []:=by
 have hh:=hs.hv.len
 have h1:=hs.clen
 have h2:=hs.wlen
 have hsd:=rR.2 hs
 have hm:gP q≤16:=by unfold gP;omega
 refine bJ func220 ?_
 repeat' (first
  | refine af ?_ ?_
  | (refine aa 9 rfl ?_;first
   | (refine cB [] (JJ q) ?_)
   | (refine cC [] (mU q (by omega) (by omega) (by omega)) ?_))
  | refine en ?_
  | exact ah|(refine ae fun hb=>?_;first|(simp [hsd] at hb;done)|skip))
 refine dS 4 1000 287 oM rfl rfl rfl ?_
 refine ao (fun x:Nat×Qu×List Ho=>Sd x.2.1∧gP x.2.1≤x.1∧eN x.1 x.2.1 x.2.2=vw q∧x.2.2.length+x.1≤16) (fun x=>cy [1,2,1000] [(1,.c (.ptr 1 0)),(2,.c (.ptr 2 0)),(4,.c (.own 1000))] [(1,.box 165 x.2.1.d),(2,.box 165 Mt),(1000,.arr 287 oM x.2.2)]) (fun x=>x.1) (gP q,q,[]) ⟨hs,Nat.le_refl _,rfl,by simpa using hm⟩ (by exact ap (qf [])) ?_
 rintro ⟨n,q1,acc⟩ ⟨hs1,hn,hadv,hlen⟩
 dsimp only at *
 cases hset:av q1 with
 | true =>
  repeat' (first
   | refine af ?_ ?_
   | refine aa 9 rfl (cB [] (sj q1) ?_)
   | refine en ?_
   | exact ah|(refine ae fun hb=>?_;first|(simp [hset] at hb;done)|skip))
  rw [Ep hs1 hset] at hadv
  rw [←hadv]
  refine mu (qf []) ?_;exact ab
 | false =>
  obtain ⟨x,hx,hs2,hn2,hpos,hgo⟩:=CA (acc:=acc) hs1 hset hn
  rw [hgo] at hadv
  have hh1:=hs1.hv.len
  have hq1:=hs1
  obtain ⟨r,hs',cs,ws,gn⟩:=q1
  cases cs with
  | cons y cs =>
   obtain rfl:y=x:=by simpa [dv] using hx
   repeat' (first
    | refine af ?_ ?_
    | (refine aa 8 rfl ?_;refine bc (ak rfl rfl (aI rfl rfl) (aO [⟨y.proc,y.am⟩] rfl rfl rfl rfl) rfl aJ aJ) rfl rfl rfl ?_)
    | (refine aa 9 rfl ?_;first
     | (refine cB [] (sj ⟨r,hs',y :: cs,ws,gn⟩) ?_)
     | (refine cB [] (IH ⟨r,hs',y :: cs,ws,gn⟩) ?_)
     | (refine cC [] (GV hs' y.proc y.am (by dsimp only at hh1;omega)) ?_))
    | refine en ?_
    | exact ah|(refine ae fun hb=>?_;first|(simp [hset] at hb;done)|skip))
   ·refine ⟨(n-1,io ⟨r,hs',y :: cs,ws,gn⟩ y,acc++[⟨y.proc,y.am⟩]),⟨hs2,by dsimp only;omega,hadv,by simp;omega⟩,by dsimp only;omega,?_⟩
    exact ap (qf [(1000,48)])
  | nil =>
   obtain ⟨ws2,rfl⟩:∃m,ws=x :: m:=by
    cases ws with
    | nil=>simp [dv] at hx
    | cons z m=>exact ⟨m,by rw [show z=x by simpa [dv] using hx]⟩
   repeat' (first
    | refine af ?_ ?_
    | (refine aa 8 rfl ?_;refine bc (ak rfl rfl (aI rfl rfl) (aO [⟨x.proc,x.am⟩] rfl rfl rfl rfl) rfl aJ aJ) rfl rfl rfl ?_)
    | (refine aa 9 rfl ?_;first
     | (refine cB [] (sj ⟨r,hs',[],x :: ws2,gn⟩) ?_)
     | (refine cB [] (IH ⟨r,hs',[],x :: ws2,gn⟩) ?_)
     | (refine cC [] (GV hs' x.proc x.am (by dsimp only at hh1;omega)) ?_))
    | refine en ?_
    | exact ah|(refine ae fun hb=>?_;first|(simp [hset] at hb;done)|skip))
   ·refine ⟨(n-1,io ⟨r,hs',[],x :: ws2,gn⟩ x,acc++[⟨x.proc,x.am⟩]),⟨hs2,by dsimp only;omega,hadv,by simp;omega⟩,by dsimp only;omega,?_⟩
    exact ap (qf [(1000,48)])
def Es (R:Qu×List Ho×Int):TV:=.tup [R.1.a,.one (.sl oM R.2.1),.one (.sc (.int .i64 R.2.2))]
theorem eQ (q:Qu) (p:Pr):FSpec prog 163 [q.a,p.a] [] [] (.v (aj q.holds p).a) []:=by
 refine bJ func163 ?_
 repeat' (first
  | refine af ?_ ?_
  | refine aa 9 rfl (cB [] (Mq q.holds p) ?_)
  | refine en ?_
  | exact ah|refine ae fun hb=>?_
  | (refine aP (qf []) ?_;exact ab))
theorem bQ (q:Qu) (p:Pr) {o:Option Am} (h:ai q p=o):FSpec prog 162 [q.a,p.a] [] [] (.tup [(Ei o).a,.one (.sc (.bool o.isSome))]) []:=h▸GY q p
theorem Et (q:Qu) (p:Pr):FSpec prog 117 [q.a,p.a] [] [] (.b (eF q p)) []:=by
 refine bJ func117 ?_
 cases hw:ai q p with
 | some a =>
  rw [show eF q p=true by unfold eF;rw [hw];rfl]
  repeat' (first
   | refine af ?_ ?_
   | refine aa 9 rfl (cB [] (bQ q p hw) ?_)
   | refine en ?_
   | exact ah|refine ae fun hb=>?_
   | (refine aP (qf []) ?_;exact ab))
 | none =>
  rw [show eF q p = !aF (aj q.holds p) by unfold eF;rw [hw];rfl]
  repeat' (first
   | refine af ?_ ?_
   | (refine aa 9 rfl ?_;first
    | (refine cB [] (bQ q p hw) ?_)
    | (refine cB [] (eQ q p) ?_)
    | (refine cB [] (j5 (aj q.holds p)) ?_))
   | refine en ?_
   | exact ah|refine ae fun hb=>?_
   | (refine aP (qf []) ?_;exact ab))
theorem lx (q:Qu) (hs:Sd q):FSpec prog 167 [q.a] [] [] (Es (lU (fN q))) []:=by
 refine bJ func167 ?_
 repeat' (first
  | refine af ?_ ?_
  | (refine aa 9 rfl ?_;first
   | (refine cC [] (Er q hs) ?_)
   | (refine cB [] (IE q.gen) ?_))
  | refine en ?_
  | exact ah|refine ae fun hb=>?_
  | (refine gK (qf []) ?_;exact ab))
theorem bF {α:Type} {b:Bool} {x y:α} (h:b=false):(bif b then x else y)=y:=by rw [h];rfl
theorem bT {α:Type} {b:Bool} {x y:α} (h:b=true):(bif b then x else y)=x:=by rw [h];rfl
theorem xT (q:Qu) (p:Pr) {R:Qu×List Ho×Int} (hR:bo q p=R):FSpec prog 247 [q.a,p.a] [] [] (Es R) []:=by
 refine bJ func247 ?_
 cases hS:av q with
 | false =>
  obtain rfl:R=bN 2:=by rw [←hR];simp [bo,hS]
  repeat' (first
   | refine af ?_ ?_
   | refine aa 9 rfl (cB [] (cG q) ?_)
   | refine en ?_
   | exact ah|(refine ae fun hb=>?_;first|(simp [hS] at hb;done)|skip)
   | (refine gK (qf []) ?_;exact ab))
 | true =>
  have hs:=aH hS
  have h1:=hs.hv.len
  have h2:=hs.clen
  have h3:=hs.wlen
  cases hw:ai q p with
  | none =>
   obtain rfl:R=bN 10:=by rw [←hR];simp [bo,hS,hw]
   repeat' (first
    | refine af ?_ ?_
    | (refine aa 9 rfl ?_;first
     | (refine cB [] (cG q) ?_)
     | (refine cB [] (bQ q p hw) ?_))
    | refine en ?_
    | exact ah|(refine ae fun hb=>?_;first|(simp [hS] at hb;done)|skip)
    | (refine gK (qf []) ?_;exact ab))
  | some a =>
   obtain rfl:R=lU (fN { q with convs:=ck q.convs p,waits:=ck q.waits p }):=by rw [←hR];simp [bo,hS,hw]
   have hd:=hs.drop p
   repeat' (first
    | refine af ?_ ?_
    | (refine aa 9 rfl ?_;first
     | (refine cB [] (cG q) ?_)
     | (refine cB [] (bQ q p hw) ?_)
     | (refine cC [] (mU q (by omega) (by omega) (by omega)) ?_)
     | (refine cC [] (od q.convs p (by omega)) ?_)
     | (refine cC [] (od q.waits p (by omega)) ?_)
     | (refine cC [] (lx { q with convs:=ck q.convs p,waits:=ck q.waits p } hd) ?_))
    | refine en ?_
    | exact ah|(refine ae fun hb=>?_;first|(simp [hS] at hb;done)|skip)
    | (refine gK (qf []) ?_;exact ab))
instance:ST prog lX 47 165 120:=⟨ElTB.mk' underlying47 (.agg #[.string { data:=#[] },.int .i64 0,.int .i64 0,.int .i64 0,.slice none 0 0,.slice none 0 0,.slice none 0 0,.int .i64 0]) 8 120 (by kernel_rfl) rfl rfl⟩
theorem Eu (l:List Pr) (p:Pr):FSpec prog 169 [.one (.sl nu l),p.a] [] [] (.b (decide (p∈l))) []:=by
 refine bJ func169 ?_
 refine bY (fun c ρ a w hr=>gc (t:=0) hr rfl) (fun hl0=>?_)
 repeat' (first
  | refine af ?_ ?_
  | refine en ?_
  | exact ah|refine ae fun hb=>?_)
 refine ao (fun i=>i≤l.length∧(p∈l↔p∈l.drop i)) (fun i=>cy [3] [(0,.c (.sl nu l)),(3,.c (.ptr 3 0)),(5,.i i)] [(3,.box 23 [.sc (.int .i64 p.site),.sc (.int .i64 p.inc),.sc (.int .i64 p.num)])]) (fun i=>l.length-i) 0 ⟨Nat.zero_le _,Iff.rfl⟩ (by exact ap (qf [])) ?_
 rintro i ⟨hi,hs⟩
 repeat' (first
  | refine af ?_ ?_
  | refine en ?_
  | exact ah|refine ae fun hb=>?_)
 ·refine pp ?_
  have:p∈l:=by rw [←hb];exact List.getElem_mem _
  simp [this]
 ·refine ⟨i+1,⟨by omega,?_⟩,by omega,?_⟩
  ·rw [hs,List.drop_eq_getElem_cons (i:=i) (by omega),List.mem_cons]
   exact ⟨fun h=>h.resolve_left fun e=>hb e.symm,.inr⟩
  ·exact ap (qf [])
 ·refine pp ?_
  have:p ∉ l:=by rw [hs,List.drop_eq_nil_of_le (by omega)];simp
  simp [this]
theorem Ew {t:List Qu} (h:eU t=true):t.length≤8∧∀q∈t,av q=true:=by
 unfold eU at h
 rw [Bool.and_eq_true,decide_eq_true_eq] at h
 exact ⟨h.1,rW h.2⟩
theorem mV {q:Qu} (h:av q=true):ld q:=by
 have hs:=aH h
 exact ⟨hs.hv.len,hs.clen,by have:=hs.wlen;omega⟩
theorem dl (t:List Qu):FSpec prog 121 [.one (.sl lX t)] [] [] (.b (eO t)) []:=by
 refine bJ func121 ?_
 cases hP:eU t with
 | false =>
  repeat' (first
   | refine af ?_ ?_
   | refine aa 9 rfl (cB [] (Ej t) ?_)
   | refine en ?_
   | exact ah|refine ae fun hb=>?_)
  refine pp ?_
  simp [eO,hP]
 | true =>
  obtain ⟨hm,h8⟩:=Ew hP
  repeat' (first
   | refine af ?_ ?_
   | (refine aa 9 rfl ?_;first
    | (refine cB [] (Ej t) ?_)
    | (refine cC [] (oe t (by omega) (fun q hq=>mV (h8 q hq))) ?_))
   | refine en ?_
   | exact ah|refine ae fun hb=>?_)
  refine pp ?_
  simp [eO,hP]
  try omega
theorem ma (n:ByteArray) (l:List Ho) (hl:l.length≤100000):FSpec prog 230 [.one (.sc (.string n)),.one (.sl oM l)] [] [] (.c (.sl qq (aW n l))) []:=by
 refine bJ func230 ?_
 repeat' (first
  | refine af ?_ ?_
  | refine en ?_
  | exact ah|refine ae fun hb=>?_)
 refine dS 5 1000 296 qq rfl rfl rfl ?_
 refine ao (fun i=>i≤l.length) (fun i=>cy [1000] [(0,.c (.sc (.string n))),(1,.c (.sl oM l)),(5,.c (.own 1000)),(6,.i i)] [(1000,.arr 296 qq (aW n (l.take i)))]) (fun i=>l.length-i) 0 (Nat.zero_le _) (by exact ap (qf [])) ?_
 intro i hi
 have hlen:(aW n (l.take i)).length=i:=by simp [aW,Nat.min_eq_left hi]
 repeat' (first
  | refine af ?_ ?_
  | (refine aa 8 rfl ?_;refine bc (ak rfl rfl (aI rfl rfl) (aO [⟨1,(l[i]'(by omega)).proc,n,(l[i]'(by omega)).am⟩] rfl rfl rfl rfl) rfl aJ aJ) rfl rfl rfl ?_)
  | refine en ?_
  | exact ah|refine ae fun hb=>?_)
 ·refine ⟨i+1,by omega,by omega,?_⟩
  have e:aW n (l.take (i+1))=aW n (l.take i)++[⟨1,(l[i]'(by omega)).proc,n,(l[i]'(by omega)).am⟩]:=by
   unfold aW
   rw [List.take_succ_eq_append_getElem (by omega),List.map_append]
   rfl
  rw [e]
  exact ap (qf [(1000,27)])
 ·have e:aW n (l.take i)=aW n l:=by rw [List.take_of_length_le (by omega)]
  rw [←e]
  refine aP (qf []) ?_;exact ab
theorem og (t:List Qu) (i:Nat) (q:Qu) (hi:i<t.length) (hl:t.length≤100000):FSpec prog 229 [.one (.sl lX t),.one (.sc (.int .i64 i)),q.a] [] [] (.c (.sl lX (t.set i q))) []:=by
 refine bJ func229 ?_
 repeat' (first
  | refine af ?_ ?_
  | refine en ?_
  | (refine aa 4 rfl ?_;refine bW (aL (z:=q) rfl rfl rfl rfl (by first|assumption|exact List.getElem?_eq_getElem (by omega)) rfl rfl rfl rfl (Nat.le_of_ble_eq_true rfl) rfl rfl) rfl rfl rfl ?_)
  | exact ah|refine ae fun hb=>?_
  | (refine aP (qf []) ?_;exact ab))
def Mu (p:Option Pr) (x:Pr):Bool:=match p with|none=>true|some y=>decide (dw y x<0)
def M1 (x:Nd):Bool:=fo x.proc && oO x.expr && decide (0≤x.gen) && decide (x.gen≤1073741824)
def K2:Option Pr→List Nd→Bool
 | _,[]=>true
 | p,x :: l=>M1 x && Mu p x.proc && K2 (some x.proc) l
def sk (s:Ws):Bool:=eU s.queues && decide (s.needs.length≤8) && K2 none s.needs && decide ((Dw s).length≤8)
def Nd.val (x:Nd) (A:Option Addr) (cap:Nat):Value:=.agg #[.int .i64 x.proc.site,.int .i64 x.proc.inc,.int .i64 x.proc.num,.int .i64 x.expr.k,.string x.expr.atom.name,.int .i64 x.expr.atom.am.mode,.int .i64 x.expr.atom.am.units,.slice A x.expr.kids.length cap,.int .i64 x.gen]
end Go.Proofs.YtdaajdflefnjfaaGreat
