/- Part 4 of 24 of the proof of rollbackOptions_holds (no condition). -/
import Derived.Test.YtdaajdflefnjfaaGreatK03
import Derived.Lib.SlicesCompact
import Derived.Sort.LotA
import Derived.Deep.RegionLaw
set_option linter.unusedVariables false
set_option linter.unusedSimpArgs false
set_option maxRecDepth 100000
set_option maxHeartbeats 64000000
namespace Go.Proofs.YtdaajdflefnjfaaGreat
open Go.RowKit Go.Proofs.Tryz
theorem oW (p:Pr):∀(l:List Wt) (k:Nat),(fQ p k l = -1∧fK l p=none)∨∃i,∃h:i<l.length,fQ p k l=((k+i:Nat):Int)∧fK l p=some l[i].am
 | [],k=>Or.inl ⟨rfl,rfl⟩
 | x :: l,k=>by
  rw [fd,b9]
  cases decide (x.proc=p) with
  | true=>exact Or.inr ⟨0,by simp,rfl,rfl⟩
  | false =>
   rcases oW p l (k+1) with ⟨h1,h2⟩|⟨i,hi,h1,h2⟩
   ·exact Or.inl ⟨h1,h2⟩
   ·exact Or.inr ⟨i+1,by simpa using hi,by simp only [cond_false];rw [h1];congr 1;omega,by simpa using h2⟩
theorem pW (p:Pr):∀(l l':List Wt),fK (l++l') p=match fK l p with|some a=>some a|none=>fK l' p
 | [],l'=>rfl
 | x :: l,l'=>by
  rw [List.cons_append,b9,b9,pW p l l']
  cases decide (x.proc=p) <;> rfl
theorem uS (q:Qu) (A1 A2 A3:Option Addr) (c1 c2 c3:Nat) (x y z:Int) (w:World) (B:Nat) (hq:QF w B A1 A2 A3 q) :
  Calls prog 162 #[q.val A1 A2 A3 c1 c2 c3,.agg #[.int .i64 x,.int .i64 y,.int .i64 z]] w (gV w (AC (ai q ⟨x,y,z⟩))):=by
 have HF2:=Lib.hid (fun W (hb:Below w.heap.size w W)=>ig A2 B c2 q.convs x y z W hq.m2 (Nat.le_trans hq.hB hb.size) (hq.r2.below hb hq.hB (Nat.le_refl _)))
 have HF3:=Lib.hid (fun W (hb:Below w.heap.size w W)=>ig A3 B c3 q.waits x y z W hq.m3 (Nat.le_trans hq.hB hb.size) (hq.r3.below hb hq.hB (Nat.le_refl _)))
 have HW:Hid (AC (ai q ⟨x,y,z⟩)=AC (match fK q.convs ⟨x,y,z⟩ with|some a=>some a|none=>fK q.waits ⟨x,y,z⟩)):=Lib.hid (by unfold ai;rw [pW])
 have HQF:=Lib.hid hq
 have hm2:=hq.m2
 have hm3:=hq.m3
 unfold maxLen at hm2 hm3
 clear hq
 generalize AC (ai q ⟨x,y,z⟩)=R at *
 obtain ⟨⟨nm,kd,un,h⟩,hs,cs,ws,gen⟩:=q
 unfold Qu.val at *
 dsimp only at HF2 HF3 HW HQF hm2 hm3 ⊢
 have HPX:Hid (Blk (((w.alloc (.cells #[.string nm,.int .i64 kd,.int .i64 un,.int .i64 h,.slice A1 hs.length c1,.slice A2 cs.length c2,.slice A3 ws.length c3,.int .i64 gen] 165)).alloc (.cells #[.int .i64 x,.int .i64 y,.int .i64 z] 23)).alloc (.cells #[.int .i64 0,.int .i64 0] 29)) (w.heap.size+1) 23 #[.int .i64 x,.int .i64 y,.int .i64 z]):=Lib.hid ((by have:=Blk.new (w.alloc (.cells #[.string nm,.int .i64 kd,.int .i64 un,.int .i64 h,.slice A1 hs.length c1,.slice A2 cs.length c2,.slice A3 ws.length c3,.int .i64 gen] 165)) 23 #[.int .i64 x,.int .i64 y,.int .i64 z];simpa using this:Blk _ (w.heap.size+1) 23 #[.int .i64 x,.int .i64 y,.int .i64 z]).alloc _)
 have HAX:Hid (Blk (((w.alloc (.cells #[.string nm,.int .i64 kd,.int .i64 un,.int .i64 h,.slice A1 hs.length c1,.slice A2 cs.length c2,.slice A3 ws.length c3,.int .i64 gen] 165)).alloc (.cells #[.int .i64 x,.int .i64 y,.int .i64 z] 23)).alloc (.cells #[.int .i64 0,.int .i64 0] 29)) (w.heap.size+1+1) 29 #[.int .i64 0,.int .i64 0]):=Lib.hid (by have:=Blk.new ((w.alloc (.cells #[.string nm,.int .i64 kd,.int .i64 un,.int .i64 h,.slice A1 hs.length c1,.slice A2 cs.length c2,.slice A3 ws.length c3,.int .i64 gen] 165)).alloc (.cells #[.int .i64 x,.int .i64 y,.int .i64 z] 23)) 29 #[.int .i64 0,.int .i64 0];simpa using this)
 rcases oW ⟨x,y,z⟩ cs 0 with ⟨hf,hg⟩|⟨i,hi,hf,hg⟩
 ·rw [hg] at HW
  have hf':cq cs ⟨x,y,z⟩ = -1:=hf
  rw [hf'] at HF2
  rcases oW ⟨x,y,z⟩ ws 0 with ⟨hf3,hg3⟩|⟨i,hi,hf3,hg3⟩
  ·dsimp only at HW
   rw [hg3] at HW
   have hf3':cq ws ⟨x,y,z⟩ = -1:=hf3
   rw [hf3'] at HF3
   have HS:Hid (R = .tuple #[.agg #[.int .i64 0,.int .i64 0],.bool false]):=Lib.hid HW.out
   clear hf hg hf' hf3 hg3 hf3'
   go_enter func162,ntmps162
   go_wp2_with fail
   refine (HF2.out _ aw).mono ?_
   rintro e w1 ⟨rfl,hb1⟩
   obtain ⟨hc_w1,hf_w1⟩:=bh hb1
   have hs_w1:=hb1.size
   (try simp at hs_w1)
   have hz_w1_0:w.heap.size<w1.heap.size:=(by omega)
   have hz_w1_1:w.heap.size+1<w1.heap.size:=(by omega)
   have hz_w1_2:w.heap.size+1+1<w1.heap.size:=(by omega)
   clear hs_w1
   have HB1:=Lib.hid hb1
   clear hb1
   go_wp2_with fail
   refine (HF3.out _ aw).mono ?_
   rintro e w2 ⟨rfl,hb2⟩
   obtain ⟨hc_w2,hf_w2⟩:=bh hb2
   have hs_w2:=hb2.size
   (try simp at hs_w2)
   have hz_w2_0:w.heap.size<w2.heap.size:=(by omega)
   have hz_w2_1:w.heap.size+1<w2.heap.size:=(by omega)
   have hz_w2_2:w.heap.size+1+1<w2.heap.size:=(by omega)
   clear hs_w2
   have HB2:=Lib.hid hb2
   clear hb2
   go_wp2_with fail
   refine bodyPost_ret_by (v:=R) ?_ rfl ⟨rfl,by exact aw⟩
   rw [results_cell_tmp rfl,HS.out]
   go_simp
  ·dsimp only at HW
   rw [hg3] at HW
   rw [Nat.zero_add] at hf3
   have hf3':cq ws ⟨x,y,z⟩=(i:Int):=hf3
   rw [hf3'] at HF3
   obtain ⟨⟨⟨a,b,c⟩,⟨m,u⟩,pr,pa⟩,hx⟩:∃x,ws[i]=x:=⟨_,rfl⟩
   rw [hx] at HW
   have HS:Hid (R = .tuple #[.agg #[.int .i64 m,.int .i64 u],.bool true]):=Lib.hid HW.out
   have HX:=Lib.hid hx
   have hii:(i:Int)<(ws.length:Int):=by omega
   clear hf hg hf' hf3 hg3 hf3' hx
   go_enter func162,ntmps162
   go_wp2_with fail
   refine (HF2.out _ aw).mono ?_
   rintro e w1 ⟨rfl,hb1⟩
   obtain ⟨hc_w1,hf_w1⟩:=bh hb1
   have hs_w1:=hb1.size
   (try simp at hs_w1)
   have hz_w1_0:w.heap.size<w1.heap.size:=(by omega)
   have hz_w1_1:w.heap.size+1<w1.heap.size:=(by omega)
   have hz_w1_2:w.heap.size+1+1<w1.heap.size:=(by omega)
   clear hs_w1
   have HB1:=Lib.hid hb1
   clear hb1
   go_wp2_with fail
   refine (HF3.out _ aw).mono ?_
   rintro e w2 ⟨rfl,hb2⟩
   obtain ⟨hc_w2,hf_w2⟩:=bh hb2
   have hs_w2:=hb2.size
   (try simp at hs_w2)
   have hz_w2_0:w.heap.size<w2.heap.size:=(by omega)
   have hz_w2_1:w.heap.size+1<w2.heap.size:=(by omega)
   have hz_w2_2:w.heap.size+1+1<w2.heap.size:=(by omega)
   clear hs_w2
   have HB2:=Lib.hid hb2
   clear hb2
   have HBW2:Hid (Below w.heap.size w w2):=Lib.hid aw
   obtain ⟨g,off,rfl,hbl,d0,d1,d2,d3,d4,d5,d6⟩:=dC (HQF.out.r3.below (B'':=w.heap.size) HBW2.out HQF.out.hB HQF.out.hB) hi HX.out
   have hgl:g<w2.heap.size:=Nat.lt_of_lt_of_le hbl HBW2.out.size
   clear hbl
   go_wp2_with fail
   refine bodyPost_ret_by (v:=R) ?_ rfl ⟨rfl,by exact aw⟩
   rw [results_cell_tmp rfl,HS.out]
   go_simp
 ·rw [hg] at HW
  rw [Nat.zero_add] at hf
  have hf':cq cs ⟨x,y,z⟩=(i:Int):=hf
  rw [hf'] at HF2
  obtain ⟨⟨⟨a,b,c⟩,⟨m,u⟩,pr,pa⟩,hx⟩:∃x,cs[i]=x:=⟨_,rfl⟩
  rw [hx] at HW
  have HS:Hid (R = .tuple #[.agg #[.int .i64 m,.int .i64 u],.bool true]):=Lib.hid HW.out
  have HX:=Lib.hid hx
  have hii:(i:Int)<(cs.length:Int):=by omega
  clear hf hg hf' hx
  go_enter func162,ntmps162
  go_wp2_with fail
  refine (HF2.out _ aw).mono ?_
  rintro e w1 ⟨rfl,hb1⟩
  obtain ⟨hc_w1,hf_w1⟩:=bh hb1
  have hs_w1:=hb1.size
  (try simp at hs_w1)
  have hz_w1_0:w.heap.size<w1.heap.size:=(by omega)
  have hz_w1_1:w.heap.size+1<w1.heap.size:=(by omega)
  have hz_w1_2:w.heap.size+1+1<w1.heap.size:=(by omega)
  clear hs_w1
  have HB1:=Lib.hid hb1
  clear hb1
  have HBW2:Hid (Below w.heap.size w w1):=Lib.hid aw
  obtain ⟨g,off,rfl,hbl,d0,d1,d2,d3,d4,d5,d6⟩:=dC (HQF.out.r2.below (B'':=w.heap.size) HBW2.out HQF.out.hB HQF.out.hB) hi HX.out
  have hgl:g<w1.heap.size:=Nat.lt_of_lt_of_le hbl HBW2.out.size
  clear hbl
  go_wp2_with fail
  refine bodyPost_ret_by (v:=R) ?_ rfl ⟨rfl,by exact aw⟩
  rw [results_cell_tmp rfl,HS.out]
  go_simp
theorem wO (q:Qu) (A1 A2 A3:Option Addr) (c1 c2 c3:Nat) (w:World) (B:Nat) (hq:QF w B A1 A2 A3 q) (h8:q.convs.length≤8) (h8':q.waits.length≤8) :
  Calls prog 222 #[q.val A1 A2 A3 c1 c2 c3] w (fP nu 23 w (ri q)):=by
 have HQF:=Lib.hid hq
 have HOL:Hid (ri q=bC (q.convs++q.waits)):=Lib.hid rfl
 clear hq
 generalize ri q=R at *
 obtain ⟨⟨nm,kd,un,h⟩,hs,cs,ws,gen⟩:=q
 unfold Qu.val at *
 dsimp only at HQF HOL h8 h8' ⊢
 have HX0:=Lib.hid (BoxQ.made (w:=w) (nm:=nm) (kd:=kd) (un:=un) (h:=h) (A1:=A1) (n1:=hs.length) (c1:=c1) (A2:=A2) (n2:=cs.length) (c2:=c2) (A3:=A3) (n3:=ws.length) (c3:=c3) (gen:=gen))
 obtain ⟨W0,hW0⟩:∃W,W=(w.alloc (.cells #[.string nm,.int .i64 kd,.int .i64 un,.int .i64 h,.slice A1 hs.length c1,.slice A2 cs.length c2,.slice A3 ws.length c3,.int .i64 gen] 165)):=⟨_,rfl⟩
 rw [←hW0] at HX0
 have HW0:=Lib.hid hW0
 have hws:w.heap.size≤W0.heap.size:=by rw [hW0];simp
 clear hW0
 go_enter func222,ntmps222
 go_wp2_with fail
 go_loopg [3,4] cs.length (fun m0 v3 v4 wq=>∃k:Nat,v4 = .int .i64 (k:Int)∧k≤cs.length∧cs.length≤k+m0∧Hid (OwnRows nu 23 wq W0.heap.size v3 (bC (cs.take k)))∧Hid (Below W0.heap.size W0 wq))
 case atStart=>exact ⟨0,rfl,Nat.zero_le _,by omega,Lib.hid (OwnRows.nil _ _ _ _ (by rw [HW0.out];exact Nat.le_refl _)),Lib.hid (by rw [HW0.out];exact Below.refl _ _)⟩
 case round =>
  obtain ⟨k,rfl,hk,hkm,HO,HB⟩:=hrel
  have HX:=Lib.hid (HX0.out.next HB.out)
  have HBW:Hid (Below w.heap.size w wr):=Lib.hid HX.out.below
  obtain ⟨q0,q1,q2,q3,q4,q5,q6,q7,ql⟩:=HX.out.cel
  by_cases hlt:k<cs.length
  ·obtain ⟨⟨⟨a,b,c⟩,⟨m,u⟩,pr,pa⟩,hx⟩:∃x,cs[k]=x:=⟨_,rfl⟩
   obtain ⟨g,off,rfl,hbl,d0,d1,d2,d3,d4,d5,d6⟩:=dC (HQF.out.r2.below (B'':=w.heap.size) HBW.out HQF.out.hB HQF.out.hB) hlt hx
   have hbl2:g<wr.heap.size:=Nat.lt_of_lt_of_le hbl HBW.out.size
   have hlti:(k:Int)<(cs.length:Int):=by omega
   have HE:Hid (bC (cs.take (k))++[⟨a,b,c⟩]=bC (cs.take (k+1))):=Lib.hid (by unfold bC;rw [List.take_add_one,List.getElem?_eq_getElem hlt,hx];simp)
   have HL:Hid ((bC (cs.take (k))).length≤16):=Lib.hid (by simp [bC];omega)
   clear hx hbl
   go_wp2_with (at_builtin;refine dd BH rfl (.tmp 13) (.tmp 20) rfl wr W0.heap.size u3 _ ⟨a,b,c⟩ [.int .i64 a,.int .i64 b,.int .i64 c] _ rfl rfl HO.out wr.heap.size rfl rfl rfl (by have:=HL.out;unfold maxLen;omega) (by have:=HL.out;omega) ?_;intro v7 w7 hown7 hb7 hsp7;have HB7:Hid (Below W0.heap.size W0 w7):=Lib.hid (HB.out.trans hb7);have HO7:=Lib.hid hown7;clear hown7 hb7 hsp7)
   rw [HE.out] at HO7
   go_roundg (gk-1)
   case measure=>omega
   case rel=>exact ⟨k+1,by go_num,by omega,by omega,HO7,HB7⟩
  ·have hlti:¬(k:Int)<(cs.length:Int):=by omega
   have HE:Hid (bC (cs.take k)=bC (cs++ws.take 0)):=Lib.hid (by rw [List.take_of_length_le (by omega)];simp)
   rw [HE.out] at HO
   obtain ⟨G,hG⟩:∃G,G=gk:=⟨_,rfl⟩
   subst hG
   obtain ⟨wo,hwo⟩:∃x,x=wr:=⟨_,rfl⟩
   subst hwo
   go_wp2_with fail
   clear q0 q1 q2 q3 q4 q5 q6 q7 ql
   go_loopg [3,5] ws.length (fun m0 v3 v5 wq=>∃k:Nat,v5 = .int .i64 (k:Int)∧k≤ws.length∧ws.length≤k+m0∧Hid (OwnRows nu 23 wq W0.heap.size v3 (bC (cs++ws.take k)))∧Hid (Below W0.heap.size W0 wq))
   case atStart=>exact ⟨0,rfl,Nat.zero_le _,by omega,HO,HB⟩
   case round =>
    clear HO HB HX HBW hk hkm hlt hlti HE
    obtain ⟨j,rfl,hk,hkm,HO,HB⟩:=hrel
    have HX:=Lib.hid (HX0.out.next HB.out)
    have HBW:Hid (Below w.heap.size w wr):=Lib.hid HX.out.below
    obtain ⟨q0,q1,q2,q3,q4,q5,q6,q7,ql⟩:=HX.out.cel
    by_cases hlt:j<ws.length
    ·obtain ⟨⟨⟨a,b,c⟩,⟨m,u⟩,pr,pa⟩,hx⟩:∃x,ws[j]=x:=⟨_,rfl⟩
     obtain ⟨g,off,rfl,hbl,d0,d1,d2,d3,d4,d5,d6⟩:=dC (HQF.out.r3.below (B'':=w.heap.size) HBW.out HQF.out.hB HQF.out.hB) hlt hx
     have hbl2:g<wr.heap.size:=Nat.lt_of_lt_of_le hbl HBW.out.size
     have hlti:(j:Int)<(ws.length:Int):=by omega
     have HE:Hid (bC (cs++ws.take (j))++[⟨a,b,c⟩]=bC (cs++ws.take (j+1))):=Lib.hid (by unfold bC;rw [List.take_add_one,List.getElem?_eq_getElem hlt,hx];simp)
     have HL:Hid ((bC (cs++ws.take (j))).length≤16):=Lib.hid (by simp [bC];omega)
     clear hx hbl
     go_wp2_with (at_builtin;refine dd BH rfl (.tmp 29) (.tmp 36) rfl wr W0.heap.size u3 _ ⟨a,b,c⟩ [.int .i64 a,.int .i64 b,.int .i64 c] _ rfl rfl HO.out wr.heap.size rfl rfl rfl (by have:=HL.out;unfold maxLen;omega) (by have:=HL.out;omega) ?_;intro v7 w7 hown7 hb7 hsp7;have HB7:Hid (Below W0.heap.size W0 w7):=Lib.hid (HB.out.trans hb7);have HO7:=Lib.hid hown7;clear hown7 hb7 hsp7)
     rw [HE.out] at HO7
     go_roundg (gk-1)
     case measure=>omega
     case rel=>exact ⟨j+1,by go_num,by omega,by omega,HO7,HB7⟩
    ·have hlti:¬(j:Int)<(ws.length:Int):=by omega
     have HE:Hid (bC (cs++ws.take j)=R):=Lib.hid (by rw [List.take_of_length_le (by omega),HOL.out])
     rw [HE.out] at HO
     go_wp2_with fail
     go_ret
     exact ⟨_,rfl,HO.out.older hws,HBW.out⟩
theorem wP (A:Option Addr) (B cap:Nat) (l:List Ho) (w:World) (hm:l.length≤68719476736) (hB:B≤w.heap.size) (hr:RowsAt oM w (Lo B) A l) :
  Calls prog 221 #[.slice A l.length cap] w (fP nu 23 w (dx l)):=by
 have HR:=Lib.hid hr
 clear hr
 go_enter func221,ntmps221
 go_wp2_with fail
 go_loopg [3,4] l.length (fun m v3 v4 wq=>∃k:Nat,v4 = .int .i64 (k:Int)∧k≤l.length∧l.length≤k+m∧Hid (OwnRows nu 23 wq w.heap.size v3 (dx (l.take k)))∧Hid (Below w.heap.size w wq))
 case atStart=>exact ⟨0,rfl,Nat.zero_le _,by omega,Lib.hid (OwnRows.nil _ _ _ _ (Nat.le_refl _)),Lib.hid (Below.refl _ _)⟩
 case round =>
  obtain ⟨k,rfl,hk,hkm,HO,HB⟩:=hrel
  by_cases hlt:k<l.length
  ·obtain ⟨⟨⟨a,b,c⟩,⟨m,u⟩⟩,hx⟩:∃x,l[k]=x:=⟨_,rfl⟩
   obtain ⟨g,off,rfl,hbl,c0,c1,c2,c3,c4⟩:=fq (HR.out.below (B'':=w.heap.size) HB.out hB hB) hlt hx
   have hbl2:g<wr.heap.size:=Nat.lt_of_lt_of_le hbl HB.out.size
   have hlti:(k:Int)<(l.length:Int):=by omega
   have HE:Hid (dx (l.take k)++[⟨a,b,c⟩]=dx (l.take (k+1))):=Lib.hid (by unfold dx;rw [List.take_add_one,List.map_append,List.getElem?_eq_getElem hlt,hx];rfl)
   have HL:Hid ((dx (l.take k)).length=k):=Lib.hid (by simp [dx];omega)
   clear hx hbl
   go_wp2_with (at_builtin;refine dd BH rfl (.tmp 11) (.tmp 17) rfl wr w.heap.size u3 _ ⟨a,b,c⟩ [.int .i64 a,.int .i64 b,.int .i64 c] _ rfl rfl HO.out wr.heap.size rfl rfl rfl (by rw [HL.out];unfold maxLen;omega) (by rw [HL.out];omega) ?_;intro v7 w7 hown7 hb7 hsp7;have HB7:Hid (Below w.heap.size w w7):=Lib.hid (HB.out.trans hb7);have HO7:=Lib.hid hown7;clear hown7 hb7 hsp7)
   rw [HE.out] at HO7
   go_roundg (gk-1)
   case measure=>omega
   case rel=>exact ⟨k+1,by go_num,by omega,by omega,HO7,HB7⟩
  ·have HE:Hid (dx (l.take k)=dx l):=Lib.hid (by rw [List.take_of_length_le (by omega)])
   rw [HE.out] at HO
   go_wp2_with fail
   go_ret
   exact ⟨_,rfl,HO.out,HB.out⟩
instance:Inhabited Pr:=⟨jV⟩
theorem jw (p q:Pr):f8 p q∨p=q∨f8 q p:=by
 rcases dV p q with ⟨h,_⟩|⟨h,_⟩|⟨h,_⟩
 ·exact Or.inl h
 ·exact Or.inr (Or.inl h)
 ·exact Or.inr (Or.inr h)
theorem lL (p q:Pr):dw p q<0↔f8 p q:=by
 rcases dV p q with ⟨h,e⟩|⟨h,e⟩|⟨h,e⟩ <;> rw [e]
 ·exact ⟨fun _=>h,fun _=>by decide⟩
 ·subst h;exact ⟨fun c=>absurd c (by decide),fun c=>absurd c (bH _)⟩
 ·exact ⟨fun c=>absurd c (by decide),fun c=>absurd h (lK c)⟩
def Dj (l:List Pr):Prop:=l.Pairwise f8
theorem kK (d:Array Pr):∀m x,x∈Go.Lib.compactUpTo d m↔∃j,j<m∧d[j]! = x
 | 0,x=>by simp [Go.Lib.compactUpTo]
 | m+1,x=>by
  rw [Go.Lib.compactUpTo_succ,List.mem_append,kK d m x]
  by_cases h:Go.Lib.keeps d m=true
  ·rw [if_pos h,List.mem_singleton]
   constructor
   ·rintro (⟨j,hj,e⟩|e)
    ·exact ⟨j,by omega,e⟩
    ·exact ⟨m,by omega,e.symm⟩
   ·rintro ⟨j,hj,e⟩
    rcases Nat.lt_or_ge j m with h1|h1
    ·exact Or.inl ⟨j,h1,e⟩
    ·have:j=m:=by omega
     subst this
     exact Or.inr e.symm
  ·rw [if_neg h]
   have hk:¬(m=0∨d[m]!≠d[m-1]!):=by simpa [Go.Lib.keeps] using h
   have h0:m≠0:=fun e=>hk (Or.inl e)
   have he:d[m]! = d[m-1]!:=Classical.byContradiction fun e=>hk (Or.inr e)
   constructor
   ·rintro (⟨j,hj,e⟩|e)
    ·exact ⟨j,by omega,e⟩
    ·cases e
   ·rintro ⟨j,hj,e⟩
    rcases Nat.lt_or_ge j m with h1|h1
    ·exact Or.inl ⟨j,h1,e⟩
    ·have:j=m:=by omega
     subst this
     exact Or.inl ⟨j-1,by omega,he.symm.trans e⟩
theorem pX (d:Array Pr) (hs:∀i j,i<j→j<d.size→¬f8 d[j]! d[i]!):∀m,m≤d.size→Dj (Go.Lib.compactUpTo d m)
 | 0,_=>by simp [Go.Lib.compactUpTo,Dj]
 | m+1,hm=>by
  have ih:=pX d hs m (by omega)
  rw [Go.Lib.compactUpTo_succ]
  by_cases h:Go.Lib.keeps d m=true
  ·rw [if_pos h]
   unfold Dj at *
   rw [List.pairwise_append]
   refine ⟨ih,by simp,fun x hx y hy=>?_⟩
   rw [List.mem_singleton.1 hy]
   obtain ⟨j,hj,rfl⟩:=(kK d m x).1 hx
   have hk:m=0∨d[m]!≠d[m-1]!:=by simpa [Go.Lib.keeps] using h
   have hne:d[m]!≠d[m-1]!:=hk.resolve_left (by omega)
   rcases jw d[j]! d[m]! with h1|h1|h1
   ·exact h1
   ·exfalso
    have a1:¬f8 d[m]! d[m-1]!:=hs (m-1) m (by omega) (by omega)
    rcases Nat.lt_or_ge j (m-1) with h2|h2
    ·have a2:=hs j (m-1) h2 (by omega)
     rw [h1] at a2
     rcases jw d[m]! d[m-1]! with h3|h3|h3
     ·exact a1 h3
     ·exact hne h3
     ·exact a2 h3
    ·have:j=m-1:=by omega
     subst this
     exact hne h1.symm
   ·exact absurd h1 (hs j m hj (by omega))
  ·rw [if_neg h,List.append_nil]
   exact ih
def ce (l:List Pr):List Pr:=Go.Lib.compact (l.mergeSort fun x y=>!decide (dw y x<0))
theorem cb (l:List Pr) (x:Pr):x∈ce l↔x∈l:=by
 unfold ce Go.Lib.compact
 rw [kK]
 have hp:=List.mergeSort_perm l fun x y=>!decide (dw y x<0)
 rw [←hp.mem_iff]
 constructor
 ·rintro ⟨j,hj,rfl⟩
  rw [getElem!_pos _ j (by simpa using hj)]
  simp
 ·intro h
  obtain ⟨j,hj,rfl⟩:=List.getElem_of_mem h
  exact ⟨j,hj,by rw [getElem!_pos _ j (by simpa using hj)];simp⟩
theorem gX (l:List Pr):Dj (ce l):=by
 unfold ce Go.Lib.compact
 have hp:(l.mergeSort fun x y=>!decide (dw y x<0)).Pairwise fun x y=>(!decide (dw y x<0))=true:=by
  apply List.pairwise_mergeSort
  ·intro a b c h1 h2
   simp only [Bool.not_eq_true',decide_eq_false_iff_not,lL] at *
   intro h3
   rcases jw b c with h|h|h
   ·exact h1 (da h h3)
   ·subst h;exact h1 h3
   ·exact h2 h
  ·intro a b
   simp only [Bool.or_eq_true,Bool.not_eq_true',decide_eq_false_iff_not,lL]
   rcases jw a b with h|h|h
   ·exact Or.inl (lK h)
   ·subst h;exact Or.inl (bH _)
   ·exact Or.inr (lK h)
 generalize (l.mergeSort fun x y=>!decide (dw y x<0))=M at *
 refine pX _ ?_ _ (by simp)
 intro i j hij hj
 have hj':j<M.length:=by simpa using hj
 rw [getElem!_pos _ j hj,getElem!_pos _ i (by omega)]
 have:=List.pairwise_iff_getElem.1 hp i j (by omega) hj' hij
 simp only [Bool.not_eq_true',decide_eq_false_iff_not,lL] at this
 simpa using this
theorem oX (l:List Pr):(ce l).length≤l.length:=by
 unfold ce Go.Lib.compact Go.Lib.compactUpTo
 rw [List.length_map]
 refine Nat.le_trans (List.length_filter_le _ _) ?_
 simp
theorem uT:∀{l l':List Pr},Dj l→Dj l'→(∀x,x∈l↔x∈l')→l=l'
 | [],[],_,_,_=>rfl
 | [],y :: l',_,_,h=>absurd ((h y).2 (by simp)) (by simp)
 | x :: l,[],_,_,h=>absurd ((h x).1 (by simp)) (by simp)
 | x :: l,y :: l',ha,hb,h=>by
  unfold Dj at ha hb
  rw [List.pairwise_cons] at ha hb
  have hxy:x=y:=by
   rcases List.mem_cons.1 ((h x).1 (by simp)) with e|e
   ·exact e
   ·rcases List.mem_cons.1 ((h y).2 (by simp)) with e'|e'
    ·exact e'.symm
    ·exact absurd (da (hb.1 x e) (ha.1 y e')) (bH _)
  subst hxy
  rw [uT (l:=l) (l':=l') ha.2 hb.2 fun z=>⟨fun hz=>?_,fun hz=>?_⟩]
  ·rcases List.mem_cons.1 ((h z).1 (List.mem_cons_of_mem _ hz)) with e|e
   ·subst e;exact absurd (ha.1 z hz) (bH _)
   ·exact e
  ·rcases List.mem_cons.1 ((h z).2 (List.mem_cons_of_mem _ hz)) with e|e
   ·subst e;exact absurd (hb.1 z hz) (bH _)
   ·exact e
def fL (x:Pr) (L:List Pr) (k:Nat):List Pr:=L.take k++x :: L.drop k
theorem df (x:Pr) (L:List Pr) (k:Nat):(fL x L k).length=L.length+1:=by
 unfold fL
 rw [List.length_append,List.length_cons,List.length_take,List.length_drop]
 omega
theorem Dk (x:Pr) (L:List Pr) (k:Nat) (y:Pr):y∈fL x L k↔y=x∨y∈L:=by
 unfold fL
 rw [List.mem_append,List.mem_cons]
 have:y∈L↔y∈L.take k∨y∈L.drop k:=by rw [←List.mem_append,List.take_append_drop]
 rw [this]
 constructor
 ·rintro (h|h|h)
  ·exact Or.inr (Or.inl h)
  ·exact Or.inl h
  ·exact Or.inr (Or.inr h)
 ·rintro (h|h|h)
  ·exact Or.inr (Or.inl h)
  ·exact Or.inl h
  ·exact Or.inr (Or.inr h)
theorem Dl {x:Pr} {L:List Pr} {k:Nat} (ha:Dj L) (hk:k≤L.length) (hd:∀y∈L.drop k,f8 x y) (ht:k=0∨∃h:k-1<L.length,f8 L[k-1] x):Dj (fL x L k):=by
 unfold fL Dj at *
 rw [List.pairwise_append]
 refine ⟨ha.sublist (List.take_sublist _ _),List.pairwise_cons.2 ⟨hd,ha.sublist (List.drop_sublist _ _)⟩,fun a h1 b h2=>?_⟩
 have hax:f8 a x:=by
  obtain ⟨i,hi,rfl⟩:=List.getElem_of_mem h1
  rw [List.length_take] at hi
  rcases ht with rfl|⟨h,hlt⟩
  ·omega
  ·rw [List.getElem_take]
   rcases Nat.lt_or_ge i (k-1) with h3|h3
   ·exact da (List.pairwise_iff_getElem.1 ha i (k-1) (by omega) (by omega) h3) hlt
   ·have:i=k-1:=by omega
    subst this
    exact hlt
 rcases List.mem_cons.1 h2 with rfl|h2
 ·exact hax
 ·exact da hax (hd b h2)
theorem BO {l:List Pr} {x:Pr} {k j:Nat} (hk:k<l.length) (hx:l[k]=x) (hj:j≤(ce (l.take k)).length) (hd:∀y∈(ce (l.take k)).drop j,f8 x y) (ht:j=0∨∃h:j-1<(ce (l.take k)).length,f8 (ce (l.take k))[j-1] x) :
  fL x (ce (l.take k)) j=ce (l.take (k+1)):=by
 refine uT (Dl (gX _) hj hd ht) (gX _) fun y=>?_
 rw [Dk,cb,cb,List.take_add_one,List.getElem?_eq_getElem hk,hx]
 simp [or_comm]
theorem BP {l:List Pr} {x:Pr} {k:Nat} (hk:k<l.length) (hx:l[k]=x) (hm:x∈ce (l.take k)):ce (l.take k)=ce (l.take (k+1)):=by
 refine uT (gX _) (gX _) fun y=>?_
 rw [cb] at hm
 rw [cb,cb,List.take_add_one,List.getElem?_eq_getElem hk,hx]
 simp only [Option.toList_some,List.mem_append,List.mem_singleton]
 constructor
 ·exact Or.inl
 ·rintro (h|rfl)
  ·exact h
  ·exact hm
theorem BQ {x:Pr} {L:List Pr} {j:Nat} (h0:0<j) (hj:j≤L.length):((fL x L j).set (j-1) x).set j (L[j-1]'(by omega))=fL x L (j-1):=by
 obtain ⟨i,rfl⟩:∃i,j=i+1:=⟨j-1,by omega⟩
 simp only [Nat.add_sub_cancel]
 unfold fL
 have hl:(L.take i).length=i:=by rw [List.length_take];omega
 rw [List.take_add_one,List.getElem?_eq_getElem (show i<L.length by omega),List.drop_eq_getElem_cons (show i<L.length by omega)]
 simp only [Option.toList_some,List.append_assoc,List.singleton_append]
 rw [List.set_append_right _ _ (by omega),hl,Nat.sub_self,List.set_cons_zero,List.set_append_right _ _ (by omega),hl]
 simp
theorem AD {x:Pr} {L:List Pr} {j:Nat} (hj:j≤L.length):(fL x L j)[j]'(by rw [df];omega)=x:=by
 unfold fL
 rw [List.getElem_append_right (by rw [List.length_take];omega)]
 simp [List.length_take,Nat.min_eq_left hj]
theorem pY {x:Pr} {L:List Pr} {j:Nat} (h0:0<j) (hj:j≤L.length):(fL x L j)[j-1]'(by rw [df];omega)=L[j-1]'(by omega):=by
 unfold fL
 rw [List.getElem_append_left (by rw [List.length_take];omega),List.getElem_take]
theorem zd {α:Type} {l:List α} {x:α} {k:Nat} (h:k<l.length) (e:l[k]=x):x∈l:=e▸List.getElem_mem h
theorem ze {α:Type} {l:List α} {x:α} (h:∀i (hi:i<l.length),l[i]≠x):x ∉ l:=fun hm=>by
 obtain ⟨i,hi,e⟩:=List.getElem_of_mem hm
 exact h i hi e
theorem Dm (A:Option Addr) (B cap:Nat) (l:List Pr) (p:Pr) (w:World) (hm:l.length≤maxLen) (hB:B≤w.heap.size) (hr:RowsAt nu w (Lo B) A l) :
  Calls prog 169 #[.slice A l.length cap,p.val] w (gV w (.bool (decide (p∈l)))):=by
 unfold maxLen at hm
 have HR:=Lib.hid hr
 obtain ⟨r,hres⟩:∃r,decide (p∈l)=r:=⟨_,rfl⟩
 rw [hres]
 have HRES:=Lib.hid hres
 clear hr hres
 obtain ⟨x,y,z⟩:=p
 unfold Pr.val
 go_enter func169,ntmps169
 go_wp2_with fail
 go_loopg [5] l.length (fun m v wq=>∃k n:Nat,v = .int .i64 (k:Int)∧k≤l.length∧l.length≤k+m∧Hid (∀i (h:i<l.length),i<k→l[i]≠⟨x,y,z⟩)∧wq=(w.alloc (.cells #[.int .i64 x,.int .i64 y,.int .i64 z] 23)).drewN n)
 case atStart=>exact ⟨0,0,rfl,Nat.zero_le _,by omega,Lib.hid (fun _ _ h=>absurd h (by omega)),rfl⟩
 case round =>
  obtain ⟨k,n,rfl,hk,hkm,hall,rfl⟩:=hrel
  by_cases hlt:k<l.length
  ·obtain ⟨⟨a,b,c⟩,hx⟩:∃x,l[k]=x:=⟨_,rfl⟩
   obtain ⟨g,off,rfl,hbl,hc0,hc1,hc2⟩:=ic HR.out hlt hx
   have hbl2:g<w.heap.size:=Nat.lt_of_lt_of_le hbl hB
   have HX:=Lib.hid hx
   have hlti:(k:Int)<(l.length:Int):=by omega
   obtain ⟨_,k2,k3⟩:=wH a b c x y z
   obtain ⟨q,hq⟩:∃q,decide ((⟨a,b,c⟩:Pr)=⟨x,y,z⟩)=q:=⟨_,rfl⟩
   rw [hq] at k2
   have HQ:=Lib.hid hq
   clear hx hq
   cases q with
   | true =>
    have HR1:Hid (r=true):=Lib.hid (by rw [←HRES.out];exact decide_eq_true (zd hlt (HX.out.trans (of_decide_eq_true HQ.out))))
    go_wp2_with fail
    go_quiet (fail)
    go_wp2_with fail
    go_ret
    exact ⟨by rw [HR1.out];rfl,cI (cI ((Below.refl _ _).alloc (Nat.le_refl _) _) _) _⟩
   | false =>
    go_wp2_with fail
    go_quiet (fail)
    go_wp2_with fail
    go_roundg (gk-1)
    case measure=>omega
    case rel=>exact ⟨k+1,_,by go_num,by omega,by omega,Lib.hid (fun i h1 h2=>by
     rcases Nat.lt_or_ge i k with h4|h4
     ·exact hall.out i h1 h4
     ·obtain rfl:i=k:=by omega
      rw [HX.out]
      exact of_decide_eq_false HQ.out),rfl⟩
  ·have HR1:Hid (r=false):=Lib.hid (by rw [←HRES.out];exact decide_eq_false (ze fun i hi=>hall.out i hi (by omega)))
   go_wp2
   go_ret
   exact ⟨by rw [HR1.out];rfl,cI ((Below.refl _ _).alloc (Nat.le_refl _) _) _⟩
theorem lc (A:Option Addr) (B cap:Nat) (l:List Pr) (w:World) (hm:l.length≤1000000) (hB:B≤w.heap.size) (hr:RowsAt nu w (Lo B) A l) :
  Calls prog 120 #[.slice A l.length cap] w (fP nu 23 w (ce l)):=by
 have HR:=Lib.hid hr
 have HH:=Lib.hid (fun A B cap l p W hm hB hr=>Dm A B cap l p W hm hB hr)
 have HC:=Lib.hid (fun p q W=>jt p q W)
 unfold Pr.val at HH HC
 clear hr
 go_enter func120,ntmps120
 go_wp2_with fail
 go_loopg [3,4] l.length (fun m0 v3 v4 wq=>∃k:Nat,v4 = .int .i64 (k:Int)∧k≤l.length∧l.length≤k+m0∧Hid (OwnRows nu 23 wq w.heap.size v3 (ce (l.take k)))∧Hid (Below w.heap.size w wq))
 case atStart=>exact ⟨0,rfl,Nat.zero_le _,by omega,Lib.hid (by have h:ce (l.take 0)=[]:=List.eq_nil_of_length_eq_zero (by have:=oX (l.take 0);simpa using this);rw [h];exact OwnRows.nil _ _ _ _ (Nat.le_refl _)),Lib.hid (Below.refl _ _)⟩
 case round =>
  obtain ⟨k,rfl,hk,hkm,HO,HBL⟩:=hrel
  by_cases hlt:k<l.length
  ·obtain ⟨⟨a,b,c⟩,hx⟩:∃x,l[k]=x:=⟨_,rfl⟩
   obtain ⟨g,off,rfl,hbl,c0,c1,c2⟩:=ic (HR.out.below (B'':=w.heap.size) HBL.out hB hB) hlt hx
   have hgw:g<w.heap.size:=hbl
   have hbl2:g<wr.heap.size:=Nat.lt_of_lt_of_le hbl HBL.out.size
   have hlti:(k:Int)<(l.length:Int):=by omega
   have HLL:Hid ((ce (l.take k)).length≤k):=Lib.hid (by have:=oX (l.take k);rw [List.length_take] at this;omega)
   have HIN:=Lib.hid (fun j hj hd ht=>BO (x:=⟨a,b,c⟩) (j:=j) hlt hx hj hd ht)
   have HHS:=Lib.hid (fun hm=>BP (x:=⟨a,b,c⟩) hlt hx hm)
   have HCL:Hid (∀W,Below w.heap.size w W→W.cell? ⟨g,off+k*3,none⟩=some (.int .i64 a)∧W.cell? ⟨g,off+k*3+1,none⟩=some (.int .i64 b)∧W.cell? ⟨g,off+k*3+2,none⟩=some (.int .i64 c)):=Lib.hid (fun W hb=>by
    obtain ⟨_,_,hA,_,e0,e1,e2⟩:=ic (HR.out.below (B'':=w.heap.size) hb hB hB) hlt hx
    injection hA with hA
    injection hA with ea eb
    subst ea
    subst eb
    exact ⟨e0,e1,e2⟩)
   have HAS:Hid (Dj (ce (l.take k))):=Lib.hid (gX _)
   clear hx hbl
   generalize hL:ce (l.take k)=L at *
   clear hL
   have hll:=HLL.out
   obtain ⟨A3,cap3,rfl,_,hr3,hc3,hcm3⟩:=HO.out.form2
   obtain ⟨q,hq⟩:∃q,decide ((⟨a,b,c⟩:Pr)∈L)=q:=⟨_,rfl⟩
   have HH1:=Lib.hid (HH.out A3 wr.heap.size cap3 L ⟨a,b,c⟩ wr (Nat.le_trans hc3 hcm3) (Nat.le_refl _) hr3)
   rw [hq] at HH1
   have HQ:=Lib.hid hq
   clear hr3 hq
   cases q with
   | true =>
    have HE:Hid (L=ce (l.take (k+1))):=Lib.hid (HHS.out (of_decide_eq_true HQ.out))
    go_wp2_with fail
    refine HH1.out.mono ?_
    rintro e w2 ⟨rfl,hb2⟩
    have HB2:=Lib.hid (Below.tr HBL.out hb2)
    have HO2:Hid (OwnRows nu 23 w2 w.heap.size (.slice A3 L.length cap3) (ce (l.take (k+1)))):=Lib.hid (by have:=HO.out.below (B:=_) hb2 (Nat.le_refl _);rwa [HE.out] at this ⊢)
    clear hb2
    go_wp2_with fail
    go_roundg (gk-1)
    case measure=>omega
    case rel=>exact ⟨k+1,by go_num,by omega,by omega,HO2,HB2⟩
   | false =>
    go_wp2_with fail
    refine HH1.out.mono ?_
    rintro e w2 ⟨rfl,hb2⟩
    have HB2:=Lib.hid (Below.tr HBL.out hb2)
    have HO2:=Lib.hid (HO.out.below (B:=_) hb2 (Nat.le_refl _))
    obtain ⟨e0,e1,e2⟩:=HCL.out w2 HB2.out
    have hgl:g<w2.heap.size:=Nat.lt_of_lt_of_le hgw HB2.out.size
    clear hb2 c0 c1 c2
    obtain ⟨G,hG⟩:∃G,G=gk:=⟨_,rfl⟩
    subst hG
    obtain ⟨wo,hwo⟩:∃x,x=wr:=⟨_,rfl⟩
    subst hwo
    go_wp2_with (at_builtin;refine dd BH rfl (.tmp 21) (.tmp 26) rfl w2 w.heap.size (.slice A3 L.length cap3) L ⟨a,b,c⟩ [.int .i64 a,.int .i64 b,.int .i64 c] _ rfl rfl HO2.out w2.heap.size rfl rfl rfl (by unfold maxLen;omega) (by omega) ?_;intro v7 w7 hown7 hb7 hsp7;have HB7:Hid (Below w.heap.size w w7):=Lib.hid (HB2.out.trans hb7);obtain ⟨g7,cap7,rfl,hg7,hg7',hc7,hc7',_,_⟩:=hown7.addr (by simp);have HO7:=Lib.hid hown7;clear hown7 hb7 hsp7)
    have HST:Hid (OwnRows nu 23 w7 w.heap.size (.slice (some ⟨g7,0,none⟩) (fL ⟨a,b,c⟩ L L.length).length cap7) (fL ⟨a,b,c⟩ L L.length)):=Lib.hid (by
     have h1:=HO7.out
     have h2:fL ⟨a,b,c⟩ L L.length=L++[⟨a,b,c⟩]:=by unfold fL;simp
     rw [h2]
     exact h1)
    clear HO7 HO2 HO HB2 HH1 hc7 e0 e1 e2 hgl
    go_loopg [5] L.length (fun m0 v5 wq=>∃j:Nat,v5 = .int .i64 (j:Int)∧j≤L.length∧j≤m0∧Hid (OwnRows nu 23 wq w.heap.size (.slice (some ⟨g7,0,none⟩) (fL ⟨a,b,c⟩ L j).length cap7) (fL ⟨a,b,c⟩ L j))∧Hid (∀y∈L.drop j,f8 ⟨a,b,c⟩ y)∧Hid (Below w.heap.size w wq))
    case atStart=>exact ⟨L.length,rfl,Nat.le_refl _,Nat.le_refl _,HST,Lib.hid (by simp),HB7⟩
    case round =>
     obtain ⟨j,rfl,hj,hjm,HO,HD,HB⟩:=hrel
     rcases Nat.eq_zero_or_pos j with rfl|hj0
     ·have HE:Hid (fL ⟨a,b,c⟩ L 0=ce (l.take (k+1))):=Lib.hid (HIN.out 0 (Nat.zero_le _) HD.out (Or.inl rfl))
      go_wp2_with fail
      refine aM (by kernel_rfl) (by kernel_rfl) ?_;(repeat (go_big_quiet_step (fail)));refine wpQuiet_nil ?_;rintro w2 ⟨n2,rfl⟩;have hb2:=n2.below;generalize n2.w=w2 at hb2 ⊢;clear n2
      have HB3:Hid (Below w.heap.size w w2):=Lib.hid (Below.tr HB.out hb2)
      have HO3:Hid (OwnRows nu 23 w2 w.heap.size (.slice (some ⟨g7,0,none⟩) (L.length+1) cap7) (ce (l.take (k+1)))):=Lib.hid (by
       have h1:=HO.out.below (B:=_) hb2 (Nat.le_refl _)
       rw [df] at h1
       rwa [HE.out] at h1)
      clear hb2
      go_wp2_with fail
      go_roundg (G-1)
      case measure=>omega
      case rel=>exact ⟨k+1,by go_num,by omega,by omega,HO3,HB3⟩
     ·have hd:decide ((0:Int)<(j:Int))=true:=decide_eq_true (by omega)
      have hd':decide (0<j)=true:=decide_eq_true (by omega)
      have hji:IntKind.i64.wrap ((j:Int)-1)=((j-1:Nat):Int):=by rw [IntWalk.i64_in _ (by omega)];omega
      obtain ⟨⟨a',b',c'⟩,hy⟩:∃y,L[j-1]'(by omega)=y:=⟨_,rfl⟩
      obtain ⟨g',cap',hv,_,hgl7,_,_,hfz,hrow⟩:=HO.out.addr (by rw [df];omega)
      injection hv with e1 e2 e3
      injection e1 with e1
      injection e1 with e1
      subst e1
      subst e3
      obtain ⟨_,_,hA,_,d0,d1,d2⟩:=ic hrow (by rw [df];omega) (AD (x:=⟨a,b,c⟩) hj)
      injection hA with hA
      injection hA with ea eb
      subst ea
      subst eb
      obtain ⟨_,_,hA,_,p0,p1,p2⟩:=ic hrow (by rw [df];omega) ((pY (x:=⟨a,b,c⟩) hj0 hj).trans hy)
      injection hA with hA
      injection hA with ea eb
      subst ea
      subst eb
      simp only [Nat.zero_add] at d0 d1 d2 p0 p1 p2
      have hj1:((j-1:Nat):Int)<(L.length:Int)+1:=by omega
      have hj2:(j:Int)<(L.length:Int)+1:=by omega
      have hj3:j-1<L.length+1:=by omega
      have hj4:j<L.length+1:=by omega
      obtain ⟨n,hn⟩:∃n,dw ⟨a',b',c'⟩ ⟨a,b,c⟩=n:=⟨_,rfl⟩
      have HC1:Hid (∀W,Calls prog 115 #[.agg #[.int .i64 a',.int .i64 b',.int .i64 c'],.agg #[.int .i64 a,.int .i64 b,.int .i64 c]] W (gV W (.int .i64 n))):=Lib.hid (fun W=>hn▸HC.out ⟨a',b',c'⟩ ⟨a,b,c⟩ W)
      have g0:=Ext.cell d0
      have g1:=Ext.cell d1
      have g2:=Ext.cell d2
      have g3:=Ext.cell p0
      have g4:=Ext.cell p1
      have g5:=Ext.cell p2
      have HN:=Lib.hid hn
      have HY:=Lib.hid hy
      have HFZ:=Lib.hid hfz
      have HRW:=Lib.hid hrow
      clear hn hy hfz hrow d0 d1 d2 p0 p1 p2
      by_cases hnn:0<n
      ·have hdn:decide ((0:Int)<n)=true:=decide_eq_true hnn
       go_wp2_with fail
       refine aM (by kernel_rfl) (by kernel_rfl) ?_;(repeat (go_big_quiet_step ((go_at_call 115;exact Ext.call _ (HC1.out _)))));refine wpQuiet_nil ?_;rintro w2 ⟨n2,rfl⟩;have hb2:=n2.below;generalize n2.w=w2 at hb2 ⊢;clear n2
       have HB3:Hid (Below w.heap.size w w2):=Lib.hid (Below.tr HB.out hb2)
       have HO2:=Lib.hid (HO.out.below (B:=_) hb2 (Nat.le_refl _))
       have HO3:=Lib.hid (HO2.out.alloc (.cells #[.int .i64 a',.int .i64 b',.int .i64 c'] 23))
       have hg2:g7<w2.heap.size:=Nat.lt_of_lt_of_le hgl7 hb2.size
       have hne:g7≠w2.heap.size:=by omega
       clear hb2 g0 g1 g2 g3 g4 g5
       obtain ⟨g',cap',hv,_,_,_,_,hfz,hrow⟩:=HO2.out.addr (by rw [df];omega)
       injection hv with e1 e2 e3
       injection e1 with e1
       injection e1 with e1
       subst e1
       subst e3
       obtain ⟨_,_,hA,_,d0,d1,d2⟩:=ic hrow (by rw [df];omega) (AD (x:=⟨a,b,c⟩) hj)
       injection hA with hA
       injection hA with ea eb
       subst ea
       subst eb
       obtain ⟨_,_,hA,_,p0,p1,p2⟩:=ic hrow (by rw [df];omega) ((pY (x:=⟨a,b,c⟩) hj0 hj).trans HY.out)
       injection hA with hA
       injection hA with ea eb
       subst ea
       subst eb
       simp only [Nat.zero_add] at d0 d1 d2 p0 p1 p2
       have f0:=hfz ((j-1)*3)
       have f1:=hfz ((j-1)*3+1)
       have f2:=hfz ((j-1)*3+2)
       have f3:=hfz (j*3)
       have f4:=hfz (j*3+1)
       have f5:=hfz (j*3+2)
       have HS1:=Lib.hid (HO2.out.setRow (i:=j-1) (y:=⟨a,b,c⟩) (cs:=[.int .i64 a,.int .i64 b,.int .i64 c]) (by rw [df];omega) rfl)
       have HS2:Hid (OwnRows nu 23 ((w2.setCells g7 ((j-1)*3) [.int .i64 a,.int .i64 b,.int .i64 c]).setCells g7 (j*3) [.int .i64 a',.int .i64 b',.int .i64 c']) w.heap.size (.slice (some ⟨g7,0,none⟩) (fL ⟨a,b,c⟩ L (j-1)).length cap7) (fL ⟨a,b,c⟩ L (j-1))):=Lib.hid (by
        have h1:=HS1.out
        have h2:OwnRows nu 23 (w2.setCells g7 ((j-1)*nu.n) [.int .i64 a,.int .i64 b,.int .i64 c]) w.heap.size (.slice (some ⟨g7,0,none⟩) ((fL ⟨a,b,c⟩ L j).set (j-1) ⟨a,b,c⟩).length cap7) ((fL ⟨a,b,c⟩ L j).set (j-1) ⟨a,b,c⟩):=by rw [List.length_set];exact h1
        have h3:=h2.setRow (i:=j) (y:=⟨a',b',c'⟩) (cs:=[.int .i64 a',.int .i64 b',.int .i64 c']) (by rw [List.length_set,df];omega) rfl
        have hsw:=BQ (x:=⟨a,b,c⟩) hj0 hj
        rw [HY.out] at hsw
        rw [hsw] at h3
        have hl:((fL ⟨a,b,c⟩ L j).set (j-1) ⟨a,b,c⟩).length=(fL ⟨a,b,c⟩ L (j-1)).length:=by rw [List.length_set,df,df]
        rw [hl] at h3
        exact h3)
       have HBF:Hid (Below w.heap.size w ((w2.setCells g7 ((j-1)*3) [.int .i64 a,.int .i64 b,.int .i64 c]).setCells g7 (j*3) [.int .i64 a',.int .i64 b',.int .i64 c'])):=Lib.hid (dY hg7 _ _ _ (dY hg7 _ _ _ HB3.out))
       have HD2:Hid (∀y∈L.drop (j-1),f8 ⟨a,b,c⟩ y):=Lib.hid (fun y hy=>by
        have hjj:j-1<L.length:=by omega
        rw [List.drop_eq_getElem_cons hjj,show j-1+1=j by omega] at hy
        rcases List.mem_cons.1 hy with rfl|hy
        ·rw [HY.out]
         rcases dV ⟨a',b',c'⟩ ⟨a,b,c⟩ with ⟨h,e⟩|⟨h,e⟩|⟨h,e⟩
         ·exfalso;have:=HN.out;omega
         ·exfalso;have:=HN.out;omega
         ·exact h
        ·exact HD.out y hy)
       have HD3:=Lib.hid (And.intro hj hjm)
       clear hfz hrow HRW HFZ hd hd' HS1 HC1 HCL HIN HHS HAS HD HO HO2 HO3 HN HY HR HH HC hgw hbl2 hj1 hj2 hj3 hj4 hnn
       obtain ⟨i,hi⟩:∃i,j=i+1:=⟨j-1,by omega⟩
       subst hi
       simp only [Nat.add_sub_cancel,Nat.add_mul,Nat.one_mul] at *
       have hmul:(i+1)*3=i*3+3:=by omega
       have q1:(i:Int)<(L.length:Int)+1:=by omega
       have q2:((i+1:Nat):Int)<(L.length:Int)+1:=by omega
       go_wp2_with fail
       go_roundg (gk-1)
       case measure=>omega
       case rel=>exact ⟨i,rfl,by omega,by omega,Lib.hid (HS2.out.alloc _),HD2,Lib.hid (Below.al HBF.out _)⟩
      ·have hdn:decide ((0:Int)<n)=false:=decide_eq_false hnn
       have HLT:Hid (f8 (L[j-1]'(by omega)) ⟨a,b,c⟩):=Lib.hid (by
        rw [HY.out]
        rcases dV ⟨a',b',c'⟩ ⟨a,b,c⟩ with ⟨h,e⟩|⟨h,e⟩|⟨h,e⟩
        ·exact h
        ·exfalso
         have h1:=of_decide_eq_false HQ.out
         exact h1 (by rw [←h,←HY.out];exact List.getElem_mem _)
        ·exfalso
         have:=HN.out
         omega)
       have HE:Hid (fL ⟨a,b,c⟩ L j=ce (l.take (k+1))):=Lib.hid (HIN.out j hj HD.out (Or.inr ⟨by omega,HLT.out⟩))
       go_wp2_with fail
       refine aM (by kernel_rfl) (by kernel_rfl) ?_;(repeat (go_big_quiet_step ((go_at_call 115;exact Ext.call _ (HC1.out _)))));refine wpQuiet_nil ?_;rintro w2 ⟨n2,rfl⟩;have hb2:=n2.below;generalize n2.w=w2 at hb2 ⊢;clear n2
       have HB3:Hid (Below w.heap.size w w2):=Lib.hid (Below.tr HB.out hb2)
       have HO3:Hid (OwnRows nu 23 w2 w.heap.size (.slice (some ⟨g7,0,none⟩) (L.length+1) cap7) (ce (l.take (k+1)))):=Lib.hid (by
        have h1:=HO.out.below (B:=_) hb2 (Nat.le_refl _)
        rw [df] at h1
        rwa [HE.out] at h1)
       clear hb2
       go_wp2_with fail
       go_roundg (G-1)
       case measure=>omega
       case rel=>exact ⟨k+1,by go_num,by omega,by omega,HO3,HB3⟩
  ·have HE:Hid (ce (l.take k)=ce l):=Lib.hid (by rw [List.take_of_length_le (by omega)])
   rw [HE.out] at HO
   have hlti:¬(k:Int)<(l.length:Int):=by omega
   go_wp2_with fail
   go_ret
   exact ⟨_,rfl,HO.out,HBL.out⟩
section
variable {α:Type} {E:El α} {e:TypeId}
theorem ij {P:Program} {t:TypeId} {by_:Nat} (T:ElTB P E t e by_) {ops:Array Oper} {o:Oper} {a:Act} {w:World} {K:Act→World→Prop} {Q:Exit→Act→World→Prop} {E':Prop} (hgd:o.guard=none) (s x:Operand)
  (ho:o.op = .call { callee:=.builtin .append,args:=#[s,x],argTypes:=#[t,t] })
  (base:Nat) (v:Value) (l ns:List α) (n:Nat) (hn:ns.length=n) (A:Option Addr) (c:Nat) (hs:a.eval s=v) (hown:OwnRows E e w base v l) (hx:a.eval x = .slice A n c) (hr:RowsAt E w (oL w v) A ns) (hl:l.length+n≤maxLen) (hlb:(l.length+n)*by_≤140737488355328)
  (h:∀v' w',OwnRows E e w' base v' (l++ns)→Below base w w'→mH w w' v v'→K (a.put o.dst v') w') :
  if Region.wanted o (yielded ops a.tmps)=true then Oper.wp P o a w K Q else E':=by
 have hw:Region.wanted o (yielded ops a.tmps)=true:=by simp [Region.wanted,hgd]
 rw [if_pos hw]
 subst hn
 obtain ⟨xs,hx1,hx2⟩:=hr
 obtain ⟨v',w',hrun,h1,h2,h3⟩:=oP T w o.type base v l ns A c hown xs hx1 (fun h0=>by
  obtain ⟨b,off,hA,_,hc⟩:=hx2 h0
  exact ⟨b,off,hA,hc⟩) hl hlb
 unfold Oper.wp execOp
 simp only [ho,resolve,invoke,builtin,Sem.run_bind,Sem.run_pure,Result.andThen_ok,List.map_toArray,List.map_cons,List.map_nil,hs,hx,hrun]
 exact h v' w' h1 h2 h3
theorem rj {P:Program} {ops:Array Oper} {o:Oper} {a:Act} {w:World} {K:Act→World→Prop} {Q:Exit→Act→World→Prop} {E':Prop} (hgd:o.guard=none) (f:FuncId) (args:Array Operand) (tys:Array TypeId)
  (ho:o.op = .call { callee:=.value (.func f),args:=args,argTypes:=tys }) (vals:Array Value) (hv:args.toList.map a.eval=vals.toList) (hcall:∀b W,Sem.run P (callFunc f b) W = .ok (.enter f b) W) {R:Ending→World→Prop} (hc:Calls P f vals w R)
  (h:∀e w',R e w'→∃v,e = .returned v∧K (a.put o.dst v) w'):if Region.wanted o (yielded ops a.tmps)=true then Oper.wp P o a w K Q else E':=by
 have hw:Region.wanted o (yielded ops a.tmps)=true:=by simp [Region.wanted,hgd]
 rw [if_pos hw]
 obtain rfl:args.map a.eval=vals:=by apply Array.toList_inj.1;rw [Array.toList_map];exact hv
 unfold Oper.wp execOp
 simp only [ho,resolve,Act.eval,Deferred.ofValue,invoke,Sem.run_bind,Sem.run_pure,Result.andThen_ok,Array.append_empty]
 have h2:=hcall (args.map a.eval) w
 have h3:(Calls P f (args.map a.eval) w fun
   | .returned v,w''=>K (a.put o.dst v) w''
   | .panicked chain,w''=>Q (.panic chain) a w''
   | .outgrown,_=>LetsOut Q):=hc.mono fun e w' hr=>by
  obtain ⟨v,rfl,hk⟩:=h e w' hr
  exact hk
 rw [Array.empty_append,h2]
 exact h3
section
variable {n:Nat} {pos:0<n} {f:α→List Value} {len:∀x,(f x).length=n} {one:∀x,∀u∈f x,u.oneCell'=true}
theorem rk {w:World} {S S':Nat→Prop}:∀{l:List α} {xs:List Value},Reps (El.plain n pos f len one) w S l xs→Reps (El.plain n pos f len one) w S' l xs
 | [],_,h=>h
 | _ :: _,_,h=>by
  obtain ⟨cs,rest,rfl,h1,h2⟩:=h
  exact ⟨cs,rest,rfl,h1,rk h2⟩
theorem OwnRows.oth_of {w:World} {base:Nat} {v v0:Value} {l:List α} (h:OwnRows (El.plain n pos f len one) e w base v l) (h0:∀k,v0.ownBlock=some k→k<base) :
  ∃A cap,v = .slice A l.length cap∧RowsAt (El.plain n pos f len one) w (oL w v0) A l∧l.length≤cap:=by
 rcases Nat.eq_zero_or_pos l.length with hl|hl
 ·obtain ⟨A,cap,hv,_,hc,_⟩:=h.form
  obtain rfl:l=[]:=List.eq_nil_of_length_eq_zero hl
  exact ⟨A,cap,hv,RowsAt.nil _ _ _ _,hc⟩
 ·obtain ⟨g,cap,hv,hg,hg2,hc,_,_,hr⟩:=h.addr hl
  obtain ⟨xs,h1,h2⟩:=hr
  refine ⟨_,cap,hv,⟨xs,rk h1,fun hp=>?_⟩,hc⟩
  obtain ⟨b,off,hA,_,hcells⟩:=h2 hp
  injection hA with hA
  injection hA with e1 e2
  subst e1
  subst e2
  exact ⟨_,_,rfl,⟨hg2,fun e=>by have:=h0 _ e;omega⟩,hcells⟩
end
end
def eT (q:Qu):List Pr:=ce (dx q.holds++ri q)
theorem wQ (q:Qu) (A1 A2 A3:Option Addr) (c1 c2 c3:Nat) (w:World) (B:Nat) (hq:QF w B A1 A2 A3 q) (h1:q.holds.length≤8) (h2:q.convs.length≤8) (h3:q.waits.length≤8) :
  Calls prog 168 #[q.val A1 A2 A3 c1 c2 c3] w (fP nu 23 w (eT q)):=by
 have HP:=Lib.hid (fun W (hb:Below w.heap.size w W)=>wP A1 B c1 q.holds W (by omega) (Nat.le_trans hq.hB hb.size) (hq.r1.below hb hq.hB (Nat.le_refl _)))
 have HOD:=Lib.hid (fun W (hb:Below w.heap.size w W)=>wO q A1 A2 A3 c1 c2 c3 W B (hq.below hb) h2 h3)
 have HSP:=Lib.hid (fun A B cap l W hm hB hr=>lc A B cap l W hm hB hr)
 have HL1:Hid ((dx q.holds).length≤8):=Lib.hid (by simpa [dx] using h1)
 have HL2:Hid ((ri q).length≤16):=Lib.hid (by simp [ri];omega)
 have HD:Hid (eT q=ce (dx q.holds++ri q)):=Lib.hid rfl
 clear hq
 generalize eT q=R at *
 generalize ri q=o at *
 generalize dx q.holds=p at *
 obtain ⟨⟨nm,kd,un,h⟩,hs,cs,ws,gen⟩:=q
 unfold Qu.val at *
 dsimp only at HP HOD HL1 ⊢
 have HX0:Hid (BoxQ w nm kd un h A1 hs.length c1 A2 cs.length c2 A3 ws.length c3 gen (w.alloc (.cells #[.string nm,.int .i64 kd,.int .i64 un,.int .i64 h,.slice A1 hs.length c1,.slice A2 cs.length c2,.slice A3 ws.length c3,.int .i64 gen] 165)).drew):=Lib.hid (BoxQ.made.next (Below.refl _ _).drew)
 have HCJ:Hid (∀v,BoxQ w nm kd un h A1 hs.length c1 A2 cs.length c2 A3 ws.length c3 gen v→v.cell? ⟨w.heap.size,0,none⟩=some (.string nm)∧v.cell? ⟨w.heap.size,1,none⟩=some (.int .i64 kd)∧v.cell? ⟨w.heap.size,2,none⟩=some (.int .i64 un)∧v.cell? ⟨w.heap.size,3,none⟩=some (.int .i64 h)∧v.cell? ⟨w.heap.size,4,none⟩=some (.slice A1 hs.length c1)∧v.cell? ⟨w.heap.size,5,none⟩=some (.slice A2 cs.length c2)∧v.cell? ⟨w.heap.size,6,none⟩=some (.slice A3 ws.length c3)∧v.cell? ⟨w.heap.size,7,none⟩=some (.int .i64 gen)):=Lib.hid (fun v b=>⟨b.cel.q0,b.cel.q1,b.cel.q2,b.cel.q3,b.cel.q4,b.cel.q5,b.cel.q6,b.cel.q7⟩)
 have hC1:=Lib.hid (HCJ.out _ HX0.out)
 have HK1:Hid (∀b W,Sem.run prog (callFunc 221 b) W = .ok (.enter 221 b) W):=Lib.hid (fun b W=>by kernel_rfl)
 have HK2:Hid (∀b W,Sem.run prog (callFunc 222 b) W = .ok (.enter 222 b) W):=Lib.hid (fun b W=>by kernel_rfl)
 have HK3:Hid (∀b W,Sem.run prog (callFunc 120 b) W = .ok (.enter 120 b) W):=Lib.hid (fun b W=>by kernel_rfl)
 obtain ⟨q0,q1,q2,q3,q4,q5,q6,q7⟩:=HCJ.out _ HX0.out
 go_enter func168,ntmps168
 go_wp2_with fail
 go_region_law (first
  | (refine rj rfl 221 #[.tmp 4] #[162] rfl #[.slice A1 hs.length c1] rfl HK1.out (HP.out _ HX0.out.below) ?_;rintro e w2 ⟨v2,rfl,hown2,hb2⟩;refine ⟨v2,rfl,?_⟩;have HX2:=Lib.hid (HX0.out.next hb2);have HO2:=Lib.hid hown2;have HBa:=Lib.hid hb2;clear hown2 hb2;obtain ⟨r0,r1,r2,r3,r4,r5,r6,r7⟩:=HCJ.out _ HX2.out)
  | (refine rj rfl 222 #[.tmp 6] #[165] rfl #[.agg #[.string nm,.int .i64 kd,.int .i64 un,.int .i64 h,.slice A1 hs.length c1,.slice A2 cs.length c2,.slice A3 ws.length c3,.int .i64 gen]] rfl HK2.out (HOD.out _ HX2.out.below) ?_;rintro e w3 ⟨v3,rfl,hown3,hb3⟩;refine ⟨v3,rfl,?_⟩;have HX3:=Lib.hid (HX2.out.next hb3);obtain ⟨A6,c6,rfl,hr6,hl6⟩:=hown3.oth_of (fun k hk=>(HO2.out.block k hk).2);have HR6:=Lib.hid hr6;have HO3:=Lib.hid (HO2.out.below hb3 (Nat.le_refl _));have HBb:=Lib.hid (Below.tr HBa.out hb3);clear hown3 hb3 hr6)
  | (refine ij BH rfl (.tmp 5) (.tmp 7) rfl (w.alloc (.cells #[.string nm,.int .i64 kd,.int .i64 un,.int .i64 h,.slice A1 hs.length c1,.slice A2 cs.length c2,.slice A3 ws.length c3,.int .i64 gen] 165)).drew.heap.size v2 p o o.length rfl A6 c6 rfl HO3.out rfl HR6.out (by have:=HL1.out;have:=HL2.out;unfold maxLen;omega) (by have:=HL1.out;have:=HL2.out;omega) ?_;intro v4 w4 hown4 hb4 hsp4;have HX4:=Lib.hid (HX0.out.next (HBb.out.trans hb4));obtain ⟨A7,c7,rfl,hr7,_,_⟩:=hown4.form;have HR7:=Lib.hid hr7;have HB4:=Lib.hid hb4;clear hown4 hb4 hsp4 hr7)
  | (refine rj rfl 120 #[.tmp 8] #[87] rfl #[.slice A7 (p++o).length c7] (by rw [List.length_append];rfl) HK3.out (HSP.out A7 w4.heap.size c7 (p++o) w4 (by have:=HL1.out;have:=HL2.out;rw [List.length_append];omega) (Nat.le_refl _) HR7.out) ?_;rintro e w5 ⟨v5,rfl,hown5,hb5⟩;refine ⟨v5,rfl,?_⟩;have HX5:=Lib.hid (HX4.out.next hb5);have HO5:=Lib.hid hown5;clear hown5 hb5))
 all_goals (
  go_wp2_with fail
  go_ret
  exact ⟨v5,rfl,by rw [HD.out];exact HO5.out.older (Nat.le_trans HX0.out.below.size (Nat.le_trans HBb.out.size HB4.out.size)),HX5.out.below⟩)
def F5:El Qu where
 n:=8
 pos:=by decide
 rep:=fun w S q cs=>∃A1 A2 A3 c1 c2 c3,cs=[.string q.res.name,.int .i64 q.res.kind,.int .i64 q.res.units,.int .i64 q.res.home,.slice A1 q.holds.length c1,.slice A2 q.convs.length c2,.slice A3 q.waits.length c3,.int .i64 q.gen]∧
  q.holds.length≤maxLen∧q.convs.length≤maxLen∧q.waits.length≤maxLen∧RowsAt oM w S A1 q.holds∧RowsAt nv w S A2 q.convs∧RowsAt nv w S A3 q.waits
 len:=fun h=>by obtain ⟨A1,A2,A3,c1,c2,c3,rfl,_⟩:=h;rfl
 one:=fun h=>by obtain ⟨A1,A2,A3,c1,c2,c3,rfl,_⟩:=h;intro u hu;simp at hu;rcases hu with rfl|rfl|rfl|rfl|rfl|rfl|rfl|rfl <;> rfl
 same:=fun h hk hS=>by
  obtain ⟨A1,A2,A3,c1,c2,c3,e,h1,h2,h3,h4,h5,h6⟩:=h
  exact ⟨A1,A2,A3,c1,c2,c3,e,h1,h2,h3,h4.same hk hS,h5.same hk hS,h6.same hk hS⟩
theorem nH {w:World} {B i:Nat} {A:Option Addr} {l:List Qu} {q:Qu} (h:RowsAt F5 w (Lo B) A l) (hB:B≤w.heap.size) (hi:i<l.length) (hx:l[i]=q) :
  ∃g off A1 A2 A3 c1 c2 c3,A=some ⟨g,off,none⟩∧g<B∧w.cell? ⟨g,off+i*8,none⟩=some (.string q.res.name)∧w.cell? ⟨g,off+i*8+1,none⟩=some (.int .i64 q.res.kind)∧w.cell? ⟨g,off+i*8+2,none⟩=some (.int .i64 q.res.units)∧w.cell? ⟨g,off+i*8+3,none⟩=some (.int .i64 q.res.home)∧
   w.cell? ⟨g,off+i*8+4,none⟩=some (.slice A1 q.holds.length c1)∧w.cell? ⟨g,off+i*8+5,none⟩=some (.slice A2 q.convs.length c2)∧w.cell? ⟨g,off+i*8+6,none⟩=some (.slice A3 q.waits.length c3)∧w.cell? ⟨g,off+i*8+7,none⟩=some (.int .i64 q.gen)∧QF w B A1 A2 A3 q:=by
 obtain ⟨g,off,cs,hA,hS,hc,hd⟩:=h.getx hi hx
 obtain ⟨A1,A2,A3,c1,c2,c3,rfl,h1,h2,h3,h4,h5,h6⟩:=hc
 exact ⟨g,off,A1,A2,A3,c1,c2,c3,hA,hS,hd 0 (show 0<8 by decide),hd 1 (show 1<8 by decide),hd 2 (show 2<8 by decide),hd 3 (show 3<8 by decide),hd 4 (show 4<8 by decide),hd 5 (show 5<8 by decide),hd 6 (show 6<8 by decide),hd 7 (show 7<8 by decide),h4,h5,h6,h1,h2,h3,hB⟩
def bw (n:ByteArray):Nat→List Qu→Int
 | _,[]=>-1
 | k,q :: l=>bif q.res.name.toList == n.toList then (k:Int) else bw n (k+1) l
theorem fR (n:ByteArray) (k:Nat) (q:Qu) (l:List Qu):bw n k (q :: l)=bif q.res.name.toList == n.toList then (k:Int) else bw n (k+1) l:=rfl
theorem zf (A:Option Addr) (B cap:Nat) (l:List Qu) (n:ByteArray) (w:World) (hm:l.length≤maxLen) (hB:B≤w.heap.size) (hr:RowsAt F5 w (Lo B) A l) :
  Calls prog 171 #[.slice A l.length cap,.string n] w (gV w (.int .i64 (bw n 0 l))):=by
 unfold maxLen at hm
 have HR:=Lib.hid hr
 clear hr
 obtain ⟨v,hv⟩:∃v,bw n 0 l=v:=⟨_,rfl⟩
 rw [hv]
 have HV:Hid (bw n 0 (l.drop 0)=v):=Lib.hid hv
 clear hv
 go_enter func171,ntmps171
 go_wp2_with fail
 go_loopg [5] l.length (fun m0 v5 wq=>∃k:Nat,v5 = .int .i64 (k:Int)∧k≤l.length∧l.length≤k+m0∧Hid (bw n k (l.drop k)=v)∧Hid (Below w.heap.size w wq))
 case atStart=>exact ⟨0,rfl,Nat.zero_le _,by omega,HV,Lib.hid (Below.refl _ _)⟩
 case round =>
  obtain ⟨k,rfl,hk,hkm,HI,HB⟩:=hrel
  by_cases hlt:k<l.length
  ·obtain ⟨q,hx⟩:∃x,l[k]=x:=⟨_,rfl⟩
   obtain ⟨g,off,A1,A2,A3,c1,c2,c3,rfl,hbl,d0,d1,d2,d3,d4,d5,d6,d7,_⟩:=nH (HR.out.below (B'':=B) HB.out hB (Nat.le_refl _)) (Nat.le_trans hB HB.out.size) hlt hx
   have hbl2:g<wr.heap.size:=Nat.lt_of_lt_of_le hbl (Nat.le_trans hB HB.out.size)
   have hlti:(k:Int)<(l.length:Int):=by omega
   obtain ⟨q1,hq⟩:∃p,(q.res.name.toList == n.toList)=p:=⟨_,rfl⟩
   have HS:Hid ((bif q1 then (k:Int) else bw n (k+1) (l.drop (k+1)))=v):=Lib.hid (by have h:=HI.out;rw [db hlt hx,fR,hq] at h;exact h)
   clear hx hbl d1 d2 d3 d4 d5 d6 d7
   cases q1 <;> (go_wp2_with fail;(try (go_quiet (fail);go_wp2_with fail));first
    | (go_roundg (gk-1);(case measure=>omega);(case rel=>exact ⟨k+1,by go_num,by omega,by omega,HS,Lib.hid aw⟩))
    | (go_ret;exact ⟨fp (show (k:Int)=v from HS.out),by exact aw⟩))
  ·have HS:Hid (-1=v):=Lib.hid (by have h:=HI.out;rw [dJ hlt] at h;exact h)
   have hlti:¬(k:Int)<(l.length:Int):=by omega
   go_wp2_with fail
   go_ret
   exact ⟨fp HS.out,by exact aw⟩
def gp:List Qu→List Pr
 | []=>[]
 | q :: l=>eT q++gp l
theorem wR:∀(l:List Qu) (q:Qu),gp (l++[q])=gp l++eT q
 | [],q=>by simp [gp]
 | x :: l,q=>by simp [gp,wR l q]
theorem BR {l:List Qu} {k:Nat} {q:Qu} (h:k<l.length) (hx:l[k]=q):gp (l.take (k+1))=gp (l.take k)++eT q:=by
 rw [←wR]
 congr 1
 rw [List.take_add_one,List.getElem?_eq_getElem h,hx]
 rfl
def ld (q:Qu):Prop:=q.holds.length≤8∧q.convs.length≤8∧q.waits.length≤8
theorem rl {q:Qu} (h:ld q):(eT q).length≤24:=by
 unfold eT
 have h1:=oX (dx q.holds++ri q)
 have h2:(dx q.holds++ri q).length=q.holds.length+(q.convs.length+q.waits.length):=by simp [dx,ri,bC]
 have:=h.1
 have:=h.2.1
 have:=h.2.2
 omega
theorem wS:∀(l:List Qu),(∀q∈l,ld q)→(gp l).length≤l.length*24
 | [],_=>by simp [gp]
 | q :: l,h=>by
  have h1:=wS l fun x hx=>h x (by simp [hx])
  have h2:=rl (h q (by simp))
  simp only [gp,List.length_append,List.length_cons]
  omega
def aD (l:List Qu):List Pr:=ce (gp l)
theorem wT (A:Option Addr) (B cap:Nat) (l:List Qu) (w:World) (hm:l.length≤12) (hs:∀q∈l,ld q) (hB:B≤w.heap.size) (hr:RowsAt F5 w (Lo B) A l) :
  Calls prog 119 #[.slice A l.length cap] w (fP nu 23 w (aD l)):=by
 have HSP:=Lib.hid (fun A B cap l W hm hB hr=>lc A B cap l W hm hB hr)
 have HP:=Lib.hid (fun q A1 A2 A3 c1 c2 c3 W (hq:QF W B A1 A2 A3 q) (h:ld q)=>wQ q A1 A2 A3 c1 c2 c3 W B hq h.1 h.2.1 h.2.2)
 have HSH:=Lib.hid hs
 have HT:Hid (aD l=ce (gp l)):=Lib.hid rfl
 have HLL:=Lib.hid (fun k=>wS (l.take k) fun q hq=>hs q (List.mem_of_mem_take hq))
 have HR:=Lib.hid hr
 clear hr hs
 generalize aD l=R at *
 go_enter func119,ntmps119
 go_wp2_with fail
 go_loopg [3,4] l.length (fun m v3 v4 wq=>∃k:Nat,v4 = .int .i64 (k:Int)∧k≤l.length∧l.length≤k+m∧Hid (OwnRows nu 23 wq w.heap.size v3 (gp (l.take k)))∧Hid (Below w.heap.size w wq))
 case atStart=>exact ⟨0,rfl,Nat.zero_le _,by omega,Lib.hid (OwnRows.nil _ _ _ _ (Nat.le_refl _)),Lib.hid (Below.refl _ _)⟩
 case round =>
  obtain ⟨k,rfl,hk,hkm,HO,HB⟩:=hrel
  have hLK:(gp (l.take k)).length≤288:=by have:=HLL.out k;rw [List.length_take] at this;omega
  by_cases hlt:k<l.length
  ·obtain ⟨q,hx⟩:∃x,l[k]=x:=⟨_,rfl⟩
   have HSQ:Hid (ld q):=Lib.hid (hx▸HSH.out _ (List.getElem_mem hlt))
   have HPL:=Lib.hid (rl HSQ.out)
   have HE:Hid (gp (l.take k)++eT q=gp (l.take (k+1))):=Lib.hid (BR hlt hx).symm
   obtain ⟨g,off,A1,A2,A3,c1,c2,c3,rfl,hbl,d0,d1,d2,d3,d4,d5,d6,d7,hqf⟩:=nH (HR.out.below (B'':=B) HB.out hB (Nat.le_refl _)) (Nat.le_trans hB HB.out.size) hlt hx
   have HC:=Lib.hid (HP.out q A1 A2 A3 c1 c2 c3 wr hqf HSQ.out)
   obtain ⟨⟨nm,kd,un,h⟩,hs,cs,ws,gen⟩:=q
   unfold Qu.val at HC
   dsimp only at d0 d1 d2 d3 d4 d5 d6 d7 HC
   generalize eT ⟨⟨nm,kd,un,h⟩,hs,cs,ws,gen⟩=pq at *
   have hbl2:g<wr.heap.size:=Nat.lt_of_lt_of_le hbl (Nat.le_trans hB HB.out.size)
   have hlti:(k:Int)<(l.length:Int):=by omega
   generalize gp (l.take k)=aq at *
   clear hx hbl hqf
   go_wp2_with fail
   refine HC.out.mono ?_
   rintro e w2 ⟨v2,rfl,hown2,hb2⟩
   obtain ⟨A6,c6,rfl,hr6,hl6⟩:=hown2.oth_of (fun k hk=>(HO.out.block k hk).2)
   have HR6:=Lib.hid hr6
   have HO2:=Lib.hid (HO.out.below hb2 (Nat.le_refl _))
   have HB2:Hid (Below w.heap.size w w2):=Lib.hid (Below.tr HB.out hb2)
   clear hown2 hb2 hr6
   go_wp2_with (at_builtin;refine rc BH rfl (.tmp 11) (.tmp 16) rfl w2 w.heap.size u3 aq pq pq.length rfl A6 c6 rfl HO2.out rfl HR6.out (by have:=HPL.out;unfold maxLen;omega) (by have:=HPL.out;omega) ?_;intro v7 w7 hown7 hb7 hsp7;have HB7:Hid (Below w.heap.size w w7):=Lib.hid (HB2.out.trans hb7);have HO7:=Lib.hid hown7;clear hown7 hb7 hsp7)
   rw [HE.out] at HO7
   go_roundg (gk-1)
   case measure=>omega
   case rel=>exact ⟨k+1,by go_num,by omega,by omega,HO7,HB7⟩
  ·have HE:Hid (gp (l.take k)=gp l):=Lib.hid (by rw [List.take_of_length_le (by omega)])
   rw [HE.out] at HO hLK
   have hlti:¬(k:Int)<(l.length:Int):=by omega
   obtain ⟨A7,c7,rfl,hr7,_,_⟩:=HO.out.form
   have HR7:=Lib.hid hr7
   clear hr7
   go_wp2_with fail
   refine (HSP.out A7 wr.heap.size c7 (gp l) wr (by omega) (Nat.le_refl _) HR7.out).mono ?_
   rintro e w5 ⟨v5,rfl,hown5,hb5⟩
   have HO5:=Lib.hid hown5
   have HB5:Hid (Below w.heap.size w w5):=Lib.hid (Below.tr HB.out hb5)
   clear hown5 hb5
   go_wp2_with fail
   go_ret
   exact ⟨v5,rfl,by rw [HT.out];exact HO5.out.older HB.out.size,HB5.out⟩
def Kz (p:Option ByteArray) (n:ByteArray):Bool:=match p with|none=>true|some m=>Op.bytesLess m.toList n.toList
def ka:Option ByteArray→List Qu→Bool
 | _,[]=>true
 | p,q :: l=>av q && Kz p q.res.name && ka (some q.res.name) l
theorem dP (p:Option ByteArray) (q:Qu) (l:List Qu):ka p (q :: l)=(av q && Kz p q.res.name && ka (some q.res.name) l):=rfl
def eU (l:List Qu):Bool:=decide (l.length≤8) && ka none l
def jW (l:List Qu) (k:Nat):Option ByteArray:=if k=0 then none else (l[k-1]?).map (·.res.name)
theorem zg (l:List Qu):jW l 0=none:=rfl
theorem zh {l:List Qu} {k:Nat} {x:Qu} (h:k<l.length) (hx:l[k]=x):jW l (k+1)=some x.res.name:=by
 unfold jW
 rw [if_neg (by omega),Nat.add_sub_cancel,List.getElem?_eq_getElem h,hx]
 rfl
theorem BS {l:List Qu} {k:Nat} {x:Qu} (h0:0<k) (h:k-1<l.length) (hx:l[k-1]=x):jW l k=some x.res.name:=by
 unfold jW
 rw [if_neg (by omega),List.getElem?_eq_getElem h,hx]
 rfl
theorem BT (A:Option Addr) (B cap:Nat) (l:List Qu) (w:World) (hm:l.length≤maxLen) (hB:B≤w.heap.size) (hr:RowsAt F5 w (Lo B) A l) :
  Calls prog 114 #[.slice A l.length cap] w (gV w (.bool (eU l))):=by
 have HV:=Lib.hid (fun q A1 A2 A3 c1 c2 c3 W (hq:QF W B A1 A2 A3 q)=>pV q A1 A2 A3 c1 c2 c3 W B hq)
 unfold maxLen at hm
 have HR:=Lib.hid hr
 clear hr
 obtain ⟨v,hv⟩:∃v,eU l=v:=⟨_,rfl⟩
 rw [hv]
 by_cases h8:l.length≤8
 ·have h8i:¬(8:Int)<(l.length:Int):=by omega
  have HQ:Hid (ka (jW l 0) (l.drop 0)=v):=Lib.hid (by rw [←hv];unfold eU;rw [decide_eq_true h8];rfl)
  clear hv
  go_enter func114,ntmps114
  go_wp2_with fail
  go_loopg [3] l.length (fun m0 v3 wq=>∃k:Nat,v3 = .int .i64 (k:Int)∧k≤l.length∧l.length≤k+m0∧Hid (ka (jW l k) (l.drop k)=v)∧Hid (Below w.heap.size w wq))
  case atStart=>exact ⟨0,rfl,Nat.zero_le _,by omega,HQ,Lib.hid (Below.refl _ _)⟩
  case round =>
   obtain ⟨k,rfl,hk,hkm,HI,HB⟩:=hrel
   by_cases hlt:k<l.length
   ·obtain ⟨q,hx⟩:∃x,l[k]=x:=⟨_,rfl⟩
    have HRW:Hid (RowsAt F5 wr (Lo B) A l):=Lib.hid (HR.out.below HB.out hB (Nat.le_refl _))
    have HBR:Hid (B≤wr.heap.size):=Lib.hid (Nat.le_trans hB HB.out.size)
    obtain ⟨g,off,A1,A2,A3,c1,c2,c3,rfl,hbl,d0,d1,d2,d3,d4,d5,d6,d7,hqf⟩:=nH HRW.out HBR.out hlt hx
    have HC:=Lib.hid (fun n:Ext wr=>HV.out q A1 A2 A3 c1 c2 c3 n.w (hqf.below n.below))
    have HS:Hid ((av q && Kz (jW l k) q.res.name && ka (jW l (k+1)) (l.drop (k+1)))=v):=Lib.hid (by have h:=HI.out;rw [db hlt hx,dP] at h;rw [zh hlt hx];exact h)
    obtain ⟨⟨nm,kd,un,h⟩,hs,cs,ws,gen⟩:=q
    unfold Qu.val at HC
    dsimp only at d0 d1 d2 d3 d4 d5 d6 d7 HC HS
    obtain ⟨p1,hp1⟩:∃p,av ⟨⟨nm,kd,un,h⟩,hs,cs,ws,gen⟩=p:=⟨_,rfl⟩
    rw [hp1] at HC HS
    have hlti:(k:Int)<(l.length:Int):=by omega
    have g0:=Ext.cell d0
    have g1:=Ext.cell d1
    have g2:=Ext.cell d2
    have g3:=Ext.cell d3
    have g4:=Ext.cell d4
    have g5:=Ext.cell d5
    have g6:=Ext.cell d6
    have g7:=Ext.cell d7
    clear hp1 hbl hqf d0 d1 d2 d3 d4 d5 d6 d7
    cases p1 with
    | false =>
     have HE:Hid (false=v):=Lib.hid (by have h:=HS.out;simpa using h)
     clear hx
     go_wp2_with fail
     refine aM (by kernel_rfl) (by kernel_rfl) ?_;(repeat (go_big_quiet_step ((go_at_call 157;exact Ext.call _ (HC.out _)))));refine wpQuiet_nil ?_;rintro w2 ⟨n2,rfl⟩;have hb2:=n2.below;generalize n2.w=w2 at hb2 ⊢;clear n2
     have HB3:=Lib.hid hb2
     clear hb2
     go_wp2_with fail
     go_ret
     exact ⟨ax HE.out,by exact aw⟩
    | true =>
     rcases Nat.eq_zero_or_pos k with hk0|hk0
     ·have hd:decide ((0:Int)<(k:Int))=false:=decide_eq_false (by omega)
      have hd':decide (0<k)=false:=decide_eq_false (by omega)
      have HE:Hid (ka (jW l (k+1)) (l.drop (k+1))=v):=Lib.hid (by have h:=HS.out;rw [hk0] at h ⊢;rw [zg] at h;exact h)
      clear hk0 hx
      go_wp2_with fail
      refine aM (by kernel_rfl) (by kernel_rfl) ?_;(repeat (go_big_quiet_step ((go_at_call 157;exact Ext.call _ (HC.out _)))));refine wpQuiet_nil ?_;rintro w2 ⟨n2,rfl⟩;have hb2:=n2.below;generalize n2.w=w2 at hb2 ⊢;clear n2
      have HB3:=Lib.hid hb2
      clear hb2
      go_wp2_with fail
      go_roundg (gk-1)
      case measure=>omega
      case rel=>exact ⟨k+1,by go_num,by omega,by omega,HE,Lib.hid (Below.tr HB.out HB3.out)⟩
     ·have hd:decide ((0:Int)<(k:Int))=true:=decide_eq_true (by omega)
      have hd':decide (0<k)=true:=decide_eq_true (by omega)
      have hki:IntKind.i64.wrap ((k:Int)-1)=((k-1:Nat):Int):=by rw [IntWalk.i64_in _ (by omega)];omega
      obtain ⟨q',hx'⟩:∃x,l[k-1]'(by omega)=x:=⟨_,rfl⟩
      obtain ⟨_,_,_,_,_,_,_,_,hA,_,e0,_,_,_,_,_,_,_,_⟩:=nH HRW.out HBR.out (show k-1<l.length by omega) hx'
      injection hA with hA
      injection hA with e1 e2
      subst e1
      subst e2
      have g8:=Ext.cell e0
      have hkl:((k-1:Nat):Int)<(l.length:Int):=by omega
      obtain ⟨lt,hlt2⟩:∃lt,Op.bytesLess q'.res.name.toList nm.toList=lt:=⟨_,rfl⟩
      have HE:Hid ((lt && ka (jW l (k+1)) (l.drop (k+1)))=v):=Lib.hid (by
       have h:=HS.out
       rw [BS hk0 (by omega) hx'] at h
       rw [←hlt2]
       simpa [Kz] using h)
      clear e0 hx hx'
      generalize q'.res.name=nm' at *
      go_wp2_with fail
      refine aM (by kernel_rfl) (by kernel_rfl) ?_;(repeat (go_big_quiet_step ((go_at_call 157;exact Ext.call _ (HC.out _)))));refine wpQuiet_nil ?_;rintro w2 ⟨n2,rfl⟩;have hb2:=n2.below;generalize n2.w=w2 at hb2 ⊢;clear n2
      have HB3:=Lib.hid hb2
      clear hb2
      cases lt with
      | false =>
       have HE2:Hid (false=v):=HE
       go_wp2_with fail
       go_ret
       exact ⟨ax HE2.out,by exact aw⟩
      | true =>
       have HE2:Hid (ka (jW l (k+1)) (l.drop (k+1))=v):=HE
       go_wp2_with fail
       go_roundg (gk-1)
       case measure=>omega
       case rel=>exact ⟨k+1,by go_num,by omega,by omega,HE2,Lib.hid (Below.tr HB.out HB3.out)⟩
   ·have HE:Hid (true=v):=Lib.hid (by have h:=HI.out;rw [dJ hlt] at h;exact h)
    have hlti:¬(k:Int)<(l.length:Int):=by omega
    go_wp2_with fail
    go_ret
    exact ⟨ax HE.out,by exact aw⟩
 ·have h8i:(8:Int)<(l.length:Int):=by omega
  have HQ:Hid (false=v):=Lib.hid (by rw [←hv];unfold eU;rw [decide_eq_false h8];rfl)
  clear hv
  go_enter func114,ntmps114
  go_wp2_with fail
  go_ret
  exact ⟨ax HQ.out,by exact aw⟩
end Go.Proofs.YtdaajdflefnjfaaGreat
