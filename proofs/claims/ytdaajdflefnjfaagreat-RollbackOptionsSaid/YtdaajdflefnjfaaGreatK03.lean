/- Part 3 of 24 of the proof of rollbackOptions_holds (no condition). -/
import Derived.Test.YtdaajdflefnjfaaGreatK02
import Derived.Laws.IdiomCopy
import Derived.Lib.AppendZerosOnto
set_option linter.unusedVariables false
set_option linter.unusedSimpArgs false
set_option maxRecDepth 100000
set_option maxHeartbeats 64000000
namespace Go.Proofs.YtdaajdflefnjfaaGreat
open Go.RowKit Go.Proofs.Tryz
def dq (l:List Ho) (p:Pr):List Ho:=l.filter fun h=>!decide (h.proc=p)
def iU (x:Ho):List Ho→List Ho
 | []=>[x]
 | h :: l=>bif decide (0<dw h.proc x.proc) then x :: h :: l else h :: iU x l
def cM (l:List Ho) (p:Pr) (a:Am):List Ho:=bif aF a then dq l p else iU ⟨p,a⟩ (dq l p)
theorem oV (h:Ho) (l:List Ho) (p:Pr):dq (h :: l) p=bif decide (h.proc=p) then dq l p else h :: dq l p:=by
 unfold dq
 rw [List.filter_cons]
 cases decide (h.proc=p) <;> rfl
theorem i9 (x h:Ho) (l:List Ho):iU x (h :: l)=bif decide (0<dw h.proc x.proc) then x :: h :: l else h :: iU x l:=rfl
theorem wM (A:Option Addr) (B cap:Nat) (l:List Ho) (x y z m u:Int) (w:World) (hm:l.length≤1000000) (hB:B≤w.heap.size) (hr:RowsAt oM w (Lo B) A l) :
  Calls prog 165 #[.slice A l.length cap,.agg #[.int .i64 x,.int .i64 y,.int .i64 z],.agg #[.int .i64 m,.int .i64 u]] w (fP oM 287 w (cM l ⟨x,y,z⟩ ⟨m,u⟩)):=by
 have HR:=Lib.hid hr
 clear hr
 have HZ:=Lib.hid (fun W=>gW m u W)
 have HC:=Lib.hid (fun a b c W=>jt ⟨a,b,c⟩ ⟨x,y,z⟩ W)
 unfold Pr.val at HC
 obtain ⟨d0,hd0⟩:∃d,aF ⟨m,u⟩=d:=⟨_,rfl⟩
 rw [hd0] at HZ
 obtain ⟨R,hR⟩:∃R,cM l ⟨x,y,z⟩ ⟨m,u⟩=R:=⟨_,rfl⟩
 rw [hR]
 have HQ:Hid ([]++(bif d0 then dq l ⟨x,y,z⟩ else iU ⟨⟨x,y,z⟩,⟨m,u⟩⟩ (dq l ⟨x,y,z⟩))=R):=Lib.hid (by rw [←hR,←hd0];rfl)
 clear hR hd0
 go_enter func165,ntmps165
 go_wp2_with fail
 refine (HZ.out _).mono ?_
 rintro e w1 ⟨rfl,hb1⟩
 have HB1:=Lib.hid hb1
 have HBW1:Hid (Below w.heap.size w w1):=Lib.hid aw
 have HP1:Hid (Blk w1 w.heap.size 23 #[.int .i64 x,.int .i64 y,.int .i64 z]):=Lib.hid (((Blk.new w 23 #[.int .i64 x,.int .i64 y,.int .i64 z]).alloc _).below hb1 (by simp;omega))
 have HA1:Hid (Blk w1 (w.heap.size+1) 29 #[.int .i64 m,.int .i64 u]):=Lib.hid ((by have:=Blk.new (w.alloc (.cells #[.int .i64 x,.int .i64 y,.int .i64 z] 23)) 29 #[.int .i64 m,.int .i64 u];simpa using this:Blk _ (w.heap.size+1) 29 #[.int .i64 m,.int .i64 u]).below hb1 (by simp))
 clear hb1
 go_wp2_with fail
 go_loopg [7,8,9] l.length (fun m' v7 v8 v9 wq=>∃(k:Nat) (dn:Bool) (acc:List Ho),v8 = .bool dn∧v9 = .int .i64 (k:Int)∧k≤l.length∧l.length≤k+m'∧acc.length≤k+1∧Hid (dn=false→acc.length≤k)∧Hid (OwnRows oM 287 wq w1.heap.size v7 acc)∧Hid (acc++(bif dn then dq (l.drop k) ⟨x,y,z⟩ else iU ⟨⟨x,y,z⟩,⟨m,u⟩⟩ (dq (l.drop k) ⟨x,y,z⟩))=R)∧Hid (Below w1.heap.size w1 wq))
 case atStart=>exact ⟨0,d0,[],rfl,rfl,Nat.zero_le _,by omega,by simp,Lib.hid (fun _=>Nat.le_refl _),Lib.hid (OwnRows.nil _ _ _ _ (Nat.le_refl _)),HQ,Lib.hid (Below.refl _ _)⟩
 case round =>
  obtain ⟨k,dn,acc,rfl,rfl,hk,hkm,hacc,HAC,HO,HI,HBL⟩:=hrel
  have HBW:Hid (Below w.heap.size w wr):=Lib.hid aw
  have HPW:Hid (Blk wr w.heap.size 23 #[.int .i64 x,.int .i64 y,.int .i64 z]):=Lib.hid (HP1.out.below HBL.out HP1.out.lt)
  have HAW:Hid (Blk wr (w.heap.size+1) 29 #[.int .i64 m,.int .i64 u]):=Lib.hid (HA1.out.below HBL.out HA1.out.lt)
  have p0:=HPW.out.cellx 0 (v:=.int .i64 x) rfl
  have p1:=HPW.out.cellx 1 (v:=.int .i64 y) rfl
  have p2:=HPW.out.cellx 2 (v:=.int .i64 z) rfl
  have hpl:w.heap.size<wr.heap.size:=HPW.out.lt
  by_cases hlt:k<l.length
  ·obtain ⟨⟨⟨a,b,c⟩,⟨m',u'⟩⟩,hx⟩:∃x,l[k]=x:=⟨_,rfl⟩
   obtain ⟨g,off,rfl,hbl,c0,c1,c2,c3,c4⟩:=fq (HR.out.below (B'':=w.heap.size) HBW.out hB hB) hlt hx
   have hgw:g<w.heap.size:=hbl
   have hbl2:g<wr.heap.size:=Nat.lt_of_lt_of_le hbl HBW.out.size
   have hlti:(k:Int)<(l.length:Int):=by omega
   obtain ⟨_,k1,k2⟩:=wH a b c x y z
   obtain ⟨q,hq⟩:∃q,decide ((⟨a,b,c⟩:Pr)=⟨x,y,z⟩)=q:=⟨_,rfl⟩
   obtain ⟨n,hn⟩:∃n,dw ⟨a,b,c⟩ ⟨x,y,z⟩=n:=⟨_,rfl⟩
   have HC1:=Lib.hid (fun W=>HC.out a b c W)
   rw [hn] at HC1
   have HST:Hid (acc++(bif dn then (bif q then dq (l.drop (k+1)) ⟨x,y,z⟩ else ⟨⟨a,b,c⟩,⟨m',u'⟩⟩ :: dq (l.drop (k+1)) ⟨x,y,z⟩) else iU ⟨⟨x,y,z⟩,⟨m,u⟩⟩ (bif q then dq (l.drop (k+1)) ⟨x,y,z⟩ else ⟨⟨a,b,c⟩,⟨m',u'⟩⟩ :: dq (l.drop (k+1)) ⟨x,y,z⟩))=R):=Lib.hid (by
    have h1:=HI.out
    rw [db hlt hx,oV] at h1
    rw [←hq]
    exact h1)
   have HIN:Hid (∀f,iU ⟨⟨x,y,z⟩,⟨m,u⟩⟩ (⟨⟨a,b,c⟩,⟨m',u'⟩⟩ :: f)=bif decide (0<n) then ⟨⟨x,y,z⟩,⟨m,u⟩⟩ :: ⟨⟨a,b,c⟩,⟨m',u'⟩⟩ :: f else ⟨⟨a,b,c⟩,⟨m',u'⟩⟩ :: iU ⟨⟨x,y,z⟩,⟨m,u⟩⟩ f):=Lib.hid (fun f=>by rw [i9,hn])
   rw [hq] at k1
   have HX:=Lib.hid hx
   have HRK:Hid (∀W,Below w.heap.size w W→RowsAt oM W (Lo w.heap.size) (some ⟨g,off,none⟩) l):=Lib.hid (fun W h=>HR.out.below (B'':=w.heap.size) h hB hB)
   clear hq hx hbl hn
   cases q with
   | true =>
    have HNX:Hid (acc++(bif dn then dq (l.drop (k+1)) ⟨x,y,z⟩ else iU ⟨⟨x,y,z⟩,⟨m,u⟩⟩ (dq (l.drop (k+1)) ⟨x,y,z⟩))=R):=Lib.hid HST.out
    go_wp2_with fail
    go_quiet (fail)
    go_wp2_with fail
    go_roundg (gk-1)
    case measure=>omega
    case rel=>exact ⟨k+1,dn,acc,rfl,by go_num,by omega,by omega,by omega,Lib.hid (fun h=>by have:=HAC.out h;omega),Lib.hid (HO.out.drewN _),HNX,Lib.hid (cI HBL.out _)⟩
   | false =>
    go_wp2_with fail
    go_quiet (fail)
    have g0:=Ext.cell (w0:=World.drewN wr nq) c0
    have g1:=Ext.cell (w0:=World.drewN wr nq) c1
    have g2:=Ext.cell (w0:=World.drewN wr nq) c2
    have g3:=Ext.cell (w0:=World.drewN wr nq) p0
    have g4:=Ext.cell (w0:=World.drewN wr nq) p1
    have g5:=Ext.cell (w0:=World.drewN wr nq) p2
    clear k1 k2
    cases dn with
    | true =>
     have HNX:Hid ((acc++[⟨⟨a,b,c⟩,⟨m',u'⟩⟩])++(bif true then dq (l.drop (k+1)) ⟨x,y,z⟩ else iU ⟨⟨x,y,z⟩,⟨m,u⟩⟩ (dq (l.drop (k+1)) ⟨x,y,z⟩))=R):=Lib.hid (by have h1:=HST.out;simpa using h1)
     go_wp2_with fail
     refine aM (by kernel_rfl) (by kernel_rfl) ?_;(repeat (go_big_quiet_step ((go_at_call 115;exact Ext.call _ (HC1.out _)))));refine wpQuiet_nil ?_;rintro w2 ⟨n2,rfl⟩;have hb2:=n2.below;generalize n2.w=w2 at hb2 ⊢;clear n2
     have HBL2:Hid (Below w1.heap.size w1 w2):=Lib.hid (Below.tr (cI HBL.out nq) hb2)
     have HBW2:Hid (Below w.heap.size w w2):=Lib.hid (Below.tr HBW1.out HBL2.out)
     have HO2:=Lib.hid ((HO.out.drewN nq).below (B:=(World.drewN wr nq).heap.size) hb2 (Nat.le_refl _))
     clear hb2 g0 g1 g2 g3 g4 g5 c0 c1 c2 c3 c4 p0 p1 p2
     ·skip
      obtain ⟨_,_,hA,_,e0,e1,e2,e3,e4⟩:=fq (HRK.out w2 HBW2.out) hlt HX.out
      injection hA with hA
      injection hA with ea eb
      subst ea
      subst eb
      have hgl:g<w2.heap.size:=Nat.lt_of_lt_of_le hgw HBW2.out.size
      go_wp2_with (at_builtin;refine dd za rfl (.tmp 43) (.tmp 48) rfl w2 w1.heap.size u7 acc ⟨⟨a,b,c⟩,⟨m',u'⟩⟩ [.int .i64 a,.int .i64 b,.int .i64 c,.int .i64 m',.int .i64 u'] _ rfl rfl HO2.out w2.heap.size rfl rfl rfl (by (try simp);unfold maxLen;omega) (by (try simp);omega) ?_;intro v7 w7 hown7 hb7 hsp7;have HB7:Hid (Below w1.heap.size w1 w7):=Lib.hid (HBL2.out.trans hb7);have HO7:=Lib.hid hown7;clear hown7 hb7 hsp7)
      go_roundg (gk-1)
      case measure=>omega
      case rel=>exact ⟨k+1,true,_,rfl,by go_num,by omega,by omega,by (have:=HAC.out;simp at this ⊢;omega),Lib.hid (fun h=>by cases h),HO7,HNX,HB7⟩
    | false =>
     by_cases hnn:0<n
     ·have hdn:decide (0<n)=true:=decide_eq_true hnn
      have HNX:Hid (((acc++[⟨⟨x,y,z⟩,⟨m,u⟩⟩])++[⟨⟨a,b,c⟩,⟨m',u'⟩⟩])++(bif true then dq (l.drop (k+1)) ⟨x,y,z⟩ else iU ⟨⟨x,y,z⟩,⟨m,u⟩⟩ (dq (l.drop (k+1)) ⟨x,y,z⟩))=R):=Lib.hid (by have h1:=HST.out;simp only [cond_false] at h1;rw [HIN.out,hdn] at h1;simpa using h1)
      go_wp2_with fail
      refine aM (by kernel_rfl) (by kernel_rfl) ?_;(repeat (go_big_quiet_step ((go_at_call 115;exact Ext.call _ (HC1.out _)))));refine wpQuiet_nil ?_;rintro w2 ⟨n2,rfl⟩;have hb2:=n2.below;generalize n2.w=w2 at hb2 ⊢;clear n2
      have HBL2:Hid (Below w1.heap.size w1 w2):=Lib.hid (Below.tr (cI HBL.out nq) hb2)
      have HBW2:Hid (Below w.heap.size w w2):=Lib.hid (Below.tr HBW1.out HBL2.out)
      have HO2:=Lib.hid ((HO.out.drewN nq).below (B:=(World.drewN wr nq).heap.size) hb2 (Nat.le_refl _))
      clear hb2 g0 g1 g2 g3 g4 g5 c0 c1 c2 c3 c4 p0 p1 p2
      have HP2:Hid (Blk w2 w.heap.size 23 #[.int .i64 x,.int .i64 y,.int .i64 z]):=Lib.hid (HP1.out.below HBL2.out HP1.out.lt)
      have HA2:Hid (Blk w2 (w.heap.size+1) 29 #[.int .i64 m,.int .i64 u]):=Lib.hid (HA1.out.below HBL2.out HA1.out.lt)
      have r0:=HP2.out.cellx 0 (v:=.int .i64 x) rfl
      have r1:=HP2.out.cellx 1 (v:=.int .i64 y) rfl
      have r2:=HP2.out.cellx 2 (v:=.int .i64 z) rfl
      have r3:=HA2.out.cellx 0 (v:=.int .i64 m) rfl
      have r4:=HA2.out.cellx 1 (v:=.int .i64 u) rfl
      have rl1:w.heap.size<w2.heap.size:=HP2.out.lt
      have rl2:w.heap.size+1<w2.heap.size:=HA2.out.lt
      go_wp2_with (at_builtin;first|(refine dd za rfl (.tmp 37) (.tmp 41) rfl w2 w1.heap.size u7 acc ⟨⟨x,y,z⟩,⟨m,u⟩⟩ [.int .i64 x,.int .i64 y,.int .i64 z,.int .i64 m,.int .i64 u] _ rfl rfl HO2.out w2.heap.size rfl rfl rfl (by unfold maxLen;omega) (by omega) ?_;intro v8 w8 hown8 hb8 hsp8;have HB8:Hid (Below w1.heap.size w1 w8):=Lib.hid (HBL2.out.trans hb8);have HBW8:Hid (Below w.heap.size w w8):=Lib.hid (Below.tr HBW1.out HB8.out);have HO8:=Lib.hid hown8;clear hown8 hb8 hsp8;obtain ⟨_,_,hA,_,e0,e1,e2,e3,e4⟩:=fq (HRK.out w8 HBW8.out) hlt HX.out;injection hA with hA;injection hA with ea eb;subst ea;subst eb;have hgl:g<w8.heap.size:=Nat.lt_of_lt_of_le hgw HBW8.out.size;clear r0 r1 r2 r3 r4 rl1 rl2)|(refine dd za rfl (.tmp 43) (.tmp 48) rfl w8 w1.heap.size v8 (acc++[⟨⟨x,y,z⟩,⟨m,u⟩⟩]) ⟨⟨a,b,c⟩,⟨m',u'⟩⟩ [.int .i64 a,.int .i64 b,.int .i64 c,.int .i64 m',.int .i64 u'] _ rfl rfl HO8.out w8.heap.size rfl rfl rfl (by (try simp);unfold maxLen;omega) (by (try simp);omega) ?_;intro v7 w7 hown7 hb7 hsp7;have HB7:Hid (Below w1.heap.size w1 w7):=Lib.hid (HB8.out.trans hb7);have HO7:=Lib.hid hown7;clear hown7 hb7 hsp7))
      go_roundg (gk-1)
      case measure=>omega
      case rel=>exact ⟨k+1,true,_,rfl,by go_num,by omega,by omega,by (have:=HAC.out;simp at this ⊢;omega),Lib.hid (fun h=>by cases h),HO7,HNX,HB7⟩
     ·have hdn:decide (0<n)=false:=decide_eq_false hnn
      have HNX:Hid ((acc++[⟨⟨a,b,c⟩,⟨m',u'⟩⟩])++(bif false then dq (l.drop (k+1)) ⟨x,y,z⟩ else iU ⟨⟨x,y,z⟩,⟨m,u⟩⟩ (dq (l.drop (k+1)) ⟨x,y,z⟩))=R):=Lib.hid (by have h1:=HST.out;simp only [cond_false] at h1;rw [HIN.out,hdn] at h1;simpa using h1)
      go_wp2_with fail
      refine aM (by kernel_rfl) (by kernel_rfl) ?_;(repeat (go_big_quiet_step ((go_at_call 115;exact Ext.call _ (HC1.out _)))));refine wpQuiet_nil ?_;rintro w2 ⟨n2,rfl⟩;have hb2:=n2.below;generalize n2.w=w2 at hb2 ⊢;clear n2
      have HBL2:Hid (Below w1.heap.size w1 w2):=Lib.hid (Below.tr (cI HBL.out nq) hb2)
      have HBW2:Hid (Below w.heap.size w w2):=Lib.hid (Below.tr HBW1.out HBL2.out)
      have HO2:=Lib.hid ((HO.out.drewN nq).below (B:=(World.drewN wr nq).heap.size) hb2 (Nat.le_refl _))
      clear hb2 g0 g1 g2 g3 g4 g5 c0 c1 c2 c3 c4 p0 p1 p2
      obtain ⟨_,_,hA,_,e0,e1,e2,e3,e4⟩:=fq (HRK.out w2 HBW2.out) hlt HX.out
      injection hA with hA
      injection hA with ea eb
      subst ea
      subst eb
      have hgl:g<w2.heap.size:=Nat.lt_of_lt_of_le hgw HBW2.out.size
      go_wp2_with (at_builtin;refine dd za rfl (.tmp 43) (.tmp 48) rfl w2 w1.heap.size u7 acc ⟨⟨a,b,c⟩,⟨m',u'⟩⟩ [.int .i64 a,.int .i64 b,.int .i64 c,.int .i64 m',.int .i64 u'] _ rfl rfl HO2.out w2.heap.size rfl rfl rfl (by (try simp);unfold maxLen;omega) (by (try simp);omega) ?_;intro v7 w7 hown7 hb7 hsp7;have HB7:Hid (Below w1.heap.size w1 w7):=Lib.hid (HBL2.out.trans hb7);have HO7:=Lib.hid hown7;clear hown7 hb7 hsp7)
      go_roundg (gk-1)
      case measure=>omega
      case rel=>exact ⟨k+1,false,_,rfl,by go_num,by omega,by omega,by simp;omega,Lib.hid (fun _=>by have:=HAC.out (by simp);simp;omega),HO7,HNX,HB7⟩
  ·have hlti:¬(k:Int)<(l.length:Int):=by omega
   have HE:Hid (acc++(bif dn then [] else [⟨⟨x,y,z⟩,⟨m,u⟩⟩])=R):=Lib.hid (by have h1:=HI.out;rw [dJ hlt] at h1;exact h1)
   cases dn with
   | true =>
    have HE2:Hid (acc=R):=Lib.hid (by have h1:=HE.out;simpa using h1)
    rw [HE2.out] at HO
    go_wp2_with fail
    go_ret
    exact ⟨_,rfl,HO.out.older HBW1.out.size,HBW.out⟩
   | false =>
    have r3:=HAW.out.cellx 0 (v:=.int .i64 m) rfl
    have r4:=HAW.out.cellx 1 (v:=.int .i64 u) rfl
    have rl2:w.heap.size+1<wr.heap.size:=HAW.out.lt
    go_wp2_with (at_builtin;refine dd za rfl (.tmp 52) (.tmp 56) rfl wr w1.heap.size u7 acc ⟨⟨x,y,z⟩,⟨m,u⟩⟩ [.int .i64 x,.int .i64 y,.int .i64 z,.int .i64 m,.int .i64 u] _ rfl rfl HO.out wr.heap.size rfl rfl rfl (by unfold maxLen;omega) (by omega) ?_;intro v8 w8 hown8 hb8 hsp8;have HB8:Hid (Below w1.heap.size w1 w8):=Lib.hid (HBL.out.trans hb8);have HBW8:Hid (Below w.heap.size w w8):=Lib.hid (Below.tr HBW1.out HB8.out);have HO8:=Lib.hid hown8;clear hown8 hb8 hsp8)
    have HE2:Hid (acc++[⟨⟨x,y,z⟩,⟨m,u⟩⟩]=R):=Lib.hid HE.out
    rw [HE2.out] at HO8
    go_ret
    exact ⟨_,rfl,HO8.out.older HBW1.out.size,HBW8.out⟩
section
variable {α:Type} {E:El α} {w w':World} {l:List α} {base:Nat} {e:TypeId} {size:Nat} {xs:List Value} {g n cap:Nat}
theorem Ja {xs:List Value} {j:Nat} {v:Value} (r:List Value) (h:j+1+r.length≤xs.length):(xs.set j v).take (j+1)++r++(xs.set j v).drop (j+1+r.length)=xs.take j++v :: r++xs.drop (j+(v :: r).length):=by
 have h1:(xs.set j v).take (j+1)=xs.take j++[v]:=by
  rw [List.set_eq_take_append_cons_drop,if_pos (by omega),List.take_append,List.length_take,Nat.min_eq_left (by omega),List.take_of_length_le (by rw [List.length_take];omega),show j+1-j=1 by omega]
  rfl
 have h2:(xs.set j v).drop (j+1+r.length)=xs.drop (j+(v :: r).length):=by
  rw [List.drop_set_of_lt (by omega),List.length_cons]
  congr 1
  omega
 rw [h1,h2]
 simp
theorem jv:∀(vs:List Value) (j:Nat) (w:World) (xs:List Value),w.ownsRow base e size (.slice (some ⟨g,0,none⟩) n cap) n xs→j+vs.length≤xs.length→
  (w.setCells g j vs).ownsRow base e size (.slice (some ⟨g,0,none⟩) n cap) n (xs.take j++vs++xs.drop (j+vs.length))
 | [],j,w,xs,h,_=>by simpa [World.setCells] using h
 | v :: r,j,w,xs,h,hl=>by
  have hl':j+1+r.length≤xs.length:=by simp at hl;omega
  rw [World.setCells,←Ja r hl']
  exact jv r (j+1) _ _ (h.stored j v).1 (by simpa using hl')
theorem pU:∀(vs:List Value) (j:Nat) (w:World) (xs:List Value),w.ownsRow base e size (.slice (some ⟨g,0,none⟩) n cap) n xs→xs.length≤j→
  (w.setCells g j vs).ownsRow base e size (.slice (some ⟨g,0,none⟩) n cap) n xs
 | [],j,w,xs,h,_=>by simpa [World.setCells] using h
 | v :: r,j,w,xs,h,hl=>by
  rw [World.setCells]
  have:=(h.stored j v).1
  rw [List.set_eq_of_length_le hl] at this
  exact pU r (j+1) _ _ this (by omega)
theorem dX:∀(vs:List Value) (j:Nat) (w:World) (b:Nat),b≠g→(w.setCells g j vs).heap[b]? = w.heap[b]?
 | [],_,_,_,_=>rfl
 | v :: r,j,w,b,h=>by
  rw [World.setCells,dX r (j+1) _ b h]
  exact heap_setCell_other w ⟨g,j,none⟩ b v h
theorem dO:∀(vs:List Value) (j:Nat) (w:World),(w.setCells g j vs).heap.size=w.heap.size
 | [],_,_=>rfl
 | v :: r,j,w=>by
  rw [World.setCells,dO r (j+1)]
  simp [World.setCell]
theorem dY {B:Nat} (hg:B≤g):∀(vs:List Value) (j:Nat) (w':World),Below B w w'→Below B w (w'.setCells g j vs)
 | [],_,_,h=>h
 | v :: r,j,w',h=>by
  rw [World.setCells]
  exact dY hg r (j+1) _ (h.setCell hg v)
theorem OwnRows.cut (h:OwnRows E e w base (.slice (some ⟨g,0,none⟩) l.length cap) l) {k:Nat} (hk:k≤l.length):OwnRows E e w base (.slice (some ⟨g,0,none⟩) k cap) (l.take k):=by
 obtain ⟨h0,xs,⟨h1,h2⟩,h3⟩:=h
 refine ⟨h0,xs.take (k*E.n),?_,h3.take k⟩
 rw [List.length_take,Nat.min_eq_left hk]
 have hle:k*E.n≤l.length*E.n:=Nat.mul_le_mul_right _ hk
 refine ⟨by rw [List.length_take,h1,Nat.min_eq_left hle],?_⟩
 rcases h2 with ⟨hv,_⟩|⟨g',cap',cur,hv,hg,hh,hnc,hcm,hcs,ht⟩
 ·cases hv
 ·injection hv with e1 _ e3
  injection e1 with e1
  injection e1 with e1
  subst e1
  subst e3
  refine .inr ⟨_,_,cur,rfl,hg,hh,by omega,hcm,hcs,?_⟩
  rw [←ht,List.take_take,Nat.min_eq_left hle]
theorem OwnRows.setRow (h:OwnRows E e w base (.slice (some ⟨g,0,none⟩) l.length cap) l) {i:Nat} (hi:i<l.length) {y:α} {cs:List Value}
  (hy:E.rep (w.setCells g (i*E.n) cs) (oL (w.setCells g (i*E.n) cs) (.slice (some ⟨g,0,none⟩) l.length cap)) y cs) :
  OwnRows E e (w.setCells g (i*E.n) cs) base (.slice (some ⟨g,0,none⟩) l.length cap) (l.set i y):=by
 have hl:=E.len hy
 refine h.setAll hi hy (dO _ _ _) (fun b hb=>dX _ _ _ _ fun e=>hb.2 (by rw [e];rfl)) fun xs hx=>?_
 have:=jv cs (i*E.n) w xs hx (by
  rw [hl,hx.1]
  have:=Nat.mul_le_mul_right E.n (show i+1≤l.length from hi)
  rw [Nat.add_mul,Nat.one_mul] at this
  exact this)
 rwa [hl] at this
theorem OwnRows.off (h:OwnRows E e w base (.slice (some ⟨g,0,none⟩) l.length cap) l) (vs:List Value) {j:Nat} (hj:l.length*E.n≤j):OwnRows E e (w.setCells g j vs) base (.slice (some ⟨g,0,none⟩) l.length cap) l:=by
 obtain ⟨h0,xs,h1,h3⟩:=h
 refine ⟨by rw [dO];exact h0,xs,pU vs j w xs h1 (by rw [h1.1];exact hj),h3.same (fun b hb=>dX _ _ _ _ fun e=>hb.2 (by rw [e];rfl)) fun b hb=>⟨by rw [dO];exact hb.1,hb.2⟩⟩
theorem OwnRows.cellAt (h:OwnRows E e w base (.slice (some ⟨g,0,none⟩) l.length cap) l) {j:Nat} (hj:j<cap*E.n):(w.cell? ⟨g,j,none⟩).isSome=true∧w.frozen? ⟨g,j,none⟩=false:=by
 obtain ⟨h0,xs,⟨h1,h2⟩,h3⟩:=h
 rcases h2 with ⟨hv,_⟩|⟨g',cap',cur,hv,hg,hh,hnc,hcm,hcs,ht⟩
 ·cases hv
 ·injection hv with e1 _ e3
  injection e1 with e1
  injection e1 with e1
  subst e1
  subst e3
  refine ⟨?_,frozen_of_row w _ j cur e hh⟩
  have:w.cell? ⟨g,j,none⟩=cur[j]?:=by simp [World.cell?,hh]
  rw [this,Array.getElem?_eq_getElem (by rw [hcs];exact hj)]
  rfl
end
section
variable {α:Type} {E:El α} {w w':World} {l ys:List α} {base:Nat} {e:TypeId} {g cap:Nat}
theorem OwnRows.part (h:OwnRows E e w base (.slice (some ⟨g,0,none⟩) l.length cap) l) (k n:Nat):∃cs,Reps E w (oL w (.slice (some ⟨g,0,none⟩) l.length cap)) ((l.drop k).take n) cs∧∀i v,cs[i]? = some v→w.cell? ⟨g,k*E.n+i,none⟩=some v:=by
 obtain ⟨h0,xs,h1,h3⟩:=h
 refine ⟨_,(h3.drop k).take n,fun i v hv=>?_⟩
 rw [List.getElem?_take] at hv
 split at hv
 ·rw [List.getElem?_drop] at hv
  have:=h1.cells rfl _ _ hv
  rwa [dA,Nat.zero_add] at this
 ·cases hv
end
def uR (A:Option Addr) (cap k size:Nat):Option Addr:=if cap=k then A else A.map (·.add (k*size))
theorem RowsAt.cut {α:Type} {E:El α} {w:World} {S:Nat→Prop} {A:Option Addr} {l:List α} {k cap:Nat} (h:RowsAt E w S A l) (hk:k≤l.length) (hc:l.length≤cap):RowsAt E w S (uR A cap k E.n) (l.drop k):=by
 unfold uR
 rcases Nat.eq_or_lt_of_le hk with e|e
 ·rw [e,List.drop_length]
  exact RowsAt.nil _ _ _ _
 ·rw [if_neg (by omega)]
  obtain ⟨b,off,_,hA,_⟩:=h.get e
  subst hA
  simp only [Option.map_some,dA]
  exact h.drop k
theorem Dg {P:Program} {t e:TypeId} {i:TypeInfo} (ht:P.underlying t=some (.slice e)) (hi:P.info? e=some i) (A:Option Addr) (n cap k:Nat) (hk:k≤cap) (w:World) :
  (Instr.slice t (.slice A n cap) none (some (.int .i64 (k:Int))) none).run P w = .ok (.slice A k cap) w:=by
 have he:P.elem t=e:=by simp [Program.elem,ht]
 have hh:((k:Int)).toNat=k:=by omega
 rw [run_slice_h w t A n cap (by rw [he];exact ht) .i64 k (by omega) (by omega),he,hh]
 have h0:∀a:Addr,a.add 0=a:=fun a=>by unfold Addr.add;simp
 cases A <;> simp [sizeOf,typeInfo,hi,sliced,Result.andThen,h0]
theorem Dh {P:Program} {t e:TypeId} {i:TypeInfo} (ht:P.underlying t=some (.slice e)) (hi:P.info? e=some i) (A:Option Addr) (n cap k:Nat) (hk:k≤n) (w:World) :
  (Instr.slice t (.slice A n cap) (some (.int .i64 (k:Int))) none none).run P w = .ok (.slice (uR A cap k i.size) (n-k) (cap-k)) w:=by
 have he:P.elem t=e:=by simp [Program.elem,ht]
 have hh:((k:Int)).toNat=k:=by omega
 rw [run_slice_l w t A n cap (by rw [he];exact ht) .i64 k (by omega) (by omega),he,hh]
 simp [sizeOf,typeInfo,hi,sliced,Result.andThen,uR]
theorem Jb {t e:TypeId} {z:Value} {sz by_:Nat} (ht:prog.underlying t=some (.slice e)) (hi:(prog.info? e).map (fun i=>(i.zero,i.size,i.bytes))=some (some z,sz,by_)) (A:Option Addr) (n cap k:Nat) (hk:k≤n) (hc:n≤cap) :
  (∀w,(Instr.sliceAt t (.slice A n cap) none (some (.int .i64 (k:Int))) none).run prog w = .ok (.slice A k cap) w)∧
  ∀w,(Instr.sliceAt t (.slice A n cap) (some (.int .i64 (k:Int))) none none).run prog w = .ok (.slice (uR A cap k sz) (n-k) (cap-k)) w:=by
 obtain ⟨i0,hi0,hz0,hz1,hz2⟩:=info_parts hi
 have he:prog.elem t=e:=by simp [Program.elem,ht]
 constructor
 ·intro w
  rw [run_sliceAt_slice w t _ _ _ _ (by rw [he];exact ht)]
  exact Dg ht hi0 A n cap k (by omega) w
 ·intro w
  rw [run_sliceAt_slice w t _ _ _ _ (by rw [he];exact ht),Dh ht hi0 A n cap k hk w,hz1]
theorem nz (l:List Ho) (p:Pr):(dq l p).length≤l.length:=List.length_filter_le _ _
section
def Ky (r:Rs) (l:List Ho) (p:Pr) (a:Am):Bool:=tf r l && fo p && aC r a
def go (r:Rs) (l:List Ho) (p:Pr) (a:Am):Bool:=Ky r l p a && tf r (cM l p a)
theorem AA {r:Rs} {l:List Ho} (h:tf r l=true):l.length≤8:=by
 unfold tf at h
 simp only [Bool.and_eq_true,decide_eq_true_eq] at h
 exact h.1.1.2
theorem nE (x:Ho):∀l:List Ho,(iU x l).length=l.length+1
 | []=>rfl
 | h :: l=>by
  rw [i9]
  cases decide (0<dw h.proc x.proc) <;> simp [nE x l]
theorem wN (l:List Ho) (p:Pr) (a:Am):(cM l p a).length≤l.length+1:=by
 have:=nz l p
 unfold cM
 cases aF a
 ·simp [nE];omega
 ·simp;omega
structure BoxR (w:World) (nm:ByteArray) (kd un h x y z m u:Int) (v:World):Prop where
 below:Below (((w.alloc (.cells #[.string nm,.int .i64 kd,.int .i64 un,.int .i64 h] 159)).alloc (.cells #[.int .i64 x,.int .i64 y,.int .i64 z] 23)).alloc (.cells #[.int .i64 m,.int .i64 u] 29)).heap.size (((w.alloc (.cells #[.string nm,.int .i64 kd,.int .i64 un,.int .i64 h] 159)).alloc (.cells #[.int .i64 x,.int .i64 y,.int .i64 z] 23)).alloc (.cells #[.int .i64 m,.int .i64 u] 29)) v
variable {w v v':World} {nm:ByteArray} {kd un h x y z m u:Int}
theorem BoxR.made:BoxR w nm kd un h x y z m u (((w.alloc (.cells #[.string nm,.int .i64 kd,.int .i64 un,.int .i64 h] 159)).alloc (.cells #[.int .i64 x,.int .i64 y,.int .i64 z] 23)).alloc (.cells #[.int .i64 m,.int .i64 u] 29)):=⟨Below.refl _ _⟩
theorem BoxR.next (b:BoxR w nm kd un h x y z m u v) (hb:Below v.heap.size v v'):BoxR w nm kd un h x y z m u v':=⟨Below.tr b.below hb⟩
theorem BoxR.bel (b:BoxR w nm kd un h x y z m u v):Below w.heap.size w v:=Below.tr (Below.al (Below.al (Below.al (Below.refl _ _) _) _) _) b.below
theorem BoxR.lt (b:BoxR w nm kd un h x y z m u v):w.heap.size+1+1<v.heap.size:=by have:=b.below.size;simp at this;omega
theorem BoxR.res (b:BoxR w nm kd un h x y z m u v):Blk v w.heap.size 159 #[.string nm,.int .i64 kd,.int .i64 un,.int .i64 h]:=(((Blk.new w 159 #[.string nm,.int .i64 kd,.int .i64 un,.int .i64 h]).alloc _).alloc _).below b.below (by simp;omega)
theorem BoxR.prc (b:BoxR w nm kd un h x y z m u v):Blk v (w.heap.size+1) 23 #[.int .i64 x,.int .i64 y,.int .i64 z]:=((by have:=Blk.new (w.alloc (.cells #[.string nm,.int .i64 kd,.int .i64 un,.int .i64 h] 159)) 23 #[.int .i64 x,.int .i64 y,.int .i64 z];simpa using this:Blk _ (w.heap.size+1) 23 #[.int .i64 x,.int .i64 y,.int .i64 z]).alloc _).below b.below (by simp)
theorem BoxR.amt (b:BoxR w nm kd un h x y z m u v):Blk v (w.heap.size+1+1) 29 #[.int .i64 m,.int .i64 u]:=(by have:=Blk.new ((w.alloc (.cells #[.string nm,.int .i64 kd,.int .i64 un,.int .i64 h] 159)).alloc (.cells #[.int .i64 x,.int .i64 y,.int .i64 z] 23)) 29 #[.int .i64 m,.int .i64 u];simpa using this:Blk _ (w.heap.size+1+1) 29 #[.int .i64 m,.int .i64 u]).below b.below (by simp)
structure CelR (w:World) (nm:ByteArray) (kd un h x y z m u:Int) (v:World):Prop where
 c0:v.cell? ⟨w.heap.size,0,none⟩=some (.string nm)
 c1:v.cell? ⟨w.heap.size,1,none⟩=some (.int .i64 kd)
 c2:v.cell? ⟨w.heap.size,2,none⟩=some (.int .i64 un)
 c3:v.cell? ⟨w.heap.size,3,none⟩=some (.int .i64 h)
 p0:v.cell? ⟨w.heap.size+1,0,none⟩=some (.int .i64 x)
 p1:v.cell? ⟨w.heap.size+1,1,none⟩=some (.int .i64 y)
 p2:v.cell? ⟨w.heap.size+1,2,none⟩=some (.int .i64 z)
 a0:v.cell? ⟨w.heap.size+1+1,0,none⟩=some (.int .i64 m)
 a1:v.cell? ⟨w.heap.size+1+1,1,none⟩=some (.int .i64 u)
 l0:w.heap.size<v.heap.size
 l1:w.heap.size+1<v.heap.size
 l2:w.heap.size+1+1<v.heap.size
theorem BoxR.cel (b:BoxR w nm kd un h x y z m u v):CelR w nm kd un h x y z m u v:=⟨b.res.cellx 0 rfl,b.res.cellx 1 rfl,b.res.cellx 2 rfl,b.res.cellx 3 rfl,b.prc.cellx 0 rfl,b.prc.cellx 1 rfl,b.prc.cellx 2 rfl,b.amt.cellx 0 rfl,b.amt.cellx 1 rfl,b.res.lt,b.prc.lt,b.amt.lt⟩
theorem BoxR.cj (b:BoxR w nm kd un h x y z m u v):v.cell? ⟨w.heap.size,0,none⟩=some (.string nm)∧v.cell? ⟨w.heap.size,1,none⟩=some (.int .i64 kd)∧v.cell? ⟨w.heap.size,2,none⟩=some (.int .i64 un)∧v.cell? ⟨w.heap.size,3,none⟩=some (.int .i64 h)∧v.cell? ⟨w.heap.size+1,0,none⟩=some (.int .i64 x)∧v.cell? ⟨w.heap.size+1,1,none⟩=some (.int .i64 y)∧v.cell? ⟨w.heap.size+1,2,none⟩=some (.int .i64 z)∧v.cell? ⟨w.heap.size+1+1,0,none⟩=some (.int .i64 m)∧v.cell? ⟨w.heap.size+1+1,1,none⟩=some (.int .i64 u):=⟨b.cel.c0,b.cel.c1,b.cel.c2,b.cel.c3,b.cel.p0,b.cel.p1,b.cel.p2,b.cel.a0,b.cel.a1⟩
theorem BM (r:Rs) (A:Option Addr) (B cap:Nat) (l:List Ho) (x y z m u:Int) (w:World) (hm:l.length≤maxLen) (hB:B≤w.heap.size) (hr:RowsAt oM w (Lo B) A l) :
  Calls prog 242 #[r.val,.slice A l.length cap,.agg #[.int .i64 x,.int .i64 y,.int .i64 z],.agg #[.int .i64 m,.int .i64 u]] w (gV w (.bool (go r l ⟨x,y,z⟩ ⟨m,u⟩))):=by
 obtain ⟨nm,kd,un,h⟩:=r
 have H1:=Lib.hid (fun W (hb:Below w.heap.size w W)=>kz ⟨nm,kd,un,h⟩ A B cap l W hm (Nat.le_trans hB hb.size) (hr.below hb hB (Nat.le_refl _)))
 have H4:=Lib.hid (fun W=>jp ⟨x,y,z⟩ W)
 have H5:=Lib.hid (fun W=>i8 ⟨nm,kd,un,h⟩ m u W)
 have H2:=Lib.hid (fun hl W (hb:Below w.heap.size w W)=>wM A B cap l x y z m u W hl (Nat.le_trans hB hb.size) (hr.below hb hB (Nat.le_refl _)))
 have H3:=Lib.hid (fun A B cap l W hm hB hr=>kz ⟨nm,kd,un,h⟩ A B cap l W hm hB hr)
 have HD:Hid (go ⟨nm,kd,un,h⟩ l ⟨x,y,z⟩ ⟨m,u⟩=(tf ⟨nm,kd,un,h⟩ l && fo ⟨x,y,z⟩ && aC ⟨nm,kd,un,h⟩ ⟨m,u⟩ && tf ⟨nm,kd,un,h⟩ (cM l ⟨x,y,z⟩ ⟨m,u⟩))):=Lib.hid rfl
 have HL8:Hid (tf ⟨nm,kd,un,h⟩ l=true→l.length≤8):=Lib.hid AA
 clear hr
 unfold Rs.val Pr.val at *
 obtain ⟨q1,hq1⟩:∃q,tf ⟨nm,kd,un,h⟩ l=q:=⟨_,rfl⟩
 obtain ⟨q2,hq2⟩:∃q,fo ⟨x,y,z⟩=q:=⟨_,rfl⟩
 obtain ⟨q3,hq3⟩:∃q,aC ⟨nm,kd,un,h⟩ ⟨m,u⟩=q:=⟨_,rfl⟩
 rw [hq1] at H1 HD HL8
 rw [hq2] at H4 HD
 rw [hq3] at H5 HD
 clear hq1 hq2 hq3
 have HBX:=Lib.hid (BoxR.made (w:=w) (nm:=nm) (kd:=kd) (un:=un) (h:=h) (x:=x) (y:=y) (z:=z) (m:=m) (u:=u))
 by_cases hall:q1=true∧q2=true∧q3=true
 ·obtain ⟨rfl,rfl,rfl⟩:=hall
  have hl8:l.length≤8:=HL8.out rfl
  have HSL:Hid ((cM l ⟨x,y,z⟩ ⟨m,u⟩).length≤maxLen):=Lib.hid (by have:=wN l ⟨x,y,z⟩ ⟨m,u⟩;unfold maxLen;omega)
  have HBD:Hid (BoxR w nm kd un h x y z m u (((w.alloc (.cells #[.string nm,.int .i64 kd,.int .i64 un,.int .i64 h] 159)).alloc (.cells #[.int .i64 x,.int .i64 y,.int .i64 z] 23)).alloc (.cells #[.int .i64 m,.int .i64 u] 29)).drew):=Lib.hid (HBX.out.next (Below.refl _ _).drew)
  go_enter func242,ntmps242
  go_wp2_with fail
  go_region_held3 (fun w'=>w'.cell? ⟨w.heap.size,0,none⟩=some (.string nm)∧w'.cell? ⟨w.heap.size,1,none⟩=some (.int .i64 kd)∧w'.cell? ⟨w.heap.size,2,none⟩=some (.int .i64 un)∧w'.cell? ⟨w.heap.size,3,none⟩=some (.int .i64 h)∧w'.cell? ⟨w.heap.size+1,0,none⟩=some (.int .i64 x)∧w'.cell? ⟨w.heap.size+1,1,none⟩=some (.int .i64 y)∧w'.cell? ⟨w.heap.size+1,2,none⟩=some (.int .i64 z)∧w'.cell? ⟨w.heap.size+1+1,0,none⟩=some (.int .i64 m)∧w'.cell? ⟨w.heap.size+1+1,1,none⟩=some (.int .i64 u))
   (first|exact HBD.out.cj|exact hC6|exact hC5|exact hC4|exact hC3|exact hC2)
   ((first
    | (go_at_call 165;refine (H2.out (by omega) _ hX4.bel).mono ?_;rintro e w5 ⟨v5,rfl,hown5,hb5⟩;obtain ⟨A5,cap5,rfl,hr5,hl5,hl5'⟩:=hown5.form;have hX5:=hX4.next hb5;have hC5:=hX5.cj)
    | (go_at_call 239;refine (H3.out A5 w5.heap.size cap5 (cM l ⟨x,y,z⟩ ⟨m,u⟩) w5 HSL.out (Nat.le_refl _) hr5).mono ?_;rintro e w6 ⟨rfl,hb6⟩;have hX6:=hX5.next hb6;have hC6:=hX6.cj)
    | (go_at_call 239;refine (H1.out _ HBD.out.bel).mono ?_;rintro e w2 ⟨rfl,hb2⟩;have hX2:=HBD.out.next hb2;have hC2:=hX2.cj)
    | (go_at_call 29;refine (H4.out _).mono ?_;rintro e w3 ⟨rfl,hb3⟩;have hX3:=hX2.next hb3;have hC3:=hX3.cj)
    | (go_at_call 172;refine (H5.out _).mono ?_;rintro e w4 ⟨rfl,hb4⟩;have hX4:=hX3.next hb4;have hC4:=hX4.cj)))
  all_goals
   go_wp2
   go_ret
   exact ⟨ax HD.out.symm,hX6.bel⟩
 ·have HF:Hid (go ⟨nm,kd,un,h⟩ l ⟨x,y,z⟩ ⟨m,u⟩=false):=Lib.hid (by
   rw [HD.out]
   cases q1 <;> cases q2 <;> cases q3 <;> first|rfl|exact absurd ⟨rfl,rfl,rfl⟩ hall)
  have HN:=Lib.hid hall
  have C:=HBX.out.cel
  obtain ⟨c0,c1,c2,c3,p0,p1,p2,a0,a1,_,_,_⟩:=C
  have g0:=Ext.cell c0
  have g1:=Ext.cell c1
  have g2:=Ext.cell c2
  have g3:=Ext.cell c3
  have g4:=Ext.cell p0
  have g5:=Ext.cell p1
  have g6:=Ext.cell p2
  have g7:=Ext.cell a0
  have g8:=Ext.cell a1
  clear c0 c1 c2 c3 p0 p1 p2 a0 a1 hall
  have H1':Hid (∀n:Ext (((w.alloc (.cells #[.string nm,.int .i64 kd,.int .i64 un,.int .i64 h] 159)).alloc (.cells #[.int .i64 x,.int .i64 y,.int .i64 z] 23)).alloc (.cells #[.int .i64 m,.int .i64 u] 29)),Calls prog 239 #[.agg #[.string nm,.int .i64 kd,.int .i64 un,.int .i64 h],.slice A l.length cap] n.w (gV n.w (.bool q1))):=Lib.hid (fun n=>H1.out _ (Below.trans HBX.out.bel (n.below.mono HBX.out.bel.size)))
  cases q1 <;> cases q2 <;> cases q3
  all_goals first
   | exact absurd ⟨rfl,rfl,rfl⟩ HN.out
   | skip
  all_goals
   go_enter func242,ntmps242
   go_wp2_with fail
   refine aM (by kernel_rfl) (by kernel_rfl) ?_;(repeat (go_big_quiet_step ((first|(go_at_call 239;exact Ext.call _ (H1'.out _))|(go_at_call 29;exact Ext.call _ (H4.out _))|(go_at_call 172;exact Ext.call _ (H5.out _))))));refine wpQuiet_nil ?_;rintro w2 ⟨n2,rfl⟩;have hb2:=n2.below;generalize n2.w=w2 at hb2 ⊢;clear n2
   have HB2:=Lib.hid hb2
   clear hb2
   go_wp2_with fail
   go_ret
   exact ⟨ax HF.out.symm,by exact aw⟩
end
structure Qu where
 res:Rs
 holds:List Ho
 convs:List Wt
 waits:List Wt
 gen:Int
def Qu.val (q:Qu) (A1 A2 A3:Option Addr) (c1 c2 c3:Nat):Value:=.agg #[.string q.res.name,.int .i64 q.res.kind,.int .i64 q.res.units,.int .i64 q.res.home,.slice A1 q.holds.length c1,.slice A2 q.convs.length c2,.slice A3 q.waits.length c3,.int .i64 q.gen]
structure QF (w:World) (B:Nat) (A1 A2 A3:Option Addr) (q:Qu):Prop where
 r1:RowsAt oM w (Lo B) A1 q.holds
 r2:RowsAt nv w (Lo B) A2 q.convs
 r3:RowsAt nv w (Lo B) A3 q.waits
 m1:q.holds.length≤maxLen
 m2:q.convs.length≤maxLen
 m3:q.waits.length≤maxLen
 hB:B≤w.heap.size
theorem QF.below {w w':World} {B:Nat} {A1 A2 A3:Option Addr} {q:Qu} (f:QF w B A1 A2 A3 q) (hb:Below w.heap.size w w'):QF w' B A1 A2 A3 q :=
 ⟨f.r1.below hb f.hB (Nat.le_refl _),f.r2.below hb f.hB (Nat.le_refl _),f.r3.below hb f.hB (Nat.le_refl _),f.m1,f.m2,f.m3,Nat.le_trans f.hB hb.size⟩
structure BoxQ (w:World) (nm:ByteArray) (kd un h:Int) (A1:Option Addr) (n1 c1:Nat) (A2:Option Addr) (n2 c2:Nat) (A3:Option Addr) (n3 c3:Nat) (gen:Int) (v:World):Prop where
 below:Below w.heap.size w v
 blk:Blk v w.heap.size 165 #[.string nm,.int .i64 kd,.int .i64 un,.int .i64 h,.slice A1 n1 c1,.slice A2 n2 c2,.slice A3 n3 c3,.int .i64 gen]
section
variable {w v v':World} {nm:ByteArray} {kd un h gen:Int} {A1 A2 A3:Option Addr} {n1 n2 n3 c1 c2 c3:Nat}
theorem BoxQ.made:BoxQ w nm kd un h A1 n1 c1 A2 n2 c2 A3 n3 c3 gen (w.alloc (.cells #[.string nm,.int .i64 kd,.int .i64 un,.int .i64 h,.slice A1 n1 c1,.slice A2 n2 c2,.slice A3 n3 c3,.int .i64 gen] 165)):=⟨Below.al (Below.refl _ _) _,Blk.new _ _ _⟩
theorem BoxQ.next (b:BoxQ w nm kd un h A1 n1 c1 A2 n2 c2 A3 n3 c3 gen v) (hb:Below v.heap.size v v'):BoxQ w nm kd un h A1 n1 c1 A2 n2 c2 A3 n3 c3 gen v':=⟨Below.tr b.below hb,b.blk.below hb b.blk.lt⟩
structure CelQ (w:World) (nm:ByteArray) (kd un h:Int) (A1:Option Addr) (n1 c1:Nat) (A2:Option Addr) (n2 c2:Nat) (A3:Option Addr) (n3 c3:Nat) (gen:Int) (v:World):Prop where
 q0:v.cell? ⟨w.heap.size,0,none⟩=some (.string nm)
 q1:v.cell? ⟨w.heap.size,1,none⟩=some (.int .i64 kd)
 q2:v.cell? ⟨w.heap.size,2,none⟩=some (.int .i64 un)
 q3:v.cell? ⟨w.heap.size,3,none⟩=some (.int .i64 h)
 q4:v.cell? ⟨w.heap.size,4,none⟩=some (.slice A1 n1 c1)
 q5:v.cell? ⟨w.heap.size,5,none⟩=some (.slice A2 n2 c2)
 q6:v.cell? ⟨w.heap.size,6,none⟩=some (.slice A3 n3 c3)
 q7:v.cell? ⟨w.heap.size,7,none⟩=some (.int .i64 gen)
 ql:w.heap.size<v.heap.size
theorem BoxQ.cel (b:BoxQ w nm kd un h A1 n1 c1 A2 n2 c2 A3 n3 c3 gen v):CelQ w nm kd un h A1 n1 c1 A2 n2 c2 A3 n3 c3 gen v:=⟨b.blk.cellx 0 rfl,b.blk.cellx 1 rfl,b.blk.cellx 2 rfl,b.blk.cellx 3 rfl,b.blk.cellx 4 rfl,b.blk.cellx 5 rfl,b.blk.cellx 6 rfl,b.blk.cellx 7 rfl,b.blk.lt⟩
end
def dv (q:Qu):Option Wt:=match q.convs with|x :: _=>some x | []=>q.waits.head?
def Di:Option Wt→Value
 | some x=>.tuple #[x.val,.bool true]
 | none=>.tuple #[.agg #[.int .i64 0,.int .i64 0,.int .i64 0,.int .i64 0,.int .i64 0,.int .i64 0,.int .i64 0],.bool false]
theorem tM (q:Qu) (A1 A2 A3:Option Addr) (c1 c2 c3:Nat) (w:World) (B:Nat) (hq:QF w B A1 A2 A3 q) :
  Calls prog 241 #[q.val A1 A2 A3 c1 c2 c3] w (gV w (Di (dv q))):=by
 obtain ⟨⟨nm,kd,un,h⟩,hs,cs,ws,gen⟩:=q
 unfold Qu.val dv
 dsimp only
 have HBQ:=Lib.hid (Below.refl w.heap.size w)
 rcases cs with _|⟨⟨⟨a,b,c⟩,⟨m,u⟩,pr,pa⟩,cs⟩
 ·rcases ws with _|⟨⟨⟨a,b,c⟩,⟨m,u⟩,pr,pa⟩,ws⟩
  ·clear hq
   go_enter func241,ntmps241
   go_wp2_with fail
   refine bodyPost_ret_by (v:=_) ?_ rfl ⟨rfl,by exact aw⟩
   rw [results_cell_tmp rfl]
   go_simp
   rfl
  ·obtain ⟨g,off,rfl,hbl,d0,d1,d2,d3,d4,d5,d6⟩:=dC hq.r3 (i:=0) (by simp) rfl
   have hgl:g<w.heap.size:=Nat.lt_of_lt_of_le hbl hq.hB
   simp only [Nat.zero_mul,Nat.add_zero] at d0 d1 d2 d3 d4 d5 d6
   clear hq hbl
   go_enter func241,ntmps241
   go_wp2_with fail
   refine bodyPost_ret_by (v:=_) ?_ rfl ⟨rfl,by exact aw⟩
   rw [results_cell_tmp rfl]
   go_simp
   rfl
 ·obtain ⟨g,off,rfl,hbl,d0,d1,d2,d3,d4,d5,d6⟩:=dC hq.r2 (i:=0) (by simp) rfl
  have hgl:g<w.heap.size:=Nat.lt_of_lt_of_le hbl hq.hB
  simp only [Nat.zero_mul,Nat.add_zero] at d0 d1 d2 d3 d4 d5 d6
  clear hq hbl
  go_enter func241,ntmps241
  go_wp2_with fail
  refine bodyPost_ret_by (v:=_) ?_ rfl ⟨rfl,by exact aw⟩
  rw [results_cell_tmp rfl]
  go_simp
  rfl
def BN (q:Qu) (k:Nat) (x:Wt):Bool:=decide (cq q.convs x.proc=(k:Int)) && !aF (aj q.holds x.proc) && aC q.res x.am && aY q.res x.am (aj q.holds x.proc) && !decide (x.am=aj q.holds x.proc) && decide (x.prio=0) && decide (x.passed=0)
def rh (q:Qu):Nat→List Wt→Bool
 | _,[]=>true
 | k,x :: l=>BN q k x && rh q (k+1) l
def ML (q:Qu):Bool:=decide (q.convs.length≤8) && rh q 0 q.convs
def nF (q:Qu):List Wt→Bool
 | []=>true
 | x :: l=>aC q.res x.am && aF (aj q.holds x.proc) && nF q l
def MM (q:Qu):Bool:=gj q.waits && decide (q.holds.length+q.waits.length≤8) && nF q q.waits
def gM (q:Qu):Bool:=mI q.res && tf q.res q.holds && ML q && MM q && decide (0≤q.gen) && decide (q.gen≤1073741824)
def av (q:Qu):Bool:=gM q && match dv q with
 | none=>true
 | some x=>!go q.res q.holds x.proc x.am
theorem tN (q:Qu) (k:Nat) (x:Wt) (l:List Wt):rh q k (x :: l)=(BN q k x && rh q (k+1) l):=rfl
theorem tO (q:Qu) (x:Wt) (l:List Wt):nF q (x :: l)=(aC q.res x.am && aF (aj q.holds x.proc) && nF q l):=rfl
structure BoxS (w:World) (nm:ByteArray) (kd un h:Int) (A1:Option Addr) (n1 c1:Nat) (A2:Option Addr) (n2 c2:Nat) (A3:Option Addr) (n3 c3:Nat) (gen:Int) (v:World):Prop where
 q:BoxQ w nm kd un h A1 n1 c1 A2 n2 c2 A3 n3 c3 gen v
 r:Blk v (w.heap.size+1) 159 #[.string nm,.int .i64 kd,.int .i64 un,.int .i64 h]
theorem BoxS.next {w v v':World} {nm:ByteArray} {kd un h gen:Int} {A1 A2 A3:Option Addr} {n1 n2 n3 c1 c2 c3:Nat} (b:BoxS w nm kd un h A1 n1 c1 A2 n2 c2 A3 n3 c3 gen v) (hb:Below v.heap.size v v'):BoxS w nm kd un h A1 n1 c1 A2 n2 c2 A3 n3 c3 gen v':=⟨b.q.next hb,b.r.below hb b.r.lt⟩
theorem mL (q:Qu) (A1 A2 A3:Option Addr) (c1 c2 c3:Nat) (w:World) (B:Nat) (hq:QF w B A1 A2 A3 q) :
  Calls prog 214 #[q.val A1 A2 A3 c1 c2 c3] w (gV w (.bool (gM q))):=by
 have H1:=Lib.hid (fun W=>mv q.res W)
 have H2:=Lib.hid (fun W (hb:Below w.heap.size w W)=>kz q.res A1 B c1 q.holds W hq.m1 (Nat.le_trans hq.hB hb.size) (hq.r1.below hb hq.hB (Nat.le_refl _)))
 have HL:=Lib.hid (fun W (hb:Below w.heap.size w W)=>pS A3 B c3 q.waits W hq.m3 (Nat.le_trans hq.hB hb.size) (hq.r3.below hb hq.hB (Nat.le_refl _)))
 have HG:=Lib.hid (fun x y z W (hb:Below w.heap.size w W)=>wJ A1 B c1 q.holds x y z W hq.m1 (Nat.le_trans hq.hB hb.size) (hq.r1.below hb hq.hB (Nat.le_refl _)))
 have HFI:=Lib.hid (fun x y z W (hb:Below w.heap.size w W)=>ig A2 B c2 q.convs x y z W hq.m2 (Nat.le_trans hq.hB hb.size) (hq.r2.below hb hq.hB (Nat.le_refl _)))
 have HZ:=Lib.hid (fun m u W=>gW m u W)
 have HFT:=Lib.hid (fun m u W=>i8 q.res m u W)
 have HCV:=Lib.hid (fun a b c d W=>iL q.res a b c d W)
 have HQF:=Lib.hid hq
 have HLB:Hid (gj q.waits=true→q.waits.length≤8):=Lib.hid (fun h=>by unfold gj at h;simp only [Bool.and_eq_true,decide_eq_true_eq] at h;exact h.1)
 have HH8:Hid (tf q.res q.holds=true→q.holds.length≤8):=Lib.hid AA
 have HD:Hid ((mI q.res && tf q.res q.holds && (decide (q.convs.length≤8) && rh q 0 q.convs) && (gj q.waits && decide (q.holds.length+q.waits.length≤8) && nF q q.waits) && decide (0≤q.gen) && decide (q.gen≤1073741824))=gM q):=Lib.hid rfl
 clear hq
 generalize gM q=R at *
 obtain ⟨⟨nm,kd,un,h⟩,hs,cs,ws,gen⟩:=q
 unfold Qu.val Rs.val at *
 dsimp only at H1 H2 HL HG HFI HFT HCV HQF HLB HH8 HD ⊢
 generalize mI ⟨nm,kd,un,h⟩=r1 at *
 obtain ⟨r2,hr2⟩:∃x,tf ⟨nm,kd,un,h⟩ hs=x:=⟨_,rfl⟩
 obtain ⟨l1,hl1⟩:∃x,gj ws=x:=⟨_,rfl⟩
 rw [hr2] at H2 HH8 HD
 rw [hl1] at HL HLB HD
 clear hr2 hl1
 have HBX:Hid (BoxS w nm kd un h A1 hs.length c1 A2 cs.length c2 A3 ws.length c3 gen ((w.alloc (.cells #[.string nm,.int .i64 kd,.int .i64 un,.int .i64 h,.slice A1 hs.length c1,.slice A2 cs.length c2,.slice A3 ws.length c3,.int .i64 gen] 165)).alloc (.cells #[.string nm,.int .i64 kd,.int .i64 un,.int .i64 h] 159))):=Lib.hid ⟨BoxQ.made.next (Below.al (Below.refl _ _) _),by have:=Blk.new (w.alloc (.cells #[.string nm,.int .i64 kd,.int .i64 un,.int .i64 h,.slice A1 hs.length c1,.slice A2 cs.length c2,.slice A3 ws.length c3,.int .i64 gen] 165)) 159 #[.string nm,.int .i64 kd,.int .i64 un,.int .i64 h];simpa using this⟩
 by_cases hP:r1=true∧r2=true∧cs.length≤8∧l1=true∧hs.length+ws.length≤8∧0≤gen∧gen≤1073741824
 ·obtain ⟨rfl,rfl,hc8,rfl,hs8,hg0,hg1⟩:=hP
  have hwrap:IntKind.i64.wrap ((hs.length:Int)+(ws.length:Int))=(hs.length:Int)+(ws.length:Int):=IntWalk.i64_in _ (by omega)
  have i1:¬(8:Int)<(cs.length:Int):=by omega
  have i2:¬(8:Int)<(hs.length:Int)+(ws.length:Int):=by omega
  have i3:¬gen<0:=by omega
  have i4:¬(1073741824:Int)<gen:=by omega
  have HQ:Hid ((rh ⟨⟨nm,kd,un,h⟩,hs,cs,ws,gen⟩ 0 (cs.drop 0) && nF ⟨⟨nm,kd,un,h⟩,hs,cs,ws,gen⟩ ws)=R):=Lib.hid (by rw [←HD.out,decide_eq_true hc8,decide_eq_true hs8,decide_eq_true hg0,decide_eq_true hg1];simp)
  go_enter func214,ntmps214
  go_wp2_with fail
  refine (H1.out _).mono ?_
  rintro e w1 ⟨rfl,hb1⟩
  have HX1:=Lib.hid (HBX.out.next hb1)
  have HB1:Hid (Below w.heap.size w w1):=Lib.hid HX1.out.q.below
  obtain ⟨q0,q1,q2,q3,q4,q5,q6,q7,ql⟩:=HX1.out.q.cel
  have e0:=HX1.out.r.cellx 0 (v:=.string nm) rfl
  have e1:=HX1.out.r.cellx 1 (v:=.int .i64 kd) rfl
  have e2:=HX1.out.r.cellx 2 (v:=.int .i64 un) rfl
  have e3:=HX1.out.r.cellx 3 (v:=.int .i64 h) rfl
  have el:=HX1.out.r.lt
  clear hb1
  go_wp2_with fail
  refine (H2.out _ HB1.out).mono ?_
  rintro e w2 ⟨rfl,hb2⟩
  have HX2:=Lib.hid (HX1.out.next hb2)
  have HB2:Hid (Below w.heap.size w w2):=Lib.hid HX2.out.q.below
  clear hb2 q0 q1 q2 q3 q4 q5 q6 q7 ql e0 e1 e2 e3 el
  obtain ⟨q0,q1,q2,q3,q4,q5,q6,q7,ql⟩:=HX2.out.q.cel
  go_wp2_with fail
  refine (HL.out _ HB2.out).mono ?_
  rintro e w3 ⟨rfl,hb3⟩
  have HX3:=Lib.hid (HX2.out.next hb3)
  clear hb3 q0 q1 q2 q3 q4 q5 q6 q7 ql
  obtain ⟨q0,q1,q2,q3,q4,q5,q6,q7,ql⟩:=HX3.out.q.cel
  go_wp2_with fail
  clear q0 q1 q2 q3 q4 q5 q6 q7 ql
  go_loopg [4] cs.length (fun m0 v4 wq=>∃k:Nat,v4 = .int .i64 (k:Int)∧k≤cs.length∧cs.length≤k+m0∧Hid ((rh ⟨⟨nm,kd,un,h⟩,hs,cs,ws,gen⟩ k (cs.drop k) && nF ⟨⟨nm,kd,un,h⟩,hs,cs,ws,gen⟩ ws)=R)∧Hid (BoxS w nm kd un h A1 hs.length c1 A2 cs.length c2 A3 ws.length c3 gen wq))
  case atStart=>exact ⟨0,rfl,Nat.zero_le _,by omega,HQ,HX3⟩
  case round =>
   obtain ⟨k,rfl,hk,hkm,HI,HX⟩:=hrel
   have HB:Hid (Below w.heap.size w wr):=Lib.hid HX.out.q.below
   obtain ⟨q0,q1,q2,q3,q4,q5,q6,q7,ql⟩:=HX.out.q.cel
   have e0:=HX.out.r.cellx 0 (v:=.string nm) rfl
   have e1:=HX.out.r.cellx 1 (v:=.int .i64 kd) rfl
   have e2:=HX.out.r.cellx 2 (v:=.int .i64 un) rfl
   have e3:=HX.out.r.cellx 3 (v:=.int .i64 h) rfl
   have el:=HX.out.r.lt
   by_cases hlt:k<cs.length
   ·obtain ⟨⟨⟨a,b,c⟩,⟨m,u⟩,pr,pa⟩,hx⟩:∃x,cs[k]=x:=⟨_,rfl⟩
    obtain ⟨g,off,rfl,hbl,d0,d1,d2,d3,d4,d5,d6⟩:=dC (HQF.out.r2.below (B'':=w.heap.size) HB.out HQF.out.hB HQF.out.hB) hlt hx
    have hbl2:g<wr.heap.size:=Nat.lt_of_lt_of_le hbl HB.out.size
    have hlti:(k:Int)<(cs.length:Int):=by omega
    have HS0:Hid (((BN ⟨⟨nm,kd,un,h⟩,hs,cs,ws,gen⟩ k ⟨⟨a,b,c⟩,⟨m,u⟩,pr,pa⟩ && rh ⟨⟨nm,kd,un,h⟩,hs,cs,ws,gen⟩ (k+1) (cs.drop (k+1))) && nF ⟨⟨nm,kd,un,h⟩,hs,cs,ws,gen⟩ ws)=R):=Lib.hid (by have h:=HI.out;rw [db hlt hx,tN] at h;exact h)
    obtain ⟨⟨gm,gu⟩,hg⟩:∃y,aj hs ⟨a,b,c⟩=y:=⟨_,rfl⟩
    have HS:Hid ((decide (cq cs ⟨a,b,c⟩=(k:Int)) && !aF ⟨gm,gu⟩ && aC ⟨nm,kd,un,h⟩ ⟨m,u⟩ && aY ⟨nm,kd,un,h⟩ ⟨m,u⟩ ⟨gm,gu⟩ && !decide ((⟨m,u⟩:Am)=⟨gm,gu⟩) && decide (pr=0) && decide (pa=0) && (rh ⟨⟨nm,kd,un,h⟩,hs,cs,ws,gen⟩ (k+1) (cs.drop (k+1)) && nF ⟨⟨nm,kd,un,h⟩,hs,cs,ws,gen⟩ ws))=R):=Lib.hid (by have h1:=HS0.out;unfold BN at h1;rw [hg] at h1;rw [Bool.and_assoc] at h1;exact h1)
    have HG1:=Lib.hid (fun W hb=>HG.out a b c W hb)
    rw [hg] at HG1
    unfold Am.val at HG1
    have HF1:=Lib.hid (fun W hb=>HFI.out a b c W hb)
    have HT1:=Lib.hid (fun W=>HFT.out m u W)
    have HC1:=Lib.hid (fun W=>HCV.out m u gm gu W)
    have HZ1:=Lib.hid (fun W=>HZ.out gm gu W)
    obtain ⟨_,k1,k2⟩:=Az m u gm gu
    generalize cq cs ⟨a,b,c⟩=n at *
    generalize aF ⟨gm,gu⟩=z1 at *
    generalize aC ⟨nm,kd,un,h⟩ ⟨m,u⟩=f1 at *
    generalize aY ⟨nm,kd,un,h⟩ ⟨m,u⟩ ⟨gm,gu⟩=v1 at *
    generalize decide ((⟨m,u⟩:Am)=⟨gm,gu⟩)=x1 at *
    clear hg hx hbl HS0
    go_wp2_with fail
    refine (HG1.out _ aw).mono ?_
    rintro e w2 ⟨rfl,hb2⟩
    have HX2:=Lib.hid (HX.out.next (Below.tr (Below.al (Below.refl _ _) (.cells #[.int .i64 a,.int .i64 b,.int .i64 c,.int .i64 m,.int .i64 u,.int .i64 pr,.int .i64 pa] 284)) hb2))
    have HB2:Hid (Below w.heap.size w w2):=Lib.hid HX2.out.q.below
    have hs_2:=hb2.size
    (try simp at hs_2)
    obtain ⟨hc_2,hf_2⟩:=bh hb2
    have hz_2w:w.heap.size<w2.heap.size:=by omega
    have hz_2w1:w.heap.size+1<w2.heap.size:=by omega
    have hz_2r:wr.heap.size<w2.heap.size:=by omega
    clear hb2
    go_wp2_with fail
    repeat' (first
     | (go_at_call 37;refine (HZ1.out _).mono ?_;rintro e wa1 ⟨rfl,hb_wa1⟩;obtain ⟨hc_wa1,hf_wa1⟩:=bh hb_wa1;have hs_wa1:=hb_wa1.size;(try simp at hs_wa1);have hz_wa1_w_0:w.heap.size<wa1.heap.size:=(by omega);have hz_wa1_w_1:w.heap.size+1<wa1.heap.size:=(by omega);have hz_wa1_wr_0:wr.heap.size<wa1.heap.size:=(by omega);have hz_wa1_w2_0:w2.heap.size<wa1.heap.size:=(by omega);clear hs_wa1;have HB_wa1:=Lib.hid hb_wa1;clear hb_wa1;go_wp2_with fail)
     | (go_at_call 172;refine (HT1.out _).mono ?_;rintro e wa2 ⟨rfl,hb_wa2⟩;obtain ⟨hc_wa2,hf_wa2⟩:=bh hb_wa2;have hs_wa2:=hb_wa2.size;(try simp at hs_wa2);have hz_wa2_w_0:w.heap.size<wa2.heap.size:=(by omega);have hz_wa2_w_1:w.heap.size+1<wa2.heap.size:=(by omega);have hz_wa2_wr_0:wr.heap.size<wa2.heap.size:=(by omega);have hz_wa2_w2_0:w2.heap.size<wa2.heap.size:=(by omega);clear hs_wa2;have HB_wa2:=Lib.hid hb_wa2;clear hb_wa2;go_wp2_with fail)
     | (go_at_call 225;refine (HC1.out _).mono ?_;rintro e wa3 ⟨rfl,hb_wa3⟩;obtain ⟨hc_wa3,hf_wa3⟩:=bh hb_wa3;have hs_wa3:=hb_wa3.size;(try simp at hs_wa3);have hz_wa3_w_0:w.heap.size<wa3.heap.size:=(by omega);have hz_wa3_w_1:w.heap.size+1<wa3.heap.size:=(by omega);have hz_wa3_wr_0:wr.heap.size<wa3.heap.size:=(by omega);have hz_wa3_w2_0:w2.heap.size<wa3.heap.size:=(by omega);clear hs_wa3;have HB_wa3:=Lib.hid hb_wa3;clear hb_wa3;go_wp2_with fail)
     | (go_at_call 218;refine (HF1.out _ aw).mono ?_;rintro e wa4 ⟨rfl,hb_wa4⟩;obtain ⟨hc_wa4,hf_wa4⟩:=bh hb_wa4;have hs_wa4:=hb_wa4.size;(try simp at hs_wa4);have hz_wa4_w_0:w.heap.size<wa4.heap.size:=(by omega);have hz_wa4_w_1:w.heap.size+1<wa4.heap.size:=(by omega);have hz_wa4_wr_0:wr.heap.size<wa4.heap.size:=(by omega);have hz_wa4_w2_0:w2.heap.size<wa4.heap.size:=(by omega);clear hs_wa4;have HB_wa4:=Lib.hid hb_wa4;clear hb_wa4;go_wp2_with fail)
     | (go_ret;exact ⟨ax (by (rw [←HS.out];first|(simp [*];done)|(simp [*];omega)|(simp [*];intros;omega)|(rename_i h9;simp at h9;simp [*];done))),by exact aw⟩)
     | (go_roundg (gk-1);(case measure=>omega);(case rel=>exact ⟨k+1,by go_num,by omega,by omega,Lib.hid (by (rw [←HS.out];first|(simp [*];done)|(simp [*];omega)|(simp [*];intros;omega)|(rename_i h9;simp at h9;simp [*];done))),Lib.hid (HX2.out.next aw)⟩)))
   ·have HW:Hid (nF ⟨⟨nm,kd,un,h⟩,hs,cs,ws,gen⟩ (ws.drop 0)=R):=Lib.hid (by have h:=HI.out;rw [dJ hlt] at h;exact h)
    have hlti:¬(k:Int)<(cs.length:Int):=by omega
    go_wp2_with fail
    clear q0 q1 q2 q3 q4 q5 q6 q7 ql e0 e1 e2 e3 el
    obtain ⟨G,hG⟩:∃G,G=gk:=⟨_,rfl⟩
    subst hG
    obtain ⟨wo,hwo⟩:∃x,x=wr:=⟨_,rfl⟩
    subst hwo
    go_loopg [7] ws.length (fun m0 v7 wq=>∃k:Nat,v7 = .int .i64 (k:Int)∧k≤ws.length∧ws.length≤k+m0∧Hid (nF ⟨⟨nm,kd,un,h⟩,hs,cs,ws,gen⟩ (ws.drop k)=R)∧Hid (BoxS w nm kd un h A1 hs.length c1 A2 cs.length c2 A3 ws.length c3 gen wq))
    case atStart=>exact ⟨0,rfl,Nat.zero_le _,by omega,HW,HX⟩
    case round =>
     obtain ⟨k',rfl,hk',hkm',HI',HX'⟩:=hrel
     have HB':Hid (Below w.heap.size w wr):=Lib.hid HX'.out.q.below
     obtain ⟨q0,q1,q2,q3,q4,q5,q6,q7,ql⟩:=HX'.out.q.cel
     have e0:=HX'.out.r.cellx 0 (v:=.string nm) rfl
     have e1:=HX'.out.r.cellx 1 (v:=.int .i64 kd) rfl
     have e2:=HX'.out.r.cellx 2 (v:=.int .i64 un) rfl
     have e3:=HX'.out.r.cellx 3 (v:=.int .i64 h) rfl
     by_cases hlt':k'<ws.length
     ·obtain ⟨⟨⟨a,b,c⟩,⟨m,u⟩,pr,pa⟩,hx⟩:∃x,ws[k']=x:=⟨_,rfl⟩
      obtain ⟨g,off,rfl,hbl,d0,d1,d2,d3,d4,d5,d6⟩:=dC (HQF.out.r3.below (B'':=w.heap.size) HB'.out HQF.out.hB HQF.out.hB) hlt' hx
      have hbl2:g<wr.heap.size:=Nat.lt_of_lt_of_le hbl HB'.out.size
      have hlti':(k':Int)<(ws.length:Int):=by omega
      obtain ⟨⟨gm,gu⟩,hg⟩:∃y,aj hs ⟨a,b,c⟩=y:=⟨_,rfl⟩
      have HS:Hid ((aC ⟨nm,kd,un,h⟩ ⟨m,u⟩ && aF ⟨gm,gu⟩ && nF ⟨⟨nm,kd,un,h⟩,hs,cs,ws,gen⟩ (ws.drop (k'+1)))=R):=Lib.hid (by have h1:=HI'.out;rw [db hlt' hx,tO] at h1;dsimp only at h1;rw [hg] at h1;exact h1)
      have HG1:Hid (∀n:Ext wr,Calls prog 219 #[.slice A1 hs.length c1,.agg #[.int .i64 a,.int .i64 b,.int .i64 c]] n.w (gV n.w (.agg #[.int .i64 gm,.int .i64 gu]))):=Lib.hid (fun n=>by have:=HG.out a b c n.w (Below.trans HB'.out (n.below.mono HB'.out.size));rw [hg] at this;exact this)
      have HT1:=Lib.hid (fun W=>HFT.out m u W)
      have HZ1:=Lib.hid (fun W=>HZ.out gm gu W)
      generalize aF ⟨gm,gu⟩=z1 at *
      generalize aC ⟨nm,kd,un,h⟩ ⟨m,u⟩=f1 at *
      have g0:=Ext.cell q4
      have g1:=Ext.cell q6
      have g2:=Ext.cell e0
      have g3:=Ext.cell e1
      have g4:=Ext.cell e2
      have g5:=Ext.cell e3
      have g6:=Ext.cell d0
      have g7:=Ext.cell d1
      have g8:=Ext.cell d2
      have g9:=Ext.cell d3
      have g10:=Ext.cell d4
      clear hg hx hbl
      cases f1 <;> cases z1
      all_goals
       go_wp2_with fail
       clear q0 q1 q2 q3 q4 q5 q6 q7 e0 e1 e2 e3 d0 d1 d2 d3 d4 d5 d6
       refine aM (by kernel_rfl) (by kernel_rfl) ?_;(repeat (go_big_quiet_step ((first|(go_at_call 172;exact Ext.call _ (HT1.out _))|(go_at_call 219;exact Ext.call _ (HG1.out _))|(go_at_call 37;exact Ext.call _ (HZ1.out _))))));refine wpQuiet_nil ?_;rintro w2 ⟨n2,rfl⟩;have hb2:=n2.below;generalize n2.w=w2 at hb2 ⊢;clear n2
       have HB3:=Lib.hid hb2
       clear hb2
       go_wp2_with fail
       first
        | (go_ret;exact ⟨ax (show false=R from HS.out),by exact aw⟩)
        | (go_roundg (gk-1);(case measure=>omega);(case rel=>exact ⟨k'+1,by go_num,by omega,by omega,Lib.hid HS.out,Lib.hid (HX'.out.next HB3.out)⟩))
     ·have HE:Hid (true=R):=Lib.hid (by have h:=HI'.out;rw [dJ hlt'] at h;exact h)
      have hlti':¬(k':Int)<(ws.length:Int):=by omega
      go_wp2_with fail
      go_ret
      exact ⟨ax HE.out,by exact aw⟩
 ·have HQ:Hid (R=false):=Lib.hid (by
   rw [←HD.out]
   rw [Bool.eq_false_iff]
   intro hh
   simp only [Bool.and_eq_true,decide_eq_true_eq] at hh
   exact hP ⟨hh.1.1.1.1.1,hh.1.1.1.1.2,hh.1.1.1.2.1,hh.1.1.2.1.1,hh.1.1.2.1.2,hh.1.2,hh.2⟩)
  have HN:=Lib.hid hP
  clear hP HD
  by_cases hrl:r2=true∧l1=true
  ·obtain ⟨rfl,rfl⟩:=hrl
   have h1:=HH8.out rfl
   have h2:=HLB.out rfl
   have hwrap:IntKind.i64.wrap ((hs.length:Int)+(ws.length:Int))=(hs.length:Int)+(ws.length:Int):=IntWalk.i64_in _ (by omega)
   go_enter func214,ntmps214
   go_wp2_with fail
   repeat' (first
    | (go_at_call 126;refine (H1.out _).mono ?_;rintro e wa1 ⟨rfl,hb_wa1⟩;obtain ⟨hc_wa1,hf_wa1⟩:=bh hb_wa1;have hs_wa1:=hb_wa1.size;(try simp at hs_wa1);have hz_wa1_w_0:w.heap.size<wa1.heap.size:=(by omega);have hz_wa1_w_1:w.heap.size+1<wa1.heap.size:=(by omega);clear hs_wa1;have HB_wa1:=Lib.hid hb_wa1;clear hb_wa1;go_wp2_with fail)
    | (go_at_call 239;refine (H2.out _ aw).mono ?_;rintro e wa2 ⟨rfl,hb_wa2⟩;obtain ⟨hc_wa2,hf_wa2⟩:=bh hb_wa2;have hs_wa2:=hb_wa2.size;(try simp at hs_wa2);have hz_wa2_w_0:w.heap.size<wa2.heap.size:=(by omega);have hz_wa2_w_1:w.heap.size+1<wa2.heap.size:=(by omega);clear hs_wa2;have HB_wa2:=Lib.hid hb_wa2;clear hb_wa2;go_wp2_with fail)
    | (go_at_call 240;refine (HL.out _ aw).mono ?_;rintro e wa3 ⟨rfl,hb_wa3⟩;obtain ⟨hc_wa3,hf_wa3⟩:=bh hb_wa3;have hs_wa3:=hb_wa3.size;(try simp at hs_wa3);have hz_wa3_w_0:w.heap.size<wa3.heap.size:=(by omega);have hz_wa3_w_1:w.heap.size+1<wa3.heap.size:=(by omega);clear hs_wa3;have HB_wa3:=Lib.hid hb_wa3;clear hb_wa3;go_wp2_with fail)
    | (go_ret;exact ⟨ax HQ.out.symm,by exact aw⟩)
    | (exact absurd ⟨by assumption,by trivial,by omega,by trivial,by omega,by omega,by omega⟩ HN.out))
  ·have HRL:=Lib.hid hrl
   clear hrl
   go_enter func214,ntmps214
   go_wp2_with fail
   repeat' (first
    | (go_at_call 126;refine (H1.out _).mono ?_;rintro e wa1 ⟨rfl,hb_wa1⟩;obtain ⟨hc_wa1,hf_wa1⟩:=bh hb_wa1;have hs_wa1:=hb_wa1.size;(try simp at hs_wa1);have hz_wa1_w_0:w.heap.size<wa1.heap.size:=(by omega);have hz_wa1_w_1:w.heap.size+1<wa1.heap.size:=(by omega);clear hs_wa1;have HB_wa1:=Lib.hid hb_wa1;clear hb_wa1;go_wp2_with fail)
    | (go_at_call 239;refine (H2.out _ aw).mono ?_;rintro e wa2 ⟨rfl,hb_wa2⟩;obtain ⟨hc_wa2,hf_wa2⟩:=bh hb_wa2;have hs_wa2:=hb_wa2.size;(try simp at hs_wa2);have hz_wa2_w_0:w.heap.size<wa2.heap.size:=(by omega);have hz_wa2_w_1:w.heap.size+1<wa2.heap.size:=(by omega);clear hs_wa2;have HB_wa2:=Lib.hid hb_wa2;clear hb_wa2;go_wp2_with fail)
    | (go_at_call 240;refine (HL.out _ aw).mono ?_;rintro e wa3 ⟨rfl,hb_wa3⟩;obtain ⟨hc_wa3,hf_wa3⟩:=bh hb_wa3;have hs_wa3:=hb_wa3.size;(try simp at hs_wa3);have hz_wa3_w_0:w.heap.size<wa3.heap.size:=(by omega);have hz_wa3_w_1:w.heap.size+1<wa3.heap.size:=(by omega);clear hs_wa3;have HB_wa3:=Lib.hid hb_wa3;clear hb_wa3;go_wp2_with fail)
    | (go_ret;exact ⟨ax HQ.out.symm,by exact aw⟩)
    | (exact absurd ⟨by assumption,by assumption⟩ HRL.out))
theorem nG (q:Qu) (A1 A2 A3:Option Addr) (c1 c2 c3:Nat) (w:World) (B:Nat) (hq:QF w B A1 A2 A3 q) :
  Calls prog 215 #[q.val A1 A2 A3 c1 c2 c3] w (gV w (.bool (av q))):=by
 have H1:=Lib.hid (fun W (hb:Below w.heap.size w W)=>mL q A1 A2 A3 c1 c2 c3 W B (hq.below hb))
 have H2:=Lib.hid (fun W (hb:Below w.heap.size w W)=>tM q A1 A2 A3 c1 c2 c3 W B (hq.below hb))
 have H3:=Lib.hid (fun x y z m u W (hb:Below w.heap.size w W)=>BM q.res A1 B c1 q.holds x y z m u W hq.m1 (Nat.le_trans hq.hB hb.size) (hq.r1.below hb hq.hB (Nat.le_refl _)))
 have HS:Hid ((gM q && match dv q with|none=>true|some x=>!go q.res q.holds x.proc x.am)=av q):=Lib.hid rfl
 clear hq
 generalize av q=R at *
 generalize gM q=s1 at *
 cases hh:dv q with
 | none =>
  rw [hh] at H2 HS
  clear hh
  obtain ⟨⟨nm,kd,un,h⟩,hs,cs,ws,gen⟩:=q
  unfold Qu.val Rs.val Di at *
  dsimp only at H1 H2 H3 HS ⊢
  go_enter func215,ntmps215
  go_wp2_with fail
  repeat' (first
   | (go_at_call 214;refine (H1.out _ aw).mono ?_;rintro e wa1 ⟨rfl,hb_wa1⟩;obtain ⟨hc_wa1,hf_wa1⟩:=bh hb_wa1;have hs_wa1:=hb_wa1.size;(try simp at hs_wa1);have hz_wa1_w_0:w.heap.size<wa1.heap.size:=(by omega);clear hs_wa1;have HB_wa1:=Lib.hid hb_wa1;clear hb_wa1;go_wp2_with fail)
   | (go_at_call 241;refine (H2.out _ aw).mono ?_;rintro e wa2 ⟨rfl,hb_wa2⟩;obtain ⟨hc_wa2,hf_wa2⟩:=bh hb_wa2;have hs_wa2:=hb_wa2.size;(try simp at hs_wa2);have hz_wa2_w_0:w.heap.size<wa2.heap.size:=(by omega);clear hs_wa2;have HB_wa2:=Lib.hid hb_wa2;clear hb_wa2;go_wp2_with fail)
   | (go_ret;exact ⟨ax (by (rw [←HS.out];first|(simp [*];done)|(simp [*];omega)|(simp [*];intros;omega)|(rename_i h9;simp at h9;simp [*];done))),by exact aw⟩))
 | some x =>
  obtain ⟨⟨a,b,c⟩,⟨m,u⟩,pr,pa⟩:=x
  have H4:=Lib.hid (fun W hb=>H3.out a b c m u W hb)
  rw [hh] at H2 HS
  dsimp only at HS
  obtain ⟨r1,hr1⟩:∃r,go q.res q.holds ⟨a,b,c⟩ ⟨m,u⟩=r:=⟨_,rfl⟩
  rw [hr1] at H4 HS
  clear hh hr1
  obtain ⟨⟨nm,kd,un,h⟩,hs,cs,ws,gen⟩:=q
  unfold Qu.val Rs.val Di Wt.val at *
  dsimp only at H1 H2 H4 HS ⊢
  go_enter func215,ntmps215
  go_wp2_with fail
  repeat' (first
   | (go_at_call 214;refine (H1.out _ aw).mono ?_;rintro e wa1 ⟨rfl,hb_wa1⟩;obtain ⟨hc_wa1,hf_wa1⟩:=bh hb_wa1;have hs_wa1:=hb_wa1.size;(try simp at hs_wa1);have hz_wa1_w_0:w.heap.size<wa1.heap.size:=(by omega);clear hs_wa1;have HB_wa1:=Lib.hid hb_wa1;clear hb_wa1;go_wp2_with fail)
   | (go_at_call 241;refine (H2.out _ aw).mono ?_;rintro e wa2 ⟨rfl,hb_wa2⟩;obtain ⟨hc_wa2,hf_wa2⟩:=bh hb_wa2;have hs_wa2:=hb_wa2.size;(try simp at hs_wa2);have hz_wa2_w_0:w.heap.size<wa2.heap.size:=(by omega);clear hs_wa2;have HB_wa2:=Lib.hid hb_wa2;clear hb_wa2;go_wp2_with fail)
   | (go_at_call 242;refine (H4.out _ aw).mono ?_;rintro e wa3 ⟨rfl,hb_wa3⟩;obtain ⟨hc_wa3,hf_wa3⟩:=bh hb_wa3;have hs_wa3:=hb_wa3.size;(try simp at hs_wa3);have hz_wa3_w_0:w.heap.size<wa3.heap.size:=(by omega);clear hs_wa3;have HB_wa3:=Lib.hid hb_wa3;clear hb_wa3;go_wp2_with fail)
   | (go_ret;exact ⟨ax (by (rw [←HS.out];first|(simp [*];done)|(simp [*];omega)|(simp [*];intros;omega)|(rename_i h9;simp at h9;simp [*];done))),by exact aw⟩))
theorem pV (q:Qu) (A1 A2 A3:Option Addr) (c1 c2 c3:Nat) (w:World) (B:Nat) (hq:QF w B A1 A2 A3 q) :
  Calls prog 157 #[q.val A1 A2 A3 c1 c2 c3] w (gV w (.bool (av q))):=by
 have H1:=Lib.hid (fun W (hb:Below w.heap.size w W)=>nG q A1 A2 A3 c1 c2 c3 W B (hq.below hb))
 have H2:=Lib.hid (fun W (hb:Below w.heap.size w W)=>mL q A1 A2 A3 c1 c2 c3 W B (hq.below hb))
 have HS:Hid (gM q=false→av q=false):=Lib.hid (fun h=>by unfold av;rw [h];rfl)
 clear hq
 generalize av q=R at *
 generalize gM q=s1 at *
 obtain ⟨⟨nm,kd,un,h⟩,hs,cs,ws,gen⟩:=q
 unfold Qu.val at *
 dsimp only at H1 H2 ⊢
 go_enter func157,ntmps157
 go_wp2_with fail
 repeat' (first
  | (go_at_call 214;refine (H2.out _ aw).mono ?_;rintro e wa1 ⟨rfl,hb_wa1⟩;obtain ⟨hc_wa1,hf_wa1⟩:=bh hb_wa1;have hs_wa1:=hb_wa1.size;(try simp at hs_wa1);have hz_wa1_w_0:w.heap.size<wa1.heap.size:=(by omega);clear hs_wa1;have HB_wa1:=Lib.hid hb_wa1;clear hb_wa1;go_wp2_with fail)
  | (go_at_call 215;refine (H1.out _ aw).mono ?_;rintro e wa2 ⟨rfl,hb_wa2⟩;obtain ⟨hc_wa2,hf_wa2⟩:=bh hb_wa2;have hs_wa2:=hb_wa2.size;(try simp at hs_wa2);have hz_wa2_w_0:w.heap.size<wa2.heap.size:=(by omega);clear hs_wa2;have HB_wa2:=Lib.hid hb_wa2;clear hb_wa2;go_wp2_with fail)
  | (go_ret;first|exact ⟨ax (HS.out (by first|assumption|exact Bool.eq_false_iff.2 (by assumption))).symm,by exact aw⟩|exact ⟨ax rfl,by exact aw⟩))
def ri (q:Qu):List Pr:=(q.convs++q.waits).map (·.proc)
def bC (l:List Wt):List Pr:=l.map (·.proc)
def fK:List Wt→Pr→Option Am
 | [],_=>none
 | x :: l,p=>bif decide (x.proc=p) then some x.am else fK l p
def AC:Option Am→Value
 | some a=>.tuple #[.agg #[.int .i64 a.mode,.int .i64 a.units],.bool true]
 | none=>.tuple #[.agg #[.int .i64 0,.int .i64 0],.bool false]
def ai (q:Qu) (p:Pr):Option Am:=fK (q.convs++q.waits) p
theorem b9 (x:Wt) (l:List Wt) (p:Pr):fK (x :: l) p=bif decide (x.proc=p) then some x.am else fK l p:=rfl
end Go.Proofs.YtdaajdflefnjfaaGreat
