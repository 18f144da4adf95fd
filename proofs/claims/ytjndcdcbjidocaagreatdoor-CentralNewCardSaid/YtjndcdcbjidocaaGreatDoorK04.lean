/- Part 4 of 35 of the proof of centralNew_holds (no condition). -/
import Derived.Test.YtjndcdcbjidocaaGreatDoorK03
set_option linter.unusedVariables false
set_option linter.unusedSimpArgs false
set_option maxRecDepth 100000
set_option maxHeartbeats 64000000
namespace Go.Proofs.YtjndcdcbjidocaaGreatDoor
open Go.RowKit Go.Proofs.Tryz
theorem vo:∀(d:Nat) (x:Ex) (A:Option Addr) (cap B g lev n:Nat) (w:World) (hm:x.kids.length≤maxLen) (hB:B≤w.heap.size) (hg:B≤g) (hr:RowsAt (mY d) w (Lo B) A x.kids) (hl:lev≤5) (hn:n≤24) (hb:Blk w g 3 #[.int .i64 (n:Int)]),
  Calls prog 296 #[x.val A cap,.int .i64 (lev:Int),.pointer (some ⟨g,0,none⟩)] w (Iv w g 3 (.int .i64 ((gj x lev n).1:Int)) ((gj x lev n).2:Int)):=by
 intro d
 induction d using Nat.strongRecOn with
 | ind d ih =>
  intro x A cap B g lev n w hm hB hg hr hl hn hb
  obtain ⟨k,⟨nm,⟨m,u⟩⟩,l⟩:=x
  unfold Ex.val
  rw [tu]
  dsimp only [Ex.k,Ex.atom,Ex.kids] at hm hr ⊢
  have IH:=Lib.hid ih
  have HR:=Lib.hid hr
  have HBK:=Lib.hid hb
  have p0:=hb.cellx 0 (v:=.int .i64 n) rfl
  have f0:=hb.frozen 0
  have hgl:=hb.lt
  clear hr ih hb
  obtain ⟨r,hr⟩:∃r,(if 4<lev∨24<n+1 then (0,n+1) else gB l lev (n+1) 0)=r:=⟨_,rfl⟩
  rw [hr]
  by_cases h1:4<lev∨24<n+1
  ·rw [if_pos h1] at hr
   subst hr
   dsimp only
   by_cases h2:4<lev
   ·have h3:(4:Int)<(lev:Int):=by omega
    go_enter func296,ntmps296
    go_wp2_with fail
    go_ret
    exact ⟨rfl,by (repeat (first|(with_reducible exact But.refl _ _)|(with_reducible assumption)|(with_reducible exact Hid.out (by assumption))|(with_reducible refine But.drewN ?_ _)|(with_reducible refine But.drew ?_)|(with_reducible refine But.al ?_ _)|(with_reducible refine But.st ?_ (by first|exact Or.inl rfl|(right;simp;try omega)))|(with_reducible refine But.grow ?_ (Hid.out (by assumption)))|(with_reducible refine But.trans ?_ (Hid.out (by assumption))))),(HBK.out.set_ 0 _).alloc _⟩
   ·have h3:¬(4:Int)<(lev:Int):=by omega
    have h4:(24:Int)<(n:Int)+1:=by omega
    go_enter func296,ntmps296
    go_wp2_with fail
    go_ret
    exact ⟨rfl,by (repeat (first|(with_reducible exact But.refl _ _)|(with_reducible assumption)|(with_reducible exact Hid.out (by assumption))|(with_reducible refine But.drewN ?_ _)|(with_reducible refine But.drew ?_)|(with_reducible refine But.al ?_ _)|(with_reducible refine But.st ?_ (by first|exact Or.inl rfl|(right;simp;try omega)))|(with_reducible refine But.grow ?_ (Hid.out (by assumption)))|(with_reducible refine But.trans ?_ (Hid.out (by assumption))))),(HBK.out.set_ 0 _).alloc _⟩
  ·rw [if_neg h1] at hr
   have h2:¬(4:Int)<(lev:Int):=by omega
   have h3:¬(24:Int)<(n:Int)+1:=by omega
   have HS:Hid (gB (l.drop 0) lev (n+1) 0=r):=Lib.hid hr
   clear hr h1
   go_enter func296,ntmps296
   go_wp2_with fail
   go_loopg [7,27] l.length (fun m0 v7 v27 wq=>∃kk dd nn:Nat,v27 = .int .i64 (kk:Int)∧v7 = .int .i64 (dd:Int)∧kk≤l.length∧l.length≤kk+m0∧dd≤5∧nn≤24∧Hid (gB (l.drop kk) lev nn dd=r)∧Hid (But g w wq)∧Hid (Blk wq g 3 #[.int .i64 (nn:Int)]))
   case atStart =>
    refine ⟨0,0,n+1,rfl,rfl,Nat.zero_le _,by omega,by omega,by omega,HS,Lib.hid ?_,Lib.hid ?_⟩
    ·(repeat (first|(with_reducible exact But.refl _ _)|(with_reducible assumption)|(with_reducible exact Hid.out (by assumption))|(with_reducible refine But.drewN ?_ _)|(with_reducible refine But.drew ?_)|(with_reducible refine But.al ?_ _)|(with_reducible refine But.st ?_ (by first|exact Or.inl rfl|(right;simp;try omega)))|(with_reducible refine But.grow ?_ (Hid.out (by assumption)))|(with_reducible refine But.trans ?_ (Hid.out (by assumption)))))
    ·exact (HBK.out.set_ 0 _).alloc _
   case round =>
    obtain ⟨kk,dd,nn,rfl,rfl,hk,hkm,hdd,hnn,HI,HB,HK⟩:=hrel
    have q0:=HK.out.cellx 0 (v:=.int .i64 nn) rfl
    have hgr:=HK.out.lt
    have hsz:=HB.out.size
    by_cases hlt:kk<l.length
    ·obtain ⟨⟨k1,⟨nm1,⟨m1,u1⟩⟩,l1⟩,hx⟩:∃x,l[kk]=x:=⟨_,rfl⟩
     obtain ⟨g1,off,A1,cap1,rfl,hbl,c0,c1,c2,c3,c4,hc1,hc2,d1,rfl,hr1⟩:=me (HR.out.but (B':=B) HB.out hB hg (Nat.le_refl _)) hlt hx
     have hbl0:g1<B:=hbl
     have hbl2:g1<wr.heap.size:=by omega
     have hlti:(kk:Int)<(l.length:Int):=by omega
     have HR1:=Lib.hid hr1
     have HS:Hid (gB (.mk k1 ⟨nm1,⟨m1,u1⟩⟩ l1 :: l.drop (kk+1)) lev nn dd=r):=Lib.hid (by have h:=HI.out;rw [d8 hlt hx] at h;exact h)
     have HBR:=Lib.hid (show B≤wr.heap.size by omega)
     have hm1:l1.length≤maxLen:=Nat.le_trans hc1 hc2
     clear hx hbl hr1
     rw [lI] at HS
     obtain ⟨⟨a,n2⟩,hp⟩:∃p,gj (.mk k1 ⟨nm1,⟨m1,u1⟩⟩ l1) (lev+1) nn=p:=⟨_,rfl⟩
     have hp5:a≤5∧(a≠0→n2≤24):=by
      rcases tw (.mk k1 ⟨nm1,⟨m1,u1⟩⟩ l1) (lev+1) nn with ⟨b1,b2,b3⟩|⟨b1,b2,b3⟩
      ·rw [hp] at b3
       injection b3 with b3 b4
       exact ⟨by omega,fun _=>by omega⟩
      ·rw [hp] at b2
       exact ⟨by omega,fun h=>absurd b2 h⟩
     have HC:Hid (∀W,But g wr W→Blk W g 3 #[.int .i64 (nn:Int)]→Calls prog 296 #[.agg #[.int .i64 k1,.string nm1,.int .i64 m1,.int .i64 u1,.slice A1 l1.length cap1],.int .i64 ((lev:Int)+1),.pointer (some ⟨g,0,none⟩)] W (Iv W g 3 (.int .i64 (a:Int)) (n2:Int))):=Lib.hid (fun W hb1 hb2=>by
      have h:=IH.out d1 (by omega) (.mk k1 ⟨nm1,⟨m1,u1⟩⟩ l1) A1 cap1 B g (lev+1) nn W hm1 (Nat.le_trans HBR.out hb1.size) hg (HR1.out.but hb1 HBR.out hg (Nat.le_refl _)) (by omega) hnn hb2
      rw [hp] at h
      exact h)
     rw [hp] at HS
     dsimp only at HS
     clear hp
     go_wp2_with fail
     refine (HC.out _ (by (repeat (first|(with_reducible exact But.refl _ _)|(with_reducible assumption)|(with_reducible exact Hid.out (by assumption))|(with_reducible refine But.drewN ?_ _)|(with_reducible refine But.drew ?_)|(with_reducible refine But.al ?_ _)|(with_reducible refine But.st ?_ (by first|exact Or.inl rfl|(right;simp;try omega)))|(with_reducible refine But.grow ?_ (Hid.out (by assumption)))|(with_reducible refine But.trans ?_ (Hid.out (by assumption)))))) (HK.out.alloc _)).mono ?_
     rintro e w2 ⟨rfl,hb2,hk2⟩
     have HB2:Hid (But g w w2):=Lib.hid ((But.al HB.out _).trans hb2)
     have HK2:=Lib.hid hk2
     clear hb2 hk2
     by_cases ha:a=0
     ·subst ha
      have HE:Hid ((0,n2)=r):=HS
      go_wp2_with fail
      go_ret
      rw [←HE.out]
      exact ⟨rfl,HB2.out,HK2.out⟩
     ·have ha2:¬(a:Int)=0:=by omega
      have HE:Hid (gB (l.drop (kk+1)) lev n2 (max dd a)=r):=Lib.hid (by have h:=HS.out;rwa [if_neg ha] at h)
      have hm2:=hm
      unfold maxLen at hm2
      go_wp2_with fail
      go_roundg (gk-1)
      case measure=>omega
      case rel=>exact ⟨kk+1,max dd a,n2,by go_num,by go_num,by omega,by omega,by omega,hp5.2 ha,HE,HB2,HK2⟩
    ·have HS:Hid ((dd+1,nn)=r):=Lib.hid (by have h:=HI.out;rw [gz hlt] at h;exact h)
     have hlti:¬(kk:Int)<(l.length:Int):=by omega
     go_wp2_with fail
     go_ret
     rw [←HS.out]
     exact ⟨rfl,HB.out,HK.out⟩
structure ExF (w:World) (B d:Nat) (A:Option Addr) (x:Ex):Prop where
 hm:x.kids.length≤maxLen
 hB:B≤w.heap.size
 hr:RowsAt (mY d) w (Lo B) A x.kids
theorem ExF.below {w w':World} {B d:Nat} {A:Option Addr} {x:Ex} (h:ExF w B d A x) (hb:Below w.heap.size w w'):ExF w' B d A x:=⟨h.hm,Nat.le_trans h.hB hb.size,h.hr.below hb h.hB (Nat.le_refl _)⟩
theorem ExF.but {w w':World} {B d g:Nat} {A:Option Addr} {x:Ex} (h:ExF w B d A x) (hb:But g w w') (hg:B≤g):ExF w' B d A x:=⟨h.hm,Nat.le_trans h.hB hb.size,h.hr.but hb h.hB hg (Nat.le_refl _)⟩
theorem zY (d:Nat) (x:Ex) (A:Option Addr) (cap B:Nat) (w:World) (hx:ExF w B d A x) :
  Calls prog 237 #[x.val A cap] w (lC w (.int .i64 ((if qX x then x.dep else 0:Nat):Int))):=by
 have HX:=Lib.hid (fun W (hb:Below w.heap.size w W) (g:Nat) (hg:w.heap.size≤g) hk=>by
  have:=vo d x A cap B g 1 0 W hx.hm (Nat.le_trans hx.hB hb.size) (Nat.le_trans hx.hB hg) (hx.below hb).hr (by decide) (by decide) hk
  rwa [yw] at this)
 clear hx
 obtain ⟨k,⟨nm,⟨m,u⟩⟩,l⟩:=x
 unfold Ex.val at *
 dsimp only [Ex.k,Ex.atom,Ex.kids] at HX ⊢
 generalize (if qX (.mk k ⟨nm,⟨m,u⟩⟩ l) then (Ex.mk k ⟨nm,⟨m,u⟩⟩ l).dep else 0)=r at *
 generalize (gj (.mk k ⟨nm,⟨m,u⟩⟩ l) 1 0).2=n2 at *
 go_enter func237,ntmps237
 go_wp2_with fail
 refine (HX.out _ aU (w.heap.size+1) (by omega) (by have:=Blk.new (w.alloc (.cells #[.int .i64 k,.string nm,.int .i64 m,.int .i64 u,.slice A l.length cap] 42)) 3 #[.int .i64 0];simpa using this)).mono ?_
 rintro e w2 ⟨rfl,hb2,_⟩
 have HB2:Hid (Below w.heap.size w w2):=Lib.hid (But.tot aU (by omega) hb2)
 clear hb2
 go_wp2_with fail
 go_ret
 exact ⟨rfl,HB2.out⟩
def fO:Tm:=⟨⟨#[]⟩,Am.zero⟩
def gc (a:Tm):Bool:=co a.name.toList && bI a.am
def gR (a:Tm):List Tm→Bool
 | []=>false
 | b :: l=>bif decide (b=a) then true else gR a l
theorem ng (a b:Tm) (l:List Tm):gR a (b :: l)=bif decide (b=a) then true else gR a l:=rfl
theorem mf (a:Tm) (l:List Tm):gR a l=true↔a∈l:=by
 induction l with
 | nil=>simp [gR]
 | cons b l ih =>
  rw [ng,List.mem_cons]
  by_cases h:b=a
  ·simp [h]
  ·simp [h,ih,Ne.symm h]
def f7 (l:List Tm) (a:Tm):List Tm:=bif gR a l then l else l++[a]
def vq (k:Int) (a:Tm) (l:List Ex):Bool:=bif l.isEmpty then decide (k=0) && gc a else decide (1≤k) && decide (k≤(l.length:Int)) && decide (a=fO)
mutual
def vr:Ex→Bool
 | .mk k a l=>vq k a l && BG l
def BG:List Ex→Bool
 | []=>true
 | x :: l=>vr x && BG l
end
mutual
def eb:Ex→List Tm→List Tm
 | .mk _ a l,acc=>bif l.isEmpty then f7 acc a else eU l acc
def eU:List Ex→List Tm→List Tm
 | [],acc=>acc
 | x :: l,acc=>eU l (eb x acc)
end
theorem tx (k:Int) (a:Tm) (l:List Ex):vr (.mk k a l)=(vq k a l && BG l):=rfl
theorem mg (x:Ex) (l:List Ex):BG (x :: l)=(vr x && BG l):=rfl
theorem iT (k:Int) (a:Tm) (l:List Ex) (acc:List Tm):eb (.mk k a l) acc=bif l.isEmpty then f7 acc a else eU l acc:=rfl
theorem fA (x:Ex) (l:List Ex) (acc:List Tm):eU (x :: l) acc=eU l (eb x acc):=rfl
def yy (k:Int) (a:Tm) (acc:List Tm):Option (List Tm):=bif decide (k=0) && gc a then some (f7 acc a) else none
def lg (k:Int) (a:Tm) (l:List Ex):Bool:=decide (1≤k) && decide (k≤(l.length:Int)) && decide (a=fO)
mutual
def tz:Ex→List Tm→Option (List Tm)
 | .mk k a l,acc=>bif l.isEmpty then yy k a acc else bif lg k a l then xl l acc else none
def xl:List Ex→List Tm→Option (List Tm)
 | [],acc=>some acc
 | x :: l,acc=>(tz x acc).bind fun r=>xl l r
end
theorem yz (k:Int) (a:Tm) (l:List Ex) (acc:List Tm):tz (.mk k a l) acc=bif l.isEmpty then yy k a acc else bif lg k a l then xl l acc else none:=rfl
theorem r8 (x:Ex) (l:List Ex) (acc:List Tm):xl (x :: l) acc=(tz x acc).bind fun r=>xl l r:=rfl
theorem yA:∀(x:Ex) (acc:List Tm),tz x acc=if vr x then some (eb x acc) else none:=by
 refine Ex.ind (fun k a l ih=>?_)
 have hl:∀(m:List Ex) (acc:List Tm),(∀x∈m,x∈l)→xl m acc=if BG m then some (eU m acc) else none:=by
  intro m
  induction m with
  | nil=>intro acc _;rfl
  | cons x m ihm =>
   intro acc hm
   rw [r8,mg,fA,ih x (hm x (by simp))]
   cases h:vr x with
   | false=>simp
   | true=>simpa using ihm (eb x acc) fun y hy=>hm y (by simp [hy])
 intro acc
 rw [yz,tx,iT,hl l acc fun _ h=>h]
 unfold vq yy lg
 cases hE:l.isEmpty with
 | true =>
  obtain rfl:=List.isEmpty_iff.1 hE
  simp [BG,Bool.cond_eq_ite]
 | false =>
  simp only [cond_false]
  cases decide (1≤k) && decide (k≤(l.length:Int)) && decide (a=fO) <;> simp
theorem BH (l:List Tm) (a:Tm):(f7 l a).length≤l.length+1:=by
 unfold f7
 cases gR a l <;> simp
theorem mh:∀(x:Ex) (acc:List Tm),(eb x acc).length≤acc.length+x.cnt:=by
 refine Ex.ind (fun k a l ih=>?_)
 have hl:∀(m:List Ex) (acc:List Tm),(∀x∈m,x∈l)→(eU m acc).length≤acc.length+gQ m:=by
  intro m
  induction m with
  | nil=>intro acc _;exact Nat.le_refl _
  | cons x m ihm =>
   intro acc hm
   rw [fA,eT]
   have h1:=ihm (eb x acc) fun y hy=>hm y (by simp [hy])
   have h2:=ih x (hm x (by simp)) acc
   omega
 intro acc
 rw [iT,Ex.cnt_mk]
 cases l.isEmpty with
 | true=>have:=BH acc a;simp only [cond_true];omega
 | false=>have:=hl l acc (fun _ h=>h);simp only [cond_false];omega
theorem BI (x:Ex) (acc r:List Tm) (h:tz x acc=some r):r.length≤acc.length+x.cnt:=by
 rw [yA] at h
 split at h
 ·injection h with h
  rw [←h]
  exact mh x acc
 ·cases h
def dl:List Tm→List Tm→Tm→Option (List Tm)
 | [],acc,a=>if acc.length=8 then none else some (acc++[a])
 | b :: l,acc,a=>bif decide (a=b) then some acc else bif decide (a.name=b.name) then none else dl l acc a
theorem gC (b:Tm) (l acc:List Tm) (a:Tm):dl (b :: l) acc a=bif decide (a=b) then some acc else bif decide (a.name=b.name) then none else dl l acc a:=rfl
def pq (k:Int) (a:Tm) (acc:List Tm):Option (List Tm):=bif decide (k=0) && gc a then dl acc acc a else none
mutual
def rg:Ex→List Tm→Option (List Tm)
 | .mk k a l,acc=>bif l.isEmpty then pq k a acc else bif lg k a l then yB l acc else none
def yB:List Ex→List Tm→Option (List Tm)
 | [],acc=>some acc
 | x :: l,acc=>(rg x acc).bind fun r=>yB l r
end
theorem tA (k:Int) (a:Tm) (l:List Ex) (acc:List Tm):rg (.mk k a l) acc=bif l.isEmpty then pq k a acc else bif lg k a l then yB l acc else none:=rfl
theorem pt (x:Ex) (l:List Ex) (acc:List Tm):yB (x :: l) acc=(rg x acc).bind fun r=>yB l r:=rfl
def nZ (l:List Tm):Prop:=l.length≤8∧l.Pairwise fun a b=>a.name≠b.name
theorem BJ (acc:List Tm) (a:Tm) (hacc:nZ acc):(nZ (f7 acc a)→dl acc acc a=some (f7 acc a))∧(¬nZ (f7 acc a)→dl acc acc a=none):=by
 have h:∀(l p:List Tm),acc=p++l→(∀b∈p,a≠b∧a.name≠b.name)→(nZ (f7 acc a)→dl l acc a=some (f7 acc a))∧(¬nZ (f7 acc a)→dl l acc a=none):=by
  intro l
  induction l with
  | nil =>
   intro p hp hn
   have hno:gR a acc=false:=by
    rw [Bool.eq_false_iff]
    intro h
    rw [mf,hp,List.append_nil] at h
    exact (hn a h).1 rfl
   have he:f7 acc a=acc++[a]:=by unfold f7;rw [hno];rfl
   rw [he]
   unfold nZ dl
   rw [List.length_append,List.pairwise_append]
   have hp2:∀b∈acc,∀c∈[a],b.name≠c.name:=by
    intro b hb c hc
    rw [List.mem_singleton.1 hc]
    rw [hp,List.append_nil] at hb
    exact fun e=>(hn b hb).2 e.symm
   constructor
   ·intro h
    rw [if_neg]
    have:=h.1
    simp at this
    omega
   ·intro h
    rw [if_pos]
    have h8:=hacc.1
    refine Classical.byContradiction fun h9=>h ⟨by simp;omega,hacc.2,by simp,hp2⟩
  | cons b l ih =>
   intro p hp hn
   rw [gC]
   by_cases h1:a=b
   ·have hi:gR a acc=true:=by rw [mf,hp,h1];simp
    have he:f7 acc a=acc:=by unfold f7;rw [hi];rfl
    rw [he]
    simp [h1,hacc]
   ·by_cases h2:a.name=b.name
    ·have hb:b∈acc:=by rw [hp];simp
     have hno:gR a acc=false:=by
      rw [Bool.eq_false_iff]
      intro h
      rw [mf] at h
      have hpw:=hacc.2
      rcases List.mem_iff_getElem.1 h with ⟨i,hi,ei⟩
      rcases List.mem_iff_getElem.1 hb with ⟨j,hj,ej⟩
      rw [List.pairwise_iff_getElem] at hpw
      rcases Nat.lt_trichotomy i j with hij|hij|hij
      ·exact hpw i j hi hj hij (by rw [ei,ej];exact h2)
      ·subst hij;exact h1 (ei.symm.trans ej)
      ·exact hpw j i hj hi hij (by rw [ei,ej];exact h2.symm)
     have he:f7 acc a=acc++[a]:=by unfold f7;rw [hno];rfl
     have hbad:¬nZ (f7 acc a):=by
      rw [he]
      intro h
      have:=(List.pairwise_append.1 h.2).2.2 b hb a (by simp)
      exact this h2.symm
     simp [h1,h2,hbad]
    ·simp only [h1,h2,decide_false,cond_false]
     exact ih (p++[b]) (by rw [hp];simp) (by
      intro c hc
      rcases List.mem_append.1 hc with hc|hc
      ·exact hn c hc
      ·rw [List.mem_singleton.1 hc]
       exact ⟨h1,h2⟩)
 exact h acc [] rfl (by simp)
theorem BK:∀(x:Ex) (acc:List Tm),∃t,eb x acc=acc++t:=by
 refine Ex.ind (fun k a l ih=>?_)
 have hl:∀(m:List Ex) (acc:List Tm),(∀x∈m,x∈l)→∃t,eU m acc=acc++t:=by
  intro m
  induction m with
  | nil=>intro acc _;exact ⟨[],by simp [eU]⟩
  | cons x m ihm =>
   intro acc hm
   obtain ⟨t,ht⟩:=ih x (hm x (by simp)) acc
   obtain ⟨t',ht'⟩:=ihm (eb x acc) fun y hy=>hm y (by simp [hy])
   exact ⟨t++t',by rw [fA,ht',ht,List.append_assoc]⟩
 intro acc
 rw [iT]
 cases l.isEmpty with
 | true =>
  unfold f7
  cases gR a acc with
  | true=>exact ⟨[],by simp⟩
  | false=>exact ⟨[a],rfl⟩
 | false=>exact hl l acc fun _ h=>h
theorem nh:∀(m:List Ex) (acc:List Tm),∃t,eU m acc=acc++t
 | [],acc=>⟨[],by simp [eU]⟩
 | x :: m,acc=>by
  obtain ⟨t,ht⟩:=BK x acc
  obtain ⟨t',ht'⟩:=nh m (eb x acc)
  exact ⟨t++t',by rw [fA,ht',ht,List.append_assoc]⟩
theorem Ef {l t:List Tm} (h:nZ (l++t)):nZ l:=⟨by have:=h.1;simp at this;omega,(List.pairwise_append.1 h.2).1⟩
theorem GD:∀(x:Ex) (acc:List Tm),nZ acc→(vr x=true∧nZ (eb x acc)→rg x acc=some (eb x acc))∧(¬(vr x=true∧nZ (eb x acc))→rg x acc=none):=by
 refine Ex.ind (fun k a l ih=>?_)
 have hl:∀(m:List Ex) (acc:List Tm),(∀x∈m,x∈l)→nZ acc→(BG m=true∧nZ (eU m acc)→yB m acc=some (eU m acc))∧(¬(BG m=true∧nZ (eU m acc))→yB m acc=none):=by
  intro m
  induction m with
  | nil=>intro acc _ h;exact ⟨fun _=>rfl,fun h2=>absurd ⟨rfl,h⟩ h2⟩
  | cons x m ihm =>
   intro acc hm h
   rw [pt,mg,fA]
   have hx:=ih x (hm x (by simp)) acc h
   by_cases h1:vr x=true∧nZ (eb x acc)
   ·rw [hx.1 h1,Option.bind_some]
    have h2:=ihm (eb x acc) (fun y hy=>hm y (by simp [hy])) h1.2
    rw [h1.1,Bool.true_and]
    exact h2
   ·rw [hx.2 h1,Option.bind_none]
    refine ⟨fun h2=>absurd ⟨?_,?_⟩ h1,fun _=>rfl⟩
    ·have:=h2.1
     simp at this
     exact this.1
    ·obtain ⟨t,ht⟩:=nh m (eb x acc)
     have:=h2.2
     rw [ht] at this
     exact Ef this
 intro acc h
 rw [tA,tx,iT]
 unfold pq vq
 cases hE:l.isEmpty with
 | true =>
  obtain rfl:=List.isEmpty_iff.1 hE
  simp only [cond_true,BG,Bool.and_true]
  have hn:=BJ acc a h
  cases hk:decide (k=0) && gc a with
  | true=>simpa using hn
  | false=>simp
 | false =>
  simp only [cond_false]
  have h2:=hl l acc (fun _ h=>h) h
  unfold lg
  cases decide (1≤k) && decide (k≤(l.length:Int)) && decide (a=fO) with
  | true=>simpa using h2
  | false=>simp
theorem r9:∀(l acc:List Tm) (a:Tm) (r:List Tm),acc.length≤8→dl l acc a=some r→r.length≤8
 | [],acc,a,r,h,e=>by
  unfold dl at e
  split at e
  ·cases e
  ·injection e with e
   rw [←e,List.length_append]
   simp
   omega
 | b :: l,acc,a,r,h,e=>by
  rw [gC] at e
  cases h1:decide (a=b) with
  | true=>rw [h1] at e;injection e with e;rw [←e];exact h
  | false =>
   cases h2:decide (a.name=b.name) with
   | true=>rw [h1,h2] at e;cases e
   | false=>rw [h1,h2] at e;exact r9 l acc a r h e
theorem yC:∀(x:Ex) (acc r:List Tm),acc.length≤8→rg x acc=some r→r.length≤8:=by
 refine Ex.ind (fun k a l ih=>?_)
 have hl:∀(m:List Ex) (acc r:List Tm),(∀x∈m,x∈l)→acc.length≤8→yB m acc=some r→r.length≤8:=by
  intro m
  induction m with
  | nil=>intro acc r _ h e;injection e with e;rw [←e];exact h
  | cons x m ihm =>
   intro acc r hm h e
   rw [pt] at e
   cases h1:rg x acc with
   | none=>rw [h1] at e;cases e
   | some r1 =>
    rw [h1] at e
    exact ihm r1 r (fun y hy=>hm y (by simp [hy])) (ih x (hm x (by simp)) acc r1 h h1) e
 intro acc r h e
 rw [tA] at e
 unfold pq at e
 cases hE:l.isEmpty with
 | true =>
  rw [hE] at e
  cases hk:decide (k=0) && gc a with
  | true=>rw [hk] at e;exact r9 acc acc a r h e
  | false=>rw [hk] at e;cases e
 | false =>
  rw [hE] at e
  cases hg:lg k a l with
  | true=>rw [hg] at e;exact hl l acc r (fun _ h=>h) h e
  | false=>rw [hg] at e;cases e
instance (l:List Tm):Decidable (nZ l):=by unfold nZ;infer_instance
def ib (x:Ex):Bool:=qX x && (vr x && decide (nZ (eb x [])))
def cj (x:Ex):List Tm:=bif ib x then eb x [] else []
theorem Eg:nZ []:=⟨by simp,List.Pairwise.nil⟩
theorem BL (x:Ex):ib x=(qX x && (rg x []).isSome):=by
 have h:=GD x [] Eg
 unfold ib
 congr 1
 by_cases h1:vr x=true∧nZ (eb x [])
 ·rw [h.1 h1,h1.1];simp [h1.2]
 ·rw [h.2 h1]
  cases hs:vr x with
  | false=>simp
  | true=>simp only [hs,true_and] at h1;simp [h1]
theorem yD (a b:Tm) (w:World):(Op.equalIn 10000 39 a.val b.val).run prog w = .ok (decide (a=b)) w:=by
 have hS:prog.underlying 39=some (.struct (prog.fieldsOf 39)):=by kernel_rfl
 have hp:prog.stoodInHeld 39=false:=by kernel_rfl
 unfold Tm.val
 rw [show (10000:Nat)=9999+1 from rfl,run_equalIn_agg w 9999 39 _ _ hS hp]
 have u3:=underlying3
 simp only [Program.fieldsOf,underlying39]
 go_simp
 obtain ⟨an,a1,a2⟩:=a
 obtain ⟨bn,b1,b2⟩:=b
 have hn:an.toList=bn.toList↔an=bn:=⟨toList_inj,fun e=>by rw [e]⟩
 simp only [hn]
 by_cases h0:an=bn <;> by_cases h1:a1=b1 <;> by_cases h2:a2=b2 <;> simp [h0,h1,h2]
theorem BM (n:ByteArray) (a b:Int) (n':ByteArray) (x y:Int):Cmps 39 #[.string n,.int .i64 a,.int .i64 b] #[.string n',.int .i64 x,.int .i64 y] (decide ((⟨n,⟨a,b⟩⟩:Tm)=⟨n',⟨x,y⟩⟩)) :=
 Cmps.mk' (yD ⟨n,⟨a,b⟩⟩ ⟨n',⟨x,y⟩⟩) (fun op a b xs ys w=>run_eqGuard_agg w op 39 a b xs ys (by kernel_rfl))
def Eh (w:World) (p base:Nat) (v:Value) (r:Option (List Tm)) (w':World):Prop:=∃v',PS (· = p) w w' v v'∧∀l',r=some l'→AtP bV 39 w' p base v' l'
theorem BN (p base:Nat) (nm:ByteArray) (m u:Int) (v:Value) (l:List Tm) (w:World) (hp:p<w.heap.size) (h8:l.length≤8) (hv:AtP bV 39 w p base v l) :
  Calls prog 298 #[.pointer (some ⟨p,0,none⟩),.agg #[.string nm,.int .i64 m,.int .i64 u]] w fun e w'=>∃c:Int,e = .returned (.int .i64 c)∧(c=0↔(dl l l ⟨nm,⟨m,u⟩⟩).isSome=true)∧Eh w p base v (dl l l ⟨nm,⟨m,u⟩⟩) w':=by
 obtain ⟨A,cap,rfl,hr,hlc,hcm⟩:=hv.own.form
 have p0:=hv.cell
 have f0:=hv.froz
 have HV:=Lib.hid hv
 have HR:=Lib.hid hr
 clear hv hr
 obtain ⟨r,hr⟩:∃r,dl l l ⟨nm,⟨m,u⟩⟩=r:=⟨_,rfl⟩
 rw [hr]
 have HS:Hid (dl (l.drop 0) l ⟨nm,⟨m,u⟩⟩=r):=Lib.hid hr
 clear hr
 unfold maxLen at hcm
 go_enter func298,ntmps298
 go_wp2_with fail
 go_loopg [11] l.length (fun m0 v11 wq=>∃k:Nat,v11 = .int .i64 (k:Int)∧k≤l.length∧l.length≤k+m0∧Hid (dl (l.drop k) l ⟨nm,⟨m,u⟩⟩=r)∧Hid (Below (w.alloc (.cells #[.string nm,.int .i64 m,.int .i64 u] 39)).heap.size (w.alloc (.cells #[.string nm,.int .i64 m,.int .i64 u] 39)) wq))
 case atStart=>exact ⟨0,rfl,Nat.zero_le _,by omega,HS,Lib.hid (Below.refl _ _)⟩
 case round =>
  obtain ⟨k,rfl,hk,hkm,HI,HB⟩:=hrel
  have hb:=HB.out
  have HBW:Hid (Below w.heap.size w wr):=Lib.hid aU
  obtain ⟨hc_wr,hf_wr⟩:=gy hb
  have hs_wr:=hb.size
  (try simp at hs_wr)
  have hz_wr_0:w.heap.size<wr.heap.size:=(by omega)
  clear hs_wr
  clear hb
  by_cases hlt:k<l.length
  ·obtain ⟨⟨n1,⟨m1,u1⟩⟩,hx⟩:∃x,l[k]=x:=⟨_,rfl⟩
   obtain ⟨g1,off,rfl,hbl,c0,c1,c2⟩:=vb (HR.out.below HBW.out (Nat.le_refl _) (Nat.le_refl _)) hlt hx
   have hbl2:g1<wr.heap.size:=Nat.lt_of_lt_of_le hbl HBW.out.size
   have hlti:(k:Int)<(l.length:Int):=by omega
   have HS:Hid (dl (⟨n1,⟨m1,u1⟩⟩ :: l.drop (k+1)) l ⟨nm,⟨m,u⟩⟩=r):=Lib.hid (by have h:=HI.out;rw [d8 hlt hx] at h;exact h)
   obtain ⟨_,k1,k2⟩:=BM nm m u n1 m1 u1
   rw [gC] at HS
   obtain ⟨q1,hq1⟩:∃q,decide ((⟨nm,⟨m,u⟩⟩:Tm)=⟨n1,⟨m1,u1⟩⟩)=q:=⟨_,rfl⟩
   rw [hq1] at HS k1
   have HS:Hid ((bif q1 then some l else bif decide (nm=n1) then none else dl (l.drop (k+1)) l ⟨nm,⟨m,u⟩⟩)=r):=HS
   clear hq1 hx hbl
   cases q1 with
   | true =>
    go_wp2_with fail
    go_ret
    refine ⟨0,rfl,by rw [←HS.out];simp,_,PS.of _ (Below.al HBW.out _),fun l' hl'=>?_⟩
    obtain rfl:l=l':=by have h:=HS.out.trans hl';simpa using h
    exact ⟨(Below.cell (p:=⟨p,0,none⟩) (Below.al HBW.out _) hp).trans p0,(Below.frozen (p:=⟨p,0,none⟩) (Below.al HBW.out _) hp).trans f0,HV.out.own.below (Below.al HBW.out _) (Nat.le_refl _),HV.out.ne⟩
   | false =>
    by_cases hn:nm=n1
    ·have hn2:nm.toList=n1.toList:=by rw [hn]
     have HS2:Hid (none=r):=Lib.hid (by have h:=HS.out;rw [decide_eq_true hn] at h;exact h)
     clear hn
     go_wp2_with fail
     go_ret
     exact ⟨13,rfl,by rw [←HS2.out];simp,_,PS.of _ (Below.al HBW.out _),fun l' hl'=>by rw [←HS2.out] at hl';cases hl'⟩
    ·have hn2:(nm.toList == n1.toList)=false:=by rw [beq_eq_false_iff_ne];exact fun e=>hn (toList_inj e)
     have HS2:Hid (dl (l.drop (k+1)) l ⟨nm,⟨m,u⟩⟩=r):=Lib.hid (by have h:=HS.out;rw [decide_eq_false hn] at h;exact h)
     clear hn
     go_wp2_with fail
     go_roundg (gk-1)
     case measure=>omega
     case rel=>exact ⟨k+1,by go_num,by omega,by omega,HS2,Lib.hid (Below.al HB.out _)⟩
  ·have HS:Hid ((if l.length=8 then none else some (l++[⟨nm,⟨m,u⟩⟩]))=r):=Lib.hid (by have h:=HI.out;rw [gz hlt] at h;exact h)
   have hlti:¬(k:Int)<(l.length:Int):=by omega
   have HPW:=Lib.hid (HV.out.own.below HBW.out (Nat.le_refl _))
   by_cases h9:l.length=8
   ·have h9i:(l.length:Int)=8:=by omega
    have HS2:Hid (none=r):=Lib.hid (by have h:=HS.out;rwa [if_pos h9] at h)
    go_wp2_with fail
    go_ret
    exact ⟨4,rfl,by rw [←HS2.out];simp,_,PS.of _ HBW.out,fun l' hl'=>by rw [←HS2.out] at hl';cases hl'⟩
   ·have h9i:¬(l.length:Int)=8:=by omega
    have HS2:Hid (some (l++[⟨nm,⟨m,u⟩⟩])=r):=Lib.hid (by have h:=HS.out;rwa [if_neg h9] at h)
    have d0:wr.cell? ⟨p,0,none⟩=some (.slice A l.length cap):=(HBW.out.cell (p:=⟨p,0,none⟩) hp).trans p0
    have b0:wr.cell? ⟨w.heap.size,0,none⟩=some (.string nm):=(hc_wr _ _ (by simp)).trans (dP w _ _ 0)
    have b1:wr.cell? ⟨w.heap.size,1,none⟩=some (.int .i64 m):=(hc_wr _ _ (by simp)).trans (dP w _ _ 1)
    have b2:wr.cell? ⟨w.heap.size,2,none⟩=some (.int .i64 u):=(hc_wr _ _ (by simp)).trans (dP w _ _ 2)
    have hpr:p<wr.heap.size:=Nat.lt_of_lt_of_le hp HBW.out.size
    have HFR:Hid (wr.frozen? ⟨p,0,none⟩=false):=Lib.hid ((HBW.out.frozen (p:=⟨p,0,none⟩) hp).trans f0)
    have hS0:Hid (wr.drew.cell? ⟨p,0,none⟩=some (.slice A l.length cap)∧wr.drew.frozen? ⟨p,0,none⟩=false∧wr.drew.cell? ⟨w.heap.size,0,none⟩=some (.string nm)∧wr.drew.cell? ⟨w.heap.size,1,none⟩=some (.int .i64 m)∧wr.drew.cell? ⟨w.heap.size,2,none⟩=some (.int .i64 u)):=Lib.hid ⟨d0,HFR.out,b0,b1,b2⟩
    have HAL:Hid (Below wr.heap.size wr (wr.drew.alloc (.cells #[.string nm,.int .i64 m,.int .i64 u] 39))):=Lib.hid (Below.al (bL (Below.refl _ _) 1) _)
    have hS1:Hid ((wr.drew.alloc (.cells #[.string nm,.int .i64 m,.int .i64 u] 39)).cell? ⟨p,0,none⟩=some (.slice A l.length cap)∧(wr.drew.alloc (.cells #[.string nm,.int .i64 m,.int .i64 u] 39)).frozen? ⟨p,0,none⟩=false∧(wr.drew.alloc (.cells #[.string nm,.int .i64 m,.int .i64 u] 39)).cell? ⟨w.heap.size,0,none⟩=some (.string nm)∧(wr.drew.alloc (.cells #[.string nm,.int .i64 m,.int .i64 u] 39)).cell? ⟨w.heap.size,1,none⟩=some (.int .i64 m)∧(wr.drew.alloc (.cells #[.string nm,.int .i64 m,.int .i64 u] 39)).cell? ⟨w.heap.size,2,none⟩=some (.int .i64 u)) :=
     Lib.hid ⟨(HAL.out.cell (p:=⟨p,0,none⟩) hpr).trans d0,(HAL.out.frozen (p:=⟨p,0,none⟩) hpr).trans HFR.out,(HAL.out.cell (p:=⟨w.heap.size,0,none⟩) hz_wr_0).trans b0,(HAL.out.cell (p:=⟨w.heap.size,1,none⟩) hz_wr_0).trans b1,(HAL.out.cell (p:=⟨w.heap.size,2,none⟩) hz_wr_0).trans b2⟩
    have HPD:Hid (OwnRows bV 39 (wr.drew.alloc (.cells #[.string nm,.int .i64 m,.int .i64 u] 39)) base (.slice A l.length cap) l):=Lib.hid ((HPW.out.drewN 1).alloc _)
    have HRL:Hid (RowsAt bV (wr.drew.alloc (.cells #[.string nm,.int .i64 m,.int .i64 u] 39)) (oK (wr.drew.alloc (.cells #[.string nm,.int .i64 m,.int .i64 u] 39)) (.slice A l.length cap)) (some ⟨wr.heap.size,0,none⟩) [⟨nm,⟨m,u⟩⟩]) :=
     Lib.hid ⟨[.string nm,.int .i64 m,.int .i64 u],Reps.single rfl,fun _=>⟨wr.heap.size,0,rfl,⟨by simp,fun e=>by have:=(HPW.out.block _ e).2;omega⟩,fun j z hz=>rQ wr.drew [.string nm,.int .i64 m,.int .i64 u] 39 j z hz⟩⟩
    have HOT:Hid (oK (wr.drew.alloc (.cells #[.string nm,.int .i64 m,.int .i64 u] 39)) (.slice A l.length cap) p∧oK (wr.drew.alloc (.cells #[.string nm,.int .i64 m,.int .i64 u] 39)) (.slice A l.length cap) w.heap.size):=Lib.hid ⟨⟨by simp;omega,HV.out.ne⟩,⟨by simp;omega,fun e=>by have:=(HV.out.own.block _ e).2;omega⟩⟩
    clear hc_wr hf_wr p0 f0
    go_wp2_with fail
    go_region_law (refine xh Gw rfl (.tmp 32) (.tmp 34) rfl base (.slice A l.length cap) l [⟨nm,⟨m,u⟩⟩] 1 rfl (some ⟨wr.heap.size,0,none⟩) 1 rfl HPD.out rfl HRL.out (by unfold maxLen;omega) (by omega) ?_;intro v2 w2 hown2 hb2 hsp2;have HO2:=Lib.hid hown2;have HB2:=Lib.hid hb2;have HSP:=Lib.hid hsp2;clear hown2 hb2 hsp2;obtain ⟨A2,cap2,rfl,_,_,_⟩:=HO2.out.form;have hpo:=HSP.out p HOT.out.1;have HPN:=Lib.hid hpo.2;have cp2:=(World.cell?_of_block (a:=⟨p,0,none⟩) hpo.1).trans hS1.out.1;have fp2:=(World.frozen?_of_block (a:=⟨p,0,none⟩) hpo.1).trans hS1.out.2.1;clear hpo)
    all_goals (
     go_wp2_with fail
     go_ret
     refine ⟨0,rfl,by rw [←HS2.out];simp,_,PS.st ((PS.of _ HBW.out).trans ((PS.of _ HAL.out).trans (PS.push HB2.out HSP.out))) rfl,fun l' hl'=>?_⟩
     obtain rfl:l++[⟨nm,⟨m,u⟩⟩]=l':=by have h:=HS2.out.trans hl';simpa using h
     have h:AtP bV 39 (w2.setCell ⟨p,0,none⟩ (.slice A2 (l++[(⟨nm,⟨m,u⟩⟩:Tm)]).length cap2)) p base (.slice A2 (l++[(⟨nm,⟨m,u⟩⟩:Tm)]).length cap2) (l++[⟨nm,⟨m,u⟩⟩]):=AtP.store HO2.out HPN.out cp2 fp2
     simpa using h)
theorem rh (nm:ByteArray) (m u:Int) (w:World):Calls prog 297 #[.agg #[.string nm,.int .i64 m,.int .i64 u]] w (lC w (.bool (gc ⟨nm,⟨m,u⟩⟩))):=by
 have HV:=Lib.hid (fun W=>g5 nm W)
 have HF:=Lib.hid (fun nm kd un h W=>vd ⟨nm,kd,un,h⟩ m u W)
 unfold Rs.val at HF
 have HU:=Lib.hid (nU m u)
 go_enter func297,ntmps297
 go_wp2_with fail
 repeat' (first
  | (go_at_call 108;refine (HV.out _).mono ?_;rintro e wa1 ⟨rfl,hwa1⟩;obtain rfl:=hwa1.symm;clear hwa1;go_wp2_with fail)
  | (go_at_call 52;refine (HF.out _ _ _ _ _).mono ?_;rintro e wa2 ⟨rfl,hb_wa2⟩;obtain ⟨hc_wa2,hf_wa2⟩:=gy hb_wa2;have hs_wa2:=hb_wa2.size;(try simp at hs_wa2);have hz_wa2_w_0:w.heap.size<wa2.heap.size:=(by omega);have hz_wa2_w_1:w.heap.size+1<wa2.heap.size:=(by omega);have hz_wa2_w_2:w.heap.size+1+1<wa2.heap.size:=(by omega);clear hs_wa2;have HB_wa2:=Lib.hid hb_wa2;clear hb_wa2;go_wp2_with fail)
  | (go_ret;refine ⟨aN ?_,by exact aU⟩;unfold gc;have hu:=HU.out;(first|(simp_all [];done)|(simp_all [];omega)|(rw [Bool.eq_iff_iff];simp_all [];done)|(rw [Bool.eq_iff_iff];simp_all [];omega))))
theorem Iw (n:ByteArray) (a b:Int):Cmps 39 #[.string n,.int .i64 a,.int .i64 b] #[.string { data:=#[] },.int .i64 0,.int .i64 0] (decide ((⟨n,⟨a,b⟩⟩:Tm)=fO)):=BM n a b _ 0 0
theorem vt:∀(d:Nat) (x:Ex) (A:Option Addr) (cap B p base:Nat) (v:Value) (acc:List Tm) (w:World) (hx:ExF w B d A x) (hB:B≤base) (hpb:base≤p) (hp:p<w.heap.size) (h8:acc.length≤8) (hv:AtP bV 39 w p base v acc),
  Calls prog 238 #[x.val A cap,.pointer (some ⟨p,0,none⟩)] w fun e w'=>e = .returned (.bool (rg x acc).isSome)∧Eh w p base v (rg x acc) w':=by
 intro d
 induction d using Nat.strongRecOn with
 | ind d ih =>
  intro x A cap B p base v acc w hx hB hpb hp h8 hv
  obtain ⟨k,⟨nm,⟨m,u⟩⟩,l⟩:=x
  obtain ⟨hm,hBw,hr⟩:=hx
  unfold Ex.val
  rw [tA]
  dsimp only [Ex.k,Ex.atom,Ex.kids] at hm hr ⊢
  have IH:=Lib.hid ih
  have HR:=Lib.hid hr
  have HV:=Lib.hid hv
  clear hr ih hv
  cases hE:l.isEmpty with
  | true =>
   obtain rfl:=List.isEmpty_iff.1 hE
   have HA:=Lib.hid (fun W=>rh nm m u W)
   have HN:=Lib.hid (fun W (hb:Below w.heap.size w W)=>BN p base nm m u v acc W (Nat.lt_of_lt_of_le hp hb.size) h8 (AtP.below (HV.out:AtP bV 39 w p base v acc) hb hp))
   have HS:Hid ((bif decide (k=0) && gc ⟨nm,⟨m,u⟩⟩ then dl acc acc ⟨nm,⟨m,u⟩⟩ else none)=pq k ⟨nm,⟨m,u⟩⟩ acc):=Lib.hid rfl
   simp only [cond_true]
   generalize pq k ⟨nm,⟨m,u⟩⟩ acc=r at *
   generalize dl acc acc ⟨nm,⟨m,u⟩⟩=r2 at *
   generalize gc ⟨nm,⟨m,u⟩⟩=q2 at *
   by_cases hk:k=0
   ·subst hk
    have HS2:Hid ((bif q2 then r2 else none)=r):=Lib.hid (by have h:=HS.out;simpa using h)
    go_enter func238,ntmps238
    go_wp2_with fail
    refine (HA.out _).mono ?_
    rintro e w2 ⟨rfl,hb2⟩
    have HB2:Hid (Below w.heap.size w w2):=Lib.hid (Below.tr (Below.al (Below.refl _ _) _) hb2)
    obtain ⟨hc_w2,hf_w2⟩:=gy hb2
    have hs_w2:=hb2.size
    (try simp at hs_w2)
    have hz_w2_0:w.heap.size<w2.heap.size:=(by omega)
    clear hs_w2
    clear hb2
    cases q2 with
    | false =>
     have HS3:Hid (none=r):=HS2
     go_wp2_with fail
     go_ret
     exact ⟨by rw [←HS3.out];rfl,_,PS.of _ HB2.out,fun l' hl'=>by rw [←HS3.out] at hl';cases hl'⟩
    | true =>
     obtain rfl:r2=r:=HS2.out
     go_wp2_with fail
     refine (HN.out _ HB2.out).mono ?_
     rintro e w3 ⟨c,rfl,hc,hn⟩
     have HN3:=Lib.hid hn
     have HC:=Lib.hid hc
     clear hn hc
     by_cases hc0:c=0
     ·subst hc0
      go_wp2_with fail
      go_ret
      obtain ⟨v',h1,h2⟩:=HN3.out
      exact ⟨by rw [HC.out.1 trivial];rfl,v',(PS.of _ HB2.out).trans h1,h2⟩
     ·have hc1:(c == 0)=false:=by simpa using hc0
      go_wp2_with fail
      go_ret
      obtain ⟨v',h1,h2⟩:=HN3.out
      refine ⟨?_,v',(PS.of _ HB2.out).trans h1,h2⟩
      have:r2.isSome=false:=by cases hr:r2.isSome with
       | false=>rfl
       | true=>exact absurd (HC.out.2 hr) hc0
      rw [this];rfl
   ·have HS2:Hid (none=r):=Lib.hid (by have h:=HS.out;rw [decide_eq_false hk] at h;exact h)
    have hk1:(k == 0)=false:=by simpa using hk
    go_enter func238,ntmps238
    go_wp2_with fail
    go_ret
    exact ⟨by rw [←HS2.out];rfl,_,PS.of _ aU,fun l' hl'=>by rw [←HS2.out] at hl';cases hl'⟩
  | false =>
   have hl0:¬(l.length:Int)=0:=by
    have:l≠[]:=fun e=>by rw [e] at hE;cases hE
    have:=List.length_pos_iff.2 this
    omega
   simp only [cond_false]
   have hl0':((l.length:Int) == 0)=false:=by simpa using hl0
   obtain ⟨q1,g1,g2⟩:=Iw nm m u
   cases hG:lg k ⟨nm,⟨m,u⟩⟩ l with
   | false =>
    simp only [cond_false]
    have hfin:∀w',Below w.heap.size w w'→(Ending.returned (Value.bool false) = .returned (.bool (none:Option (List Tm)).isSome)∧Eh w p base v none w'):=fun w' hb=>⟨rfl,_,PS.of _ hb,fun l' hl'=>by cases hl'⟩
    have HFIN:=Lib.hid hfin
    clear hfin
    unfold lg at hG
    by_cases h1:k<1
    ·clear q1 g1 g2 hG
     go_enter func238,ntmps238
     go_wp2_with fail
     go_ret
     exact HFIN.out _ aU
    ·by_cases h2:(l.length:Int)<k
     ·clear q1 g1 g2 hG
      go_enter func238,ntmps238
      go_wp2_with fail
      go_ret
      exact HFIN.out _ aU
     ·have h3:decide ((⟨nm,⟨m,u⟩⟩:Tm)=fO)=false:=by
       rw [decide_eq_true (show 1≤k by omega),decide_eq_true (show k≤(l.length:Int) by omega)] at hG
       exact hG
      rw [h3] at q1
      clear hG h3
      go_enter func238,ntmps238
      go_wp2_with fail
      go_ret
      exact HFIN.out _ aU
   | true =>
    simp only [cond_true]
    have hG2:¬k<1∧¬(l.length:Int)<k∧decide ((⟨nm,⟨m,u⟩⟩:Tm)=fO)=true:=by
     unfold lg at hG
     simp at hG
     exact ⟨by omega,by omega,decide_eq_true hG.2⟩
    obtain ⟨h1,h2,h3⟩:=hG2
    rw [h3] at q1
    clear hG h3
    obtain ⟨r,hr⟩:∃r,yB l acc=r:=⟨_,rfl⟩
    rw [hr]
    have HS:Hid (yB (l.drop 0) acc=r):=Lib.hid hr
    clear hr
    have hm2:=hm
    unfold maxLen at hm2
    go_enter func238,ntmps238
    go_wp2_with fail
    go_loopg [46] l.length (fun m0 v46 wq=>∃(kk:Nat) (vk:Value) (ak:List Tm),v46 = .int .i64 (kk:Int)∧kk≤l.length∧l.length≤kk+m0∧ak.length≤8∧Hid (yB (l.drop kk) ak=r)∧Hid (PS (· = p) w wq v vk)∧Hid (AtP bV 39 wq p base vk ak))
    case atStart=>exact ⟨0,v,acc,rfl,Nat.zero_le _,by omega,h8,HS,Lib.hid (PS.of _ aU),Lib.hid (AtP.below (HV.out:AtP bV 39 w p base v acc) aU hp)⟩
    case round =>
     obtain ⟨kk,vk,ak,rfl,hk,hkm,ha8,HI,HP,HAT⟩:=hrel
     have hsz:=HP.out.size
     have HBB:Hid (Below B w wr):=Lib.hid (HP.out.below (fun k hk=>Nat.le_trans hB (HV.out.own.block k hk).1) (fun k hk=>by rw [hk];omega) hBw)
     by_cases hlt:kk<l.length
     ·obtain ⟨⟨k1,⟨nm1,⟨m1,u1⟩⟩,l1⟩,hx⟩:∃x,l[kk]=x:=⟨_,rfl⟩
      obtain ⟨g1',off,A1,cap1,rfl,hbl,c0,c1,c2,c3,c4,hc1,hc2,d1,rfl,hr1⟩:=me (HR.out.below (B'':=B) HBB.out (Nat.le_refl _) (Nat.le_refl _)) hlt hx
      have hbl0:g1'<B:=hbl
      have hbl2:g1'<wr.heap.size:=by omega
      have hlti:(kk:Int)<(l.length:Int):=by omega
      have HX1:Hid (ExF wr B d1 A1 (.mk k1 ⟨nm1,⟨m1,u1⟩⟩ l1)):=Lib.hid ⟨Nat.le_trans hc1 hc2,by omega,hr1⟩
      have HS:Hid ((rg (.mk k1 ⟨nm1,⟨m1,u1⟩⟩ l1) ak).bind (fun q=>yB (l.drop (kk+1)) q)=r):=Lib.hid (by have h:=HI.out;rw [d8 hlt hx] at h;exact h)
      have HC:Hid (∀W,Below wr.heap.size wr W→Calls prog 238 #[.agg #[.int .i64 k1,.string nm1,.int .i64 m1,.int .i64 u1,.slice A1 l1.length cap1],.pointer (some ⟨p,0,none⟩)] W fun e w'=>e = .returned (.bool (rg (.mk k1 ⟨nm1,⟨m1,u1⟩⟩ l1) ak).isSome)∧Eh W p base vk (rg (.mk k1 ⟨nm1,⟨m1,u1⟩⟩ l1) ak) w'):=Lib.hid (fun W hb1 =>
       IH.out d1 (by omega) (.mk k1 ⟨nm1,⟨m1,u1⟩⟩ l1) A1 cap1 B p base vk ak W (HX1.out.below hb1) hB hpb (by have:=hb1.size;omega) ha8 (AtP.below (HAT.out:AtP bV 39 wr p base vk ak) hb1 (by omega)))
      have HLEN:=Lib.hid (fun q=>yC (.mk k1 ⟨nm1,⟨m1,u1⟩⟩ l1) ak q ha8)
      generalize rg (.mk k1 ⟨nm1,⟨m1,u1⟩⟩ l1) ak=r1 at HS HC HLEN
      clear hx hbl hr1
      go_wp2_with fail
      refine (HC.out _ aU).mono ?_
      rintro e w2 ⟨rfl,hn⟩
      have HN:=Lib.hid hn
      clear hn
      cases r1 with
      | none =>
       have HE:Hid (none=r):=HS
       go_wp2_with fail
       go_ret
       obtain ⟨v',h1,h2⟩:=HN.out
       exact ⟨by rw [←HE.out];rfl,v',HP.out.trans ((PS.of _ aU).trans h1),fun l' hl'=>by rw [←HE.out] at hl';cases hl'⟩
      | some a1 =>
       have HE:Hid (yB (l.drop (kk+1)) a1=r):=HS
       go_wp2_with fail
       go_roundg (gk-1)
       case measure=>omega
       case rel =>
        obtain ⟨v',h1,h2⟩:=HN.out
        exact ⟨kk+1,v',a1,by go_num,by omega,by omega,HLEN.out a1 rfl,HE,Lib.hid (HP.out.trans ((PS.of _ aU).trans h1)),Lib.hid (h2 a1 rfl)⟩
     ·have HE:Hid (some ak=r):=Lib.hid (by have h:=HI.out;rw [gz hlt] at h;exact h)
      have hlti:¬(kk:Int)<(l.length:Int):=by omega
      go_wp2_with fail
      go_ret
      exact ⟨by rw [←HE.out];rfl,vk,HP.out,fun l' hl'=>by have h:=HE.out.trans hl';injection h with h;rw [←h];exact HAT.out⟩
theorem ri (d:Nat) (x:Ex) (A:Option Addr) (cap B:Nat) (w:World) (hx:ExF w B d A x) :
  Calls prog 177 #[x.val A cap] w (lC w (.bool (ib x))):=by
 have HD:=Lib.hid (fun W (hb:Below w.heap.size w W)=>zY d x A cap B W (hx.below hb))
 have HP:=Lib.hid (fun W (hb:Below w.heap.size w W) (p:Nat) (hp:p<W.heap.size) (hwp:w.heap.size≤p) hv=>vt d x A cap B p w.heap.size (.slice none 0 0) [] W (hx.below hb) hx.hB hwp hp (by decide) hv)
 have HS:Hid (ib x=(decide (¬((if qX x then x.dep else 0:Nat):Int)=0) && (rg x []).isSome)):=Lib.hid (by
  rw [BL]
  congr 1
  have:=x.dep_pos
  cases qX x with
  | false=>simp
  | true=>simp;omega)
 clear hx
 obtain ⟨k,⟨nm,⟨m,u⟩⟩,l⟩:=x
 unfold Ex.val at *
 dsimp only [Ex.k,Ex.atom,Ex.kids] at HD HP ⊢
 generalize (if qX (.mk k ⟨nm,⟨m,u⟩⟩ l) then (Ex.mk k ⟨nm,⟨m,u⟩⟩ l).dep else 0)=n at *
 generalize rg (.mk k ⟨nm,⟨m,u⟩⟩ l) []=r at *
 generalize ib (.mk k ⟨nm,⟨m,u⟩⟩ l)=q at *
 have HAT:Hid (AtP bV 39 ((w.alloc (.cells #[.int .i64 k,.string nm,.int .i64 m,.int .i64 u,.slice A l.length cap] 42)).alloc (.cells #[.slice none 0 0] 103)) (w.heap.size+1) w.heap.size (.slice none 0 0) []):=Lib.hid ⟨by simp,by simp,OwnRows.nil _ _ _ _ (by simp;omega),by simp [Value.ownBlock]⟩
 go_enter func177,ntmps177
 go_wp2_with fail
 refine (HD.out _ aU).mono ?_
 rintro e w2 ⟨rfl,hb2⟩
 have HB2:Hid (Below w.heap.size w w2):=Lib.hid (Below.tr (Below.al (Below.al (Below.refl _ _) _) _) hb2)
 have HAT2:Hid (AtP bV 39 w2 (w.heap.size+1) w.heap.size (.slice none 0 0) []):=Lib.hid (AtP.below (HAT.out:AtP bV 39 _ _ _ _ _) hb2 (by simp))
 obtain ⟨hc_w2,hf_w2⟩:=gy hb2
 have hs_w2:=hb2.size
 (try simp at hs_w2)
 have hz_w2_0:w.heap.size<w2.heap.size:=(by omega)
 have hz_w2_1:w.heap.size+1<w2.heap.size:=(by omega)
 clear hs_w2
 clear hb2
 by_cases hn:n=0
 ·subst hn
  have HQ:Hid (q=false):=Lib.hid (by rw [HS.out];rfl)
  go_wp2_with fail
  go_ret
  exact ⟨by rw [HQ.out];rfl,HB2.out⟩
 ·have hn2:((n:Int) == 0)=false:=by simpa using hn
  have HQ:Hid (q=r.isSome):=Lib.hid (by rw [HS.out,decide_eq_true (by omega)];rfl)
  go_wp2_with fail
  refine (HP.out _ HB2.out (w.heap.size+1) (by omega) (by omega) HAT2.out).mono ?_
  rintro e w3 ⟨rfl,hn3⟩
  have HN:=Lib.hid hn3
  clear hn3
  go_wp2_with fail
  go_ret
  refine ⟨by rw [HQ.out];show Ending.returned (.bool ((n:Int) != 0 && r.isSome))=_;unfold bne;rw [hn2];rfl,?_⟩
  obtain ⟨v',h1,_⟩:=HN.out
  exact HB2.out.trans (h1.below (fun k hk=>by cases hk) (fun k hk=>by rw [hk];omega) HB2.out.size)
theorem GE {w w':World} {base:Nat} {v:Value} {l:List Tm} (h:OwnRows bV 39 w base v l) (hb:Below w.heap.size w w'):OwnRows bV 39 w' base v l:=h.below hb (Nat.le_refl _)
def Dist (l:List Tm) (i k:Nat):Prop:=∀(a b:Nat) (ha:a<l.length) (hb:b<a),a<i∨(a=i∧b<k)→l[a].name≠l[b].name
theorem Dist.start (l:List Tm):Dist l 0 0:=fun a b ha hb h=>by omega
theorem Dist.step {l:List Tm} {i k:Nat} (h:Dist l i k) (hi:i<l.length) (hk:k<i) (hne:l[i].name≠l[k].name):Dist l i (k+1):=fun a b ha hb hab=>by
 by_cases h2:a=i∧b=k
 ·obtain ⟨rfl,rfl⟩:=h2
  exact hne
 ·exact h a b ha hb (by omega)
theorem Dist.row {l:List Tm} {i k:Nat} (h:Dist l i k) (hk:¬k<i):Dist l (i+1) 0:=fun a b ha hb hab=>h a b ha hb (by omega)
theorem Dist.all {l:List Tm} {i:Nat} (h:Dist l i 0) (hi:¬i<l.length):l.Pairwise fun a b=>a.name≠b.name:=by
 rw [List.pairwise_iff_getElem]
 intro a b ha hb hab e
 exact h b a hb hab (by omega) e.symm
theorem Dist.not {l:List Tm} {i k:Nat} (hi:i<l.length) (hk:k<i) (he:l[i].name=l[k].name):¬nZ l:=fun h=>by
 have h2:=h.2
 rw [List.pairwise_iff_getElem] at h2
 exact h2 k i (by omega) hi hk he.symm
def ck:List Tm→List Bool→Tm→Bool
 | [],_,_=>false
 | b :: L,set,a=>bif decide (b=a) then set.headD false else ck L set.tail a
theorem pu (b:Tm) (L:List Tm) (set:List Bool) (a:Tm):ck (b :: L) set a=bif decide (b=a) then set.headD false else ck L set.tail a:=rfl
mutual
def rj (h:Tm→Bool):Ex→Bool
 | .mk k a l=>bif l.isEmpty then h a else decide (k≤(zZ h l:Int))
def zZ (h:Tm→Bool):List Ex→Nat
 | []=>0
 | x :: l=>(bif rj h x then 1 else 0)+zZ h l
end
theorem BO (h:Tm→Bool) (k:Int) (a:Tm) (l:List Ex):rj h (.mk k a l)=bif l.isEmpty then h a else decide (k≤(zZ h l:Int)):=rfl
theorem vu (h:Tm→Bool) (x:Ex) (l:List Ex):zZ h (x :: l)=(bif rj h x then 1 else 0)+zZ h l:=rfl
theorem ExF.up {w:World} {B B' d:Nat} {A:Option Addr} {x:Ex} (h:ExF w B d A x) (hB:B≤B') (hw:B'≤w.heap.size):ExF w B' d A x:=⟨h.hm,hw,h.hr.mono fun _ hb=>Nat.lt_of_lt_of_le hb hB⟩
theorem Ei {w:World} {S:Nat→Prop} {A:Option Addr} {l:List Bool} {i:Nat} {x:Bool} (h:RowsAt cU w S A l) (hi:i<l.length) (hx:l[i]=x) :
  ∃b off,A=some ⟨b,off,none⟩∧S b∧w.cell? ⟨b,off+i,none⟩=some (.bool x):=by
 obtain ⟨b,off,cs,hA,hS,hc,hd⟩:=h.getx hi hx
 have hc':cs=[.bool x]:=hc
 subst hc'
 have:=hd 0 (show 0<1 by decide)
 exact ⟨b,off,hA,hS,by simpa [show cU.n=1 from rfl] using this⟩
theorem Ej:∀(x:Ex) (acc:List Tm),vr x=true→0<(eb x acc).length:=by
 refine Ex.ind (fun k a l ih=>?_)
 intro acc h
 rw [iT]
 rw [tx] at h
 cases l with
 | nil =>
  unfold f7
  cases hh:gR a acc with
  | true =>
   have:=(mf a acc).1 hh
   exact List.length_pos_of_mem this
  | false=>simp
 | cons y m =>
  rw [mg] at h
  simp at h
  have h1:=ih y (by simp) acc h.2.1
  obtain ⟨t,ht⟩:=nh m (eb y acc)
  show 0<(eU m (eb y acc)).length
  rw [ht,List.length_append]
  omega
theorem ni {x:Ex} (h:ib x=true):vr x=true∧cj x=eb x []∧(cj x).length≤8∧0<(cj x).length∧nZ (cj x):=by
 have h2:cj x=eb x []:=by unfold cj;rw [h];rfl
 unfold ib at h
 simp at h
 rw [h2]
 exact ⟨h.2.1,rfl,h.2.2.1,Ej x [] h.2.1,h.2.2⟩
theorem pw {x:Ex} (h:ib x=false):cj x=[]:=by unfold cj;rw [h];rfl
def dw (x:Ex) (set:List Bool):Bool:=ib x && rj (ck (cj x) set) x
def lJ (a:Tm):Nat→List Tm→Int
 | _,[]=>-1
 | k,b :: l=>bif decide (a=b) then (k:Int) else lJ a (k+1) l
theorem nj (a b:Tm) (k:Nat) (l:List Tm):lJ a k (b :: l)=bif decide (a=b) then (k:Int) else lJ a (k+1) l:=rfl
theorem j8 (a:Tm):∀(l:List Tm) (k:Nat) (set:List Bool),(lJ a k l = -1∧gR a l=false∧ck l set a=false)∨∃i,i<l.length∧lJ a k l=((k+i:Nat):Int)∧gR a l=true∧ck l set a=(set.drop i).headD false
 | [],k,set=>.inl ⟨rfl,rfl,rfl⟩
 | b :: l,k,set=>by
  rw [nj,ng,pu]
  by_cases h:a=b
  ·refine .inr ⟨0,by simp,?_,?_,?_⟩
   ·rw [decide_eq_true h];rfl
   ·rw [decide_eq_true h.symm];rfl
   ·rw [decide_eq_true h.symm];rfl
  ·rw [decide_eq_false h,decide_eq_false (Ne.symm h)]
   rcases j8 a l (k+1) set.tail with ⟨h1,h2,h3⟩|⟨i,hi,h1,h2,h3⟩
   ·exact .inl ⟨h1,h2,h3⟩
   ·refine .inr ⟨i+1,by simp;omega,?_,h2,?_⟩
    ·rw [cond_false,h1];congr 1;omega
    ·rw [cond_false,h3,List.drop_tail]
theorem lp (A:Option Addr) (B cap:Nat) (l:List Tm) (nm:ByteArray) (m u:Int) (w:World) (hm:l.length≤maxLen) (hB:B≤w.heap.size) (hr:RowsAt bV w (Lo B) A l) :
  Calls prog 299 #[.slice A l.length cap,.agg #[.string nm,.int .i64 m,.int .i64 u]] w (lC w (.int .i64 (lJ ⟨nm,⟨m,u⟩⟩ 0 l))):=by
 unfold maxLen at hm
 have HR:=Lib.hid hr
 clear hr
 obtain ⟨v,hv⟩:∃v,lJ ⟨nm,⟨m,u⟩⟩ 0 l=v:=⟨_,rfl⟩
 rw [hv]
 have HV:Hid (lJ ⟨nm,⟨m,u⟩⟩ 0 (l.drop 0)=v):=Lib.hid hv
 clear hv
 go_enter func299,ntmps299
 go_wp2_with fail
 go_loopg [8] l.length (fun m0 v8 wq=>∃k:Nat,v8 = .int .i64 (k:Int)∧k≤l.length∧l.length≤k+m0∧Hid (lJ ⟨nm,⟨m,u⟩⟩ k (l.drop k)=v)∧Hid (Below (w.alloc (.cells #[.string nm,.int .i64 m,.int .i64 u] 39)).heap.size (w.alloc (.cells #[.string nm,.int .i64 m,.int .i64 u] 39)) wq))
 case atStart=>exact ⟨0,rfl,Nat.zero_le _,by omega,HV,Lib.hid (Below.refl _ _)⟩
 case round =>
  obtain ⟨k,rfl,hk,hkm,HI,HB⟩:=hrel
  have hb:=HB.out
  have hbw:Below w.heap.size w wr:=by exact aU
  have x0:wr.cell? ⟨w.heap.size,0,none⟩=some (.string nm):=(hb.cell (p:=⟨w.heap.size,0,none⟩) (by simp)).trans (dP w _ _ 0)
  have x1:wr.cell? ⟨w.heap.size,1,none⟩=some (.int .i64 m):=(hb.cell (p:=⟨w.heap.size,1,none⟩) (by simp)).trans (dP w _ _ 1)
  have x2:wr.cell? ⟨w.heap.size,2,none⟩=some (.int .i64 u):=(hb.cell (p:=⟨w.heap.size,2,none⟩) (by simp)).trans (dP w _ _ 2)
  have hz0:w.heap.size<wr.heap.size:=by have:=hb.size;simp at this;omega
  clear hb
  by_cases hlt:k<l.length
  ·obtain ⟨⟨n1,⟨m1,u1⟩⟩,hx⟩:∃x,l[k]=x:=⟨_,rfl⟩
   obtain ⟨g,off,rfl,hbl,c0,c1,c2⟩:=vb (HR.out.below (B'':=w.heap.size) hbw hB hB) hlt hx
   have hbl2:g<wr.heap.size:=Nat.lt_of_lt_of_le hbl hbw.size
   have hlti:(k:Int)<(l.length:Int):=by omega
   obtain ⟨_,k1,k2⟩:=BM nm m u n1 m1 u1
   obtain ⟨q,hq⟩:∃q,decide ((⟨nm,⟨m,u⟩⟩:Tm)=⟨n1,⟨m1,u1⟩⟩)=q:=⟨_,rfl⟩
   have HS:Hid ((bif q then (k:Int) else lJ ⟨nm,⟨m,u⟩⟩ (k+1) (l.drop (k+1)))=v):=Lib.hid (by have h:=HI.out;rw [d8 hlt hx,nj] at h;rw [←hq];exact h)
   rw [hq] at k1
   clear hq hx hbl hbw
   cases q <;> (go_wp2_with fail;go_quiet (fail);go_wp2_with fail;first
    | (go_roundg (gk-1);(case measure=>omega);(case rel=>exact ⟨k+1,by go_num,by omega,by omega,Lib.hid HS.out,Lib.hid aU⟩))
    | (go_ret;exact ⟨jY (show (k:Int)=v from HS.out),by exact aU⟩))
  ·have HS:Hid (-1=v):=Lib.hid (by have h:=HI.out;rw [gz hlt] at h;exact h)
   clear hbw
   go_wp2_with fail
   go_ret
   exact ⟨jY HS.out,by exact aU⟩
theorem nk (A:Option Addr) (B cap:Nat) (l:List Tm) (nm:ByteArray) (m u:Int) (w:World) (hm:l.length≤maxLen) (hB:B≤w.heap.size) (hr:RowsAt bV w (Lo B) A l) :
  Calls prog 239 #[.slice A l.length cap,.agg #[.string nm,.int .i64 m,.int .i64 u]] w (lC w (.bool (gR ⟨nm,⟨m,u⟩⟩ l))):=by
 have HF:=Lib.hid (fun W (hb:Below w.heap.size w W)=>lp A B cap l nm m u W hm (Nat.le_trans hB hb.size) (hr.below hb hB (Nat.le_refl _)))
 have HS:=Lib.hid (j8 ⟨nm,⟨m,u⟩⟩ l 0 [])
 clear hr
 generalize lJ ⟨nm,⟨m,u⟩⟩ 0 l=i at *
 generalize gR ⟨nm,⟨m,u⟩⟩ l=q at *
 have HS2:Hid ((i = -1∧q=false)∨(0≤i∧q=true)):=Lib.hid (by
  rcases HS.out with ⟨h1,h2,_⟩|⟨j,_,h1,h2,_⟩
  ·exact .inl ⟨h1,h2⟩
  ·exact .inr ⟨by omega,h2⟩)
 clear HS
 go_enter func239,ntmps239
 go_wp2_with fail
 refine (HF.out _ aU).mono ?_
 rintro e w2 ⟨rfl,hb2⟩
 have HB2:=Lib.hid hb2
 clear hb2
 go_wp2_with fail
 go_ret
 refine ⟨aN ?_,by exact aU⟩
 rcases HS2.out with ⟨h1,h2⟩|⟨h1,h2⟩ <;> rw [h2] <;> simp <;> omega
theorem vv:∀(d:Nat) (x:Ex) (A:Option Addr) (cap B base:Nat) (v:Value) (acc:List Tm) (w:World) (hx:ExF w B d A x) (hB:B≤base) (h8:acc.length+x.cnt≤1000) (hv:OwnRows bV 39 w base v acc),
  Calls prog 178 #[v,x.val A cap] w (fun e w'=>∃v',e = .returned v'∧PS (fun _=>False) w w' v v'∧OwnRows bV 39 w' base v' (eb x acc)):=by
 intro d
 induction d using Nat.strongRecOn with
 | ind d ih =>
  intro x A cap B base v acc w hx hB h8 hv
  obtain ⟨k,⟨nm,⟨m,u⟩⟩,l⟩:=x
  obtain ⟨hm,hBw,hr⟩:=hx
  unfold Ex.val
  rw [iT]
  rw [Ex.cnt_mk] at h8
  dsimp only [Ex.k,Ex.atom,Ex.kids] at hm hr ⊢
  have IH:=Lib.hid ih
  have HR:=Lib.hid hr
  have HV:=Lib.hid hv
  clear hr ih hv
  cases hE:l.isEmpty with
  | true =>
   obtain rfl:=List.isEmpty_iff.1 hE
   have HS:Hid ((bif gR ⟨nm,⟨m,u⟩⟩ acc then acc else acc++[⟨nm,⟨m,u⟩⟩])=f7 acc ⟨nm,⟨m,u⟩⟩):=Lib.hid rfl
   simp only [cond_true]
   obtain ⟨AV,cv,rfl,hrv,hcv1,hcv2⟩:=HV.out.form
   have HC:=Lib.hid (fun W (hb:Below w.heap.size w W)=>nk AV w.heap.size cv acc nm m u W (Nat.le_trans hcv1 hcv2) hb.size (hrv.below hb (Nat.le_refl _) (Nat.le_refl _)))
   generalize f7 acc ⟨nm,⟨m,u⟩⟩=r at *
   generalize gR ⟨nm,⟨m,u⟩⟩ acc=q at *
   clear hrv
   go_enter func178,ntmps178
   go_wp2_with fail
   refine (HC.out _ aU).mono ?_
   rintro e w2 ⟨rfl,hb2⟩
   have HB2:Hid (Below w.heap.size w w2):=Lib.hid (Below.tr (Below.al (Below.refl _ _) _) hb2)
   have HOW:Hid (OwnRows bV 39 w2 base (.slice AV acc.length cv) acc):=Lib.hid (GE HV.out HB2.out)
   obtain ⟨hc_w2,hf_w2⟩:=gy hb2
   have hs_w2:=hb2.size
   (try simp at hs_w2)
   have hz_w2_0:w.heap.size<w2.heap.size:=(by omega)
   clear hs_w2
   clear hb2
   cases q with
   | true =>
    have HE:Hid (acc=r):=HS
    go_wp2_with fail
    go_ret
    exact ⟨_,rfl,PS.of _ HB2.out,by rw [←HE.out];exact HOW.out⟩
   | false =>
    have HE:Hid (acc++[⟨nm,⟨m,u⟩⟩]=r):=HS
    go_wp2_with (at_builtin;refine Bo Gw rfl (.tmp 16) (.tmp 19) rfl w2 base (.slice AV acc.length cv) acc ⟨nm,⟨m,u⟩⟩ [.string nm,.int .i64 m,.int .i64 u] _ rfl rfl HOW.out w2.heap.size rfl rfl rfl (by unfold maxLen;omega) (by omega) ?_;intro v3 w3 hown3 hb3 hsp3;have HO3:=Lib.hid hown3;have HB3:=Lib.hid hb3;have HSP:=Lib.hid hsp3;clear hown3 hb3 hsp3)
    go_ret
    exact ⟨v3,rfl,(PS.of _ HB2.out).trans (PS.push HB3.out HSP.out),by rw [←HE.out];exact HO3.out⟩
  | false =>
   have hl0:¬(l.length:Int)=0:=by
    have:l≠[]:=fun e=>by rw [e] at hE;cases hE
    have:=List.length_pos_iff.2 this
    omega
   simp only [cond_false]
   have hl0':((l.length:Int) == 0)=false:=by simpa using hl0
   have HOL:Hid (∀k,v.ownBlock=some k→B≤k):=Lib.hid fun k hk=>Nat.le_trans hB (HV.out.block k hk).1
   obtain ⟨r,hr⟩:∃r,eU l acc=r:=⟨_,rfl⟩
   rw [hr]
   have HS:Hid (eU (l.drop 0) acc=r):=Lib.hid hr
   clear hr
   have hm2:=hm
   unfold maxLen at hm2
   go_enter func178,ntmps178
   go_wp2_with fail
   go_loopg [0,24] l.length (fun m0 v0 v24 wq=>∃(kk:Nat) (ak:List Tm),v24 = .int .i64 (kk:Int)∧kk≤l.length∧l.length≤kk+m0∧ak.length+gQ (l.drop kk)≤1000∧Hid (eU (l.drop kk) ak=r)∧Hid (PS (fun _=>False) w wq v v0)∧Hid (OwnRows bV 39 wq base v0 ak))
   case atStart=>exact ⟨0,acc,rfl,Nat.zero_le _,by omega,by rw [List.drop_zero];omega,HS,Lib.hid (PS.of _ aU),Lib.hid (GE HV.out aU)⟩
   case round =>
    obtain ⟨kk,ak,rfl,hk,hkm,ha8,HI,HP,HAT⟩:=hrel
    have hsz:=HP.out.size
    have HBB:Hid (Below B w wr):=Lib.hid (HP.out.below HOL.out (fun k hk=>hk.elim) hBw)
    by_cases hlt:kk<l.length
    ·obtain ⟨⟨k1,⟨nm1,⟨m1,u1⟩⟩,l1⟩,hx⟩:∃x,l[kk]=x:=⟨_,rfl⟩
     obtain ⟨g1',off,A1,cap1,rfl,hbl,c0,c1,c2,c3,c4,hc1,hc2,d1,rfl,hr1⟩:=me (HR.out.below (B'':=B) HBB.out (Nat.le_refl _) (Nat.le_refl _)) hlt hx
     have hbl0:g1'<B:=hbl
     have hbl2:g1'<wr.heap.size:=by omega
     have hlti:(kk:Int)<(l.length:Int):=by omega
     have HX1:Hid (ExF wr B d1 A1 (.mk k1 ⟨nm1,⟨m1,u1⟩⟩ l1)):=Lib.hid ⟨Nat.le_trans hc1 hc2,by omega,hr1⟩
     have HS:Hid (eU (l.drop (kk+1)) (eb (.mk k1 ⟨nm1,⟨m1,u1⟩⟩ l1) ak)=r):=Lib.hid (by have h:=HI.out;rw [d8 hlt hx] at h;exact h)
     rw [d8 hlt hx,eT] at ha8
     have HC:Hid (∀W,Below wr.heap.size wr W→Calls prog 178 #[u0,.agg #[.int .i64 k1,.string nm1,.int .i64 m1,.int .i64 u1,.slice A1 l1.length cap1]] W (fun e w'=>∃v',e = .returned v'∧PS (fun _=>False) W w' u0 v'∧OwnRows bV 39 w' base v' (eb (.mk k1 ⟨nm1,⟨m1,u1⟩⟩ l1) ak))):=Lib.hid (fun W hb1 =>
      IH.out d1 (by omega) (.mk k1 ⟨nm1,⟨m1,u1⟩⟩ l1) A1 cap1 B base u0 ak W (HX1.out.below hb1) hB (by omega) (GE HAT.out hb1))
     have hlen:=mh (.mk k1 ⟨nm1,⟨m1,u1⟩⟩ l1) ak
     generalize eb (.mk k1 ⟨nm1,⟨m1,u1⟩⟩ l1) ak=r1 at HS HC hlen
     generalize (Ex.mk k1 ⟨nm1,⟨m1,u1⟩⟩ l1).cnt=cn at *
     clear hx hbl hr1
     go_wp2_with fail
     refine (HC.out _ aU).mono ?_
     rintro e w2 ⟨v2,rfl,hp2,ho2⟩
     have HP2:Hid (PS (fun _=>False) w w2 v v2):=Lib.hid (HP.out.trans ((PS.of _ aU).trans hp2))
     have HO2:=Lib.hid ho2
     clear hp2 ho2
     go_wp2_with fail
     go_roundg (gk-1)
     case measure=>omega
     case rel=>exact ⟨kk+1,r1,by go_num,by omega,by omega,by omega,HS,HP2,HO2⟩
    ·have HE:Hid (ak=r):=Lib.hid (by have h:=HI.out;rw [gz hlt] at h;exact h)
     have hlti:¬(kk:Int)<(l.length:Int):=by omega
     go_wp2_with fail
     go_ret
     exact ⟨u0,rfl,HP.out,by rw [←HE.out];exact HAT.out⟩
theorem z6 (d:Nat) (x:Ex) (A:Option Addr) (cap B:Nat) (w:World) (hx:ExF w B d A x) :
  Calls prog 100 #[x.val A cap] w (o9 bV 39 w (cj x)):=by
 have HV:=Lib.hid (fun W (hb:Below w.heap.size w W)=>ri d x A cap B W (hx.below hb))
 have HA:=Lib.hid (fun (h:ib x=true) W (hb:Below w.heap.size w W)=>vv d x A cap B w.heap.size (.slice none 0 0) [] W (hx.below hb) hx.hB (by unfold ib qX at h;simp at h;simp;omega) (OwnRows.nil _ _ _ _ hb.size))
 have HE:Hid (cj x=bif ib x then eb x [] else []):=Lib.hid rfl
 clear hx
 obtain ⟨k,⟨nm,⟨m,u⟩⟩,l⟩:=x
 unfold Ex.val at *
 dsimp only [Ex.k,Ex.atom,Ex.kids] at HA HV ⊢
 generalize cj (.mk k ⟨nm,⟨m,u⟩⟩ l)=R at *
 generalize eb (.mk k ⟨nm,⟨m,u⟩⟩ l) []=CL at *
 generalize ib (.mk k ⟨nm,⟨m,u⟩⟩ l)=V at *
 go_enter func100,ntmps100
 go_wp2_with fail
 refine (HV.out _ aU).mono ?_
 rintro e w2 ⟨rfl,hb2⟩
 have HB2:Hid (Below w.heap.size w w2):=Lib.hid (Below.tr (Below.al (Below.refl _ _) _) hb2)
 obtain ⟨hc_w2,hf_w2⟩:=gy hb2
 have hs_w2:=hb2.size
 (try simp at hs_w2)
 have hz_w2_0:w.heap.size<w2.heap.size:=(by omega)
 clear hs_w2
 clear hb2
 cases V with
 | false =>
  go_wp2_with fail
  go_ret
  exact ⟨_,rfl,by rw [HE.out];exact OwnRows.nil _ _ _ _ HB2.out.size,HB2.out⟩
 | true =>
  go_wp2_with fail
  refine (HA.out (by trivial) _ HB2.out).mono ?_
  rintro e w3 ⟨v3,rfl,hp3,ho3⟩
  have HB3:Hid (Below w.heap.size w w3):=Lib.hid (HB2.out.trans (hp3.below (fun k hk=>by cases hk) (fun k hk=>hk.elim) HB2.out.size))
  have HO3:=Lib.hid ho3
  clear hp3 ho3
  go_wp2_with fail
  go_ret
  exact ⟨v3,rfl,by rw [HE.out];exact HO3.out,HB3.out⟩
end Go.Proofs.YtjndcdcbjidocaaGreatDoor
