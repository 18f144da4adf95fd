/- Part 25 of 56 of the proof of both_hold (no condition). -/
import Derived.Test.YtcgpepnbohejfaaGreatDoorK23
set_option linter.unusedVariables false
set_option linter.unusedSimpArgs false
set_option maxRecDepth 100000
set_option maxHeartbeats 64000000
namespace Go.Proofs.YtcgpepnbohejfaaGreatDoor
open Go.RowKit Go.Proofs.Tryz
def ya:Option ByteArray→List Rs→Bool
 | _,[]=>true
 | o,r :: l=>jQ r && Bq o r.name && ya (some r.name) l
theorem tA (o:Option ByteArray) (r:Rs) (l:List Rs):ya o (r :: l)=(jQ r && Bq o r.name && ya (some r.name) l):=rfl
def GS (l:List Rs):Bool:=decide (l.length≤8) && ya none l
def tB (l:List Rs) (k:Nat):Option ByteArray:=if k=0 then none else (l[k-1]?).map (·.name)
theorem yb (l:List Rs):tB l 0=none:=rfl
theorem qj {l:List Rs} {k:Nat} {x:Rs} (h:k<l.length) (hx:l[k]=x):tB l (k+1)=some x.name:=by
 unfold tB;rw [if_neg (by omega),Nat.add_sub_cancel,List.getElem?_eq_getElem h,hx];rfl
theorem AT {l:List Rs} {k:Nat} {x:Rs} (h0:0<k) (h:k-1<l.length) (hx:l[k-1]=x):tB l k=some x.name:=by
 unfold tB;rw [if_neg (by omega),List.getElem?_eq_getElem h,hx];rfl
theorem wN:∀(l:List Rs) (o:Option ByteArray),ya o l=true↔(∀x∈l,jQ x=true)∧(∀i (h:i+1<l.length),jE (l[i]'(by omega)).name l[i+1].name=true)∧∀n,o=some n→∀x,l.head? = some x→jE n x.name=true
 | [],o=>by simp [ya]
 | x :: l,o=>by
  rw [tA,Bool.and_eq_true,Bool.and_eq_true,wN l (some x.name)];constructor
  ·rintro ⟨⟨h1,h2⟩,h3,h4,h5⟩;refine ⟨fun y hy=>?_,fun i hi=>?_,fun n hn y hy=>?_⟩
   ·rcases List.mem_cons.1 hy with rfl|hy
    ·exact h1
    ·exact h3 y hy
   ·cases i with
    | zero =>
     cases l with
     | nil=>simp at hi
     | cons z l=>exact h5 x.name rfl z rfl
    | succ i =>
     have:=h4 i (by simpa using hi);simpa using this
   ·subst hn;simp only [List.head?_cons,Option.some.injEq] at hy;subst hy;exact h2
  ·rintro ⟨h1,h2,h3⟩;refine ⟨⟨h1 x (by simp),?_⟩,fun y hy=>h1 y (by simp [hy]),fun i hi=>?_,fun n hn y hy=>?_⟩
   ·cases o with
    | none=>rfl
    | some n=>exact h3 n rfl x rfl
   ·have:=h2 (i+1) (by simpa using hi);simpa using this
   ·injection hn with hn;subst hn;cases l with
    | nil=>cases hy
    | cons z l =>
     simp only [List.head?_cons,Option.some.injEq] at hy;subst hy;have:=h2 0 (by simp);simpa using this
theorem om {l:List Rs}:GS l=true↔CatOk l:=by
 unfold GS;rw [Bool.and_eq_true,decide_eq_true_eq,wN];exact ⟨fun ⟨h1,h2,h3,_⟩=>⟨h1,h2,h3⟩,fun h=>⟨h.len,h.ok,h.asc,fun _ h=>by cases h⟩⟩
theorem Fy (l:List Rs):FSpec prog 41 [.one (.sl dS l)] [] [] (.b (GS l)) []:=by
  obtain ⟨v,hv⟩:∃v,GS l=v:=⟨_,rfl⟩;rw [hv];unfold GS at hv;refine aT func41 ?_;refine bd (fun c ρ a w hr=>cV (t:=0) hr rfl) (fun hl0=>?_);by_cases h8:8<l.length
  · rw [decide_eq_false (by omega)] at hv
    obtain rfl:false=v:=hv;repeat' (first|refine af ?_ ?_|refine ae ?_|exact ah|refine ab fun hb=>?_|exact bB|fail)
  rw [decide_eq_true (by omega),Bool.true_and] at hv;repeat' (first|refine af ?_ ?_|refine ae ?_|exact ah|refine ab fun hb=>?_)
  refine ak (fun i=>i≤l.length∧ya (tB l i) (l.drop i)=v) (fun i=>cq [] [(0,.c (.sl dS l)),(8,.c (.sl dS l)),(9,.i l.length),(10,.i i)] []) (fun i=>l.length-i) 0 ⟨Nat.zero_le _,hv⟩ a7 ?_;rintro i ⟨hi,hs⟩;by_cases hlt:i<l.length
  · rw [List.drop_eq_getElem_cons hlt,tA] at hs
    rcases Nat.eq_zero_or_pos i with h0|h0
    · subst h0
      rw [yb] at hs;repeat' (first|refine af ?_ ?_|refine aa 9 rfl (cB [] (wh l[0]) ?_)|refine ae ?_|exact ah|(refine ab fun hb=>?_;first|(simp at hb;done)|skip))
      all_goals first
        | (obtain rfl:false=v
           · (rw [←hs];simp [*];done)
           refine ct (qf []) ?_;exact aw)
        | (refine ⟨1,⟨by omega,by rw [←hs,qj hlt rfl];simp [*,Bq]⟩,by omega,?_⟩
           exact a7)
    · obtain ⟨m,hm⟩:∃m,l[i-1]=m:=⟨_,rfl⟩
      have hgm:l[((i:Int)-1).toNat]? = some m:=by rw [show ((i:Int)-1).toNat=i-1 by omega,List.getElem?_eq_getElem (by omega),hm]
      rw [AT h0 (by omega) hm] at hs;repeat' (first|refine af ?_ ?_|refine aa 9 rfl (cB [] (wh l[i]) ?_)|refine ae ?_|exact ah|(refine ab fun hb=>?_;first|(omega)|skip))
      all_goals first
        | (obtain rfl:false=v
           · (rw [←hs];simp [*,Bq];done)
           refine ct (qf []) ?_;exact aw)
        | (refine ⟨i+1,⟨by omega,by rw [←hs,qj hlt rfl];simp [*,Bq]⟩,by omega,?_⟩
           exact a7)
  · rw [List.drop_eq_nil_of_le (by omega)] at hs
    obtain rfl:true=v:=hs;repeat' (first|refine af ?_ ?_|refine ae ?_|exact ah|refine ab fun hb=>?_|exact bB|fail)
theorem Io (l:List Rs) {v:Bool} (hv:GS l=v):FSpec prog 24 [.one (.sl dS l)] [] [] (.tup [.one (.sl eX (bif v then l.map fp else [])),iV (bif v then 0 else 1)]) []:=by
 have kV:=Fy l;rw [hv] at kV;refine aT func24 ?_;cases v with
 | false =>
  repeat' (first|refine af ?_ ?_|refine aa 9 rfl (cB [] (kV) ?_)|refine ae ?_|exact ah|refine ab fun hb=>?_|(refine gC (qf []) ?_;exact aw))
 | true =>
  have hc:=om.1 hv;have h8:=hc.len;repeat' (first|refine af ?_ ?_|refine aa 9 rfl (cB [] (kV) ?_)|refine ae ?_|exact ah|refine ab fun hb=>?_)
  refine cZ 4 1000 58 eX rfl rfl rfl ?_;refine ak (fun y:Nat×List Qu=>y.1≤l.length∧y.2=(l.take y.1).map fp) (fun y=>cq [1000] [(4,.c (.own 1000)),(12,.c (.sl dS l)),(13,.i l.length),(14,.i y.1)] [(1000,.arr 58 eX y.2)]) (fun y=>l.length-y.1) (0,[]) ⟨Nat.zero_le _,rfl⟩ a7 ?_;rintro ⟨i,T⟩ ⟨hi,hT⟩;dsimp only at *
  have hTl:T.length=i:=by rw [hT];simp;omega
  by_cases hlt:i<l.length
  ·obtain ⟨r,hr⟩:∃r,l[i]? = some r:=⟨_,List.getElem?_eq_getElem hlt⟩;have er:l[i]=r:=(List.getElem?_eq_some_iff.1 hr).2;have kN:=H7 r (er▸hc.ok _ (List.getElem_mem hlt));repeat' (first|refine af ?_ ?_|(refine aa 8 rfl ?_;refine sx (ap rfl rfl (aH rfl rfl) (wc [fp r] rfl rfl rfl) rfl aK aK) ?_)|refine aa 9 rfl (cC [] (kN) ?_)|refine ae ?_|exact ah|(refine ab fun hb=>?_;first|(exact absurd hb (by decide))|skip))
   refine ⟨(i+1,T++[fp r]),⟨by dsimp only;omega,?_⟩,by dsimp only;omega,?_⟩
   ·dsimp only;rw [hT,List.take_succ_eq_append_getElem hlt,er];simp
   ·exact bw (qf [(1000,29)])
  ·obtain rfl:T=l.map fp:=by rw [hT,List.take_of_length_le (by omega)]
   repeat' (first|refine af ?_ ?_|refine ae ?_|exact ah|refine ab fun hb=>?_|(refine gC (qf []) ?_;exact aw))
def Js (t:Tp):List Rs:=[⟨nA,1,1,t.v 4⟩,⟨nB,1,1,t.s.v 4⟩,⟨nC,1,1,t.s.s.v 4⟩,⟨nD,1,1,t.s.s.s.v 4⟩]
def Jt (t:Tp):Nat→Tp
 | 0=>t
 | n+1=>(Jt t n).s
theorem Iv (t:Tp) (h:TOk t):FSpec prog 20 [iS] (HT t) [] (.c (.sl dS (mQ t).1)) (FG (mQ t).2):=by
 refine aT func20 ?_;repeat' (first|refine af ?_ ?_|refine ae ?_|exact ah|refine ab fun hb=>?_)
 refine cZ 3 1000 54 dS rfl rfl rfl ?_;refine ak (fun i:Nat=>i≤4) (fun i=>cq [0,6,1000] [(0,.v iS),(3,.c (.own 1000)),(4,.c (.slb 6 4)),(5,.i i)] [(0,.box 82 (G3 (Jt t i))),(6,.box 9 [.sc (.string nA),.sc (.string nB),.sc (.string nC),.sc (.string nD)]),(1000,.arr 54 dS ((Js t).take i))]) (fun i=>4-i) 0 (Nat.zero_le _) a7 ?_;rintro i hi;have k1:=h.s;have k2:=k1.s;have k3:=k2.s;have k4:=k3.s;obtain rfl|rfl|rfl|rfl|rfl:i=0∨i=1∨i=2∨i=3∨i=4:=by omega
 ·have kN:=iE t 4 h (by omega);repeat' (first|refine af ?_ ?_|(refine aa 6 rfl ?_;refine sx (aR (i:=0) rfl rfl rfl rfl (by decide)) ?_)|(refine aa 7 rfl ?_;refine sx (c5 rfl rfl) ?_)|(refine aa 8 rfl ?_;refine bh (ap rfl rfl (aH rfl rfl) (aL [⟨nA,1,1,t.v 4⟩] rfl rfl rfl rfl) rfl aK aK) rfl rfl rfl ?_)|refine aa 9 rfl (cH (qf [(0,0)]) (kN) ?_)|refine ae ?_|exact ah|refine ab fun hb=>?_)
  refine ⟨1,by decide,by decide,?_⟩;exact bw (qf [(1000,22)])
 ·have kN:=iE t.s 4 k1 (by omega);repeat' (first|refine af ?_ ?_|(refine aa 6 rfl ?_;refine sx (aR (i:=1) rfl rfl rfl rfl (by decide)) ?_)|(refine aa 7 rfl ?_;refine sx (c5 rfl rfl) ?_)|(refine aa 8 rfl ?_;refine bh (ap rfl rfl (aH rfl rfl) (aL [⟨nB,1,1,t.s.v 4⟩] rfl rfl rfl rfl) rfl aK aK) rfl rfl rfl ?_)|refine aa 9 rfl (cH (qf [(0,0)]) (kN) ?_)|refine ae ?_|exact ah|refine ab fun hb=>?_)
  refine ⟨2,by decide,by decide,?_⟩;exact bw (qf [(1000,22)])
 ·have kN:=iE t.s.s 4 k2 (by omega);repeat' (first|refine af ?_ ?_|(refine aa 6 rfl ?_;refine sx (aR (i:=2) rfl rfl rfl rfl (by decide)) ?_)|(refine aa 7 rfl ?_;refine sx (c5 rfl rfl) ?_)|(refine aa 8 rfl ?_;refine bh (ap rfl rfl (aH rfl rfl) (aL [⟨nC,1,1,t.s.s.v 4⟩] rfl rfl rfl rfl) rfl aK aK) rfl rfl rfl ?_)|refine aa 9 rfl (cH (qf [(0,0)]) (kN) ?_)|refine ae ?_|exact ah|refine ab fun hb=>?_)
  refine ⟨3,by decide,by decide,?_⟩;exact bw (qf [(1000,22)])
 ·have kN:=iE t.s.s.s 4 k3 (by omega);repeat' (first|refine af ?_ ?_|(refine aa 6 rfl ?_;refine sx (aR (i:=3) rfl rfl rfl rfl (by decide)) ?_)|(refine aa 7 rfl ?_;refine sx (c5 rfl rfl) ?_)|(refine aa 8 rfl ?_;refine bh (ap rfl rfl (aH rfl rfl) (aL [⟨nD,1,1,t.s.s.s.v 4⟩] rfl rfl rfl rfl) rfl aK aK) rfl rfl rfl ?_)|refine aa 9 rfl (cH (qf [(0,0)]) (kN) ?_)|refine ae ?_|exact ah|refine ab fun hb=>?_)
  refine ⟨4,by decide,by decide,?_⟩;exact bw (qf [(1000,22)])
 ·unfold mQ;rw [show Jt t 4=t.s.s.s.s from rfl];generalize t.s.s.s.s=u4 at *
  obtain ⟨u5,e5⟩:∃u,u4.s=u:=⟨_,rfl⟩;obtain ⟨u6,e6⟩:∃u,u5.s=u:=⟨_,rfl⟩;obtain ⟨u7,e7⟩:∃u,u6.s=u:=⟨_,rfl⟩;obtain ⟨u8,e8⟩:∃u,u7.s=u:=⟨_,rfl⟩;have k5:=k4.s;rw [e5] at k5;have k6:=k5.s;rw [e6] at k6;have k7:=k6.s;rw [e7] at k7;have kN1:=iE u4 8 k4 (by omega);have kN2:=iE u5 4 k5 (by omega);have kN3:=iE u6 3 k6 (by omega);have kN4:=iE u7 4 k7 (by omega);have b1:=u4.v_in (m:=8) (by omega);have b3:=u6.v_in (m:=3) (by omega);rw [e5,e6,e7,e8];rw [e5] at kN1;rw [e6] at kN2;rw [e7] at kN3;rw [e8] at kN4;generalize u4.v 8=v1 at *
  generalize u5.v 4=v2 at *
  generalize u6.v 3=v3 at *
  generalize u7.v 4=v4 at *
  clear e5 e6 e7 e8;repeat' (first|refine af ?_ ?_|(refine aa 7 rfl ?_;refine sx (c5 rfl rfl) ?_)|(refine aa 8 rfl ?_;first|(refine bh (ap rfl rfl (aH rfl rfl) (aL [⟨nQ,2,1+v3,v4⟩] rfl rfl rfl rfl) rfl aK aK) rfl rfl rfl ?_)|(refine bh (ap rfl rfl (aH rfl rfl) (aL [⟨nP,2,1+v1,v2⟩] rfl rfl rfl rfl) rfl aK aK) rfl rfl rfl ?_))|(refine aa 9 rfl ?_;first|(refine cH (qf [(0,0)]) (kN1) ?_)|(refine cH (qf [(0,0)]) (kN2) ?_)|(refine cH (qf [(0,0)]) (kN3) ?_)|(refine cH (qf [(0,0)]) (kN4) ?_))|refine ae ?_|exact ah|refine ab fun hb=>?_|(refine ct (qf [(0,0)]) ?_;exact aw))
instance (d:Nat):ST prog (mn (d+1)) 45 47 64:=⟨ElTB.mk' underlying45 (.agg #[.int .i64 0,.string ⟨#[]⟩,.int .i64 0,.int .i64 0,.slice none 0 0]) 5 64 (by kernel_rfl) rfl rfl⟩
theorem wQ {L:List Tm} {v:Int} {a:Tm} (h:L[v.toNat]? = some a):y9 L v=a:=by unfold y9;rw [List.getD_eq_getElem?_getD,h];rfl
theorem nx (t:Tp) (m:Int) (h:TOk t) (h1:1≤m) (hm:m≤1048576):∃v u,t.v m=v∧t.s=u∧TOk u∧0≤v∧v<m∧FSpec prog 21 [iS,uu m] (HT t) [] (.i v) (FG u) :=
 ⟨_,_,rfl,rfl,h.s,(t.v_in h1).1,(t.v_in h1).2,iE t m h hm⟩
theorem zz (L:List Tm) (hL:0<L.length∧L.length≤1000):∀(d:Nat) (t:Tp) (dz:Int),dz=(d:Int)→d≤100→TOk t→∀{R:Ex×Tp},eu L d t=R→FSpec prog 122 [iS,.one (.sl c7 L),uu dz] (HT t) [] (.v (R.1.a d)) (FG R.2)
 | 0,t,dz,hd,_,ht,R,hR=>by
  refine aT func122 ?_;unfold eu at hR;obtain ⟨v,u,e1,e2,hu,b1,b2,kN⟩:=nx t L.length ht (by omega) (by omega);rw [e1,e2] at hR;obtain ⟨a,ha⟩:∃a,L[v.toNat]? = some a:=⟨_,List.getElem?_eq_getElem (by omega)⟩;rw [wQ ha] at hR;obtain rfl:R=(.mk 0 a [],u):=hR.symm;clear e1 e2;subst hd;repeat' (first|refine af ?_ ?_|refine aa 9 rfl (cH (qf [(0,0)]) (kN) ?_)|refine ae ?_|exact ah|refine ab fun hb=>?_|(refine ct (qf [(0,0)]) ?_;exact aw))
 | d+1,t,dz,hd,hd9,ht,R,hR=>by
  refine aT func122 ?_;unfold eu at hR;obtain ⟨v,u,e1,e2,hu,b1,b2,kN⟩:=nx t 4 ht (by omega) (by omega);rw [e1,e2] at hR;clear e1 e2;by_cases h0:v=0
  ·rw [decide_eq_true h0,cond_true] at hR;obtain ⟨v2,u2,e1,e2,hu2,c1,c2,kN2⟩:=nx u L.length hu (by omega) (by omega);rw [e1,e2] at hR;clear e1 e2;obtain ⟨a,ha⟩:∃a,L[v2.toNat]? = some a:=⟨_,List.getElem?_eq_getElem (by omega)⟩;rw [wQ ha] at hR;obtain rfl:R=(.mk 0 a [],u2):=hR.symm;repeat' (first|refine af ?_ ?_|(refine aa 9 rfl ?_;first|(refine cH (qf [(0,0)]) (kN) ?_)|(refine cH (qf [(0,0)]) (kN2) ?_))|refine ae ?_|exact ah|(refine ab fun hb=>?_;first|(exact absurd h0 hb)|skip)|(refine ct (qf [(0,0)]) ?_;exact aw))
  ·rw [decide_eq_false h0,cond_false] at hR;obtain ⟨v3,u2,e1,e2,hu2,c1,c2,kN2⟩:=nx u 3 hu (by omega) (by omega);rw [e1,e2] at hR;clear e1 e2;obtain ⟨vk,u3,e1,e2,hu3,d1,d2,kN3⟩:=nx u2 (1+v3) hu2 (by omega) (by omega);rw [e1,e2] at hR;clear e1 e2;obtain ⟨n,hn⟩:∃n:Nat,1+v3=(n:Int):=⟨(1+v3).toNat,by omega⟩;rw [hn,Int.toNat_natCast] at hR;obtain ⟨K,hK⟩:∃K,iL (eu L d) n u3=K:=⟨_,rfl⟩;rw [hK] at hR;obtain rfl:R=(.mk (1+vk) ⟨⟨#[]⟩,Am.zero⟩ K.1,K.2):=hR.symm;repeat' (first|refine af ?_ ?_|(refine aa 9 rfl ?_;first|(refine cH (qf [(0,0)]) (kN) ?_)|(refine cH (qf [(0,0)]) (kN2) ?_)|(refine cH (qf [(0,0)]) (kN3) ?_))|refine ae ?_|exact ah|(refine ab fun hb=>?_;first|(exact absurd hb h0)|skip))
   refine lM 8 4 1000 47 (mn (d+1)) rfl rfl rfl rfl ?_;refine ak (fun y:Nat×Tp×List Ex=>y.1≤n∧TOk y.2.1∧y.2.2.length=y.1∧(y.2.2++(iL (eu L d) (n-y.1) y.2.1).1,(iL (eu L d) (n-y.1) y.2.1).2)=K) (fun y=>cq [0,6,8,1000] [(0,.v iS),(1,.c (.sl c7 L)),(2,.v (uu dz)),(6,.c (.ptr 6 0)),(7,.i (1+v3)),(8,.c (.ptr 8 0)),(9,.i y.1)] [(0,.box 82 (G3 y.2.1)),(6,.box 47 [.sc (.int .i64 0),.sc (.string ⟨#[]⟩),.sc (.int .i64 0),.sc (.int .i64 0),.sc (.slice none 0 0)]),(8,.box 47 [.sc (.int .i64 (1+vk)),.sc (.string ⟨#[]⟩),.sc (.int .i64 0),.sc (.int .i64 0),.own 1000]),(1000,.arr 47 (mn (d+1)) y.2.2)]) (fun y=>n-y.1) (0,u3,[]) ⟨Nat.zero_le _,hu3,rfl,by rw [←hK];simp⟩ a7 ?_;clear hK kN3 kN2 kN;rintro ⟨i,w,ks⟩ ⟨hi,hw,hkl,hs⟩;dsimp only at *
   by_cases hlt:i<n
   ·obtain ⟨G,hG⟩:∃G,eu L d w=G:=⟨_,rfl⟩;have kG:=zz L hL d w (dz-1) (by omega) (by omega) hw hG;have hadv:=k9 L d w;rw [hG] at hadv;have e1:iL (eu L d) (n-i) w=(G.1 :: (iL (eu L d) (n-(i+1)) G.2).1,(iL (eu L d) (n-(i+1)) G.2).2):=by
     rw [show n-i=(n-(i+1))+1 by omega,←hG];rfl
    rw [e1] at hs;repeat' (first|refine af ?_ ?_|(refine aa 8 rfl ?_;refine bh (ap rfl rfl (aH rfl rfl) (aL [G.1] rfl rfl rfl rfl) rfl aK aK) rfl rfl rfl ?_)|refine aa 9 rfl (cH (qf [(0,0)]) (kG) ?_)|refine ae ?_|exact ah|refine ab fun hb=>?_)
    refine ⟨(i+1,G.2,ks++[G.1]),⟨by dsimp only;omega,hw.adv hadv,by simp [hkl],?_⟩,by dsimp only;omega,?_⟩
    ·dsimp only;rw [←hs];simp
    ·exact bw (qf [(1000,46)])
   ·rw [show n-i=0 by omega] at hs;obtain rfl:K=(ks,w):=by rw [←hs];simp [iL]
    repeat' (first|refine af ?_ ?_|refine ae ?_|exact ah|refine ab fun hb=>?_|(refine ct (qf [(0,0)]) ?_;exact aw))
theorem Dt (t:Tp) (l:List Rs) (h:TOk t) (hl:0<l.length∧l.length≤8) (hu:∀r∈l,1≤r.units∧r.units≤1000) {R:Ex×Tp} (hR:lZ t l=R):FSpec prog 73 [iS,.one (.sl dS l)] (HT t) [] (.v (R.1.a 2)) (FG R.2):=by
 refine aT func73 ?_;unfold lZ at hR;obtain ⟨first,u,e1,e2,hu1,b1,b2,kN⟩:=nx t 1048576 h (by omega) (by omega);rw [e1,e2] at hR;clear e1 e2;obtain ⟨T,hT⟩:∃T,tj first 0 l=T:=⟨_,rfl⟩
 rw [hT] at hR;repeat' (first|refine af ?_ ?_|refine aa 9 rfl (cH (qf [(0,0)]) (kN) ?_)|refine ae ?_|exact ah|refine ab fun hb=>?_)
 refine cZ 6 1000 44 c7 rfl rfl rfl ?_;refine ak (fun y:Nat×List Tm=>y.1≤l.length∧y.2.length=y.1∧y.2++tj first y.1 (l.drop y.1)=T) (fun y=>cq [0,4,1000] [(0,.v iS),(1,.c (.sl dS l)),(4,.c (.ptr 4 0)),(5,.i first),(6,.c (.own 1000)),(7,.i y.1)] [(0,.box 82 (G3 u)),(4,.box 47 [.sc (.int .i64 0),.sc (.string ⟨#[]⟩),.sc (.int .i64 0),.sc (.int .i64 0),.sc (.slice none 0 0)]),(1000,.arr 44 c7 y.2)]) (fun y=>l.length-y.1) (0,[]) ⟨Nat.zero_le _,rfl,hT⟩ a7 ?_;clear hT;rintro ⟨i,ts⟩ ⟨hi,htl,hs⟩;dsimp only at *
 by_cases hlt:i<l.length
 ·obtain ⟨r,hr⟩:∃r,l[i]? = some r:=⟨_,List.getElem?_eq_getElem hlt⟩;have er:l[i]=r:=(List.getElem?_eq_some_iff.1 hr).2;obtain ⟨c,hc⟩:∃c,first.fdiv (2 ^ (3*i))=c:=⟨_,rfl⟩;have kA:=Jr r c (hu r (er▸List.getElem_mem hlt));rw [List.drop_eq_getElem_cons hlt,er] at hs;have hs:ts++(⟨r.name,Ft r (first.fdiv (2 ^ (3*i)))⟩ :: tj first (i+1) (l.drop (i+1)))=T:=hs;rw [hc] at hs;have hcv:IntKind.u64.wrap (3*(i:Int))=((3*i:Nat):Int):=by rw [IntWalk.u64_in _ (by omega)];omega
  obtain ⟨a,ha⟩:∃a,Ft r c=a:=⟨_,rfl⟩;rw [ha] at kA hs;repeat' (first|refine af ?_ ?_|(refine aa 0 rfl ?_;refine sx (Ds rfl underlying3 underlying184 rfl hcv) ?_)|(refine aa 8 rfl ?_;refine bh (ap rfl rfl (aH rfl rfl) (aL [⟨r.name,a⟩] rfl rfl rfl rfl) rfl aK aK) rfl rfl rfl ?_)|refine aa 9 rfl (cB [] (kA) ?_)|(refine aa 10 rfl ?_;first|(refine sx (Fe rfl rfl rfl (by omega) (by show 3*i≤64;omega) hc) ?_)|(refine sx (D2 rfl rfl rfl (IntWalk.i64_in _ (by omega))) ?_))|refine ae ?_|exact ah|refine ab fun hb=>?_)
  refine ⟨(i+1,ts++[⟨r.name,a⟩]),⟨by dsimp only;omega,by simp [htl],?_⟩,by dsimp only;omega,?_⟩
  ·dsimp only;rw [←hs];simp
  ·exact bw (qf [(1000,34)])
 ·rw [List.drop_eq_nil_of_le (by omega)] at hs;obtain rfl:ts=T:=by rw [←hs];simp [tj]
  have kG:=zz ts (by omega) 2 u 2 rfl (by omega) hu1 hR;repeat' (first|refine af ?_ ?_|((fail_if_success (first|refine lP 7 ?_|refine lQ 7 ?_));refine ae ?_)|exact ah|refine ab fun hb=>?_)
  refine gB 1000 rfl ?_;repeat' (first|refine af ?_ ?_|refine aa 9 rfl (cH (qf [(0,0)]) (kG) ?_)|refine ae ?_|exact ah|refine ab fun hb=>?_|(refine ct (qf [(0,0)]) ?_;exact aw))
theorem Iw (t:Tp) (l:List Rs) (h:TOk t) (hl:0<l.length∧l.length≤8) (hu:∀r∈l,1≤r.units∧r.units≤1000) {R:Rq×Tp} (hR:xR t l=R):FSpec prog 40 [iS,.one (.sl dS l)] (HT t) [] (.v (R.1.a 2)) (FG R.2):=by
 refine aT func40 ?_;unfold xR at hR;obtain ⟨v,u,e1,e2,hu1,b1,b2,kN⟩:=nx t 8 h (by omega) (by omega);rw [e1,e2] at hR;clear e1 e2;obtain ⟨v2,u2,e1,e2,hu2,c1,c2,kN2⟩:=nx u 5 hu1 (by omega) (by omega);rw [e1,e2] at hR;clear e1 e2;by_cases h1:v2=1
 ·rw [decide_eq_true h1,cond_true] at hR;obtain ⟨v3,u3,e1,e2,hu3,d1,d2,kN3⟩:=nx u2 20 hu2 (by omega) (by omega);rw [e1,e2] at hR;clear e1 e2;obtain ⟨G,hG⟩:∃G,lZ u3 l=G:=⟨_,rfl⟩;have kE:=Dt u3 l hu3 hl hu hG;rw [hG] at hR;obtain rfl:R=(⟨G.1,v,1+v3⟩,G.2):=hR.symm;repeat' (first|refine af ?_ ?_|(refine aa 9 rfl ?_;first|(refine cH (qf [(0,0)]) (kN) ?_)|(refine cH (qf [(0,0)]) (kN2) ?_)|(refine cH (qf [(0,0)]) (kN3) ?_)|(refine cH (qf [(0,0)]) (kE) ?_))|refine ae ?_|exact ah|(refine ab fun hb=>?_;first|(exact absurd h1 hb)|skip)|(refine ct (qf [(0,0)]) ?_;exact aw))
 ·rw [decide_eq_false h1,cond_false] at hR;obtain ⟨G,hG⟩:∃G,lZ u2 l=G:=⟨_,rfl⟩;have kE:=Dt u2 l hu2 hl hu hG;rw [hG] at hR;obtain rfl:R=(⟨G.1,v,0⟩,G.2):=hR.symm;repeat' (first|refine af ?_ ?_|(refine aa 9 rfl ?_;first|(refine cH (qf [(0,0)]) (kN) ?_)|(refine cH (qf [(0,0)]) (kN2) ?_)|(refine cH (qf [(0,0)]) (kE) ?_))|refine ae ?_|exact ah|(refine ab fun hb=>?_;first|(exact absurd hb h1)|skip)|(refine ct (qf [(0,0)]) ?_;exact aw))
theorem Ix (t:Tp) (l:List Rs) (h:TOk t) (hl:0<l.length∧l.length≤8) (hu:∀r∈l,1≤r.units∧r.units≤1000) {R:Cm×Tp} (hR:uy t l=R):FSpec prog 23 [iS,.one (.sl dS l)] (HT t) [] (.v (R.1.a 2)) (FG R.2):=by
 refine aT func23 ?_;unfold uy at hR;dsimp only at hR;obtain ⟨n,u,e1,e2,hu1,b1,b2,kN⟩:=nx t 16 h (by omega) (by omega);rw [e1,e2] at hR;clear e1 e2;obtain ⟨v2,u2,e1,e2,hu2,c1,c2,kN2⟩:=nx u 6 hu1 (by omega) (by omega);rw [e1,e2] at hR;clear e1 e2;have kP:=lf v2;obtain ⟨p,hp⟩:∃p,bg v2=p:=⟨_,rfl⟩;rw [hp] at kP hR;by_cases h0:n=0
 ·subst h0;obtain ⟨v3,u3,e1,e2,hu3,d1,d2,kN3⟩:=nx u2 9 hu2 (by omega) (by omega);obtain rfl:R=(⟨1,p,Rq.zero,⟨#[]⟩,1+v3⟩,u3):=by rw [←hR,←e1,←e2];rfl
  clear e1 e2;repeat' (first|refine af ?_ ?_|(refine aa 9 rfl ?_;first|(refine cH (qf [(0,0)]) (kN) ?_)|(refine cH (qf [(0,0)]) (kN2) ?_)|(refine cH (qf [(0,0)]) (kN3) ?_)|(refine cB [] (kP) ?_))|refine ae ?_|exact ah|(refine ab fun hb=>?_;first|(exact absurd rfl hb)|skip)|(refine ct (qf [(0,0)]) ?_;exact aw))
 rw [decide_eq_false h0,cond_false] at hR;by_cases h9:n<9
 ·rw [decide_eq_true h9,cond_true] at hR;obtain ⟨G,hG⟩:∃G,xR u2 l=G:=⟨_,rfl⟩;have kQ:=Iw u2 l hu2 hl hu hG;rw [hG] at hR;obtain rfl:R=(⟨2,p,G.1,⟨#[]⟩,0⟩,G.2):=hR.symm;repeat' (first|refine af ?_ ?_|(refine aa 9 rfl ?_;first|(refine cH (qf [(0,0)]) (kN) ?_)|(refine cH (qf [(0,0)]) (kN2) ?_)|(refine cB [] (kP) ?_)|(refine cH (qf [(0,0)]) (kQ) ?_))|refine ae ?_|exact ah|(refine ab fun hb=>?_;first|(exact absurd hb h0)|skip)|(refine ct (qf [(0,0)]) ?_;exact aw))
 rw [decide_eq_false h9,cond_false] at hR;by_cases e9:n=9
 ·subst e9;obtain rfl:R=(⟨3,p,Rq.zero,⟨#[]⟩,0⟩,u2):=hR.symm;repeat' (first|refine af ?_ ?_|(refine aa 9 rfl ?_;first|(refine cH (qf [(0,0)]) (kN) ?_)|(refine cH (qf [(0,0)]) (kN2) ?_)|(refine cB [] (kP) ?_))|refine ae ?_|exact ah|refine ab fun hb=>?_|(refine ct (qf [(0,0)]) ?_;exact aw))
 rw [decide_eq_false e9,cond_false] at hR;by_cases e10:n=10
 ·subst e10;obtain ⟨v3,u3,e1,e2,hu3,d1,d2,kN3⟩:=nx u2 l.length hu2 (by omega) (by omega);obtain ⟨r,hr⟩:∃r,l[v3.toNat]? = some r:=⟨_,List.getElem?_eq_getElem (by omega)⟩;obtain rfl:R=(⟨4,p,Rq.zero,r.name,0⟩,u3):=by
   rw [←hR,←e2];have e3:l.getD (u2.v l.length).toNat ⟨⟨#[]⟩,0,0,0⟩=r:=by rw [e1,List.getD_eq_getElem?_getD,hr];rfl
   simp only [decide_true,cond_true,e3]
  clear e1 e2;repeat' (first|refine af ?_ ?_|(refine aa 9 rfl ?_;first|(refine cH (qf [(0,0)]) (kN) ?_)|(refine cH (qf [(0,0)]) (kN2) ?_)|(refine cH (qf [(0,0)]) (kN3) ?_)|(refine cB [] (kP) ?_))|refine ae ?_|exact ah|refine ab fun hb=>?_|(refine ct (qf [(0,0)]) ?_;exact aw))
 rw [decide_eq_false e10,cond_false] at hR;by_cases e11:n=11
 ·subst e11;obtain ⟨v3,u3,e1,e2,hu3,d1,d2,kN3⟩:=nx u2 4 hu2 (by omega) (by omega);obtain rfl:R=(⟨5,p,Rq.zero,⟨#[]⟩,1+v3⟩,u3):=by rw [←hR,←e1,←e2];rfl
  clear e1 e2;repeat' (first|refine af ?_ ?_|(refine aa 9 rfl ?_;first|(refine cH (qf [(0,0)]) (kN) ?_)|(refine cH (qf [(0,0)]) (kN2) ?_)|(refine cH (qf [(0,0)]) (kN3) ?_)|(refine cB [] (kP) ?_))|refine ae ?_|exact ah|refine ab fun hb=>?_|(refine ct (qf [(0,0)]) ?_;exact aw))
 rw [decide_eq_false e11,cond_false] at hR;by_cases e12:n=12
 ·subst e12;obtain ⟨v3,u3,e1,e2,hu3,d1,d2,kN3⟩:=nx u2 5 hu2 (by omega) (by omega);obtain rfl:R=(⟨6,p,Rq.zero,⟨#[]⟩,v3⟩,u3):=by rw [←hR,←e1,←e2];rfl
  clear e1 e2;repeat' (first|refine af ?_ ?_|(refine aa 9 rfl ?_;first|(refine cH (qf [(0,0)]) (kN) ?_)|(refine cH (qf [(0,0)]) (kN2) ?_)|(refine cH (qf [(0,0)]) (kN3) ?_)|(refine cB [] (kP) ?_))|refine ae ?_|exact ah|refine ab fun hb=>?_|(refine ct (qf [(0,0)]) ?_;exact aw))
 rw [decide_eq_false e12,cond_false] at hR;by_cases e13:n=13
 ·subst e13;obtain rfl:R=(⟨7,p,Rq.zero,⟨#[]⟩,0⟩,u2):=hR.symm;repeat' (first|refine af ?_ ?_|(refine aa 9 rfl ?_;first|(refine cH (qf [(0,0)]) (kN) ?_)|(refine cH (qf [(0,0)]) (kN2) ?_)|(refine cB [] (kP) ?_))|refine ae ?_|exact ah|refine ab fun hb=>?_|(refine ct (qf [(0,0)]) ?_;exact aw))
 rw [decide_eq_false e13,cond_false] at hR;by_cases e14:n=14
 ·subst e14;obtain rfl:R=(⟨8,p,Rq.zero,⟨#[]⟩,0⟩,u2):=hR.symm;repeat' (first|refine af ?_ ?_|(refine aa 9 rfl ?_;first|(refine cH (qf [(0,0)]) (kN) ?_)|(refine cH (qf [(0,0)]) (kN2) ?_)|(refine cB [] (kP) ?_))|refine ae ?_|exact ah|refine ab fun hb=>?_|(refine ct (qf [(0,0)]) ?_;exact aw))
 rw [decide_eq_false e14,cond_false] at hR;obtain ⟨v3,u3,e1,e2,hu3,d1,d2,kN3⟩:=nx u2 12 hu2 (by omega) (by omega);obtain rfl:R=(⟨9,p,Rq.zero,⟨#[]⟩,v3⟩,u3):=by rw [←hR,←e1,←e2]
 clear e1 e2;repeat' (first|refine af ?_ ?_|(refine aa 9 rfl ?_;first|(refine cH (qf [(0,0)]) (kN) ?_)|(refine cH (qf [(0,0)]) (kN2) ?_)|(refine cH (qf [(0,0)]) (kN3) ?_)|(refine cB [] (kP) ?_))|refine ae ?_|exact ah|(refine ab fun hb=>?_;first|(exact absurd hb e9)|(exact absurd hb e10)|(exact absurd hb e11)|(exact absurd hb e12)|(exact absurd hb e13)|(exact absurd hb e14)|skip)|(refine ct (qf [(0,0)]) ?_;exact aw))
end Go.Proofs.YtcgpepnbohejfaaGreatDoor
