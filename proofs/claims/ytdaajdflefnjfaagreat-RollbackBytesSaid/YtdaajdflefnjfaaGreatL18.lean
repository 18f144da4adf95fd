/- Part 18 of 24 of the proof of rollbackBytes_holds (no condition). -/
import Derived.Test.YtdaajdflefnjfaaGreatL17
set_option linter.unusedVariables false
set_option linter.unusedSimpArgs false
set_option maxRecDepth 100000
set_option maxHeartbeats 64000000
namespace Go.Proofs.YtdaajdflefnjfaaGreat
open Go.RowKit Go.Proofs.Tryz
instance (d:Nat):ST prog (qP (d+1)) 32 34 64:=⟨ElTB.mk' underlying32 (.agg #[.int .i64 0,.string ⟨#[]⟩,.int .i64 0,.int .i64 0,.slice none 0 0]) 5 64 (by kernel_rfl) rfl rfl⟩
theorem yf {L:List Tm} {v:Int} {a:Tm} (h:L[v.toNat]? = some a):A9 L v=a:=by unfold A9;rw [List.getD_eq_getElem?_getD,h];rfl
theorem nx (t:Tp) (m:Int) (h:TOk t) (h1:1≤m) (hm:m≤1048576):∃v u,t.v m=v∧t.s=u∧TOk u∧0≤v∧v<m∧FSpec prog 57 [jR,jX m] (HT t) [] (.i v) (Iw u) :=
 ⟨_,_,rfl,rfl,h.s,(t.v_in h1).1,(t.v_in h1).2,jH t m h hm⟩
theorem Bf (L:List Tm) (hL:0<L.length∧L.length≤1000):∀(d:Nat) (t:Tp) (dz:Int),dz=(d:Int)→d≤100→TOk t→∀{R:Ex×Tp},eZ L d t=R→FSpec prog 181 [jR,.one (.sl cr L),jX dz] (HT t) [] (.v (R.1.a d)) (Iw R.2)
 | 0,t,dz,hd,_,ht,R,hR=>by
  refine aX func181 ?_
  unfold eZ at hR
  obtain ⟨v,u,e1,e2,hu,b1,b2,kN⟩:=nx t L.length ht (by omega) (by omega)
  rw [e1,e2] at hR
  obtain ⟨a,ha⟩:∃a,L[v.toNat]? = some a:=⟨_,List.getElem?_eq_getElem (by omega)⟩
  rw [yf ha] at hR
  obtain rfl:R=(.mk 0 a [],u):=hR.symm
  clear e1 e2
  subst hd
  repeat' (first
   | refine ah ?_ ?_
   | refine aa 9 rfl (cH (qf [(0,0)]) (kN) ?_)
   | refine af ?_
   | exact ai|refine ae fun hb=>?_
   | (refine aE (qf [(0,0)]) ?_;exact ab))
 | d+1,t,dz,hd,hd9,ht,R,hR=>by
  refine aX func181 ?_
  unfold eZ at hR
  obtain ⟨v,u,e1,e2,hu,b1,b2,kN⟩:=nx t 4 ht (by omega) (by omega)
  rw [e1,e2] at hR
  clear e1 e2
  by_cases h0:v=0
  ·rw [decide_eq_true h0,cond_true] at hR
   obtain ⟨v2,u2,e1,e2,hu2,c1,c2,kN2⟩:=nx u L.length hu (by omega) (by omega)
   rw [e1,e2] at hR
   clear e1 e2
   obtain ⟨a,ha⟩:∃a,L[v2.toNat]? = some a:=⟨_,List.getElem?_eq_getElem (by omega)⟩
   rw [yf ha] at hR
   obtain rfl:R=(.mk 0 a [],u2):=hR.symm
   repeat' (first
    | refine ah ?_ ?_
    | (refine aa 9 rfl ?_;first
     | (refine cH (qf [(0,0)]) (kN) ?_)
     | (refine cH (qf [(0,0)]) (kN2) ?_))
    | refine af ?_
    | exact ai|(refine ae fun hb=>?_;first|(exact absurd h0 hb)|skip)
    | (refine aE (qf [(0,0)]) ?_;exact ab))
  ·rw [decide_eq_false h0,cond_false] at hR
   obtain ⟨v3,u2,e1,e2,hu2,c1,c2,kN2⟩:=nx u 3 hu (by omega) (by omega)
   rw [e1,e2] at hR
   clear e1 e2
   obtain ⟨vk,u3,e1,e2,hu3,d1,d2,kN3⟩:=nx u2 (1+v3) hu2 (by omega) (by omega)
   rw [e1,e2] at hR
   clear e1 e2
   obtain ⟨n,hn⟩:∃n:Nat,1+v3=(n:Int):=⟨(1+v3).toNat,by omega⟩
   rw [hn,Int.toNat_natCast] at hR
   obtain ⟨K,hK⟩:∃K,jT (eZ L d) n u3=K:=⟨_,rfl⟩
   rw [hK] at hR
   obtain rfl:R=(.mk (1+vk) ⟨⟨#[]⟩,Am.zero⟩ K.1,K.2):=hR.symm
   repeat' (first
    | refine ah ?_ ?_
    | (refine aa 9 rfl ?_;first
     | (refine cH (qf [(0,0)]) (kN) ?_)
     | (refine cH (qf [(0,0)]) (kN2) ?_)
     | (refine cH (qf [(0,0)]) (kN3) ?_))
    | refine af ?_
    | exact ai|(refine ae fun hb=>?_;first|(exact absurd hb h0)|skip))
   refine fC 8 4 1000 34 (qP (d+1)) rfl rfl rfl rfl ?_
   refine ak (fun y:Nat×Tp×List Ex=>y.1≤n∧TOk y.2.1∧y.2.2.length=y.1∧(y.2.2++(jT (eZ L d) (n-y.1) y.2.1).1,(jT (eZ L d) (n-y.1) y.2.1).2)=K) (fun y=>bH [0,6,8,1000] [(0,.v jR),(1,.c (.sl cr L)),(2,.v (jX dz)),(6,.c (.ptr 6 0)),(7,.i (1+v3)),(8,.c (.ptr 8 0)),(9,.i y.1)] [(0,.box 115 (Jz y.2.1)),(6,.box 34 [.sc (.int .i64 0),.sc (.string ⟨#[]⟩),.sc (.int .i64 0),.sc (.int .i64 0),.sc (.slice none 0 0)]),(8,.box 34 [.sc (.int .i64 (1+vk)),.sc (.string ⟨#[]⟩),.sc (.int .i64 0),.sc (.int .i64 0),.own 1000]),(1000,.arr 34 (qP (d+1)) y.2.2)]) (fun y=>n-y.1) (0,u3,[]) ⟨Nat.zero_le _,hu3,rfl,by rw [←hK];simp⟩ (by exact ao (qf [])) ?_
   clear hK kN3 kN2 kN
   rintro ⟨i,w,ks⟩ ⟨hi,hw,hkl,hs⟩
   dsimp only at *
   by_cases hlt:i<n
   ·obtain ⟨G,hG⟩:∃G,eZ L d w=G:=⟨_,rfl⟩
    have kG:=Bf L hL d w (dz-1) (by omega) (by omega) hw hG
    have hadv:=mW L d w
    rw [hG] at hadv
    have e1:jT (eZ L d) (n-i) w=(G.1 :: (jT (eZ L d) (n-(i+1)) G.2).1,(jT (eZ L d) (n-(i+1)) G.2).2):=by
     rw [show n-i=(n-(i+1))+1 by omega,←hG]
     rfl
    rw [e1] at hs
    repeat' (first
     | refine ah ?_ ?_
     | (refine aa 8 rfl ?_;refine aM (aj rfl rfl (ax rfl rfl) (aB [G.1] rfl rfl rfl rfl) rfl aC aC) rfl rfl rfl ?_)
     | refine aa 9 rfl (cH (qf [(0,0)]) (kG) ?_)
     | refine af ?_
     | exact ai|refine ae fun hb=>?_)
    refine ⟨(i+1,G.2,ks++[G.1]),⟨by dsimp only;omega,hw.adv hadv,by simp [hkl],?_⟩,by dsimp only;omega,?_⟩
    ·dsimp only
     rw [←hs]
     simp
    ·exact ao (qf [(1000,46)])
   ·rw [show n-i=0 by omega] at hs
    obtain rfl:K=(ks,w):=by rw [←hs];simp [jT]
    repeat' (first
     | refine ah ?_ ?_
     | refine af ?_
     | exact ai|refine ae fun hb=>?_
     | (refine aE (qf [(0,0)]) ?_;exact ab))
theorem E6 (t:Tp) (l:List Rs) (h:TOk t) (hl:0<l.length∧l.length≤8) (hu:∀r∈l,1≤r.units∧r.units≤1000) {R:Ex×Tp} (hR:oq t l=R):FSpec prog 125 [jR,.one (.sl fJ l)] (HT t) [] (.v (R.1.a 2)) (Iw R.2):=by
 refine aX func125 ?_
 unfold oq at hR
 obtain ⟨first,u,e1,e2,hu1,b1,b2,kN⟩:=nx t 1048576 h (by omega) (by omega)
 rw [e1,e2] at hR
 clear e1 e2
 obtain ⟨T,hT⟩:∃T,uB first 0 l=T:=⟨_,rfl⟩
 rw [hT] at hR
 repeat' (first
  | refine ah ?_ ?_
  | refine aa 9 rfl (cH (qf [(0,0)]) (kN) ?_)
  | refine af ?_
  | exact ai|refine ae fun hb=>?_)
 refine cc 6 1000 31 cr rfl rfl rfl ?_
 refine ak (fun y:Nat×List Tm=>y.1≤l.length∧y.2.length=y.1∧y.2++uB first y.1 (l.drop y.1)=T) (fun y=>bH [0,4,1000] [(0,.v jR),(1,.c (.sl fJ l)),(4,.c (.ptr 4 0)),(5,.i first),(6,.c (.own 1000)),(7,.i y.1)] [(0,.box 115 (Jz u)),(4,.box 34 [.sc (.int .i64 0),.sc (.string ⟨#[]⟩),.sc (.int .i64 0),.sc (.int .i64 0),.sc (.slice none 0 0)]),(1000,.arr 31 cr y.2)]) (fun y=>l.length-y.1) (0,[]) ⟨Nat.zero_le _,rfl,hT⟩ (by exact ao (qf [])) ?_
 clear hT
 rintro ⟨i,ts⟩ ⟨hi,htl,hs⟩
 dsimp only at *
 by_cases hlt:i<l.length
 ·obtain ⟨r,hr⟩:∃r,l[i]? = some r:=⟨_,List.getElem?_eq_getElem hlt⟩
  have er:l[i]=r:=(List.getElem?_eq_some_iff.1 hr).2
  obtain ⟨c,hc⟩:∃c,first.fdiv (2 ^ (3*i))=c:=⟨_,rfl⟩
  have kA:=Mb r c (hu r (er▸List.getElem_mem hlt))
  rw [List.drop_eq_getElem_cons hlt,er] at hs
  have hs:ts++(⟨r.name,Iv r (first.fdiv (2 ^ (3*i)))⟩ :: uB first (i+1) (l.drop (i+1)))=T:=hs
  rw [hc] at hs
  have hcv:IntKind.u64.wrap (3*(i:Int))=((3*i:Nat):Int):=by rw [IntWalk.u64_in _ (by omega)];omega
  obtain ⟨a,ha⟩:∃a,Iv r c=a:=⟨_,rfl⟩
  rw [ha] at kA hs
  repeat' (first
   | refine ah ?_ ?_
   | (refine aa 0 rfl ?_;refine sx (bt rfl underlying3 underlying149 rfl hcv) ?_)
   | (refine aa 8 rfl ?_;refine aM (aj rfl rfl (ax rfl rfl) (aB [⟨r.name,a⟩] rfl rfl rfl rfl) rfl aC aC) rfl rfl rfl ?_)
   | refine aa 9 rfl (cB [] (kA) ?_)
   | (refine aa 10 rfl ?_;first
    | (refine sx (Hs rfl rfl rfl (by omega) (by show 3*i≤64;omega) hc) ?_)
    | (refine sx (nK rfl rfl rfl (IntWalk.i64_in _ (by omega))) ?_))
   | refine af ?_
   | exact ai|refine ae fun hb=>?_)
  refine ⟨(i+1,ts++[⟨r.name,a⟩]),⟨by dsimp only;omega,by simp [htl],?_⟩,by dsimp only;omega,?_⟩
  ·dsimp only
   rw [←hs]
   simp
  ·exact ao (qf [(1000,34)])
 ·rw [List.drop_eq_nil_of_le (by omega)] at hs
  obtain rfl:ts=T:=by rw [←hs];simp [uB]
  have kG:=Bf ts (by omega) 2 u 2 rfl (by omega) hu1 hR
  repeat' (first
   | refine ah ?_ ?_
   | ((fail_if_success (first|refine ul 7 ?_|refine um 7 ?_));refine af ?_)
   | exact ai|refine ae fun hb=>?_)
  refine pp 1000 rfl ?_
  repeat' (first
   | refine ah ?_ ?_
   | refine aa 9 rfl (cH (qf [(0,0)]) (kG) ?_)
   | refine af ?_
   | exact ai|refine ae fun hb=>?_
   | (refine aE (qf [(0,0)]) ?_;exact ab))
theorem K6 (t:Tp) (l:List Rs) (h:TOk t) (hl:0<l.length∧l.length≤8) (hu:∀r∈l,1≤r.units∧r.units≤1000) {R:Rq×Tp} (hR:zP t l=R):FSpec prog 97 [jR,.one (.sl fJ l)] (HT t) [] (.v (R.1.a 2)) (Iw R.2):=by
 refine aX func97 ?_
 unfold zP at hR
 obtain ⟨v,u,e1,e2,hu1,b1,b2,kN⟩:=nx t 8 h (by omega) (by omega)
 rw [e1,e2] at hR
 clear e1 e2
 obtain ⟨v2,u2,e1,e2,hu2,c1,c2,kN2⟩:=nx u 5 hu1 (by omega) (by omega)
 rw [e1,e2] at hR
 clear e1 e2
 by_cases h1:v2=1
 ·rw [decide_eq_true h1,cond_true] at hR
  obtain ⟨v3,u3,e1,e2,hu3,d1,d2,kN3⟩:=nx u2 20 hu2 (by omega) (by omega)
  rw [e1,e2] at hR
  clear e1 e2
  obtain ⟨G,hG⟩:∃G,oq u3 l=G:=⟨_,rfl⟩
  have kE:=E6 u3 l hu3 hl hu hG
  rw [hG] at hR
  obtain rfl:R=(⟨G.1,v,1+v3⟩,G.2):=hR.symm
  repeat' (first
   | refine ah ?_ ?_
   | (refine aa 9 rfl ?_;first
    | (refine cH (qf [(0,0)]) (kN) ?_)
    | (refine cH (qf [(0,0)]) (kN2) ?_)
    | (refine cH (qf [(0,0)]) (kN3) ?_)
    | (refine cH (qf [(0,0)]) (kE) ?_))
   | refine af ?_
   | exact ai|(refine ae fun hb=>?_;first|(exact absurd h1 hb)|skip)
   | (refine aE (qf [(0,0)]) ?_;exact ab))
 ·rw [decide_eq_false h1,cond_false] at hR
  obtain ⟨G,hG⟩:∃G,oq u2 l=G:=⟨_,rfl⟩
  have kE:=E6 u2 l hu2 hl hu hG
  rw [hG] at hR
  obtain rfl:R=(⟨G.1,v,0⟩,G.2):=hR.symm
  repeat' (first
   | refine ah ?_ ?_
   | (refine aa 9 rfl ?_;first
    | (refine cH (qf [(0,0)]) (kN) ?_)
    | (refine cH (qf [(0,0)]) (kN2) ?_)
    | (refine cH (qf [(0,0)]) (kE) ?_))
   | refine af ?_
   | exact ai|(refine ae fun hb=>?_;first|(exact absurd hb h1)|skip)
   | (refine aE (qf [(0,0)]) ?_;exact ab))
theorem K7 (t:Tp) (l:List Rs) (h:TOk t) (hl:0<l.length∧l.length≤8) (hu:∀r∈l,1≤r.units∧r.units≤1000) {R:Cm×Tp} (hR:wh t l=R):FSpec prog 59 [jR,.one (.sl fJ l)] (HT t) [] (.v (R.1.a 2)) (Iw R.2):=by
 refine aX func59 ?_
 unfold wh at hR
 dsimp only at hR
 obtain ⟨n,u,e1,e2,hu1,b1,b2,kN⟩:=nx t 16 h (by omega) (by omega)
 rw [e1,e2] at hR
 clear e1 e2
 obtain ⟨v2,u2,e1,e2,hu2,c1,c2,kN2⟩:=nx u 6 hu1 (by omega) (by omega)
 rw [e1,e2] at hR
 clear e1 e2
 have kP:=pI v2
 obtain ⟨p,hp⟩:∃p,il v2=p:=⟨_,rfl⟩
 rw [hp] at kP hR
 by_cases h0:n=0
 ·subst h0
  obtain ⟨v3,u3,e1,e2,hu3,d1,d2,kN3⟩:=nx u2 9 hu2 (by omega) (by omega)
  obtain rfl:R=(⟨1,p,Rq.zero,⟨#[]⟩,1+v3⟩,u3):=by rw [←hR,←e1,←e2];rfl
  clear e1 e2
  repeat' (first
   | refine ah ?_ ?_
   | (refine aa 9 rfl ?_;first
    | (refine cH (qf [(0,0)]) (kN) ?_)
    | (refine cH (qf [(0,0)]) (kN2) ?_)
    | (refine cH (qf [(0,0)]) (kN3) ?_)
    | (refine cB [] (kP) ?_))
   | refine af ?_
   | exact ai|(refine ae fun hb=>?_;first|(exact absurd rfl hb)|skip)
   | (refine aE (qf [(0,0)]) ?_;exact ab))
 rw [decide_eq_false h0,cond_false] at hR
 by_cases h9:n<9
 ·rw [decide_eq_true h9,cond_true] at hR
  obtain ⟨G,hG⟩:∃G,zP u2 l=G:=⟨_,rfl⟩
  have kQ:=K6 u2 l hu2 hl hu hG
  rw [hG] at hR
  obtain rfl:R=(⟨2,p,G.1,⟨#[]⟩,0⟩,G.2):=hR.symm
  repeat' (first
   | refine ah ?_ ?_
   | (refine aa 9 rfl ?_;first
    | (refine cH (qf [(0,0)]) (kN) ?_)
    | (refine cH (qf [(0,0)]) (kN2) ?_)
    | (refine cB [] (kP) ?_)
    | (refine cH (qf [(0,0)]) (kQ) ?_))
   | refine af ?_
   | exact ai|(refine ae fun hb=>?_;first|(exact absurd hb h0)|skip)
   | (refine aE (qf [(0,0)]) ?_;exact ab))
 rw [decide_eq_false h9,cond_false] at hR
 by_cases e9:n=9
 ·subst e9
  obtain rfl:R=(⟨3,p,Rq.zero,⟨#[]⟩,0⟩,u2):=hR.symm
  repeat' (first
   | refine ah ?_ ?_
   | (refine aa 9 rfl ?_;first
    | (refine cH (qf [(0,0)]) (kN) ?_)
    | (refine cH (qf [(0,0)]) (kN2) ?_)
    | (refine cB [] (kP) ?_))
   | refine af ?_
   | exact ai|refine ae fun hb=>?_
   | (refine aE (qf [(0,0)]) ?_;exact ab))
 rw [decide_eq_false e9,cond_false] at hR
 by_cases e10:n=10
 ·subst e10
  obtain ⟨v3,u3,e1,e2,hu3,d1,d2,kN3⟩:=nx u2 l.length hu2 (by omega) (by omega)
  obtain ⟨r,hr⟩:∃r,l[v3.toNat]? = some r:=⟨_,List.getElem?_eq_getElem (by omega)⟩
  obtain rfl:R=(⟨4,p,Rq.zero,r.name,0⟩,u3):=by
   rw [←hR,←e2]
   have e3:l.getD (u2.v l.length).toNat ⟨⟨#[]⟩,0,0,0⟩=r:=by rw [e1,List.getD_eq_getElem?_getD,hr];rfl
   simp only [decide_true,cond_true,e3]
  clear e1 e2
  repeat' (first
   | refine ah ?_ ?_
   | (refine aa 9 rfl ?_;first
    | (refine cH (qf [(0,0)]) (kN) ?_)
    | (refine cH (qf [(0,0)]) (kN2) ?_)
    | (refine cH (qf [(0,0)]) (kN3) ?_)
    | (refine cB [] (kP) ?_))
   | refine af ?_
   | exact ai|refine ae fun hb=>?_
   | (refine aE (qf [(0,0)]) ?_;exact ab))
 rw [decide_eq_false e10,cond_false] at hR
 by_cases e11:n=11
 ·subst e11
  obtain ⟨v3,u3,e1,e2,hu3,d1,d2,kN3⟩:=nx u2 4 hu2 (by omega) (by omega)
  obtain rfl:R=(⟨5,p,Rq.zero,⟨#[]⟩,1+v3⟩,u3):=by rw [←hR,←e1,←e2];rfl
  clear e1 e2
  repeat' (first
   | refine ah ?_ ?_
   | (refine aa 9 rfl ?_;first
    | (refine cH (qf [(0,0)]) (kN) ?_)
    | (refine cH (qf [(0,0)]) (kN2) ?_)
    | (refine cH (qf [(0,0)]) (kN3) ?_)
    | (refine cB [] (kP) ?_))
   | refine af ?_
   | exact ai|refine ae fun hb=>?_
   | (refine aE (qf [(0,0)]) ?_;exact ab))
 rw [decide_eq_false e11,cond_false] at hR
 by_cases e12:n=12
 ·subst e12
  obtain ⟨v3,u3,e1,e2,hu3,d1,d2,kN3⟩:=nx u2 5 hu2 (by omega) (by omega)
  obtain rfl:R=(⟨6,p,Rq.zero,⟨#[]⟩,v3⟩,u3):=by rw [←hR,←e1,←e2];rfl
  clear e1 e2
  repeat' (first
   | refine ah ?_ ?_
   | (refine aa 9 rfl ?_;first
    | (refine cH (qf [(0,0)]) (kN) ?_)
    | (refine cH (qf [(0,0)]) (kN2) ?_)
    | (refine cH (qf [(0,0)]) (kN3) ?_)
    | (refine cB [] (kP) ?_))
   | refine af ?_
   | exact ai|refine ae fun hb=>?_
   | (refine aE (qf [(0,0)]) ?_;exact ab))
 rw [decide_eq_false e12,cond_false] at hR
 by_cases e13:n=13
 ·subst e13
  obtain rfl:R=(⟨7,p,Rq.zero,⟨#[]⟩,0⟩,u2):=hR.symm
  repeat' (first
   | refine ah ?_ ?_
   | (refine aa 9 rfl ?_;first
    | (refine cH (qf [(0,0)]) (kN) ?_)
    | (refine cH (qf [(0,0)]) (kN2) ?_)
    | (refine cB [] (kP) ?_))
   | refine af ?_
   | exact ai|refine ae fun hb=>?_
   | (refine aE (qf [(0,0)]) ?_;exact ab))
 rw [decide_eq_false e13,cond_false] at hR
 by_cases e14:n=14
 ·subst e14
  obtain rfl:R=(⟨8,p,Rq.zero,⟨#[]⟩,0⟩,u2):=hR.symm
  repeat' (first
   | refine ah ?_ ?_
   | (refine aa 9 rfl ?_;first
    | (refine cH (qf [(0,0)]) (kN) ?_)
    | (refine cH (qf [(0,0)]) (kN2) ?_)
    | (refine cB [] (kP) ?_))
   | refine af ?_
   | exact ai|refine ae fun hb=>?_
   | (refine aE (qf [(0,0)]) ?_;exact ab))
 rw [decide_eq_false e14,cond_false] at hR
 obtain ⟨v3,u3,e1,e2,hu3,d1,d2,kN3⟩:=nx u2 12 hu2 (by omega) (by omega)
 obtain rfl:R=(⟨9,p,Rq.zero,⟨#[]⟩,v3⟩,u3):=by rw [←hR,←e1,←e2]
 clear e1 e2
 repeat' (first
  | refine ah ?_ ?_
  | (refine aa 9 rfl ?_;first
   | (refine cH (qf [(0,0)]) (kN) ?_)
   | (refine cH (qf [(0,0)]) (kN2) ?_)
   | (refine cH (qf [(0,0)]) (kN3) ?_)
   | (refine cB [] (kP) ?_))
  | refine af ?_
  | exact ai|(refine ae fun hb=>?_;first|(exact absurd hb e9)|(exact absurd hb e10)|(exact absurd hb e11)|(exact absurd hb e12)|(exact absurd hb e13)|(exact absurd hb e14)|skip)
  | (refine aE (qf [(0,0)]) ?_;exact ab))
def IB (d:Nat):El Cm where
 n:=13
 pos:=by decide
 rep:=fun w S k cs=>∃A c,cs=[.int .i64 k.kind,.int .i64 k.proc.site,.int .i64 k.proc.inc,.int .i64 k.proc.num,.int .i64 k.req.expr.k,.string k.req.expr.atom.name,.int .i64 k.req.expr.atom.am.mode,.int .i64 k.req.expr.atom.am.units,.slice A k.req.expr.kids.length c,.int .i64 k.req.prio,.int .i64 k.req.limit,.string k.name,.int .i64 k.n]∧
  RowsAt (qP d) w S A k.req.expr.kids∧(k.req.expr.kids.length≤c∧c≤maxLen)
 len:=fun h=>by obtain ⟨A,c,rfl,_⟩:=h;rfl
 one:=fun h=>by obtain ⟨A,c,rfl,_⟩:=h;intro u hu;simp at hu;rcases hu with rfl|rfl|rfl|rfl|rfl|rfl|rfl|rfl|rfl|rfl|rfl|rfl|rfl <;> rfl
 same:=fun h hk hS=>by
  obtain ⟨A,c,e,h1,h2⟩:=h
  exact ⟨A,c,e,h1.same hk hS,h2⟩
instance (d:Nat):Dp (IB d) where
 deep:=Cm.d d
 get:=by
  rintro w F ρ x cs ⟨A,c,rfl,h1,h2⟩
  exact ⟨rfl,rfl,rfl,rfl,rfl,rfl,rfl,rfl,⟨A,c,rfl,h2,h1⟩,rfl,rfl,rfl,rfl,trivial⟩
 put:=by
  intro w F ρ x cs h
  match cs,h with
  | [_,_,_,_,_,_,_,_,_,_,_,_,_],⟨rfl,rfl,rfl,rfl,rfl,rfl,rfl,rfl,⟨A,c,rfl,h2,h1⟩,rfl,rfl,rfl,rfl,_⟩=>exact ⟨A,c,rfl,h1,h2⟩
 nok:=fun _ _=>rfl
instance (d:Nat):ST prog (IB d) 66 119 136:=⟨ElTB.mk' underlying66 (.agg #[.int .i64 0,.int .i64 0,.int .i64 0,.int .i64 0,.int .i64 0,.string ⟨#[]⟩,.int .i64 0,.int .i64 0,.slice none 0 0,.int .i64 0,.int .i64 0,.string ⟨#[]⟩,.int .i64 0]) 13 136 (by kernel_rfl) rfl rfl⟩
theorem HJ {l:List Rs} {t:Tp} (h:(qN t).1=l):l.length=6∧∀r∈l,1≤r.units∧r.units≤1000:=by
 subst h
 refine ⟨rfl,fun r hr=>?_⟩
 have h1:=t.s.s.s.s.v_in (m:=8) (by omega)
 have h2:=t.s.s.s.s.s.s.v_in (m:=3) (by omega)
 simp only [qN,List.mem_cons,List.not_mem_nil,or_false] at hr
 rcases hr with rfl|rfl|rfl|rfl|rfl|rfl <;> dsimp only <;> omega
theorem E7 (t:Tp):Adv t (qN t).2:=by
 have h:=(Adv.s t).ss.ss.ss.ss.ss.ss.ss
 unfold qN
 dsimp only
 exact h
def Mw (a b c d e:Tp):Nat→Tp
 | 0=>a
 | 1=>b
 | 2=>c
 | 3=>d
 | _=>e
def zV (p0 p1 p2 p3:Pr) (v0 v1 v2 v3:Int):List Cm:=[⟨1,p0,Rq.zero,⟨#[]⟩,1+v0⟩,⟨1,p1,Rq.zero,⟨#[]⟩,1+v1⟩,⟨1,p2,Rq.zero,⟨#[]⟩,1+v2⟩,⟨1,p3,Rq.zero,⟨#[]⟩,1+v3⟩]
theorem sR (cat:List Rs) (n:Nat) (t:Tp):sJ cat (n+1) t=bif decide (t.at_<t.l.length) then (wh t cat).1 :: sJ cat n (wh t cat).2 else []:=rfl
theorem E8 (l:List Int) (hl:l.length≤300) {R:List Rs×List Cm} (hR:iI l=R):FSpec prog 21 [.one (.sl fm l)] [] [] (.tup [.one (.sl fJ R.1),.one (.sl (IB 2) R.2)]) []:=by
 refine aX func21 ?_
 unfold iI at hR
 dsimp only at hR
 have h0:TOk ⟨l,0⟩:=⟨Nat.zero_le _,by show l.length≤_;omega⟩
 have kC:=KJ ⟨l,0⟩ h0
 have hadv:=E7 ⟨l,0⟩
 obtain ⟨C,hC⟩:∃C,(qN ⟨l,0⟩).1=C:=⟨_,rfl⟩
 obtain ⟨u0,hu0⟩:∃u,(qN ⟨l,0⟩).2=u:=⟨_,rfl⟩
 obtain ⟨hc6,hcu⟩:=HJ hC
 rw [hC,hu0] at hR kC
 rw [hu0] at hadv
 have t0:=h0.adv hadv
 have hul:u0.l=l:=hadv.l
 clear hC hu0 hadv
 repeat' (first
  | refine ah ?_ ?_
  | refine aa 9 rfl (cH (qf [(0,10)]) (kC) ?_)
  | refine af ?_
  | exact ai|refine ae fun hb=>?_)
 refine cc 6 1000 119 (IB 2) rfl rfl rfl ?_
 obtain ⟨v0,u1,a1,a2,t1,a3,a4,n0⟩:=nx u0 9 t0 (by omega) (by omega)
 obtain ⟨v1,u2,b1,b2,t2,b3,b4,n1⟩:=nx u1 9 t1 (by omega) (by omega)
 obtain ⟨v2,u3,c1,c2,t3,c3,c4,n2⟩:=nx u2 9 t2 (by omega) (by omega)
 obtain ⟨v3,u4,d1,d2,t4,d3,d4,n3⟩:=nx u3 9 t3 (by omega) (by omega)
 obtain ⟨p0,q0⟩:∃p,il 0=p:=⟨_,rfl⟩
 obtain ⟨p1,q1⟩:∃p,il 1=p:=⟨_,rfl⟩
 obtain ⟨p2,q2⟩:∃p,il 2=p:=⟨_,rfl⟩
 obtain ⟨p3,q3⟩:∃p,il 3=p:=⟨_,rfl⟩
 have m0:=pI 0
 have m1:=pI 1
 have m2:=pI 2
 have m3:=pI 3
 rw [q0] at m0
 rw [q1] at m1
 rw [q2] at m2
 rw [q3] at m3
 have hul4:u4.l=l:=by rw [←d2,Tp.s_l,←c2,Tp.s_l,←b2,Tp.s_l,←a2,Tp.s_l,hul]
 have hR:(C,zV p0 p1 p2 p3 v0 v1 v2 v3++sJ C l.length u4)=R:=by
  rw [←hR]
  unfold x7 zV
  rw [a1,a2,b1,b2,c1,c2,d1,d2,q0,q1,q2,q3]
 clear a1 a2 b1 b2 c1 c2 d1 d2 q0 q1 q2 q3
 refine ak (fun i:Nat=>i≤4) (fun i=>bH [10,1000] [(4,.c (.ptr 10 0)),(5,.c (.sl fJ C)),(6,.c (.own 1000)),(7,.i i)] [(10,.box 115 (Jz (Mw u0 u1 u2 u3 u4 i))),(1000,.arr 119 (IB 2) ((zV p0 p1 p2 p3 v0 v1 v2 v3).take i))]) (fun i=>4-i) 0 (Nat.zero_le _) (by exact ao (qf [])) ?_
 rintro i hi
 obtain rfl|rfl|rfl|rfl|rfl:i=0∨i=1∨i=2∨i=3∨i=4:=by omega
 ·repeat' (first
   | refine ah ?_ ?_
   | (refine aa 8 rfl ?_;refine sx (aj rfl rfl (ax rfl rfl) (xK [⟨1,p0,Rq.zero,⟨#[]⟩,1+v0⟩] rfl rfl rfl) rfl aC aC) ?_)
   | (refine aa 9 rfl ?_;first
    | (refine cH (qf [(0,10)]) (n0) ?_)
    | (refine cB [] (m0) ?_))
   | refine af ?_
   | exact ai|refine ae fun hb=>?_)
  refine ⟨1,by decide,by decide,?_⟩
  exact ao (qf [(1000,25)])
 ·repeat' (first
   | refine ah ?_ ?_
   | (refine aa 8 rfl ?_;refine sx (aj rfl rfl (ax rfl rfl) (xK [⟨1,p1,Rq.zero,⟨#[]⟩,1+v1⟩] rfl rfl rfl) rfl aC aC) ?_)
   | (refine aa 9 rfl ?_;first
    | (refine cH (qf [(0,10)]) (n1) ?_)
    | (refine cB [] (m1) ?_))
   | refine af ?_
   | exact ai|refine ae fun hb=>?_)
  refine ⟨2,by decide,by decide,?_⟩
  exact ao (qf [(1000,25)])
 ·repeat' (first
   | refine ah ?_ ?_
   | (refine aa 8 rfl ?_;refine sx (aj rfl rfl (ax rfl rfl) (xK [⟨1,p2,Rq.zero,⟨#[]⟩,1+v2⟩] rfl rfl rfl) rfl aC aC) ?_)
   | (refine aa 9 rfl ?_;first
    | (refine cH (qf [(0,10)]) (n2) ?_)
    | (refine cB [] (m2) ?_))
   | refine af ?_
   | exact ai|refine ae fun hb=>?_)
  refine ⟨3,by decide,by decide,?_⟩
  exact ao (qf [(1000,25)])
 ·repeat' (first
   | refine ah ?_ ?_
   | (refine aa 8 rfl ?_;refine sx (aj rfl rfl (ax rfl rfl) (xK [⟨1,p3,Rq.zero,⟨#[]⟩,1+v3⟩] rfl rfl rfl) rfl aC aC) ?_)
   | (refine aa 9 rfl ?_;first
    | (refine cH (qf [(0,10)]) (n3) ?_)
    | (refine cB [] (m3) ?_))
   | refine af ?_
   | exact ai|refine ae fun hb=>?_)
  refine ⟨4,by decide,by decide,?_⟩
  exact ao (qf [(1000,25)])
 ·rw [show Mw u0 u1 u2 u3 u4 4=u4 from rfl,show (zV p0 p1 p2 p3 v0 v1 v2 v3).take 4=zV p0 p1 p2 p3 v0 v1 v2 v3 from rfl]
  have hol:(zV p0 p1 p2 p3 v0 v1 v2 v3).length=4:=rfl
  generalize zV p0 p1 p2 p3 v0 v1 v2 v3=O at *
  clear n0 n1 n2 n3 m0 m1 m2 m3
  repeat' (first
   | refine ah ?_ ?_
   | refine af ?_
   | exact ai|refine ae fun hb=>?_)
  refine ak (fun y:Nat×Tp×List Cm=>TOk y.2.1∧y.2.1.l=l∧l.length≤y.1+y.2.1.at_∧y.2.2.length+y.1≤304∧(C,y.2.2++sJ C y.1 y.2.1)=R) (fun y=>bH [10,1000] [(4,.c (.ptr 10 0)),(5,.c (.sl fJ C)),(6,.c (.own 1000))] [(10,.box 115 (Jz y.2.1)),(1000,.arr 119 (IB 2) y.2.2)]) (fun y=>y.2.1.l.length-y.2.1.at_) (l.length,u4,O) ⟨t4,hul4,by dsimp only;omega,by dsimp only;omega,hR⟩ (by exact ao (qf [])) ?_
  clear hR hol O t4 hul4
  rintro ⟨n,u,acc⟩ ⟨hu,hul,hn,hal,hs⟩
  dsimp only at *
  have kM:=JA u hu
  by_cases hlt:u.at_<u.l.length
  ·rw [decide_eq_true hlt] at kM
   obtain ⟨m,rfl⟩:∃m,n=m+1:=⟨n-1,by rw [hul] at hlt;omega⟩
   rw [sR,decide_eq_true hlt,cond_true] at hs
   obtain ⟨G,hG⟩:∃G,wh u C=G:=⟨_,rfl⟩
   have kG:=K7 u C hu (by omega) hcu hG
   have ha:=EJ u C
   have hs1:=u.s_lt hlt
   rw [hG] at ha hs
   have hw:=hu.s.adv ha
   have hle:=ha.le
   have hl2:G.2.l=l:=by rw [ha.l,u.s_l,hul]
   repeat' (first
    | refine ah ?_ ?_
    | (refine aa 8 rfl ?_;refine aM (aj rfl rfl (ax rfl rfl) (aB [G.1] rfl rfl rfl rfl) rfl aC aC) rfl rfl rfl ?_)
    | (refine aa 9 rfl ?_;first
     | (refine cH (qf [(0,10)]) (kM) ?_)
     | (refine cH (qf [(0,10)]) (kG) ?_))
    | refine af ?_
    | exact ai|refine ae fun hb=>?_)
   refine ⟨(m,G.2,acc++[G.1]),⟨hw,hl2,by dsimp only;omega,by simp;omega,?_⟩,by dsimp only;rw [hl2,hul];rw [hul] at hlt;omega,?_⟩
   ·dsimp only
    rw [←hs]
    simp
   ·exact ao (qf [(1000,33)])
  ·rw [decide_eq_false hlt] at kM
   have hm:sJ C n u=[]:=by
    cases n with
    | zero=>rfl
    | succ n=>rw [sR,decide_eq_false hlt];rfl
   rw [hm,List.append_nil] at hs
   obtain rfl:R=(C,acc):=hs.symm
   repeat' (first
    | refine ah ?_ ?_
    | refine aa 9 rfl (cH (qf [(0,10)]) (kM) ?_)
    | refine af ?_
    | exact ai|refine ae fun hb=>?_
    | (refine iG (qf []) ?_;exact ab))
theorem qz (q:Qu) (x:Pc) (a:Tm) (l:List Tm):dE q x (a :: l)=bif !aT a.name q.res.name || bq q.res (aw x.led.entries q.res.name) a.am then dE q x l else
  bif !(ap q x.proc).isSome then decide (aq q.holds x.proc=bV q.res (aw x.led.entries q.res.name) a.am) else
  bif q.waits.any (fun y=>decide (y.proc=x.proc) && !decide (y.prio=x.req.prio)) then false else
  decide (aq q.holds x.proc=aw x.led.entries q.res.name) && decide (ap q x.proc=some (bV q.res (aw x.led.entries q.res.name) a.am)):=rfl
theorem K8 (d:Nat) (q:Qu) (x:Pc) (L:List Tm):FSpec prog 179 [q.a,x.a d,.one (.sl cr L)] [] [] (.b (dE q x L)) []:=by
 refine aX func179 ?_
 refine aR (fun c ρ a w hr=>cu (t:=2) hr rfl) (fun hl2=>?_)
 refine aR (fun c ρ a w hr=>dQ (t:=0) (i:=6) hr rfl rfl) (fun hl0_6=>?_)
 obtain ⟨b,hB⟩:∃b,dE q x L=b:=⟨_,rfl⟩
 rw [hB]
 obtain ⟨l,hl⟩:∃l,aw x.led.entries q.res.name=l:=⟨_,rfl⟩
 obtain ⟨h,hh⟩:∃h,aq q.holds x.proc=h:=⟨_,rfl⟩
 have kH:=eP q x.proc
 have kL:=iO x.led.entries q.res.name
 rw [hh] at kH
 rw [hl] at kL
 obtain ⟨o,hw⟩:∃o,ap q x.proc=o:=⟨_,rfl⟩
 have kW:=bY q x.proc hw
 obtain ⟨iw,hiw⟩:∃iw,o.isSome=iw:=⟨_,rfl⟩
 rw [hiw] at kW
 cases iw with
 | false =>
  obtain rfl:o=none:=by cases o with
   | none=>rfl
   | some=>cases hiw
  repeat' (first
   | refine ah ?_ ?_
   | (refine aa 9 rfl ?_;first
    | (refine cB [] (kH) ?_)
    | (refine cB [] (kL) ?_)
    | (refine cB [] (kW) ?_))
   | refine af ?_
   | exact ai|refine ae fun hb=>?_)
  refine ak (fun i=>i≤L.length∧dE q x (L.drop i)=b) (fun i=>bH [3,4,7,8,9] [(2,.c (.sl cr L)),(3,.c (.ptr 3 0)),(4,.c (.ptr 4 0)),(7,.c (.ptr 7 0)),(8,.c (.ptr 8 0)),(9,.c (.ptr 9 0)),(10,.b false),(11,.i i)] [(3,.box 165 q.d),(4,.box 38 (x.d d)),(7,.box 29 [.sc (.int .i64 l.mode),.sc (.int .i64 l.units)]),(8,.box 29 [.sc (.int .i64 h.mode),.sc (.int .i64 h.units)]),(9,.box 29 [.any,.any])]) (fun i=>L.length-i) 0 ⟨Nat.zero_le _,hB⟩ (by exact ao (qf [])) ?_
  rintro i ⟨hi,hs⟩
  by_cases hlt:i<L.length
  ·obtain ⟨a,ha⟩:∃a,L[i]=a:=⟨_,rfl⟩
   have hga:L[i]? = some a:=by rw [List.getElem?_eq_getElem hlt,ha]
   rw [List.drop_eq_getElem_cons hlt,ha,qz,hl,hh,hw] at hs
   by_cases hnm:a.name.toList=q.res.name.toList
   ·rw [show aT a.name q.res.name=true by simp [aT,hnm]] at hs
    cases hcv:bq q.res l a.am with
    | true =>
     rw [hcv] at hs
     repeat' (first
      | refine ah ?_ ?_
      | refine aa 9 rfl (cB [] (dq q.res l a.am) ?_)
      | refine af ?_
      | exact ai|refine ae fun hb=>?_)
     refine ⟨i+1,⟨by omega,hs⟩,by omega,?_⟩
     exact ao (qf [])
    | false =>
     rw [hcv] at hs
     simp at hs
     rw [←hs]
     repeat' (first
      | refine ah ?_ ?_
      | (refine aa 9 rfl ?_;first
       | (refine cB [] (dq q.res l a.am) ?_)
       | (refine cB [] (D9 q.res l a.am) ?_))
      | refine af ?_
      | exact ai|refine ae fun hb=>?_
      | (refine aE (qf []) ?_;exact ab))
   ·rw [show aT a.name q.res.name=false by simp [aT,hnm]] at hs
    repeat' (first
     | refine ah ?_ ?_
     | refine aa 9 rfl (cB [] (dq q.res l a.am) ?_)
     | refine af ?_
     | exact ai|refine ae fun hb=>?_)
    refine ⟨i+1,⟨by omega,hs⟩,by omega,?_⟩
    exact ao (qf [])
  ·rw [List.drop_eq_nil_of_le (by omega),show dE q x []=(decide (aq q.holds x.proc=aw x.led.entries q.res.name) && !(ap q x.proc).isSome) from rfl,hh,hl,hw] at hs
   simp at hs
   rw [←hs]
   repeat' (first
    | refine ah ?_ ?_
    | refine af ?_
    | exact ai|refine ae fun hb=>?_)
   all_goals (refine gz ?_;simp [*])
 | true =>
  obtain ⟨m,rfl⟩:∃m,o=some m:=by cases o with
   | none=>cases hiw
   | some m=>exact ⟨m,rfl⟩
  repeat' (first
   | refine ah ?_ ?_
   | (refine aa 9 rfl ?_;first
    | (refine cB [] (kH) ?_)
    | (refine cB [] (kL) ?_)
    | (refine cB [] (kW) ?_))
   | refine af ?_
   | exact ai|refine ae fun hb=>?_)
  refine ak (fun i=>i≤L.length∧dE q x (L.drop i)=b) (fun i=>bH [3,4,7,8,9] [(2,.c (.sl cr L)),(3,.c (.ptr 3 0)),(4,.c (.ptr 4 0)),(7,.c (.ptr 7 0)),(8,.c (.ptr 8 0)),(9,.c (.ptr 9 0)),(10,.b true),(11,.i i)] [(3,.box 165 q.d),(4,.box 38 (x.d d)),(7,.box 29 [.sc (.int .i64 l.mode),.sc (.int .i64 l.units)]),(8,.box 29 [.sc (.int .i64 h.mode),.sc (.int .i64 h.units)]),(9,.box 29 [.sc (.int .i64 m.mode),.sc (.int .i64 m.units)])]) (fun i=>L.length-i) 0 ⟨Nat.zero_le _,hB⟩ (by exact ao (qf [])) ?_
  rintro i ⟨hi,hs⟩
  by_cases hlt:i<L.length
  case neg =>
   rw [List.drop_eq_nil_of_le (by omega),show dE q x []=(decide (aq q.holds x.proc=aw x.led.entries q.res.name) && !(ap q x.proc).isSome) from rfl,hh,hl,hw] at hs
   simp at hs
   subst hs
   repeat' (first
    | refine ah ?_ ?_
    | refine af ?_
    | exact ai|refine ae fun hb=>?_)
   all_goals (refine gz ?_;simp [*])
  obtain ⟨a,ha⟩:∃a,L[i]=a:=⟨_,rfl⟩
  have hga:L[i]? = some a:=by rw [List.getElem?_eq_getElem hlt,ha]
  rw [List.drop_eq_getElem_cons hlt,ha,qz,hl,hh,hw] at hs
  by_cases hnm:a.name.toList=q.res.name.toList
  case neg =>
   rw [show aT a.name q.res.name=false by simp [aT,hnm]] at hs
   repeat' (first
    | refine ah ?_ ?_
    | refine aa 9 rfl (cB [] (dq q.res l a.am) ?_)
    | refine af ?_
    | exact ai|refine ae fun hb=>?_)
   refine ⟨i+1,⟨by omega,hs⟩,by omega,?_⟩
   exact ao (qf [])
  rw [show aT a.name q.res.name=true by simp [aT,hnm]] at hs
  cases hcv:bq q.res l a.am with
  | true =>
   rw [hcv] at hs
   repeat' (first
    | refine ah ?_ ?_
    | refine aa 9 rfl (cB [] (dq q.res l a.am) ?_)
    | refine af ?_
    | exact ai|refine ae fun hb=>?_)
   refine ⟨i+1,⟨by omega,hs⟩,by omega,?_⟩
   exact ao (qf [])
  | false =>
   rw [hcv] at hs
   obtain ⟨f,hf⟩:∃f:Wt→Bool,f=fun y=>decide (y.proc=x.proc) && !decide (y.prio=x.req.prio):=⟨_,rfl⟩
   rw [←hf] at hs
   obtain ⟨j,hj⟩:∃j,bV q.res l a.am=j:=⟨_,rfl⟩
   have kJ:=D9 q.res l a.am
   rw [hj] at hs kJ
   simp only [Bool.not_true,Bool.or_self,cond_false,Option.isSome_some] at hs
   repeat' (first
    | refine ah ?_ ?_
    | (refine aa 9 rfl ?_;first
     | (refine cB [] (dq q.res l a.am) ?_)
     | (refine cB [] (kJ) ?_))
    | refine af ?_
    | exact ai|refine ae fun hb=>?_)
   refine ak (fun k=>k≤q.waits.length∧q.waits.any f=(q.waits.drop k).any f) (fun k=>bH [3,4,7,8,9,13] [(3,.c (.ptr 3 0)),(4,.c (.ptr 4 0)),(7,.c (.ptr 7 0)),(8,.c (.ptr 8 0)),(9,.c (.ptr 9 0)),(13,.c (.ptr 13 0)),(14,.i k)] [(3,.box 165 q.d),(4,.box 38 (x.d d)),(7,.box 29 [.sc (.int .i64 l.mode),.sc (.int .i64 l.units)]),(8,.box 29 [.sc (.int .i64 h.mode),.sc (.int .i64 h.units)]),(9,.box 29 [.sc (.int .i64 m.mode),.sc (.int .i64 m.units)]),(13,.box 29 [.sc (.int .i64 j.mode),.sc (.int .i64 j.units)])]) (fun k=>q.waits.length-k) 0 ⟨Nat.zero_le _,rfl⟩ (by exact ao (qf [])) ?_
   rintro k ⟨hk,hany⟩
   by_cases hkl:k<q.waits.length
   case neg =>
    rw [List.drop_eq_nil_of_le (by omega),List.any_nil] at hany
    rw [hany] at hs
    rw [←hs]
    repeat' (first
     | refine ah ?_ ?_
     | refine af ?_
     | exact ai|refine ae fun hb=>?_)
    all_goals (refine gz ?_;simp [*])
   obtain ⟨y,hy⟩:∃y,q.waits[k]=y:=⟨_,rfl⟩
   have hgy:q.waits[k]? = some y:=by rw [List.getElem?_eq_getElem hkl,hy]
   rw [List.drop_eq_getElem_cons hkl,hy,List.any_cons] at hany
   by_cases hfy:y.proc=x.proc∧y.prio≠x.req.prio
   ·obtain ⟨hf1,hf2⟩:=hfy
    rw [show f y=true by rw [hf];simp [hf1,hf2],Bool.true_or] at hany
    rw [hany] at hs
    rw [←hs]
    repeat' (first
     | refine ah ?_ ?_
     | refine af ?_
     | exact ai|(refine ae fun hb=>?_;first|(exact (hf2 hb).elim)|(exact (hb hf1).elim)|skip))
    all_goals (refine gz ?_;rfl)
   ·rw [show f y=false by rw [hf];simp;intro h1;exact Classical.byContradiction fun h2=>hfy ⟨h1,h2⟩,Bool.false_or] at hany
    repeat' (first
     | refine ah ?_ ?_
     | refine af ?_
     | exact ai|(refine ae fun hb=>?_;first|(exact (hfy ⟨by assumption,hb⟩).elim)|skip))
    all_goals (refine ⟨k+1,⟨by omega,hany⟩,by omega,?_⟩;exact ao (qf []))
theorem CF (t:List Qu) (p:Pr) (hl:t.length≤100000):FSpec prog 174 [.one (.sl ji t),p.a] [] [] (.c (.sl cr (go t p))) []:=by
 refine aX func174 ?_
 repeat' (first
  | refine ah ?_ ?_
  | refine af ?_
  | exact ai|refine ae fun hb=>?_)
 refine cc 5 1000 31 cr rfl rfl rfl ?_
 refine ak (fun x:Nat×List Tm=>x.1≤t.length∧x.2.length≤x.1∧x.2++go (t.drop x.1) p=go t p) (fun x=>bH [3,1000] [(0,.c (.sl ji t)),(3,.c (.ptr 3 0)),(5,.c (.own 1000)),(6,.i x.1)] [(3,.box 23 [.sc (.int .i64 p.site),.sc (.int .i64 p.inc),.sc (.int .i64 p.num)]),(1000,.arr 31 cr x.2)]) (fun x=>t.length-x.1) (0,[]) ⟨Nat.zero_le _,Nat.le_refl _,rfl⟩ (by exact ao (qf [])) ?_
 rintro ⟨i,acc⟩ ⟨hi,hal,hs⟩
 dsimp only at *
 by_cases hlt:i<t.length
 ·have e:go (t.drop i) p=(bif aO (aq t[i].holds p) then [] else [⟨t[i].res.name,aq t[i].holds p⟩])++go (t.drop (i+1)) p:=by
   rw [List.drop_eq_getElem_cons hlt]
   unfold go
   rw [List.map_cons,List.filter_cons]
   cases aO (aq t[i].holds p) <;> rfl
  rw [e] at hs
  repeat' (first
   | refine ah ?_ ?_
   | (refine aa 8 rfl ?_;refine aM (aj rfl rfl (ax rfl rfl) (aB [⟨t[i].res.name,aq t[i].holds p⟩] rfl rfl rfl rfl) rfl aC aC) rfl rfl rfl ?_)
   | (refine aa 9 rfl ?_;first
    | (refine cB [] (eP t[i] p) ?_)
    | (refine cB [] (fg (aq t[i].holds p)) ?_))
   | refine af ?_
   | exact ai|refine ae fun hb=>?_)
  ·refine ⟨(i+1,acc++[⟨t[i].res.name,aq t[i].holds p⟩]),⟨by dsimp only;omega,by simp;omega,?_⟩,by dsimp only;omega,?_⟩
   ·rw [hb] at hs;rw [←hs];simp
   ·exact ao (qf [(1000,33)])
  ·refine ⟨(i+1,acc),⟨by dsimp only;omega,by dsimp only;omega,?_⟩,by dsimp only;omega,?_⟩
   ·rw [hb] at hs;rw [←hs];simp
   ·exact ao (qf [])
 ·have e:acc=go t p:=by rw [←hs,List.drop_eq_nil_of_le (by omega)];simp [go]
  repeat' (first
   | refine ah ?_ ?_
   | refine af ?_
   | exact ai|refine ae fun hb=>?_)
  rw [←e]
  refine aE (qf []) ?_;exact ab
theorem HK (t:List Qu) (p:Pr) (hl:t.length≤100000):FSpec prog 175 [.one (.sl ji t),p.a] [] [] (.c (.sl cr (cy p t))) []:=by
 refine aX func175 ?_
 repeat' (first
  | refine ah ?_ ?_
  | refine af ?_
  | exact ai|refine ae fun hb=>?_)
 refine cc 5 1000 31 cr rfl rfl rfl ?_
 refine ak (fun x:Nat×List Tm=>x.1≤t.length∧x.2.length≤x.1∧x.2++cy p (t.drop x.1)=cy p t) (fun x=>bH [3,1000] [(0,.c (.sl ji t)),(3,.c (.ptr 3 0)),(5,.c (.own 1000)),(6,.i x.1)] [(3,.box 23 [.sc (.int .i64 p.site),.sc (.int .i64 p.inc),.sc (.int .i64 p.num)]),(1000,.arr 31 cr x.2)]) (fun x=>t.length-x.1) (0,[]) ⟨Nat.zero_le _,Nat.le_refl _,rfl⟩ (by exact ao (qf [])) ?_
 rintro ⟨i,acc⟩ ⟨hi,hal,hs⟩
 dsimp only at *
 by_cases hlt:i<t.length
 ·rw [List.drop_eq_getElem_cons hlt] at hs
  cases hw:ap t[i] p with
  | some a =>
   rw [show cy p (t[i] :: t.drop (i+1))=⟨t[i].res.name,a⟩ :: cy p (t.drop (i+1)) by simp [cy,hw]] at hs
   repeat' (first
    | refine ah ?_ ?_
    | (refine aa 8 rfl ?_;refine aM (aj rfl rfl (ax rfl rfl) (aB [⟨t[i].res.name,a⟩] rfl rfl rfl rfl) rfl aC aC) rfl rfl rfl ?_)
    | refine aa 9 rfl (cB [] (bY t[i] p hw) ?_)
    | refine af ?_
    | exact ai|refine ae fun hb=>?_)
   refine ⟨(i+1,acc++[⟨t[i].res.name,a⟩]),⟨by dsimp only;omega,by simp;omega,?_⟩,by dsimp only;omega,?_⟩
   ·rw [←hs];simp
   ·exact ao (qf [(1000,35)])
  | none =>
   rw [show cy p (t[i] :: t.drop (i+1))=cy p (t.drop (i+1)) by simp [cy,hw]] at hs
   repeat' (first
    | refine ah ?_ ?_
    | refine aa 9 rfl (cB [] (bY t[i] p hw) ?_)
    | refine af ?_
    | exact ai|refine ae fun hb=>?_)
   refine ⟨(i+1,acc),⟨by dsimp only;omega,by dsimp only;omega,?_⟩,by dsimp only;omega,?_⟩
   ·rw [←hs]
   ·exact ao (qf [])
 ·have e:acc=cy p t:=by rw [←hs,List.drop_eq_nil_of_le (by omega)];simp [cy]
  repeat' (first
   | refine ah ?_ ?_
   | refine af ?_
   | exact ai|refine ae fun hb=>?_)
  rw [←e]
  refine aE (qf []) ?_;exact ab
theorem sS (a b:List Tm):FSpec prog 51 [.one (.sl cr a),.one (.sl cr b)] [] [] (.b (decide (a=b))) []:=by
 refine aX func51 ?_
 refine aR (fun c ρ a w hr=>cu (t:=0) hr rfl) (fun hl0=>?_)
 by_cases hl:a.length=b.length
 case neg =>
  have hne:a≠b:=fun e=>hl (by rw [e])
  rw [decide_eq_false hne]
  repeat' (first
   | refine ah ?_ ?_
   | refine af ?_
   | exact ai|refine ae fun hb=>?_
   | (refine aE (qf []) ?_;exact ab))
 repeat' (first
  | refine ah ?_ ?_
  | refine af ?_
  | exact ai|refine ae fun hb=>?_)
 refine ak (fun i=>i≤a.length∧((a=b)↔a.drop i=b.drop i)) (fun i=>bH [] [(0,.c (.sl cr a)),(1,.c (.sl cr b)),(5,.i i)] []) (fun i=>a.length-i) 0 ⟨Nat.zero_le _,Iff.rfl⟩ (by exact ao (qf [])) ?_
 rintro i ⟨hi,hs⟩
 by_cases hlt:i<a.length
 ·have hlt2:i<b.length:=by omega
  rw [List.drop_eq_getElem_cons hlt,List.drop_eq_getElem_cons hlt2,List.cons.injEq] at hs
  obtain ⟨x,hx⟩:∃x,a[i]? = some x:=⟨_,List.getElem?_eq_getElem hlt⟩
  obtain ⟨y,hy⟩:∃y,b[i]? = some y:=⟨_,List.getElem?_eq_getElem hlt2⟩
  have ex:a[i]=x:=(List.getElem?_eq_some_iff.1 hx).2
  have ey:b[i]=y:=(List.getElem?_eq_some_iff.1 hy).2
  rw [ex,ey] at hs
  clear ex ey
  by_cases he:x=y
  ·subst he
   repeat' (first
    | refine ah ?_ ?_
    | refine af ?_
    | exact ai|(refine ae fun hb=>?_;first|(exact absurd rfl hb)|skip))
   refine ⟨i+1,⟨by omega,?_⟩,by omega,?_⟩
   ·rw [hs];simp
   ·exact ao (qf [])
  ·rw [decide_eq_false (fun e=>he (hs.1 e).1)]
   repeat' (first
    | refine ah ?_ ?_
    | refine af ?_
    | exact ai|(refine ae fun hb=>?_;first|(exact absurd hb he)|skip)
    | (refine aE (qf []) ?_;exact ab))
 ·rw [List.drop_eq_nil_of_le (by omega),List.drop_eq_nil_of_le (by omega)] at hs
  rw [decide_eq_true (hs.2 rfl)]
  repeat' (first
   | refine ah ?_ ?_
   | refine af ?_
   | exact ai|refine ae fun hb=>?_
   | (refine aE (qf []) ?_;exact ab))
theorem Mi (l:List Tm):(((l.length:Nat):Int) == 0)=decide (l=[]):=by
 rw [Bool.eq_iff_iff]
 cases l with
 | nil=>simp
 | cons x l=>simp;omega
def Cs.d (d:Nat) (c:Cs):List D:=[.sc (.int .i64 c.now),.sl ji c.queues,.sl (tF d) c.procs]
def Cs.a (d:Nat) (c:Cs):V0:=.ag (c.d d)
def JE (c:Cs) (a:Tm):Bool:=aV c.queues a.name && aH (bf c.queues a.name).res a.am
def K9 (c:Cs) (x:Pc):Bool:=Jd x.req && decide (x.since=0) && decide (ib x.led=go c.queues x.proc) && decide (cy x.proc c.queues=[])
def IC (c:Cs) (x:Pc):Bool:=qL x.req && decide (iy c.queues x.req.expr=0) && decide (0≤x.since) && decide (x.since≤c.now) && (decide (x.req.limit=0) || decide (c.now<x.since+x.req.limit)) && !ew x.req.expr (bC c.queues x.proc x.req.expr) && c.queues.all (fun q=>dE q x (cP x.req.expr))
theorem E9 (c:Cs) (x:Pc):qk c x=(fI x.proc && decide (1≤x.cost) && decide (x.cost≤1000) && qi x.led && decide (0≤x.gen) && decide (x.gen≤1073741824) && (ib x.led).all (JE c) && bif !x.waiting then K9 c x else IC c x):=rfl
theorem Fa (d:Nat) (c:Cs) (x:Pc) (hn:0≤c.now∧c.now≤1073741824) (hV:ez c.queues=true) {b:Bool} (hB:qk c x=b):FSpec prog 123 [c.a d,x.a d] [] [] (.b b) []:=by
 refine aX func123 ?_
 have hq8:=(cm hV).1
 rw [E9] at hB
 have kV:=d7 x.proc
 have kG:=ce x.led
 obtain ⟨v,hv⟩:∃v,fI x.proc=v:=⟨_,rfl⟩
 rw [hv] at kV
 cases v with
 | false =>
  obtain rfl:b=false:=by rw [←hB,hv];rfl
  repeat' (first
   | refine ah ?_ ?_
   | refine aa 9 rfl (cB [] (kV) ?_)
   | refine af ?_
   | exact ai|refine ae fun hb=>?_
   | (refine aE (qf []) ?_;exact ab))
 | true =>
  by_cases h1:1≤x.cost∧x.cost≤1000
  case neg =>
   obtain rfl:b=false:=by rw [←hB,show decide (1≤x.cost) = !decide (x.cost<1) by by_cases h:x.cost<1 <;> simp [h] <;> omega];by_cases h:x.cost<1 <;> simp [h] <;> omega
   by_cases h2:x.cost<1
   ·repeat' (first
     | refine ah ?_ ?_
     | refine aa 9 rfl (cB [] (kV) ?_)
     | refine af ?_
     | exact ai|refine ae fun hb=>?_
     | (refine aE (qf []) ?_;exact ab))
   ·repeat' (first
     | refine ah ?_ ?_
     | refine aa 9 rfl (cB [] (kV) ?_)
     | refine af ?_
     | exact ai|refine ae fun hb=>?_
     | (refine aE (qf []) ?_;exact ab))
  obtain ⟨h1,h2⟩:=h1
  rw [hv,decide_eq_true h1,decide_eq_true h2] at hB
  obtain ⟨g,hg⟩:∃g,qi x.led=g:=⟨_,rfl⟩
  rw [hg] at kG hB
  cases g with
  | false =>
   obtain rfl:b=false:=by rw [←hB];rfl
   repeat' (first
    | refine ah ?_ ?_
    | (refine aa 9 rfl ?_;first
     | (refine cB [] (kV) ?_)
     | (refine cB [] (kG) ?_))
    | refine af ?_
    | exact ai|refine ae fun hb=>?_
    | (refine aE (qf []) ?_;exact ab))
  | true =>
   by_cases h3:0≤x.gen∧x.gen≤1073741824
   case neg =>
    obtain rfl:b=false:=by rw [←hB];by_cases h:0≤x.gen <;> simp [h] <;> omega
    by_cases h4:x.gen<0
    ·repeat' (first
      | refine ah ?_ ?_
      | (refine aa 9 rfl ?_;first
       | (refine cB [] (kV) ?_)
       | (refine cB [] (kG) ?_))
      | refine af ?_
      | exact ai|refine ae fun hb=>?_
      | (refine aE (qf []) ?_;exact ab))
    ·repeat' (first
      | refine ah ?_ ?_
      | (refine aa 9 rfl ?_;first
       | (refine cB [] (kV) ?_)
       | (refine cB [] (kG) ?_))
      | refine af ?_
      | exact ai|refine ae fun hb=>?_
      | (refine aE (qf []) ?_;exact ab))
   obtain ⟨h3,h4⟩:=h3
   rw [decide_eq_true h3,decide_eq_true h4] at hB
   simp only [Bool.true_and] at hB
   have kH:=zJ x.led (f8 hg).1
   obtain ⟨L,hL⟩:∃L,ib x.led=L:=⟨_,rfl⟩
   have hL8:L.length≤8:=by
    rw [←hL]
    unfold ib
    exact Nat.le_trans (List.length_filter_le _ _) (by rw [List.length_map];exact (f5.1 hg).nms)
   rw [hL] at kH hB
   repeat' (first
    | refine ah ?_ ?_
    | (refine aa 9 rfl ?_;first
     | (refine cB [] (kV) ?_)
     | (refine cB [] (kG) ?_)
     | (refine cC [] (kH) ?_))
    | refine af ?_
    | exact ai|refine ae fun hb=>?_)
   refine ak (fun i=>i≤L.length∧(L.all (JE c)=(L.drop i).all (JE c))) (fun i=>bH [2,3] [(2,.c (.ptr 2 0)),(3,.c (.ptr 3 0)),(5,.c (.sl cr L)),(6,.i i)] [(2,.box 49 (c.d d)),(3,.box 38 (x.d d))]) (fun i=>L.length-i) 0 ⟨Nat.zero_le _,rfl⟩ (by exact ao (qf [])) ?_
   rintro i ⟨hi,hs⟩
   by_cases hlt:i<L.length
   ·obtain ⟨a,ha⟩:∃a,L[i]? = some a:=⟨_,List.getElem?_eq_getElem hlt⟩
    have ea:L[i]=a:=(List.getElem?_eq_some_iff.1 ha).2
    rw [List.drop_eq_getElem_cons hlt,ea,List.all_cons] at hs
    by_cases hk:bK a.name 0 c.queues<0
    ·have hf:JE c a=false:=by unfold JE aV;rw [decide_eq_false (by omega)];rfl
     obtain rfl:b=false:=by rw [←hB,hs,hf];rfl
     have kF:=mO c.queues a.name
     repeat' (first
      | refine ah ?_ ?_
      | refine aa 9 rfl (cB [] (kF) ?_)
      | refine af ?_
      | exact ai|refine ae fun hb=>?_
      | (refine aE (qf []) ?_;exact ab))
    ·obtain ⟨j,hj,hF,hqa,hx⟩:=f7 hk
     have kF:=cO c.queues a.name hF
     obtain ⟨q,hq⟩:∃q,c.queues[j]? = some q:=⟨_,List.getElem?_eq_getElem hj⟩
     have eq:c.queues[j]=q:=(List.getElem?_eq_some_iff.1 hq).2
     have hf:JE c a=aH q.res a.am:=by
      unfold JE aV bf
      rw [hqa,eq,decide_eq_true (by omega)]
      rfl
     have kR:=ii q.res a.am
     obtain ⟨f,hff⟩:∃f,aH q.res a.am=f:=⟨_,rfl⟩
     rw [hff] at kR hf
     rw [hf] at hs
     clear hF hk hqa hx
     cases f with
     | false =>
      obtain rfl:b=false:=by rw [←hB,hs];rfl
      repeat' (first
       | refine ah ?_ ?_
       | (refine aa 9 rfl ?_;first
        | (refine cB [] (kF) ?_)
        | (refine cB [] (kR) ?_))
       | refine af ?_
       | exact ai|refine ae fun hb=>?_
       | (refine aE (qf []) ?_;exact ab))
     | true =>
      repeat' (first
       | refine ah ?_ ?_
       | (refine aa 9 rfl ?_;first
        | (refine cB [] (kF) ?_)
        | (refine cB [] (kR) ?_))
       | refine af ?_
       | exact ai|refine ae fun hb=>?_)
      refine ⟨i+1,⟨by omega,?_⟩,by omega,?_⟩
      ·rw [hs,Bool.true_and]
      ·exact ao (qf [])
   rw [List.drop_eq_nil_of_le (by omega),List.all_nil] at hs
   rw [hs,Bool.true_and] at hB
   clear hs
   cases hw:x.waiting with
   | false =>
    rw [hw,Bool.not_false,cond_true] at hB
    rw [←hB]
    have kA:=Cq d x.req
    have kO:=CF c.queues x.proc (by omega)
    have kS:=sS L (go c.queues x.proc)
    have kC:=HK c.queues x.proc (by omega)
    repeat' (first
     | refine ah ?_ ?_
     | (refine aa 9 rfl ?_;first
      | (refine cB [] (kA) ?_)
      | (refine cC [] (kO) ?_)
      | (refine cB [] (kS) ?_)
      | (refine cC [] (kC) ?_))
     | refine af ?_
     | exact ai|(refine ae fun hb=>?_;first|(cases hw.symm.trans hb;done)|skip))
    all_goals (refine gz ?_;rw [←hL] at *;simp [K9,Mi, *])
   | true =>
    rw [hw,Bool.not_true,cond_false] at hB
    unfold IC at hB
    have kQ:=se d x.req
    have kC:=xR c.queues (by omega)
    have kR:=KS d c.queues x.req.expr hV
    obtain ⟨rq,hrq⟩:∃rq,qL x.req=rq:=⟨_,rfl⟩
    rw [hrq] at kQ hB
    cases rq with
    | false =>
     obtain rfl:b=false:=by rw [←hB];rfl
     repeat' (first
      | refine ah ?_ ?_
      | refine aa 9 rfl (cB [] (kQ) ?_)
      | refine af ?_
      | exact ai|(refine ae fun hb=>?_;first|(cases hw.symm.trans hb;done)|skip)
      | (refine aE (qf []) ?_;exact ab))
    | true =>
     obtain ⟨e,he⟩:∃e,iy c.queues x.req.expr=e:=⟨_,rfl⟩
     rw [he] at kR hB
     by_cases h0:e=0
     case neg =>
      obtain rfl:b=false:=by rw [←hB,decide_eq_false h0];rfl
      repeat' (first
       | refine ah ?_ ?_
       | (refine aa 9 rfl ?_;first
        | (refine cB [] (kQ) ?_)
        | (refine cC [] (kC) ?_)
        | (refine cB [] (kR) ?_))
       | refine af ?_
       | exact ai|(refine ae fun hb=>?_;first|(cases hw.symm.trans hb;done)|(exact absurd hb h0)|skip)
       | (refine aE (qf []) ?_;exact ab))
     subst h0
     have hlim:0≤x.req.limit∧x.req.limit≤1000:=by
      unfold qL at hrq
      simp only [Bool.and_eq_true,decide_eq_true_eq] at hrq
      exact ⟨hrq.1.2,hrq.2⟩
     have hgl:(bC c.queues x.proc x.req.expr).length≤1000:=by have:=dh x.req.expr;simp [bC];omega
     have kGr:=ld d c.queues x.proc x.req.expr
     have kHo:=sb d x.req.expr (bC c.queues x.proc x.req.expr) hgl
     obtain ⟨T,hT⟩:∃T,cP x.req.expr=T:=⟨_,rfl⟩
     rw [hT] at hB
     have kAt:=ja d x.req.expr hT
     by_cases hsn:0≤x.since∧x.since≤c.now
     case neg =>
      obtain rfl:b=false:=by rw [←hB];by_cases h:0≤x.since <;> simp [h] <;> omega
      by_cases h9:x.since<0
      ·repeat' (first
        | refine ah ?_ ?_
        | (refine aa 9 rfl ?_;first
         | (refine cB [] (kQ) ?_)
         | (refine cC [] (kC) ?_)
         | (refine cB [] (kR) ?_))
        | refine af ?_
        | exact ai|(refine ae fun hb=>?_;first|(cases hw.symm.trans hb;done)|skip)
        | (refine aE (qf []) ?_;exact ab))
      ·repeat' (first
        | refine ah ?_ ?_
        | (refine aa 9 rfl ?_;first
         | (refine cB [] (kQ) ?_)
         | (refine cC [] (kC) ?_)
         | (refine cB [] (kR) ?_))
        | refine af ?_
        | exact ai|(refine ae fun hb=>?_;first|(cases hw.symm.trans hb;done)|skip)
        | (refine aE (qf []) ?_;exact ab))
     obtain ⟨hs1,hs2⟩:=hsn
     rw [decide_eq_true hs1,decide_eq_true hs2] at hB
     simp only [decide_true,Bool.true_and] at hB
     by_cases hli:x.req.limit=0∨c.now<x.since+x.req.limit
     case neg =>
      obtain rfl:b=false:=by rw [←hB,decide_eq_false (fun h=>hli (.inl h)),decide_eq_false (fun h=>hli (.inr h))];rfl
      rw [not_or] at hli
      obtain ⟨hl1,hl2⟩:=hli
      repeat' (first
       | refine ah ?_ ?_
       | (refine aa 9 rfl ?_;first
        | (refine cB [] (kQ) ?_)
        | (refine cC [] (kC) ?_)
        | (refine cB [] (kR) ?_))
       | refine af ?_
       | exact ai|(refine ae fun hb=>?_;first|(cases hw.symm.trans hb;done)|(exact absurd hb hl1)|skip)
       | (refine aE (qf []) ?_;exact ab))
     have hli':(decide (x.req.limit=0) || decide (c.now<x.since+x.req.limit))=true:=by simpa using hli
     rw [hli',Bool.true_and] at hB
     obtain ⟨ho,hho⟩:∃ho,ew x.req.expr (bC c.queues x.proc x.req.expr)=ho:=⟨_,rfl⟩
     rw [hho] at kHo hB
     cases ho with
     | true =>
      obtain rfl:b=false:=by rw [←hB];rfl
      rcases hli with hl1|hl1
      ·repeat' (first
        | refine ah ?_ ?_
        | (refine aa 9 rfl ?_;first
         | (refine cB [] (kQ) ?_)
         | (refine cC [] (kC) ?_)
         | (refine cB [] (kR) ?_)
         | (refine cC [] (kGr) ?_)
         | (refine cB [] (kHo) ?_))
        | refine af ?_
        | exact ai|(refine ae fun hb=>?_;first|(cases hw.symm.trans hb;done)|(exact absurd hl1 hb)|skip)
        | (refine aE (qf []) ?_;exact ab))
      ·by_cases hl2:x.req.limit=0
       ·repeat' (first
         | refine ah ?_ ?_
         | (refine aa 9 rfl ?_;first
          | (refine cB [] (kQ) ?_)
          | (refine cC [] (kC) ?_)
          | (refine cB [] (kR) ?_)
          | (refine cC [] (kGr) ?_)
          | (refine cB [] (kHo) ?_))
         | refine af ?_
         | exact ai|(refine ae fun hb=>?_;first|(cases hw.symm.trans hb;done)|(exact absurd hl2 hb)|skip)
         | (refine aE (qf []) ?_;exact ab))
       ·repeat' (first
         | refine ah ?_ ?_
         | (refine aa 9 rfl ?_;first
          | (refine cB [] (kQ) ?_)
          | (refine cC [] (kC) ?_)
          | (refine cB [] (kR) ?_)
          | (refine cC [] (kGr) ?_)
          | (refine cB [] (kHo) ?_))
         | refine af ?_
         | exact ai|(refine ae fun hb=>?_;first|(cases hw.symm.trans hb;done)|(exact absurd hb hl2)|skip)
         | (refine aE (qf []) ?_;exact ab))
     | false =>
      rw [Bool.not_false,Bool.true_and] at hB
      obtain ⟨F,hF⟩:∃F:Qu→Bool,(fun q=>dE q x T)=F:=⟨_,rfl⟩
      have hF':∀q,dE q x T=F q:=fun q=>congrFun hF q
      rw [hF] at hB
      by_cases hl2:x.req.limit=0
      case' pos =>
       repeat' (first
        | refine ah ?_ ?_
        | (refine aa 9 rfl ?_;first
         | (refine cB [] (kQ) ?_)
         | (refine cC [] (kC) ?_)
         | (refine cB [] (kR) ?_)
         | (refine cC [] (kGr) ?_)
         | (refine cB [] (kHo) ?_)
         | (refine cC [] (kAt) ?_))
        | refine af ?_
        | exact ai|(refine ae fun hb=>?_;first|(cases hw.symm.trans hb;done)|(exact absurd hl2 hb)|skip))
      case' neg =>
       repeat' (first
        | refine ah ?_ ?_
        | (refine aa 9 rfl ?_;first
         | (refine cB [] (kQ) ?_)
         | (refine cC [] (kC) ?_)
         | (refine cB [] (kR) ?_)
         | (refine cC [] (kGr) ?_)
         | (refine cB [] (kHo) ?_)
         | (refine cC [] (kAt) ?_))
        | refine af ?_
        | exact ai|(refine ae fun hb=>?_;first|(cases hw.symm.trans hb;done)|(exact absurd hb hl2)|skip))
      all_goals
       refine ak (fun i=>i≤c.queues.length∧(c.queues.all F=(c.queues.drop i).all F)) (fun i=>bH [2,3] [(2,.c (.ptr 2 0)),(3,.c (.ptr 3 0)),(9,.c (.sl cr T)),(10,.i i)] [(2,.box 49 (c.d d)),(3,.box 38 (x.d d))]) (fun i=>c.queues.length-i) 0 ⟨Nat.zero_le _,rfl⟩ (by exact ao (qf [])) ?_
       clear kAt kHo kGr kR kC kQ hli'
       rintro i ⟨hi,hs⟩
       by_cases hlt:i<c.queues.length
       ·obtain ⟨q,hq⟩:∃q,c.queues[i]? = some q:=⟨_,List.getElem?_eq_getElem hlt⟩
        have eq:c.queues[i]=q:=(List.getElem?_eq_some_iff.1 hq).2
        rw [List.drop_eq_getElem_cons hlt,eq,List.all_cons] at hs
        have kP:=K8 d q x T
        rw [hF'] at kP
        obtain ⟨f,hff⟩:∃f,F q=f:=⟨_,rfl⟩
        rw [hff] at kP hs
        cases f with
        | false =>
         obtain rfl:b=false:=by rw [←hB,hs];rfl
         repeat' (first
          | refine ah ?_ ?_
          | refine aa 9 rfl (cB [] (kP) ?_)
          | refine af ?_
          | exact ai|refine ae fun hb=>?_
          | (refine aE (qf []) ?_;exact ab))
        | true =>
         repeat' (first
          | refine ah ?_ ?_
          | refine aa 9 rfl (cB [] (kP) ?_)
          | refine af ?_
          | exact ai|refine ae fun hb=>?_)
         refine ⟨i+1,⟨by omega,?_⟩,by omega,?_⟩
         ·rw [hs,Bool.true_and]
         ·exact ao (qf [])
       ·rw [List.drop_eq_nil_of_le (by omega),List.all_nil] at hs
        obtain rfl:b=true:=by rw [←hB,hs]
        repeat' (first
         | refine ah ?_ ?_
         | refine af ?_
         | exact ai|refine ae fun hb=>?_
         | (refine aE (qf []) ?_;exact ab))
theorem CG (c:Cs) (o:Option Pr) (x:Pc) (l:List Pc):xE c o (x :: l)=(qk c x && Io o x.proc && xE c (some x.proc) l):=rfl
theorem Bg (d:Nat) (c:Cs) {b:Bool} (hB:fB c=b):FSpec prog 89 [c.a d] [] [] (.b b) []:=by
 refine aX func89 ?_
 unfold fB at hB
 have kV:=dg c.queues
 obtain ⟨v,hv⟩:∃v,ez c.queues=v:=⟨_,rfl⟩
 rw [hv] at kV
 by_cases h1:0≤c.now∧c.now≤1073741824
 case neg =>
  obtain rfl:b=false:=by rw [←hB];by_cases h:0≤c.now <;> simp [h] <;> omega
  by_cases h2:c.now<0
  ·repeat' (first
    | refine ah ?_ ?_
    | refine af ?_
    | exact ai|refine ae fun hb=>?_
    | (refine aE (qf []) ?_;exact ab))
  ·repeat' (first
    | refine ah ?_ ?_
    | refine af ?_
    | exact ai|refine ae fun hb=>?_
    | (refine aE (qf []) ?_;exact ab))
 have hn:=h1
 obtain ⟨h1,h2⟩:=h1
 rw [hv,decide_eq_true h1,decide_eq_true h2] at hB
 cases v with
 | false =>
  obtain rfl:b=false:=by rw [←hB];rfl
  repeat' (first
   | refine ah ?_ ?_
   | refine aa 9 rfl (cB [] (kV) ?_)
   | refine af ?_
   | exact ai|refine ae fun hb=>?_
   | (refine aE (qf []) ?_;exact ab))
 | true =>
  have hp8:=cm hv
  by_cases h8:c.procs.length≤8
  case neg =>
   obtain rfl:b=false:=by rw [←hB,decide_eq_false h8];rfl
   repeat' (first
    | refine ah ?_ ?_
    | refine aa 9 rfl (cB [] (kV) ?_)
    | refine af ?_
    | exact ai|refine ae fun hb=>?_
    | (refine aE (qf []) ?_;exact ab))
  rw [decide_eq_true h8] at hB
  simp only [Bool.true_and] at hB
  obtain ⟨L,hL⟩:∃L,az c.queues=L:=⟨_,rfl⟩
  have kP:=n7 c.queues (by omega) (fun q hq=>mQ (dJ hv hq))
  have hLl:L.length≤8:=by rw [←hL];exact hp8.2.2
  rw [hL] at kP hB
  obtain ⟨G,hG⟩:∃G:Pr→Bool,(fun p=>decide (0≤fo p 0 c.procs))=G:=⟨_,rfl⟩
  have hG':∀p,decide (0≤fo p 0 c.procs)=G p:=fun p=>congrFun hG p
  rw [hG] at hB
  repeat' (first
   | refine ah ?_ ?_
   | (refine aa 9 rfl ?_;first
    | (refine cB [] (kV) ?_)
    | (refine cC [] (kP) ?_))
   | refine af ?_
   | exact ai|refine ae fun hb=>?_)
  refine ak (fun i=>i≤L.length∧(L.all G=(L.drop i).all G)) (fun i=>bH [1] [(1,.c (.ptr 1 0)),(3,.c (.sl iz L)),(4,.i i)] [(1,.box 49 (c.d d))]) (fun i=>L.length-i) 0 ⟨Nat.zero_le _,rfl⟩ (by exact ao (qf [])) ?_
  rintro i ⟨hi,hs⟩
  by_cases hlt:i<L.length
  ·obtain ⟨p,hp⟩:∃p,L[i]? = some p:=⟨_,List.getElem?_eq_getElem hlt⟩
   have ep:L[i]=p:=(List.getElem?_eq_some_iff.1 hp).2
   rw [List.drop_eq_getElem_cons hlt,ep,List.all_cons] at hs
   obtain ⟨ix,hix⟩:∃ix,fo p 0 c.procs=ix:=⟨_,rfl⟩
   have kI:=wn c.procs d p hix
   have hgp:=hG' p
   rw [hix] at hgp
   by_cases h0:0≤ix
   ·rw [decide_eq_true h0] at hgp
    repeat' (first
     | refine ah ?_ ?_
     | refine aa 9 rfl (cB [] (kI) ?_)
     | refine af ?_
     | exact ai|refine ae fun hb=>?_)
    refine ⟨i+1,⟨by omega,?_⟩,by omega,?_⟩
    ·rw [hs,←hgp,Bool.true_and]
    ·exact ao (qf [])
   ·rw [decide_eq_false h0] at hgp
    obtain rfl:b=false:=by rw [←hB,hs,←hgp];rfl
    repeat' (first
     | refine ah ?_ ?_
     | refine aa 9 rfl (cB [] (kI) ?_)
     | refine af ?_
     | exact ai|refine ae fun hb=>?_
     | (refine aE (qf []) ?_;exact ab))
  rw [List.drop_eq_nil_of_le (by omega),List.all_nil] at hs
  rw [hs,Bool.true_and] at hB
  clear hs hG hG' kP kV
  repeat' (first
   | refine ah ?_ ?_
   | refine af ?_
   | exact ai|refine ae fun hb=>?_)
  refine ak (fun y:Nat×Option Pr=>y.1≤c.procs.length∧(y.1=0∧y.2=none∨0<y.1∧∃z,c.procs[((y.1:Int)-1).toNat]? = some z∧y.2=some z.proc)∧xE c y.2 (c.procs.drop y.1)=b) (fun y=>bH [1] [(1,.c (.ptr 1 0)),(5,.i y.1)] [(1,.box 49 (c.d d))]) (fun y=>c.procs.length-y.1) (0,none) ⟨Nat.zero_le _,.inl ⟨rfl,rfl⟩,hB⟩ (by exact ao (qf [])) ?_
  clear hB
  rintro ⟨i,o⟩ ⟨hi,ho,hs⟩
  dsimp only at *
  by_cases hlt:i<c.procs.length
  ·obtain ⟨x,hx⟩:∃x,c.procs[i]? = some x:=⟨_,List.getElem?_eq_getElem hlt⟩
   have ex:c.procs[i]=x:=(List.getElem?_eq_some_iff.1 hx).2
   rw [List.drop_eq_getElem_cons hlt,ex,CG] at hs
   obtain ⟨pb,hpb⟩:∃pb,qk c x=pb:=⟨_,rfl⟩
   have kP:=Fa d c x hn hv hpb
   rw [hpb] at hs
   have hx2:c.procs[((i+1:Nat):Int).toNat-1]? = some x:=by rw [←hx];congr 1
   cases pb with
   | false =>
    obtain rfl:b=false:=hs.symm
    repeat' (first
     | refine ah ?_ ?_
     | refine aa 9 rfl (cB [] (kP) ?_)
     | refine af ?_
     | exact ai|refine ae fun hb=>?_
     | (refine aE (qf []) ?_;exact ab))
   | true =>
    rw [Bool.true_and] at hs
    rcases ho with ⟨h0,rfl⟩|⟨h0,z,hz,rfl⟩
    ·rw [show Io none x.proc=true from rfl,Bool.true_and] at hs
     repeat' (first
      | refine ah ?_ ?_
      | refine aa 9 rfl (cB [] (kP) ?_)
      | refine af ?_
      | exact ai|refine ae fun hb=>?_)
     refine ⟨(i+1,some x.proc),⟨by dsimp only;omega,.inr ⟨by dsimp only;omega,x,?_,rfl⟩,hs⟩,by dsimp only;omega,?_⟩
     ·dsimp only
      rw [←hx]
      congr 1
      omega
     ·exact ao (qf [])
    ·have kC:=ij z.proc x.proc
     obtain ⟨e,he⟩:∃e,cU z.proc x.proc=e:=⟨_,rfl⟩
     rw [show Io (some z.proc) x.proc=decide (cU z.proc x.proc<0) from rfl,he] at hs
     rw [he] at kC
     by_cases hneg:e<0
     ·rw [decide_eq_true hneg,Bool.true_and] at hs
      repeat' (first
       | refine ah ?_ ?_
       | (refine aa 9 rfl ?_;first
        | (refine cB [] (kP) ?_)
        | (refine cB [] (kC) ?_))
       | refine af ?_
       | exact ai|refine ae fun hb=>?_)
      refine ⟨(i+1,some x.proc),⟨by dsimp only;omega,.inr ⟨by dsimp only;omega,x,?_,rfl⟩,hs⟩,by dsimp only;omega,?_⟩
      ·dsimp only
       rw [←hx]
       congr 1
       omega
      ·exact ao (qf [])
     ·rw [decide_eq_false hneg] at hs
      obtain rfl:b=false:=hs.symm
      repeat' (first
       | refine ah ?_ ?_
       | (refine aa 9 rfl ?_;first
        | (refine cB [] (kP) ?_)
        | (refine cB [] (kC) ?_))
       | refine af ?_
       | exact ai|refine ae fun hb=>?_
       | (refine aE (qf []) ?_;exact ab))
  ·rw [List.drop_eq_nil_of_le (by omega)] at hs
   obtain rfl:b=true:=hs.symm
   repeat' (first
    | refine ah ?_ ?_
    | refine af ?_
    | exact ai|refine ae fun hb=>?_
    | (refine aE (qf []) ?_;exact ab))
theorem JF (d:Nat) (c:Cs) (h1:c.queues.length≤100000) (h2:c.procs.length≤100000):FSpec prog 99 [c.a d] [] [1,2] (.v (.ag [.sc (.int .i64 c.now),.own 1,.own 2])) [(1,some (.arr 165 ji c.queues)),(2,some (.arr 38 (tF d) c.procs))]:=by
 refine aX func99 ?_
 repeat' (first
  | refine ah ?_ ?_
  | refine af ?_
  | exact ai|refine ae fun hb=>?_
  | (refine aE (qf [(1,6),(2,11)]) ?_;exact ab))
def MD (d:Nat) (R:Cs×List Ev×Int):TV:=.tup [R.1.a d,.one (.sl ql R.2.1),.one (.sc (.int .i64 R.2.2))]
theorem ME (d:Nat) (c:Cs) (k:Cm) {R:Cs×List Ev×Int} (hR:Ch c k=R):FSpec prog 61 [c.a d,k.a d] [] [] (MD d R) []:=by
 refine aX func61 ?_
 unfold Ch at hR
 obtain ⟨v,hv⟩:∃v,fB c=v:=⟨_,rfl⟩
 have kV:=Bg d c hv
 rw [hv] at hR
 cases v with
 | false =>
  obtain rfl:R=(LF,[],2):=hR.symm
  repeat' (first
   | refine ah ?_ ?_
   | refine aa 9 rfl (cB [] (kV) ?_)
   | refine af ?_
   | exact ai|refine ae fun hb=>?_
   | (refine eR (qf []) ?_;exact ab))
 | true =>
  rw [Bool.not_true,cond_false] at hR
  obtain ⟨hci,hun⟩:=fh.1 hv
  obtain ⟨Z,hZ⟩:∃Z,DY ⟨c,[]⟩ k=Z:=⟨_,rfl⟩
  have kD:=Mh d ⟨c,[]⟩ k hci (fun x hx=>pH (hun x hx)) (by simp) hZ
  have kC:=JF d c (by have:=(cm hci.tv).1;omega) (by have:=hci.len;omega)
  rw [hZ] at hR
  repeat' (first
   | refine ah ?_ ?_
   | (refine aa 9 rfl ?_;first
    | (refine cB [] (kV) ?_)
    | (refine cH (qf [(1,1001),(2,1002)]) (kC) ?_))
   | ((fail_if_success (first|refine ul 4 ?_|refine um 4 ?_));refine af ?_)
   | exact ai|refine ae fun hb=>?_)
  refine pp 1001 rfl ?_
  refine D8 16 2 1002 rfl rfl rfl rfl ?_
  refine fC 16 3 1003 296 ql rfl rfl rfl rfl ?_
  by_cases h0:Z.2=0
  ·rw [decide_eq_true h0] at hR
   obtain rfl:R=(Z.1.c,Z.1.ev,0):=hR.symm
   repeat' (first
    | refine ah ?_ ?_
    | refine aa 9 rfl (cH (qf [(0,16),(1,1002),(2,1003),(3,1004),(4,1005)]) (kD) ?_)
    | refine af ?_
    | exact ai|refine ae fun hb=>?_
    | (refine eR (qf []) ?_;exact ab))
  ·rw [decide_eq_false h0] at hR
   obtain rfl:R=(LF,[],Z.2):=hR.symm
   repeat' (first
    | refine ah ?_ ?_
    | refine aa 9 rfl (cH (qf [(0,16),(1,1002),(2,1003),(3,1004),(4,1005)]) (kD) ?_)
    | refine af ?_
    | exact ai|refine ae fun hb=>?_
    | (refine eR (qf []) ?_;exact ab))
end Go.Proofs.YtdaajdflefnjfaaGreat
