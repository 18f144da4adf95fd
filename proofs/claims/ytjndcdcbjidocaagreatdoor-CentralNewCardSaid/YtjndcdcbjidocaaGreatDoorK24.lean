/- Part 24 of 35 of the proof of centralNew_holds (no condition). -/
import Derived.Test.YtjndcdcbjidocaaGreatDoorK23
set_option linter.unusedVariables false
set_option linter.unusedSimpArgs false
set_option maxRecDepth 100000
set_option maxHeartbeats 64000000
namespace Go.Proofs.YtjndcdcbjidocaaGreatDoor
open Go.RowKit Go.Proofs.Tryz
theorem Bg {N:List ByteArray} (hnd:N.Nodup):lQ (d7 N):=by
 have hp:=List.mergeSort_perm N fun x y=>!(ltOf iJ) y x
 have hs:(d7 N).Pairwise fun a b=>(!(ltOf iJ) b a)=true:=List.pairwise_mergeSort (fun a b c h1 h2=>by
  simp only [Bool.not_eq_true'] at *
  exact gN.ntrans c b a h2 h1) (fun a b=>by
  cases h1:ltOf iJ b a with
  | false=>rfl
  | true =>
   cases h2:ltOf iJ a b with
   | false=>rfl
   | true=>have:=gN.trans _ _ _ h1 h2;rw [gN.irrefl] at this;cases this) N
 have hn2:(d7 N).Nodup:=(hp.nodup_iff).2 hnd
 refine (hs.and hn2).imp fun {a b} ⟨h1,h2⟩=>?_
 rw [s9,Bool.not_eq_true'] at h1
 exact mw h1 (fun e=>h2 e.symm)
theorem Bh {N:List ByteArray} {x:ByteArray}:x∈d7 N↔x∈N:=(List.mergeSort_perm N fun x y=>!(ltOf iJ) y x).mem_iff
theorem g4 {β:Type} {z:β} {x:ByteArray×β}:∀{m:List (ByteArray×β)},(m.map (·.1)).Nodup→x∈m→lX z x.1 m=x.2
 | y :: m,hn,hx=>by
  obtain ⟨h1,h2⟩:=List.nodup_cons.1 hn
  show (bif aY y.1 x.1 then y.2 else lX z x.1 m)=x.2
  rcases List.mem_cons.1 hx with rfl|hx
  ·rw [aZ.2 rfl];rfl
  ·rw [bR.2 (fun e=>h1 (by show y.1∈m.map (·.1);rw [e];exact List.mem_map.2 ⟨x,hx,rfl⟩))]
   exact g4 h2 hx
def zG (m:List (ByteArray×Am)) (seen:List Nat):List ByteArray:=((seen.filterMap fun j=>m[j]?).filter fun x=>!aG x.2).map (·.1)
theorem FU {m:List (ByteArray×Am)} {seen:List Nat} {j:Nat} {x:ByteArray×Am} (h:m[j]? = some x):zG m (seen++[j])=zG m seen++bif aG x.2 then [] else [x.1]:=by
 unfold zG
 rw [List.filterMap_append,List.filter_append,List.map_append]
 congr 1
 cases hz:aG x.2 <;> simp [h,hz]
theorem DS (m:List (ByteArray×Am)) (seen:List Nat):(zG m seen).length≤seen.length:=by
 unfold zG
 rw [List.length_map]
 exact Nat.le_trans (List.length_filter_le _ _) (List.length_filterMap_le _ _)
theorem Ic {l:List En} {m:List (ByteArray×Am)} (hm:eo l=m) {seen:List Nat} (hn:seen.Nodup) (hs:∀j∈seen,j<m.length) (ha:∀j,j<m.length→j∈seen):d7 (zG m seen)=(bE l).filter fun n=>!aG (az l n):=by
 have hk:(m.map (·.1)).Nodup:=by rw [←hm];exact gt l [] (by simp)
 have hsub:(zG m seen).Sublist (gZ m seen):=List.Sublist.map _ List.filter_sublist
 have hnd:(zG m seen).Nodup:=hsub.nodup ((wQ hn hs ha).nodup_iff.2 hk)
 refine qQ (Bg hnd) ((fD l).filter _) fun x=>?_
 rw [Bh,List.mem_filter,dC]
 unfold zG
 rw [List.mem_map]
 constructor
 ·rintro ⟨y,hy,rfl⟩
  obtain ⟨hy1,hy2⟩:=List.mem_filter.1 hy
  obtain ⟨j,_,hj⟩:=List.mem_filterMap.1 hy1
  have hym:y∈m:=List.mem_of_getElem? hj
  have hg:nL y.1 m=y.2:=g4 hk hym
  rw [←hm,gx] at hg
  refine ⟨?_,by rw [hg];exact hy2⟩
  have h3:y.1∈(dL [] l).map (·.1):=List.mem_map.2 ⟨y,by show y∈eo l;rw [hm];exact hym,rfl⟩
  rw [jd] at h3
  simpa using h3
 ·rintro ⟨h1,h2⟩
  have h3:x∈(dL [] l).map (·.1):=(jd l []).2 (.inr h1)
  obtain ⟨y,hy,rfl⟩:=List.mem_map.1 h3
  have hym:y∈m:=by rw [←hm];exact hy
  obtain ⟨j,hj,e⟩:=List.getElem_of_mem hym
  have hg:nL y.1 m=y.2:=g4 hk hym
  rw [←hm,gx] at hg
  refine ⟨y,List.mem_filter.2 ⟨List.mem_filterMap.2 ⟨j,ha j hj,by rw [List.getElem?_eq_getElem hj,e]⟩,?_⟩,rfl⟩
  rw [←hg]
  exact h2
theorem DT (g:Lg):dX g=((bE g.entries).filter fun n=>!aG (az g.entries n)).map (mZ (az g.entries)):=by
 unfold dX
 rw [List.filter_map]
 rfl
theorem DU (g:Lg) (hl:g.entries.length≤72) {R:List Tm} (hR:dX g=R):FSpec prog 50 [g.a] [] [] (.c (.sl bV R)) []:=by
 refine aS func50 ?_
 obtain ⟨H,hH⟩:∃H:ByteArray→Am,az g.entries=H:=⟨_,rfl⟩
 have k2:=zp g.entries
 obtain ⟨m,hm⟩:∃m,eo g.entries=m:=⟨_,rfl⟩
 have hfin:∀seen:List Nat,seen.Nodup→(∀j∈seen,j<m.length)→(∀j,j<m.length→j∈seen)→(d7 (zG m seen)).map (mZ H)=R:=fun seen q1 q2 q3=>by
  rw [←hR,DT,Ic hm q1 q2 q3,hH]
 have hgm:∀(j:Nat) (x:ByteArray×Am),m[j]? = some x→x.2=H x.1:=fun j x hx=>by
  have hk:(m.map (·.1)).Nodup:=by rw [←hm];exact gt g.entries [] (by simp)
  have hg:nL x.1 m=x.2:=g4 hk (List.mem_of_getElem? hx)
  rw [←hg,←hm,gx,hH]
 have hm9:m.length≤100000:=by
  have q1:=mV g.entries
  have q2:=fY g.entries []
  rw [hm] at q1
  unfold bE at q1
  simp at q2
  omega
 rw [hm] at k2
 clear hR hm hH
 repeat' (first
  | refine ah ?_ ?_
  | refine aa 9 rfl (cH (qf [(0,1004)]) (k2) ?_)
  | (refine aa 25 rfl ?_;refine sx (s8 qP rfl rfl rfl rfl) ?_)
  | refine af ?_
  | exact ai|refine ae fun hb=>?_)
 refine b8 3 1000 39 bV rfl rfl rfl ?_
 refine aj (fun seen:List Nat=>seen.Nodup∧∀j∈seen,j<m.length) (fun seen=>bH [9,1000,1004] [(3,.c (.own 1000)),(9,.c (.own 9))] [(9,.it 1004 (ut m).length seen),(1000,.arr 39 bV ((zG m seen).map (mZ H))),(1004,.mp (ut m))]) (fun seen=>m.length-seen.length) [] ⟨by simp,by simp⟩ (by exact ao (qf [])) ?_
 rintro seen ⟨hn,hs⟩
 refine pE (zr (L:=ut m) (n:=(ut m).length) rfl rfl rfl rfl rfl rfl rfl rfl rfl rfl rfl rfl (fun j hj hjs=>?_) (fun hall=>?_))
 ·have hj:j<m.length:=by simpa [ji] using hj
  obtain ⟨x,hx⟩:∃x,m[j]? = some x:=⟨_,List.getElem?_eq_getElem hj⟩
  have hT:=FU (seen:=seen) hx
  have hxe:=hgm j x hx
  obtain ⟨n,a⟩:=x
  obtain rfl:a=H n:=hxe
  have hx2:(ut m)[j]? = some (.string n,Hw (H n)):=by simp [ji,hx]
  dsimp only at hT
  have hls:=iK hn hs
  have hn2:(seen++[j]).Nodup:=List.nodup_append.2 ⟨hn,by simp,fun b hb c hc=>by rw [List.mem_singleton] at hc;subst hc;exact fun e=>hjs (e▸hb)⟩
  have hs2:∀k∈seen++[j],k<m.length:=fun k hk=>by
   rcases List.mem_append.1 hk with hk|hk
   ·exact hs k hk
   ·rw [List.mem_singleton] at hk;subst hk;exact hj
  have hls2:=iK hn2 hs2
  have hcl:((zG m seen).map (mZ H)).length≤100000:=by
   have:=DS m seen
   rw [List.length_map]
   omega
  generalize hC:(zG m seen).map (mZ H)=C at *
  show AW _ _ _ _ _ _
  by_cases hz:H n=⟨0,0⟩
  ·rw [hz,show aG ⟨0,0⟩=true from rfl,cond_true,List.append_nil] at hT
   repeat' (first
    | refine ah ?_ ?_
    | (refine aa 27 rfl ?_;refine sx (nO (y:=(H n).a) rfl rfl rfl rfl rfl hx2 (fun _ _ _=>⟨_,rfl,rfl,rfl,trivial⟩) (fun _=>rfl)) ?_)
    | refine af ?_
    | exact ai|(refine ae fun hb=>?_;first|(exact absurd hz hb)|skip))
   refine ⟨seen++[j],⟨hn2,hs2⟩,by simp at hls2 ⊢;omega,?_⟩
   rw [hT,hC]
   exact ao (qf [])
  ·rw [bo.2 hz,cond_false] at hT
   repeat' (first
    | refine ah ?_ ?_
    | (refine aa 8 rfl ?_;refine bg (aw rfl rfl (aL rfl rfl) (aP [mZ H n] rfl rfl rfl rfl) rfl aR aR) rfl rfl rfl ?_)
    | (refine aa 27 rfl ?_;refine sx (nO (y:=(H n).a) rfl rfl rfl rfl rfl hx2 (fun _ _ _=>⟨_,rfl,rfl,rfl,trivial⟩) (fun _=>rfl)) ?_)
    | refine af ?_
    | exact ai|(refine ae fun hb=>?_;first|(exact absurd hb hz)|skip))
   refine ⟨seen++[j],⟨hn2,hs2⟩,by simp at hls2 ⊢;omega,?_⟩
   rw [hT,List.map_append,hC]
   exact ao (qf [(1000,23)])
 ·have hM:=hfin seen hn hs fun j hj=>hall j (by simpa [ji] using hj)
  have kS:=DK H (zG m seen) (by
   have:=DS m seen
   have:=iK hn hs
   omega)
  rw [hM] at kS
  show AW _ _ _ _ _ _
  repeat' (first
   | refine ah ?_ ?_
   | refine aa 9 rfl (cH (qf [(0,1000)]) (kS) ?_)
   | refine af ?_
   | exact ai|refine ae fun hb=>?_
   | (refine aE (qf []) ?_;exact ab))
theorem te (c:Cs) (o:Option Pr) (x:Pc) (l:List Pc):tV c o (x :: l)=(lr c x && D3 o x.proc && tV c (some x.proc) l):=rfl
theorem FV (d:Nat) (c:Cs) {b:Bool} (hB:eH c=b):FSpec prog 10 [c.a d] [] [] (.b b) []:=by
 refine aS func10 ?_
 unfold eH at hB
 have kV:=E6 c.queues
 obtain ⟨v,hv⟩:∃v,df c.queues=v:=⟨_,rfl⟩
 rw [hv] at kV
 by_cases h1:0≤c.now∧c.now≤1073741824
 case neg =>
  obtain rfl:b=false:=by rw [←hB];by_cases h:0≤c.now <;> simp [h] <;> omega
  by_cases h2:c.now<0
  ·repeat' (first
    | refine ah ?_ ?_
    | refine af ?_
    | exact ai|refine ae fun hb=>?_
    | (refine aE (qf []) ?_;exact ab))
  ·repeat' (first
    | refine ah ?_ ?_
    | refine af ?_
    | exact ai|refine ae fun hb=>?_
    | (refine aE (qf []) ?_;exact ab))
 have hn:=h1
 obtain ⟨h1,h2⟩:=h1
 rw [hv,decide_eq_true h1,decide_eq_true h2] at hB
 cases v with
 | false =>
  obtain rfl:b=false:=by rw [←hB];rfl
  repeat' (first
   | refine ah ?_ ?_
   | refine aa 9 rfl (cB [] (kV) ?_)
   | refine af ?_
   | exact ai|refine ae fun hb=>?_
   | (refine aE (qf []) ?_;exact ab))
 | true =>
  have hp8:=bD hv
  by_cases h8:c.procs.length≤8
  case neg =>
   obtain rfl:b=false:=by rw [←hB,decide_eq_false h8];rfl
   repeat' (first
    | refine ah ?_ ?_
    | refine aa 9 rfl (cB [] (kV) ?_)
    | refine af ?_
    | exact ai|refine ae fun hb=>?_
    | (refine aE (qf []) ?_;exact ab))
  rw [decide_eq_true h8] at hB
  simp only [Bool.true_and] at hB
  obtain ⟨L,hL⟩:∃L,aF c.queues=L:=⟨_,rfl⟩
  have kP:=yT c.queues (by omega) (fun q hq=>cz (cA hv hq))
  have hLl:L.length≤8:=by rw [←hL];exact hp8.2.2
  rw [hL] at kP hB
  obtain ⟨G,hG⟩:∃G:Pr→Bool,(fun p=>decide (0≤cK p 0 c.procs))=G:=⟨_,rfl⟩
  have hG':∀p,decide (0≤cK p 0 c.procs)=G p:=fun p=>congrFun hG p
  rw [hG] at hB
  repeat' (first
   | refine ah ?_ ?_
   | (refine aa 9 rfl ?_;first
    | (refine cB [] (kV) ?_)
    | (refine cC [] (kP) ?_))
   | refine af ?_
   | exact ai|refine ae fun hb=>?_)
  refine aj (fun i=>i≤L.length∧(L.all G=(L.drop i).all G)) (fun i=>bH [1] [(1,.c (.ptr 1 0)),(3,.c (.sl eY L)),(4,.i i)] [(1,.box 26 (c.d d))]) (fun i=>L.length-i) 0 ⟨Nat.zero_le _,rfl⟩ (by exact ao (qf [])) ?_
  rintro i ⟨hi,hs⟩
  by_cases hlt:i<L.length
  ·obtain ⟨p,hp⟩:∃p,L[i]? = some p:=⟨_,List.getElem?_eq_getElem hlt⟩
   have ep:L[i]=p:=(List.getElem?_eq_some_iff.1 hp).2
   rw [List.drop_eq_getElem_cons hlt,ep,List.all_cons] at hs
   obtain ⟨ix,hix⟩:∃ix,cK p 0 c.procs=ix:=⟨_,rfl⟩
   have kI:=Fg c.procs d p hix
   have hgp:=hG' p
   rw [hix] at hgp
   by_cases h0:0≤ix
   ·rw [decide_eq_true h0] at hgp
    repeat' (first
     | refine ah ?_ ?_
     | refine aa 9 rfl (cB [] (kI) ?_)
     | refine af ?_
     | exact ai|refine ae fun hb=>?_)
    refine ⟨i+1,⟨by omega,?_⟩,by omega,?_⟩
    ·rw [hs,←hgp,Bool.true_and]
    ·exact ao (qf [])
   ·rw [decide_eq_false h0] at hgp
    obtain rfl:b=false:=by rw [←hB,hs,←hgp];rfl
    repeat' (first
     | refine ah ?_ ?_
     | refine aa 9 rfl (cB [] (kI) ?_)
     | refine af ?_
     | exact ai|refine ae fun hb=>?_
     | (refine aE (qf []) ?_;exact ab))
  rw [List.drop_eq_nil_of_le (by omega),List.all_nil] at hs
  rw [hs,Bool.true_and] at hB
  clear hs hG hG' kP kV
  repeat' (first
   | refine ah ?_ ?_
   | refine af ?_
   | exact ai|refine ae fun hb=>?_)
  refine aj (fun y:Nat×Option Pr=>y.1≤c.procs.length∧(y.1=0∧y.2=none∨0<y.1∧∃z,c.procs[((y.1:Int)-1).toNat]? = some z∧y.2=some z.proc)∧tV c y.2 (c.procs.drop y.1)=b) (fun y=>bH [1] [(1,.c (.ptr 1 0)),(5,.i y.1)] [(1,.box 26 (c.d d))]) (fun y=>c.procs.length-y.1) (0,none) ⟨Nat.zero_le _,.inl ⟨rfl,rfl⟩,hB⟩ (by exact ao (qf [])) ?_
  clear hB
  rintro ⟨i,o⟩ ⟨hi,ho,hs⟩
  dsimp only at *
  by_cases hlt:i<c.procs.length
  ·obtain ⟨x,hx⟩:∃x,c.procs[i]? = some x:=⟨_,List.getElem?_eq_getElem hlt⟩
   have ex:c.procs[i]=x:=(List.getElem?_eq_some_iff.1 hx).2
   rw [List.drop_eq_getElem_cons hlt,ex,te] at hs
   obtain ⟨pb,hpb⟩:∃pb,lr c x=pb:=⟨_,rfl⟩
   have kP:=Dc d c x hn hv hpb
   rw [hpb] at hs
   have hx2:c.procs[((i+1:Nat):Int).toNat-1]? = some x:=by rw [←hx];congr 1
   cases pb with
   | false =>
    obtain rfl:b=false:=hs.symm
    repeat' (first
     | refine ah ?_ ?_
     | refine aa 9 rfl (cB [] (kP) ?_)
     | refine af ?_
     | exact ai|refine ae fun hb=>?_
     | (refine aE (qf []) ?_;exact ab))
   | true =>
    rw [Bool.true_and] at hs
    rcases ho with ⟨h0,rfl⟩|⟨h0,z,hz,rfl⟩
    ·rw [show D3 none x.proc=true from rfl,Bool.true_and] at hs
     repeat' (first
      | refine ah ?_ ?_
      | refine aa 9 rfl (cB [] (kP) ?_)
      | refine af ?_
      | exact ai|refine ae fun hb=>?_)
     refine ⟨(i+1,some x.proc),⟨by dsimp only;omega,.inr ⟨by dsimp only;omega,x,?_,rfl⟩,hs⟩,by dsimp only;omega,?_⟩
     ·dsimp only
      rw [←hx]
      congr 1
      omega
     ·exact ao (qf [])
    ·have kC:=jQ z.proc x.proc
     obtain ⟨e,he⟩:∃e,bt z.proc x.proc=e:=⟨_,rfl⟩
     rw [show D3 (some z.proc) x.proc=decide (bt z.proc x.proc<0) from rfl,he] at hs
     rw [he] at kC
     by_cases hneg:e<0
     ·rw [decide_eq_true hneg,Bool.true_and] at hs
      repeat' (first
       | refine ah ?_ ?_
       | (refine aa 9 rfl ?_;first
        | (refine cB [] (kP) ?_)
        | (refine cB [] (kC) ?_))
       | refine af ?_
       | exact ai|refine ae fun hb=>?_)
      refine ⟨(i+1,some x.proc),⟨by dsimp only;omega,.inr ⟨by dsimp only;omega,x,?_,rfl⟩,hs⟩,by dsimp only;omega,?_⟩
      ·dsimp only
       rw [←hx]
       congr 1
       omega
      ·exact ao (qf [])
     ·rw [decide_eq_false hneg] at hs
      obtain rfl:b=false:=hs.symm
      repeat' (first
       | refine ah ?_ ?_
       | (refine aa 9 rfl ?_;first
        | (refine cB [] (kP) ?_)
        | (refine cB [] (kC) ?_))
       | refine af ?_
       | exact ai|refine ae fun hb=>?_
       | (refine aE (qf []) ?_;exact ab))
  ·rw [List.drop_eq_nil_of_le (by omega)] at hs
   obtain rfl:b=true:=hs.symm
   repeat' (first
    | refine ah ?_ ?_
    | refine af ?_
    | exact ai|refine ae fun hb=>?_
    | (refine aE (qf []) ?_;exact ab))
theorem Kh (a b:List Tm):FSpec prog 123 [.one (.sl bV a),.one (.sl bV b)] [] [] (.b (decide (a=b))) []:=by
 refine aS func123 ?_
 refine aH (fun c ρ a w hr=>bh (t:=0) hr rfl) (fun hl0=>?_)
 by_cases hl:a.length=b.length
 case neg =>
  have hne:a≠b:=fun e=>hl (by rw [e])
  rw [decide_eq_false hne]
  repeat' (first
   | refine ah ?_ ?_
   | refine af ?_
   | exact ai|refine ae fun hb=>?_
   | (refine aE (qf []) ?_;exact ab))
 repeat' (first
  | refine ah ?_ ?_
  | refine af ?_
  | exact ai|refine ae fun hb=>?_)
 refine aj (fun i=>i≤a.length∧((a=b)↔a.drop i=b.drop i)) (fun i=>bH [] [(0,.c (.sl bV a)),(1,.c (.sl bV b)),(12,.i a.length),(13,.i i)] []) (fun i=>a.length-i) 0 ⟨Nat.zero_le _,Iff.rfl⟩ (by exact ao (qf [])) ?_
 rintro i ⟨hi,hs⟩
 by_cases hlt:i<a.length
 ·have hlt2:i<b.length:=by omega
  rw [List.drop_eq_getElem_cons hlt,List.drop_eq_getElem_cons hlt2,List.cons.injEq] at hs
  obtain ⟨x,hx⟩:∃x,a[i]? = some x:=⟨_,List.getElem?_eq_getElem hlt⟩
  obtain ⟨y,hy⟩:∃y,b[i]? = some y:=⟨_,List.getElem?_eq_getElem hlt2⟩
  have ex:a[i]=x:=(List.getElem?_eq_some_iff.1 hx).2
  have ey:b[i]=y:=(List.getElem?_eq_some_iff.1 hy).2
  rw [ex,ey] at hs
  clear ex ey
  by_cases he:x=y
  ·subst he
   repeat' (first
    | refine ah ?_ ?_
    | refine af ?_
    | exact ai|(refine ae fun hb=>?_;first|(exact absurd rfl hb)|skip))
   refine ⟨i+1,⟨by omega,?_⟩,by omega,?_⟩
   ·rw [hs];simp
   ·exact ao (qf [])
  ·rw [decide_eq_false (fun e=>he (hs.1 e).1)]
   repeat' (first
    | refine ah ?_ ?_
    | refine af ?_
    | exact ai|(refine ae fun hb=>?_;first|(exact absurd hb he)|skip)
    | (refine aE (qf []) ?_;exact ab))
 ·rw [List.drop_eq_nil_of_le (by omega),List.drop_eq_nil_of_le (by omega)] at hs
  rw [decide_eq_true (hs.2 rfl)]
  repeat' (first
   | refine ah ?_ ?_
   | refine af ?_
   | exact ai|refine ae fun hb=>?_
   | (refine aE (qf []) ?_;exact ab))
theorem DV (d:Nat) (c:Cs) (x:Pc) (hV:df c.queues=true) (hg:qY x.led=true) {b:Bool} (hB:Fo c x=b):FSpec prog 54 [c.a d,x.a d] [] [] (.b b) []:=by
 refine aS func54 ?_
 have hq8:=(bD hV).1
 have kZ:=Ia d x.req rfl
 have kC:=Ds c.queues x.proc (by omega) fun q hq=>cz (cA hV hq)
 have kO:=Hr c.queues x.proc (by omega)
 have kH:=DU x.led (gp hg).1 rfl
 have kE:=Kh (db c.queues x.proc) (dX x.led)
 have he:decide (dX x.led=db c.queues x.proc)=decide (db c.queues x.proc=dX x.led):=decide_eq_decide.2 eq_comm
 repeat' (first
  | refine ah ?_ ?_
  | (refine aa 9 rfl ?_;first
   | (refine cB [] (kZ) ?_)
   | (refine cC [] (kC) ?_)
   | (refine cC [] (kO) ?_)
   | (refine cC [] (kH) ?_)
   | (refine cB [] (kE) ?_))
  | refine af ?_
  | exact ai|refine ae fun hb=>?_)
 all_goals (refine dD ?_;rw [←hB];simp [Fo, *];try (first|(intro _;refine List.eq_nil_of_length_eq_zero ?_;omega)|(intro _ h0;have:=congrArg List.length h0;simp only [List.length_nil] at this;omega)))
theorem DX (d:Nat) (c:Cs) (x:Pc) (hn:0≤c.now∧c.now≤1073741824) (hV:df c.queues=true) {b:Bool} (hB:zd c x=b):FSpec prog 53 [c.a d,x.a d] [] [] (.b b) []:=by
 refine aS func53 ?_
 have hq8:=(bD hV).1
 unfold zd at hB
 have kC:=Gn c.queues (by omega)
 obtain ⟨rq,hrq⟩:∃rq,oM x.req=rq:=⟨_,rfl⟩
 have kQ:=qV d x.req hrq
 rw [hrq] at hB
 cases rq with
 | false =>
  obtain rfl:b=false:=by rw [←hB];rfl
  repeat' (first
   | refine ah ?_ ?_
   | refine aa 9 rfl (cB [] (kQ) ?_)
   | refine af ?_
   | exact ai|refine ae fun hb=>?_
   | (refine aE (qf []) ?_;exact ab))
 | true =>
  obtain ⟨e,he⟩:∃e,go c.queues x.req.expr=e:=⟨_,rfl⟩
  have kR:=wY d c.queues x.req.expr hV he
  rw [he] at hB
  by_cases h0:e=0
  case neg =>
   obtain rfl:b=false:=by rw [←hB,decide_eq_false h0];rfl
   repeat' (first
    | refine ah ?_ ?_
    | (refine aa 9 rfl ?_;first
     | (refine cB [] (kQ) ?_)
     | (refine cC [] (kC) ?_)
     | (refine cB [] (kR) ?_))
    | refine af ?_
    | exact ai|(refine ae fun hb=>?_;first|(exact absurd hb h0)|skip)
    | (refine aE (qf []) ?_;exact ab))
  subst h0
  have hlim:0≤x.req.limit∧x.req.limit≤1000:=by
   unfold oM at hrq
   simp only [Bool.and_eq_true,decide_eq_true_eq] at hrq
   exact ⟨hrq.1.2,hrq.2⟩
  have hv:ib x.req.expr=true:=by unfold oM at hrq;simp only [Bool.and_eq_true] at hrq;exact hrq.1.1.1.1
  have hgl:(bd c.queues x.proc x.req.expr).length≤1000:=by have:=dN x.req.expr;simp [bd];omega
  obtain ⟨G,hG⟩:∃G,bd c.queues x.proc x.req.expr=G:=⟨_,rfl⟩
  have kGr:=mW d c.queues x hG
  rw [hG] at hgl hB
  obtain ⟨ho,hho⟩:∃ho,dw x.req.expr G=ho:=⟨_,rfl⟩
  have kHo:=zu d x.req.expr G hgl hho
  rw [hho] at hB
  have hnd:=(CM hv)
  have hT8:=dN x.req.expr
  obtain ⟨T,hT⟩:∃T,cj x.req.expr=T:=⟨_,rfl⟩
  rw [hT] at hB hnd hT8
  have kAt:=jW d x.req.expr hT
  by_cases hsn:0≤x.since∧x.since≤c.now
  case neg =>
   obtain rfl:b=false:=by rw [←hB];by_cases h:0≤x.since <;> simp [h] <;> omega
   by_cases h9:x.since<0
   ·repeat' (first
     | refine ah ?_ ?_
     | (refine aa 9 rfl ?_;first
      | (refine cB [] (kQ) ?_)
      | (refine cC [] (kC) ?_)
      | (refine cB [] (kR) ?_))
     | refine af ?_
     | exact ai|refine ae fun hb=>?_
     | (refine aE (qf []) ?_;exact ab))
   ·repeat' (first
     | refine ah ?_ ?_
     | (refine aa 9 rfl ?_;first
      | (refine cB [] (kQ) ?_)
      | (refine cC [] (kC) ?_)
      | (refine cB [] (kR) ?_))
     | refine af ?_
     | exact ai|refine ae fun hb=>?_
     | (refine aE (qf []) ?_;exact ab))
  obtain ⟨hs1,hs2⟩:=hsn
  rw [decide_eq_true hs1,decide_eq_true hs2] at hB
  simp only [decide_true,Bool.true_and] at hB
  by_cases hli:x.req.limit=0∨c.now<x.since+x.req.limit
  case neg =>
   obtain rfl:b=false:=by rw [←hB,decide_eq_false (fun h=>hli (.inl h)),decide_eq_false (fun h=>hli (.inr h))];rfl
   rw [not_or] at hli
   obtain ⟨hl1,hl2⟩:=hli
   repeat' (first
    | refine ah ?_ ?_
    | (refine aa 9 rfl ?_;first
     | (refine cB [] (kQ) ?_)
     | (refine cC [] (kC) ?_)
     | (refine cB [] (kR) ?_))
    | refine af ?_
    | exact ai|(refine ae fun hb=>?_;first|(exact absurd hb hl1)|skip)
    | (refine aE (qf []) ?_;exact ab))
  have hli':(decide (x.req.limit=0) || decide (c.now<x.since+x.req.limit))=true:=by simpa using hli
  rw [hli',Bool.true_and] at hB
  cases ho with
  | true =>
   obtain rfl:b=false:=by rw [←hB];rfl
   by_cases hl2:x.req.limit=0
   ·repeat' (first
     | refine ah ?_ ?_
     | (refine aa 9 rfl ?_;first
      | (refine cB [] (kQ) ?_)
      | (refine cC [] (kC) ?_)
      | (refine cB [] (kR) ?_)
      | (refine cC [] (kGr) ?_)
      | (refine cB [] (kHo) ?_))
     | refine af ?_
     | exact ai|(refine ae fun hb=>?_;first|(exact absurd hl2 hb)|skip)
     | (refine aE (qf []) ?_;exact ab))
   ·repeat' (first
     | refine ah ?_ ?_
     | (refine aa 9 rfl ?_;first
      | (refine cB [] (kQ) ?_)
      | (refine cC [] (kC) ?_)
      | (refine cB [] (kR) ?_)
      | (refine cC [] (kGr) ?_)
      | (refine cB [] (kHo) ?_))
     | refine af ?_
     | exact ai|(refine ae fun hb=>?_;first|(exact absurd hb hl2)|skip)
     | (refine aE (qf []) ?_;exact ab))
  | false =>
   rw [Bool.not_false,Bool.true_and] at hB
   obtain ⟨F,hF⟩:∃F:Qu→Bool,(fun q=>bS q x T)=F:=⟨_,rfl⟩
   have hF':∀q,bS q x T=F q:=fun q=>congrFun hF q
   have h88:∀q∈c.queues,eO q:=fun q hq=>cz (cA hV hq)
   rw [hF] at hB
   by_cases hl2:x.req.limit=0
   case' pos =>
    repeat' (first
     | refine ah ?_ ?_
     | (refine aa 9 rfl ?_;first
      | (refine cB [] (kQ) ?_)
      | (refine cC [] (kC) ?_)
      | (refine cB [] (kR) ?_)
      | (refine cC [] (kGr) ?_)
      | (refine cB [] (kHo) ?_)
      | (refine cC [] (kAt) ?_))
     | refine af ?_
     | exact ai|(refine ae fun hb=>?_;first|(exact absurd hl2 hb)|skip))
   case' neg =>
    repeat' (first
     | refine ah ?_ ?_
     | (refine aa 9 rfl ?_;first
      | (refine cB [] (kQ) ?_)
      | (refine cC [] (kC) ?_)
      | (refine cB [] (kR) ?_)
      | (refine cC [] (kGr) ?_)
      | (refine cB [] (kHo) ?_)
      | (refine cC [] (kAt) ?_))
     | refine af ?_
     | exact ai|(refine ae fun hb=>?_;first|(exact absurd hb hl2)|skip))
   all_goals
    refine aj (fun i=>i≤c.queues.length∧(c.queues.all F=(c.queues.drop i).all F)) (fun i=>bH [3] [(3,.c (.ptr 3 0)),(6,.c (.sl bV T)),(59,.c (.sl dt c.queues)),(60,.i c.queues.length),(61,.i i)] [(3,.box 63 (x.d d))]) (fun i=>c.queues.length-i) 0 ⟨Nat.zero_le _,rfl⟩ (by exact ao (qf [])) ?_
    clear kAt kHo kGr kR kC kQ hli' hli hs1 hs2 hlim hgl hho hG
    rintro i ⟨hi,hs⟩
    by_cases hlt:i<c.queues.length
    ·obtain ⟨q,hq⟩:∃q,c.queues[i]? = some q:=⟨_,List.getElem?_eq_getElem hlt⟩
     have eq:c.queues[i]=q:=(List.getElem?_eq_some_iff.1 hq).2
     obtain ⟨_,j2,j3⟩:=h88 q (eq▸List.getElem_mem hlt)
     rw [List.drop_eq_getElem_cons hlt,eq,List.all_cons] at hs
     obtain ⟨f,hff⟩:∃f,F q=f:=⟨_,rfl⟩
     have kP:=FT d q x T hnd (by omega) j2 j3 ((hF' q).trans hff)
     rw [hff] at hs
     cases f with
     | false =>
      obtain rfl:b=false:=by rw [←hB,hs];rfl
      repeat' (first
       | refine ah ?_ ?_
       | refine aa 9 rfl (cB [] (kP) ?_)
       | refine af ?_
       | exact ai|refine ae fun hb=>?_
       | (refine aE (qf []) ?_;exact ab))
     | true =>
      repeat' (first
       | refine ah ?_ ?_
       | refine aa 9 rfl (cB [] (kP) ?_)
       | refine af ?_
       | exact ai|refine ae fun hb=>?_)
      refine ⟨i+1,⟨by omega,?_⟩,by omega,?_⟩
      ·rw [hs,Bool.true_and]
      ·exact ao (qf [])
    ·rw [List.drop_eq_nil_of_le (by omega),List.all_nil] at hs
     obtain rfl:b=true:=by rw [←hB,hs]
     repeat' (first
      | refine ah ?_ ?_
      | refine af ?_
      | exact ai|refine ae fun hb=>?_
      | (refine aE (qf []) ?_;exact ab))
theorem Ie (d:Nat) (l:List Pc) (p:Pr) {z:Int} (hz:cK p 0 l=z):FSpec prog 57 [.one (.sl (fh d) l),.one (.clo 58 [9])] [i8 9 p] [] (.i z) [(9,some (i8 9 p).2)]:=by
 refine aS func57 ?_
 refine aH (fun c ρ a w hr=>bh (t:=0) hr rfl) (fun hl0=>?_)
 repeat' (first
  | refine ah ?_ ?_
  | refine af ?_
  | exact ai|refine ae fun hb=>?_)
 refine aj (fun i=>i≤l.length∧cK p i (l.drop i)=z) (fun i=>bH [9] [(0,.c (.sl (fh d) l)),(1,.c (.clo 58 [9])),(7,.i l.length),(8,.i i)] [i8 9 p]) (fun i=>l.length-i) 0 ⟨Nat.zero_le _,hz⟩ (by exact ao (qf [])) ?_
 rintro i ⟨hi,hs⟩
 by_cases hlt:i<l.length
 ·obtain ⟨x,hx⟩:∃x,l[i]=x:=⟨_,rfl⟩
  have hgx:l[i]? = some x:=by rw [List.getElem?_eq_getElem hlt,hx]
  rw [List.drop_eq_getElem_cons hlt,hx] at hs
  have hs:(bif decide (x.proc=p) then (i:Int) else cK p (i+1) (l.drop (i+1)))=z:=hs
  obtain ⟨b,hb1⟩:∃b,decide (x.proc=p)=b:=⟨_,rfl⟩
  have kS:=Gp d x p hb1
  rw [hb1] at hs
  cases b with
  | true =>
   obtain rfl:(i:Int)=z:=hs
   repeat' (first
    | refine ah ?_ ?_
    | (refine aa 9 rfl ?_;refine ll 1 [9] (qf [(9,9)]) (kS) ?_)
    | refine af ?_
    | exact ai|refine ae fun hb=>?_
    | (refine aE (qf []) ?_;exact ab))
  | false =>
   repeat' (first
    | refine ah ?_ ?_
    | (refine aa 9 rfl ?_;refine ll 1 [9] (qf [(9,9)]) (kS) ?_)
    | refine af ?_
    | exact ai|refine ae fun hb=>?_)
   refine ⟨i+1,⟨by omega,hs⟩,by omega,?_⟩
   exact ao (qf [])
 ·rw [List.drop_eq_nil_of_le (by omega)] at hs
  obtain rfl : -1=z:=hs
  repeat' (first
   | refine ah ?_ ?_
   | refine af ?_
   | exact ai|refine ae fun hb=>?_
   | (refine aE (qf []) ?_;exact ab))
theorem uC (d:Nat) (l:List Pc) (p:Pr) {z:Int} (hz:cK p 0 l=z):FSpec prog 27 [.one (.sl (fh d) l),p.a] [] [] (.i z) []:=by
 refine aS func27 ?_
 have kF:=Ie d l p hz
 repeat' (first
  | refine ah ?_ ?_
  | (refine aa 0 rfl ?_;refine sx (cD (ks:=[3]) rfl rfl) ?_)
  | refine aa 9 rfl (cH (qf [(9,3)]) (kF) ?_)
  | refine af ?_
  | exact ai|refine ae fun hb=>?_
  | (refine aE (qf []) ?_;exact ab))
theorem Bi (d:Nat) (c:Cs) (x:Pc) (hn:0≤c.now∧c.now≤1073741824) (hV:df c.queues=true) {b:Bool} (hB:lr c x=b):FSpec prog 25 [c.a d,x.a d] [] [] (.b b) []:=by
 refine aS func25 ?_
 have hq8:=(bD hV).1
 rw [wC] at hB
 have kV:=fJ x.proc
 have kG:=dq x.led
 obtain ⟨v,hv⟩:∃v,js x.proc=v:=⟨_,rfl⟩
 rw [hv] at kV
 cases v with
 | false =>
  obtain rfl:b=false:=by rw [←hB,hv];rfl
  repeat' (first
   | refine ah ?_ ?_
   | refine aa 9 rfl (cB [] (kV) ?_)
   | refine af ?_
   | exact ai|refine ae fun hb=>?_
   | (refine aE (qf []) ?_;exact ab))
 | true =>
  by_cases h1:1≤x.cost∧x.cost≤1000
  case neg =>
   obtain rfl:b=false:=by rw [←hB,show decide (1≤x.cost) = !decide (x.cost<1) by by_cases h:x.cost<1 <;> simp [h] <;> omega];by_cases h:x.cost<1 <;> simp [h] <;> omega
   by_cases h2:x.cost<1
   ·repeat' (first
     | refine ah ?_ ?_
     | refine aa 9 rfl (cB [] (kV) ?_)
     | refine af ?_
     | exact ai|refine ae fun hb=>?_
     | (refine aE (qf []) ?_;exact ab))
   ·repeat' (first
     | refine ah ?_ ?_
     | refine aa 9 rfl (cB [] (kV) ?_)
     | refine af ?_
     | exact ai|refine ae fun hb=>?_
     | (refine aE (qf []) ?_;exact ab))
  obtain ⟨h1,h2⟩:=h1
  rw [hv,decide_eq_true h1,decide_eq_true h2] at hB
  by_cases h3:0≤x.gen∧x.gen≤1073741824
  case neg =>
   obtain rfl:b=false:=by rw [←hB];by_cases h:0≤x.gen <;> simp [h] <;> omega
   by_cases h4:x.gen<0
   ·repeat' (first
     | refine ah ?_ ?_
     | refine aa 9 rfl (cB [] (kV) ?_)
     | refine af ?_
     | exact ai|refine ae fun hb=>?_
     | (refine aE (qf []) ?_;exact ab))
   ·repeat' (first
     | refine ah ?_ ?_
     | refine aa 9 rfl (cB [] (kV) ?_)
     | refine af ?_
     | exact ai|refine ae fun hb=>?_
     | (refine aE (qf []) ?_;exact ab))
  obtain ⟨h3,h4⟩:=h3
  rw [decide_eq_true h3,decide_eq_true h4] at hB
  obtain ⟨g,hg⟩:∃g,qY x.led=g:=⟨_,rfl⟩
  rw [hg] at kG hB
  cases g with
  | false =>
   obtain rfl:b=false:=by rw [←hB];rfl
   repeat' (first
    | refine ah ?_ ?_
    | (refine aa 9 rfl ?_;first
     | (refine cB [] (kV) ?_)
     | (refine cB [] (kG) ?_))
    | refine af ?_
    | exact ai|refine ae fun hb=>?_
    | (refine aE (qf []) ?_;exact ab))
  | true =>
   simp only [Bool.true_and] at hB
   obtain ⟨L,hL⟩:∃L,dX x.led=L:=⟨_,rfl⟩
   have kH:=DU x.led (gp hg).1 hL
   have hL8:L.length≤8:=by
    rw [←hL]
    unfold dX
    exact Nat.le_trans (List.length_filter_le _ _) (by rw [List.length_map];exact (fc.1 hg).nms)
   rw [hL] at hB
   repeat' (first
    | refine ah ?_ ?_
    | (refine aa 9 rfl ?_;first
     | (refine cB [] (kV) ?_)
     | (refine cB [] (kG) ?_)
     | (refine cC [] (kH) ?_))
    | refine af ?_
    | exact ai|refine ae fun hb=>?_)
   refine aj (fun i=>i≤L.length∧(L.all (AO c)=(L.drop i).all (AO c))) (fun i=>bH [2,3] [(2,.c (.ptr 2 0)),(3,.c (.ptr 3 0)),(38,.c (.sl bV L)),(39,.i L.length),(40,.i i)] [(2,.box 26 (c.d d)),(3,.box 63 (x.d d))]) (fun i=>L.length-i) 0 ⟨Nat.zero_le _,rfl⟩ (by exact ao (qf [])) ?_
   rintro i ⟨hi,hs⟩
   by_cases hlt:i<L.length
   ·obtain ⟨a,ha⟩:∃a,L[i]? = some a:=⟨_,List.getElem?_eq_getElem hlt⟩
    have ea:L[i]=a:=(List.getElem?_eq_some_iff.1 ha).2
    rw [List.drop_eq_getElem_cons hlt,ea,List.all_cons] at hs
    by_cases hk:bi a.name 0 c.queues<0
    ·have hf:AO c a=false:=by unfold AO aO;rw [decide_eq_false (by omega)];rfl
     obtain rfl:b=false:=by rw [←hB,hs,hf];rfl
     have kF:=gM c.queues a.name rfl
     repeat' (first
      | refine ah ?_ ?_
      | refine aa 9 rfl (cB [] (kF) ?_)
      | refine af ?_
      | exact ai|refine ae fun hb=>?_
      | (refine aE (qf []) ?_;exact ab))
    ·obtain ⟨j,hj,hF,hqa,hx⟩:=eK hk
     have kF:=gM c.queues a.name hF
     obtain ⟨q,hq⟩:∃q,c.queues[j]? = some q:=⟨_,List.getElem?_eq_getElem hj⟩
     have eq:c.queues[j]=q:=(List.getElem?_eq_some_iff.1 hq).2
     have hf:AO c a=aD q.res a.am:=by
      unfold AO aO aX
      rw [hqa,eq,decide_eq_true (by omega)]
      rfl
     have kR:=dK q.res a.am
     obtain ⟨f,hff⟩:∃f,aD q.res a.am=f:=⟨_,rfl⟩
     rw [hff] at kR hf
     rw [hf] at hs
     clear hF hk hqa hx
     cases f with
     | false =>
      obtain rfl:b=false:=by rw [←hB,hs];rfl
      repeat' (first
       | refine ah ?_ ?_
       | (refine aa 9 rfl ?_;first
        | (refine cB [] (kF) ?_)
        | (refine cB [] (kR) ?_))
       | refine af ?_
       | exact ai|refine ae fun hb=>?_
       | (refine aE (qf []) ?_;exact ab))
     | true =>
      repeat' (first
       | refine ah ?_ ?_
       | (refine aa 9 rfl ?_;first
        | (refine cB [] (kF) ?_)
        | (refine cB [] (kR) ?_))
       | refine af ?_
       | exact ai|refine ae fun hb=>?_)
      refine ⟨i+1,⟨by omega,?_⟩,by omega,?_⟩
      ·rw [hs,Bool.true_and]
      ·exact ao (qf [])
   rw [List.drop_eq_nil_of_le (by omega),List.all_nil] at hs
   rw [hs,Bool.true_and] at hB
   clear hs kH kG kV
   cases hw:x.waiting with
   | false =>
    rw [hw,Bool.not_false,cond_true] at hB
    have kR:=DV d c x hV hg hB
    repeat' (first
     | refine ah ?_ ?_
     | refine aa 9 rfl (cB [] (kR) ?_)
     | refine af ?_
     | exact ai|(refine ae fun hb=>?_;first|(cases hw.symm.trans hb;done)|skip)
     | (refine aE (qf []) ?_;exact ab))
   | true =>
    rw [hw,Bool.not_true,cond_false] at hB
    have kW:=DX d c x hn hV hB
    repeat' (first
     | refine ah ?_ ?_
     | refine aa 9 rfl (cB [] (kW) ?_)
     | refine af ?_
     | exact ai|(refine ae fun hb=>?_;first|(cases hw.symm.trans hb;done)|skip)
     | (refine aE (qf []) ?_;exact ab))
theorem oY (d:Nat) (c:Cs) {b:Bool} (hB:eH c=b):FSpec prog 9 [c.a d] [] [] (.b b) []:=by
 refine aS func9 ?_
 unfold eH at hB
 have kV:=oX c.queues
 obtain ⟨v,hv⟩:∃v,df c.queues=v:=⟨_,rfl⟩
 rw [hv] at kV
 by_cases h1:0≤c.now∧c.now≤1073741824
 case neg =>
  obtain rfl:b=false:=by rw [←hB];by_cases h:0≤c.now <;> simp [h] <;> omega
  by_cases h2:c.now<0
  ·repeat' (first
    | refine ah ?_ ?_
    | refine af ?_
    | exact ai|refine ae fun hb=>?_
    | (refine aE (qf []) ?_;exact ab))
  ·repeat' (first
    | refine ah ?_ ?_
    | refine af ?_
    | exact ai|refine ae fun hb=>?_
    | (refine aE (qf []) ?_;exact ab))
 have hn:=h1
 obtain ⟨h1,h2⟩:=h1
 rw [hv,decide_eq_true h1,decide_eq_true h2] at hB
 cases v with
 | false =>
  obtain rfl:b=false:=by rw [←hB];rfl
  repeat' (first
   | refine ah ?_ ?_
   | refine aa 9 rfl (cB [] (kV) ?_)
   | refine af ?_
   | exact ai|refine ae fun hb=>?_
   | (refine aE (qf []) ?_;exact ab))
 | true =>
  have hp8:=bD hv
  by_cases h8:c.procs.length≤8
  case neg =>
   obtain rfl:b=false:=by rw [←hB,decide_eq_false h8];rfl
   repeat' (first
    | refine ah ?_ ?_
    | refine aa 9 rfl (cB [] (kV) ?_)
    | refine af ?_
    | exact ai|refine ae fun hb=>?_
    | (refine aE (qf []) ?_;exact ab))
  rw [decide_eq_true h8] at hB
  simp only [Bool.true_and] at hB
  obtain ⟨L,hL⟩:∃L,aF c.queues=L:=⟨_,rfl⟩
  have kP:=um c.queues (by omega) (fun q hq=>cz (cA hv hq))
  have hLl:L.length≤8:=by rw [←hL];exact hp8.2.2
  rw [hL] at kP hB
  obtain ⟨G,hG⟩:∃G:Pr→Bool,(fun p=>decide (0≤cK p 0 c.procs))=G:=⟨_,rfl⟩
  have hG':∀p,decide (0≤cK p 0 c.procs)=G p:=fun p=>congrFun hG p
  rw [hG,Bool.and_comm] at hB
  obtain ⟨T,hT⟩:∃T,L.all G=T:=⟨_,rfl⟩
  rw [hT] at hB
  repeat' (first
   | refine ah ?_ ?_
   | refine aa 9 rfl (cB [] (kV) ?_)
   | refine af ?_
   | exact ai|refine ae fun hb=>?_)
  refine aj (fun y:Nat×Option Pr=>y.1≤c.procs.length∧(y.1=0∧y.2=none∨0<y.1∧∃z,c.procs[((y.1:Int)-1).toNat]? = some z∧y.2=some z.proc)∧(tV c y.2 (c.procs.drop y.1) && T)=b) (fun y=>bH [1] [(1,.c (.ptr 1 0)),(28,.c (.sl (fh d) c.procs)),(29,.i c.procs.length),(30,.i y.1)] [(1,.box 26 (c.d d))]) (fun y=>c.procs.length-y.1) (0,none) ⟨Nat.zero_le _,.inl ⟨rfl,rfl⟩,hB⟩ (by exact ao (qf [])) ?_
  clear hB
  rintro ⟨i,o⟩ ⟨hi,ho,hs⟩
  dsimp only at *
  by_cases hlt:i<c.procs.length
  ·obtain ⟨x,hx⟩:∃x,c.procs[i]? = some x:=⟨_,List.getElem?_eq_getElem hlt⟩
   have ex:c.procs[i]=x:=(List.getElem?_eq_some_iff.1 hx).2
   rw [List.drop_eq_getElem_cons hlt,ex,te] at hs
   obtain ⟨pb,hpb⟩:∃pb,lr c x=pb:=⟨_,rfl⟩
   have kX:=Bi d c x hn hv hpb
   rw [hpb] at hs
   clear kP
   rcases ho with ⟨h0,rfl⟩|⟨h0,z,hz,rfl⟩
   ·rw [show D3 none x.proc=true from rfl,Bool.and_true] at hs
    cases pb with
    | false =>
     obtain rfl:b=false:=hs.symm
     repeat' (first
      | refine ah ?_ ?_
      | refine aa 9 rfl (cB [] (kX) ?_)
      | refine af ?_
      | exact ai|(refine ae fun hb=>?_;first|(exfalso;omega)|skip)
      | (refine aE (qf []) ?_;exact ab))
    | true =>
     rw [Bool.true_and] at hs
     repeat' (first
      | refine ah ?_ ?_
      | refine aa 9 rfl (cB [] (kX) ?_)
      | refine af ?_
      | exact ai|(refine ae fun hb=>?_;first|(exfalso;omega)|skip))
     refine ⟨(i+1,some x.proc),⟨by dsimp only;omega,.inr ⟨by dsimp only;omega,x,?_,rfl⟩,hs⟩,by dsimp only;omega,?_⟩
     ·dsimp only
      rw [←hx]
      congr 1
      omega
     ·exact ao (qf [])
   ·have kC:=iF z.proc x.proc
    obtain ⟨e,he⟩:∃e,bt z.proc x.proc=e:=⟨_,rfl⟩
    rw [show D3 (some z.proc) x.proc=decide (bt z.proc x.proc<0) from rfl,he] at hs
    rw [he] at kC
    by_cases hneg:e<0
    case neg =>
     obtain rfl:b=false:=by rw [←hs,decide_eq_false hneg,Bool.and_false];rfl
     repeat' (first
      | refine ah ?_ ?_
      | refine aa 9 rfl (cB [] (kC) ?_)
      | refine af ?_
      | exact ai|(refine ae fun hb=>?_;first|(exfalso;omega)|skip)
      | (refine aE (qf []) ?_;exact ab))
    rw [decide_eq_true hneg,Bool.and_true] at hs
    cases pb with
    | false =>
     obtain rfl:b=false:=hs.symm
     repeat' (first
      | refine ah ?_ ?_
      | (refine aa 9 rfl ?_;first
       | (refine cB [] (kC) ?_)
       | (refine cB [] (kX) ?_))
      | refine af ?_
      | exact ai|(refine ae fun hb=>?_;first|(exfalso;omega)|skip)
      | (refine aE (qf []) ?_;exact ab))
    | true =>
     rw [Bool.true_and] at hs
     repeat' (first
      | refine ah ?_ ?_
      | (refine aa 9 rfl ?_;first
       | (refine cB [] (kC) ?_)
       | (refine cB [] (kX) ?_))
      | refine af ?_
      | exact ai|(refine ae fun hb=>?_;first|(exfalso;omega)|skip))
     refine ⟨(i+1,some x.proc),⟨by dsimp only;omega,.inr ⟨by dsimp only;omega,x,?_,rfl⟩,hs⟩,by dsimp only;omega,?_⟩
     ·dsimp only
      rw [←hx]
      congr 1
      omega
     ·exact ao (qf [])
  rw [List.drop_eq_nil_of_le (by omega)] at hs
  have hs:T=b:=by rw [←hs];rfl
  rw [←hT] at hs
  clear hT ho
  repeat' (first
   | refine ah ?_ ?_
   | refine aa 9 rfl (cC [] (kP) ?_)
   | refine af ?_
   | exact ai|refine ae fun hb=>?_)
  refine aj (fun i=>i≤L.length∧(L.drop i).all G=b) (fun i=>bH [1] [(1,.c (.ptr 1 0)),(57,.c (.sl eY L)),(58,.i L.length),(59,.i i)] [(1,.box 26 (c.d d))]) (fun i=>L.length-i) 0 ⟨Nat.zero_le _,hs⟩ (by exact ao (qf [])) ?_
  clear hs kP hi hlt
  rintro i ⟨hi,hs⟩
  by_cases hlt:i<L.length
  ·obtain ⟨p,hp⟩:∃p,L[i]? = some p:=⟨_,List.getElem?_eq_getElem hlt⟩
   have ep:L[i]=p:=(List.getElem?_eq_some_iff.1 hp).2
   rw [List.drop_eq_getElem_cons hlt,ep,List.all_cons] at hs
   obtain ⟨ix,hix⟩:∃ix,cK p 0 c.procs=ix:=⟨_,rfl⟩
   have kI:=uC d c.procs p hix
   have hgp:=hG' p
   rw [hix] at hgp
   by_cases h0:0≤ix
   ·rw [decide_eq_true h0] at hgp
    rw [←hgp,Bool.true_and] at hs
    repeat' (first
     | refine ah ?_ ?_
     | refine aa 9 rfl (cB [] (kI) ?_)
     | refine af ?_
     | exact ai|(refine ae fun hb=>?_;first|(exfalso;omega)|skip))
    refine ⟨i+1,⟨by omega,hs⟩,by omega,?_⟩
    exact ao (qf [])
   ·rw [decide_eq_false h0] at hgp
    obtain rfl:b=false:=by rw [←hs,←hgp];rfl
    repeat' (first
     | refine ah ?_ ?_
     | refine aa 9 rfl (cB [] (kI) ?_)
     | refine af ?_
     | exact ai|(refine ae fun hb=>?_;first|(exfalso;omega)|skip)
     | (refine aE (qf []) ?_;exact ab))
  ·rw [List.drop_eq_nil_of_le (by omega)] at hs
   obtain rfl:b=true:=hs.symm
   repeat' (first
    | refine ah ?_ ?_
    | refine af ?_
    | exact ai|refine ae fun hb=>?_
    | (refine aE (qf []) ?_;exact ab))
def KM (d:Nat) (R:Cs×List Ev×Int):TV:=.tup [R.1.a d,.one (.sl i7 R.2.1),.one (.sc (.int .i64 R.2.2))]
theorem KC {c:Cs} (h:CI c):KB c:=by
 have h8:=(bD h.tv).1
 have hl:=h.len
 refine ⟨by omega,by omega,fun q hq=>?_,fun x hx=>?_⟩
 ·obtain ⟨q1,q2,q3⟩:=cz (cA h.tv hq)
  exact ⟨by omega,by omega,by omega⟩
 ·have hinv:=h.inv x hx
  have hl:=gp (fc.2 hinv.stat.led)
  refine ⟨by omega,by omega,?_⟩
  cases hw:x.waiting with
  | false=>rw [(hinv.run hw).1];decide
  | true =>
   have hq:=(hinv.wat hw).1.rq
   have hv:ib x.req.expr=true:=by unfold oM at hq;simp only [Bool.and_eq_true] at hq;exact hq.1.1.1.1
   simp [ib,qX] at hv
   omega
theorem Jw (d:Nat) (c:Cs) (k:Cm) {R:Cs×List Ev×Int} (hR:lv c k=R):FSpec prog 12 [c.a d,k.a d] [] [] (KM d R) []:=by
 refine aS func12 ?_
 unfold lv at hR
 obtain ⟨v,hv⟩:∃v,eH c=v:=⟨_,rfl⟩
 have kV:=oY d c hv
 rw [hv] at hR
 cases v with
 | false =>
  obtain rfl:(Jr,[],2)=R:=hR
  repeat' (first
   | refine ah ?_ ?_
   | refine aa 9 rfl (cB [] (kV) ?_)
   | refine af ?_
   | exact ai|refine ae fun hb=>?_
   | (refine f9 (qf []) ?_;exact ab))
 | true =>
  rw [Bool.not_true,cond_false] at hR
  obtain ⟨hci,hun⟩:=eX.1 hv
  obtain ⟨Z,hZ⟩:∃Z,tW ⟨c,[]⟩ k=Z:=⟨_,rfl⟩
  have kD:=H9 d ⟨c,[]⟩ k hci (fun x hx=>nH (hun x hx)) (by simp) hZ
  have kC:=FR d c (KC hci)
  rw [hZ] at hR
  repeat' (first
   | refine ah ?_ ?_
   | (refine aa 9 rfl ?_;first
    | (refine cB [] (kV) ?_)
    | (refine cH (qf [(1,1001)]) (kC) ?_))
   | ((fail_if_success (first|refine mC 4 ?_|refine mD 4 ?_));refine af ?_)
   | exact ai|refine ae fun hb=>?_)
  refine oU 16 3 1003 67 i7 rfl rfl rfl rfl ?_
  by_cases h0:Z.2=0
  ·rw [decide_eq_true h0] at hR
   obtain rfl:R=(Z.1.c,Z.1.ev,0):=hR.symm
   repeat' (first
    | refine ah ?_ ?_
    | refine aa 9 rfl (cH (qf [(0,16),(1,1001),(2,1003),(3,1004),(4,1005)]) (kD) ?_)
    | (refine aa 21 rfl ?_;first|refine sx (ay rfl rfl) ?_|refine sx (aJ rfl rfl) ?_)
    | refine af ?_
    | exact ai|(refine ae fun hb=>?_;first|(exact absurd h0 hb)|skip)
    | (refine f9 (qf []) ?_;exact ab))
  ·rw [decide_eq_false h0] at hR
   obtain rfl:R=(Jr,[],Z.2):=hR.symm
   repeat' (first
    | refine ah ?_ ?_
    | refine aa 9 rfl (cH (qf [(0,16),(1,1001),(2,1003),(3,1004),(4,1005)]) (kD) ?_)
    | (refine aa 21 rfl ?_;first|refine sx (ay rfl rfl) ?_|refine sx (aJ rfl rfl) ?_)
    | refine af ?_
    | exact ai|(refine ae fun hb=>?_;first|(exact absurd hb h0)|skip)
    | (refine f9 (qf []) ?_;exact ab))
theorem Jm (d:Nat) (c:Cs) (p:Pr) {i:Nat} {x:Pc} (hi:cK p 0 c.procs=i) (hx:c.procs[i]? = some x) (h1:x.led.entries.length≤100000) (h2:x.led.saves.length≤100000) (h3:x.req.expr.cnt≤1000):FSpec prog 19 [c.a d,p.a] [] [] (.tup [x.a d,.one (.sc (.bool true))]) []:=by
 refine aS func19 ?_
 have hlt:=(List.getElem?_eq_some_iff.1 hx).1
 have kI:=uC d c.procs p hi
 have kC:=zD d x h1 h2 h3
 repeat' (first
  | refine ah ?_ ?_
  | (refine aa 9 rfl ?_;first
   | (refine cB [] (kI) ?_)
   | (refine cC [] (kC) ?_))
  | refine af ?_
  | exact ai|(refine ae fun hb=>?_;first|(exfalso;omega)|skip)
  | (refine fL (qf []) ?_;exact ab))
theorem Bj (d:Nat) (c:Cs) (p:Pr) {i:Nat} {x:Pc} (hi:cK p 0 c.procs=i) (hx:c.procs[i]? = some x) (hw:x.waiting=true) (hv:eH c=true) {B:List Bool} (hB:bd c.queues x.proc x.req.expr=B):FSpec prog 20 [c.a d,p.a] [] [] (.c (.sl cU B)) []:=by
 refine aS func20 ?_
 have hlt:=(List.getElem?_eq_some_iff.1 hx).1
 have kI:=uC d c.procs p hi
 have kV:=oY d c hv
 have kG:=mW d c.queues x hB
 repeat' (first
  | refine ah ?_ ?_
  | (refine aa 9 rfl ?_;first
   | (refine cB [] (kI) ?_)
   | (refine cB [] (kV) ?_)
   | (refine cC [] (kG) ?_))
  | refine af ?_
  | exact ai|(refine ae fun hb=>?_;first|(cases hw.symm.trans hb;done)|(exfalso;omega)|skip)
  | (refine aE (qf []) ?_;exact ab))
def Ki:Rs:=⟨nA,1,1,0⟩
def DY:Cs:=⟨0,[ln Ki],[]⟩
def D7 (p:Pr):Cm:=⟨1,p,Rq.zero,⟨#[]⟩,5⟩
def DZ (p:Pr):Cm:=⟨2,p,⟨.mk 0 ⟨nA,⟨5,0⟩⟩ [],0,0⟩,⟨#[]⟩,0⟩
def yt:Cs:=(lv DY (D7 (bZ 0))).1
def xa:Cs:=(lv yt (D7 (bZ 1))).1
def yu:Cs:=(lv xa (DZ (bZ 0))).1
def nS:Cs:=(lv yu (DZ (bZ 1))).1
theorem KP:(lv DY (D7 (bZ 0))).2.2=0:=by decide +kernel
theorem KQ:(lv yt (D7 (bZ 1))).2.2=0:=by decide +kernel
theorem KR:(lv xa (DZ (bZ 0))).2.2=0:=by decide +kernel
theorem Kj:(lv xa (DZ (bZ 0))).2.1.map (·.kind)=[1,2]:=by decide +kernel
theorem KD:(lv yu (DZ (bZ 1))).2.2=0:=by decide +kernel
theorem KE:cK (bZ 1) 0 nS.procs=1:=by decide +kernel
theorem KS:(nS.procs[1]?).map (fun x=>(x.waiting,(bd nS.queues x.proc x.req.expr).length))=some (true,1):=by decide +kernel
theorem Kk:eH nS=true:=(xY KD).2
theorem oZ {c:Cs} {k:Cm} (h:(lv c k).2.2=0):lv c k=((lv c k).1,(lv c k).2.1,0):=by rw [←h]
theorem If {α:Type} {E:El α} [J:Dp E] {w:World} {F F':Nat→Prop} {ρ ρ':Nat→Value} {k n:Nat} {e:TypeId} {m:List α} {cs:List D} (hb:(Box.box e cs).rep w F ρ (ρ k)) (hm:m.flatMap J.deep=cs) (hF:∀b,F b→F' b) (hF':∀g,kb (ρ k)=some g→F' g) (hn:m.length=n∧n≤maxLen) {v:Value} (hv:(D.slb k n).rep w F ρ v):(D.sl E m).rep w F' ρ' v:=by
 subst hm
 obtain ⟨g,hg,rfl⟩:=hv
 obtain ⟨g',vs,e1,h3,h4,_⟩:=hb
 rw [hg] at e1
 injection e1 with e1
 injection e1 with e1
 injection e1 with e1
 subst e1
 exact ⟨_,_,by rw [hn.1],⟨Nat.le_of_eq hn.1,hn.2⟩,vs,(eB h4).same (fun _ _=>rfl) hF,fun _=>⟨g,0,rfl,hF' g (by rw [hg];rfl),fun j u hu=>by rw [Nat.zero_add];exact h3.cellx j (by simpa using hu)⟩⟩
theorem FSpec.lit {P:Program} {f:FuncId} {α:Type} {E:El α} [J:Dp E] {l:List α} {n:Nat} {e:TypeId} {cs:List D} {res:TV} (h:FSpec P f [.one (.sl E l)] [] [] res []) (hl:l.flatMap J.deep=cs) (hn:l.length=n) (hm:n≤maxLen):FSpec P f [.one (.slb 0 n)] [(0,.box e cs)] [] res [(0,none)]:=by
 refine ⟨h.en,fun q c st ρ a w vs hr hq hargs hin hfree=>?_⟩
 have hk:=hin 0 _ rfl
 have hb:(Box.box e cs).rep w (Fz c st.h ρ w) (fun k=>ρ (q k)) (ρ (q 0)):=(Box.rep_ren (q:=q) (ρ':=fun k=>ρ (q k)) fun _ _=>rfl).1 (hr.hp _ _ hk)
 have hkk:∀k':Nat,aA [(q 0,(none:Option Box))] k'=true→k'=q 0:=fun k' h=>by
  simp only [aA,Bool.or_false] at h
  exact (Nat.eq_of_beq_eq_true h).symm
 have hno:∀k',k'=q 0→hput [(q 0,(none:Option Box))] st.h k'=none:=fun k' e=>by subst e;simp [hput]
 have h2:=hr.app (ρ':=ρ) (w':=w) (dst:=none) (v:=undef) (e:=⟨.c .any,[(q 0,none)],[]⟩) (fun d hd=>by cases hd)
  (fun k' hk=>by simp [aI] at hk) (fun k' _=>rfl) (fun k' h=>.inr (by rw [hkk k' h];exact hr.nfh hk)) (Frx.refl _ _)
  (fun k' bx g h hp _=>by rw [hno k' (hkk k' h)] at hp;cases hp) (fun k1 k2 b b' g h1 h2 _ _ _ _=>by rw [hkk k1 h1,hkk k2 h2]) (fun k' hk=>by simp [TV.has,V0.has,D.has] at hk)
  (fun k1 k2 bx h hp _=>by rw [hno k2 (hkk k2 h)] at hp;cases hp) (fun k2 bx h hp=>by rw [hno k2 (hkk k2 h)] at hp;cases hp) trivial
 match vs,hargs with
 | [v],⟨hv,_⟩ =>
  have hv:(D.slb (q 0) n).rep w (Fz c st.h ρ w) ρ v:=hv
  obtain ⟨g,hg,hv⟩:=hv
  have hs:(D.sl E l).rep w (Fz c (hput [(q 0,(none:Option Box))] st.h) ρ w) ρ v:=If (F':=Fz c (hput [(q 0,(none:Option Box))] st.h) ρ w) (ρ:=fun k=>ρ (q k)) (k:=0) hb hl (fun b hb=>⟨hb.1,hb.2.1,fun k bx hk' he=>by
    by_cases e9:k=q 0
    ·rw [hno k e9] at hk';cases hk'
    ·have:hput [(q 0,(none:Option Box))] st.h k=st.h k:=bO (by
      cases h8:aA [(q 0,(none:Option Box))] k with
      | false=>rfl
      | true=>exact absurd (hkk k h8) e9)
     rw [this] at hk'
     exact hb.2.2 k bx hk' he⟩)
   (fun g' hg'=>⟨(hr.inb (q 0) _ g' hk hg').imp (c.hX g') id,hr.ltb hk hg',fun k bx hk' he=>by
    by_cases e9:k=q 0
    ·rw [hno k e9] at hk';cases hk'
    ·have:hput [(q 0,(none:Option Box))] st.h k=st.h k:=bO (by
      cases h8:aA [(q 0,(none:Option Box))] k with
      | false=>rfl
      | true=>exact absurd (hkk k h8) e9)
     rw [this] at hk'
     exact e9 (hr.dis k (q 0) bx _ g' hk' hk he hg')⟩) ⟨hn,hm⟩ ⟨g,hg,hv⟩
  refine (h.ca q c _ ρ a w [v] h2 (fun k k' hk _ _=>by simp [av,aI] at hk) ⟨hs,trivial⟩ (fun k b hb=>by cases hb) (fun k hk=>by simp [aI] at hk)).mono ?_
  rintro e' w' ⟨v',rfl,hk9⟩
  refine ⟨v',rfl,fun dst hd=>?_⟩
  obtain ⟨ρ',hr'⟩:=hk9 dst hd
  refine ⟨ρ',?_⟩
  have he:(st.app none ⟨.c .any,[(q 0,none)],[]⟩).app dst ⟨res.ren q,dJ q [],[].map q⟩=st.app dst ⟨res.ren q,dJ q [(0,none)],[].map q⟩:=by
   simp [Mst.app,dJ,hput,jj,aI]
  rw [←he]
  exact hr'
section
variable {P:Program} {o:Oper} {s:Mst}
end
instance:Dp Is:=eJ _ _ _ _ _
theorem Kl (n m:Int) (hm:m≤1048576):FSpec prog 40 [Bk n,Bk m] [] [] (.i (nK n m)) []:=by
 refine aS func40 ?_
 by_cases h1:m<1
 ·have e:nK n m=0:=by unfold nK;rw [decide_eq_true h1];rfl
  rw [e]
  repeat' (first
   | refine ah ?_ ?_
   | refine af ?_
   | exact ai|refine ae fun hb=>?_
   | (refine aE (qf []) ?_;exact ab))
 ·have k1:n.tmod m<m:=Int.tmod_lt_of_pos n (by omega)
  have k2 : -m<n.tmod m:=Int.lt_tmod_of_pos n (by omega)
  obtain ⟨r,hr⟩:∃r,n.tmod m=r:=⟨_,rfl⟩
  have e:nK n m=bif decide (r<0) then r+m else r:=by unfold nK;rw [decide_eq_false h1,hr];rfl
  rw [e]
  rw [hr] at k1 k2
  by_cases h2:r<0
  ·rw [decide_eq_true h2]
   repeat' (first
    | refine ah ?_ ?_
    | (refine aa 10 rfl ?_;refine sx (tK rfl rfl rfl (by omega) hr) ?_)
    | refine af ?_
    | exact ai|refine ae fun hb=>?_
    | (refine aE (qf []) ?_;exact ab))
  ·rw [decide_eq_false h2]
   repeat' (first
    | refine ah ?_ ?_
    | (refine aa 10 rfl ?_;refine sx (tK rfl rfl rfl (by omega) hr) ?_)
    | refine af ?_
    | exact ai|refine ae fun hb=>?_
    | (refine aE (qf []) ?_;exact ab))
theorem Jn (n m:Int) (hm:m≤1048576) {r:Int} (h:nK n m=r):FSpec prog 40 [Bk n,Bk m] [] [] (.i r) []:=h▸Kl n m hm
structure TOk (t:Tp):Prop where
 le:t.at_≤t.l.length
 len:t.l.length≤100000
theorem TOk.s {t:Tp} (h:TOk t):TOk t.s:=⟨t.s_at h.le,by rw [t.s_l];exact h.len⟩
theorem D0 (n:Int):FSpec prog 17 [Bk n] [] [] (.v (bZ n).a) []:=by
 refine aS func17 ?_
 obtain ⟨r,hr⟩:∃r,nK n 8=r:=⟨_,rfl⟩
 have kM:=Jn n 8 (by omega) hr
 have hb:=FD (n:=n) (m:=8) (by omega)
 rw [hr] at hb
 have e:bZ n=⟨r.tmod 4,1,1+r.tdiv 4⟩:=by unfold bZ;rw [hr]
 rw [e]
 have hq:0≤r.tdiv 4∧r.tdiv 4≤8:=by rw [Int.tdiv_eq_ediv_of_nonneg hb.1];omega
 obtain ⟨q,hq2⟩:∃q,r.tdiv 4=q:=⟨_,rfl⟩
 rw [hq2] at hq ⊢
 repeat' (first
  | refine ah ?_ ?_
  | refine aa 9 rfl (cB [] (kM) ?_)
  | (refine aa 10 rfl ?_;first
   | (refine sx (EA rfl rfl rfl (by decide) ((congrArg _ hq2).trans (IntWalk.i64_in _ (by omega)))) ?_)
   | (refine sx (tK rfl rfl rfl (by decide) rfl) ?_))
  | refine af ?_
  | exact ai|refine ae fun hb=>?_
  | (refine aE (qf []) ?_;exact ab))
def KT (n:ByteArray) (m:Int):V0:=.ag [.sc (.int .i64 0),.sc (.string n),.sc (.int .i64 m),.sc (.int .i64 0),.sc (.slice none 0 0)]
theorem FW (n:ByteArray) (m:Int):FSpec prog 18 [.one (.sc (.string n)),.one (.sc (.int .i64 m))] [] [] (.v (KT n m)) []:=by
 refine aS func18 ?_
 repeat' (first
  | refine ah ?_ ?_
  | refine af ?_
  | exact ai|refine ae fun hb=>?_
  | (refine aE (qf []) ?_;exact ab))
theorem D1:FSpec prog 7 [] [] [] (.b true) []:=by
 refine aS func7 ?_
 have kA:=FW nA 5
 have kP0:=D0 0
 have kP1:=D0 1
 have kN:=(Gs 0 [Ki] (v:=true) (by decide +kernel) (Q:=[ln Ki]) rfl).lit (e:=55) (n:=1) rfl rfl (by decide)
 have h1:=oZ KP
 have h2:=oZ KQ
 have h3:=oZ KR
 have h4:=oZ KD
 have k1:=Jw 0 DY (D7 (bZ 0)) h1
 have k2:=Jw 0 yt (D7 (bZ 1)) h2
 have k3:=Jw 0 xa (DZ (bZ 0)) h3
 have k4:=Jw 0 yu (DZ (bZ 1)) h4
 obtain ⟨x,hx,hxw,hxg⟩:∃x,nS.procs[1]? = some x∧x.waiting=true∧(bd nS.queues x.proc x.req.expr).length=1:=by
  have h:=KS
  cases hx:nS.procs[1]? with
  | none=>rw [hx] at h;cases h
  | some x =>
   rw [hx] at h
   simp only [Option.map_some,Option.some.injEq,Prod.mk.injEq] at h
   exact ⟨x,rfl,h.1,h.2⟩
 have hcl:=(KC (eX.1 Kk).1).2.2.2 x (List.mem_of_getElem? hx)
 have kF:=Jm 0 nS (bZ 1) KE hx hcl.1 hcl.2.1 hcl.2.2
 obtain ⟨B,hB⟩:∃B,bd nS.queues x.proc x.req.expr=B:=⟨_,rfl⟩
 have kG:=Bj 0 nS (bZ 1) KE hx hxw Kk hB
 have kV:=oY 0 nS Kk
 rw [hB] at hxg
 obtain ⟨E,hE⟩:∃E,(lv xa (DZ (bZ 0))).2.1=E:=⟨_,rfl⟩
 have he3:=Kj
 rw [hE] at k3 he3
 have hEl:E.length=2:=by have:=congrArg List.length he3;simpa using this
 obtain ⟨z,hz⟩:∃z,E[(1:Int).toNat]? = some z:=⟨_,List.getElem?_eq_getElem (by show 1<E.length;omega)⟩
 have hzk:z.kind=2:=by
  have h:=congrArg (fun l:List Int=>l[1]?) he3
  simp only [List.getElem?_map] at h
  have hz':E[1]? = some z:=hz
  rw [hz'] at h
  simpa using h
 rw [show (lv DY (D7 (bZ 0))).1=yt from rfl] at k1
 rw [show (lv yt (D7 (bZ 1))).1=xa from rfl] at k2
 rw [show (lv xa (DZ (bZ 0))).1=yu from rfl] at k3
 rw [show (lv yu (DZ (bZ 1))).1=nS from rfl] at k4
 obtain ⟨E1,hE1⟩:∃E,(lv DY (D7 (bZ 0))).2.1=E:=⟨_,rfl⟩
 obtain ⟨E2,hE2⟩:∃E,(lv yt (D7 (bZ 1))).2.1=E:=⟨_,rfl⟩
 obtain ⟨E4,hE4⟩:∃E,(lv yu (DZ (bZ 1))).2.1=E:=⟨_,rfl⟩
 rw [hE1] at k1
 rw [hE2] at k2
 rw [hE4] at k4
 clear h1 h2 h3 h4 hE hE1 hE2 hE4 he3 hcl hB hx
 generalize nS=S4 at *
 generalize yu=S3 at *
 generalize xa=S2 at *
 generalize yt=S1 at *
 generalize bZ 0=p0 at *
 generalize bZ 1=p1 at *
 repeat' (first
  | refine ah ?_ ?_
  | (refine aa 9 rfl ?_;first
   | (refine cH (qf [(0,17)]) (kN) ?_)
   | (refine cC [] (kP0) ?_)
   | (refine cC [] (kP1) ?_)
   | (refine cC [] (kA) ?_)
   | (refine cC [] (k1) ?_)
   | (refine cC [] (k2) ?_)
   | (refine cC [] (k3) ?_)
   | (refine cC [] (k4) ?_)
   | (refine cC [] (kF) ?_)
   | (refine cC [] (kG) ?_)
   | (refine cB [] (kV) ?_))
  | refine af ?_
  | exact ai|(refine ae fun hb=>?_;first|(cases hxw.symm.trans hb;done)|(exfalso;omega)|skip)
  | (refine aE (qf []) ?_;exact ab))
theorem Jo (l:List Rs) (hc:CatOk l):FSpec prog 16 [.one (.sl de l)] [] [] (.tup [.one (.sl dt (l.map ln)),.one (.sc (.int .i64 0))]) []:=by
 refine aS func16 ?_
 have h8:=hc.len
 have kV:=ky l hc
 repeat' (first
  | refine ah ?_ ?_
  | refine aa 9 rfl (cB [] (kV) ?_)
  | refine af ?_
  | exact ai|refine ae fun hb=>?_)
 refine b8 4 1000 81 dt rfl rfl rfl ?_
 refine aj (fun y:Nat×List Qu=>y.1≤l.length∧y.2=(l.take y.1).map ln) (fun y=>bH [1000] [(0,.c (.sl de l)),(4,.c (.own 1000)),(5,.i y.1)] [(1000,.arr 81 dt y.2)]) (fun y=>l.length-y.1) (0,[]) ⟨Nat.zero_le _,rfl⟩ (by exact ao (qf [])) ?_
 rintro ⟨i,T⟩ ⟨hi,hT⟩
 dsimp only at *
 have hTl:T.length=i:=by rw [hT];simp;omega
 by_cases hlt:i<l.length
 ·obtain ⟨r,hr⟩:∃r,l[i]? = some r:=⟨_,List.getElem?_eq_getElem hlt⟩
  have er:l[i]=r:=(List.getElem?_eq_some_iff.1 hr).2
  repeat' (first
   | refine ah ?_ ?_
   | (refine aa 8 rfl ?_;refine sx (aw rfl rfl (aL rfl rfl) (Ga [ln r] rfl rfl rfl) rfl aR aR) ?_)
   | refine af ?_
   | exact ai|refine ae fun hb=>?_)
  refine ⟨(i+1,T++[ln r]),⟨by dsimp only;omega,?_⟩,by dsimp only;omega,?_⟩
  ·dsimp only
   rw [hT,List.take_succ_eq_append_getElem hlt,er]
   simp
  ·exact ao (qf [(1000,22)])
 ·obtain rfl:T=l.map ln:=by rw [hT,List.take_of_length_le (by omega)]
  repeat' (first
   | refine ah ?_ ?_
   | refine af ?_
   | exact ai|refine ae fun hb=>?_
   | (refine fL (qf []) ?_;exact ab))
theorem Ig (l:List Rs) {v:Bool} (hv:Bc l=v):FSpec prog 16 [.one (.sl de l)] [] [] (.tup [.one (.sl dt (bif v then l.map ln else [])),iV (bif v then 0 else 1)]) []:=by
 cases v with
 | true=>exact Jo l (uz.1 hv)
 | false =>
  have kV:=Jg l
  rw [hv] at kV
  refine aS func16 ?_
  repeat' (first
   | refine ah ?_ ?_
   | refine aa 9 rfl (cB [] (kV) ?_)
   | refine af ?_
   | exact ai|refine ae fun hb=>?_
   | (refine fL (qf []) ?_;exact ab))
theorem Ih (d:Nat) (l:List Rs) {v:Bool} (hv:Bc l=v) {Q:List Qu} (hQ:(bif v then l.map ln else [])=Q):FSpec prog 6 [.one (.sl de l)] [] [] (.tup [(Cs.mk 0 Q []).a d,iV (bif v then 0 else 1)]) []:=by
 have kN:=Ig l hv
 rw [hQ] at kN
 refine aS func6 ?_
 cases v with
 | true =>
  repeat' (first
   | refine ah ?_ ?_
   | refine aa 9 rfl (cC [] (kN) ?_)
   | refine af ?_
   | exact ai|(refine ae fun hb=>?_;first|(exact absurd rfl hb)|skip)
   | (refine fL (qf []) ?_;exact ab))
 | false =>
  obtain rfl:[]=Q:=hQ
  repeat' (first
   | refine ah ?_ ?_
   | refine aa 9 rfl (cC [] (kN) ?_)
   | refine af ?_
   | exact ai|(refine ae fun hb=>?_;first|(exact absurd hb (by decide))|skip)
   | (refine fL (qf []) ?_;exact ab))
class EQR (P:Program) (t:TypeId) (sh:outParam (List Nat)):Prop where
 g:P.eqGuardType P.depth t=false
 e:∀(w:World) (a:List Value),a.map shp=sh→(Op.equal t (.agg a.toArray) (.agg a.toArray)).run P w = .ok true w
section
variable {P:Program} {o:Oper} {s:Mst}
theorem cl {t t':TypeId} {x y:Operand} {la:List D} {a:List Value} {sh:List Nat} [I:EQR P t sh] (ho:o.op = .binOp .neq t x y t') (hx:s.ev x = .v (.ag la)) (hy:s.ev y = .v (.ag la)) (ha:scs la=some a) (h1:a.map shp=sh):LOp P o s [] ⟨.b false,[],[]⟩ :=
 bj fun cx st ρ ac w hr hc _=>by
  have he:=hc x (by simp [ho,Op.operands])
  have he2:=hc y (by simp [ho,Op.operands])
  rw [hx] at he
  rw [hy] at he2
  have hv:=hr.ev x
  rw [he] at hv
  have hv2:=hr.ev y
  rw [he2] at hv2
  obtain ⟨vs,hv,hA⟩:=hv
  obtain ⟨us,hv2,hB⟩:=hv2
  have e1:=eA ha hA
  have e2:=eA ha hB
  subst e1
  subst e2
  refine ⟨.bool false,?_,rfl,fun k hk=>by simp [TV.has,V0.has,D.has] at hk⟩
  unfold execOp
  rw [ho]
  simp [hv,hv2,eqGuard,binOp,I.e w us h1,I.g]
theorem cm {t t':TypeId} {x y:Operand} {la:List D} {a:List Value} {sh:List Nat} [I:EQR P t sh] (ho:o.op = .binOp .eql t x y t') (hx:s.ev x = .v (.ag la)) (hy:s.ev y = .v (.ag la)) (ha:scs la=some a) (h1:a.map shp=sh):LOp P o s [] ⟨.b true,[],[]⟩ :=
 bj fun cx st ρ ac w hr hc _=>by
  have he:=hc x (by simp [ho,Op.operands])
  have he2:=hc y (by simp [ho,Op.operands])
  rw [hx] at he
  rw [hy] at he2
  have hv:=hr.ev x
  rw [he] at hv
  have hv2:=hr.ev y
  rw [he2] at hv2
  obtain ⟨vs,hv,hA⟩:=hv
  obtain ⟨us,hv2,hB⟩:=hv2
  have e1:=eA ha hA
  have e2:=eA ha hB
  subst e1
  subst e2
  refine ⟨.bool true,?_,rfl,fun k hk=>by simp [TV.has,V0.has,D.has] at hk⟩
  unfold execOp
  rw [ho]
  simp [hv,hv2,eqGuard,binOp,I.e w us h1,I.g]
end
theorem uD {P:Program} {o:Oper} {s:Mst} {t t':TypeId} {x y:Operand} {a b:Bool} (hT:P.underlying t=some .bool) (ho:o.op = .binOp .eql t x y t') (hx:s.ev x = .b a) (hy:s.ev y = .b b):LOp P o s [] ⟨.b (a == b),[],[]⟩ :=
 gT (by rw [ho];rfl) hx hy fun ev w hx hy=>by simp [execOp,ho,hx,hy,eqGuard,binOp,run_equal_bool w t a b hT]
theorem dO {a:List Value} {k:Nat} {l:List Nat} (h:a.map shp=k :: l):∃x b,a=x :: b∧shp x=k∧b.map shp=l:=by
 cases a with
 | nil=>cases h
 | cons x b =>
  simp only [List.map_cons,List.cons.injEq] at h
  exact ⟨x,b,rfl,h.1,h.2⟩
instance:EQR prog 197 [0,0,0,0,0]:=⟨by kernel_rfl,fun w a ha=>by
 have hS:prog.underlying 197=some (.struct (prog.fieldsOf 197)):=by kernel_rfl
 have hp:prog.stoodInHeld 197=false:=by kernel_rfl
 obtain ⟨a0,r0,rfl,h0,k0⟩:=dO ha
 obtain ⟨x0,rfl⟩:=cS h0
 obtain ⟨a1,r1,rfl,h1,k1⟩:=dO k0
 obtain ⟨x1,rfl⟩:=cS h1
 obtain ⟨a2,r2,rfl,h2,k2⟩:=dO k1
 obtain ⟨x2,rfl⟩:=cS h2
 obtain ⟨a3,r3,rfl,h3,k3⟩:=dO k2
 obtain ⟨x3,rfl⟩:=cS h3
 obtain ⟨a4,r4,rfl,h4,k4⟩:=dO k3
 obtain ⟨x4,rfl⟩:=cS h4
 obtain rfl:=List.map_eq_nil_iff.1 k4
 show (Op.equalIn 10000 197 _ _).run _ _=_
 rw [show (10000:Nat)=9999+1 from rfl,run_equalIn_agg w 9999 197 _ _ hS hp]
 have u3:=underlying3
 have u4:=underlying9
 simp only [Program.fieldsOf,underlying197,underlying35,underlying37]
 go_simp⟩
instance:EQR prog 171 [0,0,0,0,0,0,0]:=⟨by kernel_rfl,fun w a ha=>by
 have hS:prog.underlying 171=some (.struct (prog.fieldsOf 171)):=by kernel_rfl
 have hp:prog.stoodInHeld 171=false:=by kernel_rfl
 obtain ⟨a0,r0,rfl,h0,k0⟩:=dO ha
 obtain ⟨x0,rfl⟩:=cS h0
 obtain ⟨a1,r1,rfl,h1,k1⟩:=dO k0
 obtain ⟨x1,rfl⟩:=cS h1
 obtain ⟨a2,r2,rfl,h2,k2⟩:=dO k1
 obtain ⟨x2,rfl⟩:=cS h2
 obtain ⟨a3,r3,rfl,h3,k3⟩:=dO k2
 obtain ⟨x3,rfl⟩:=cS h3
 obtain ⟨a4,r4,rfl,h4,k4⟩:=dO k3
 obtain ⟨x4,rfl⟩:=cS h4
 obtain ⟨a5,r5,rfl,h5,k5⟩:=dO k4
 obtain ⟨x5,rfl⟩:=cS h5
 obtain ⟨a6,r6,rfl,h6,k6⟩:=dO k5
 obtain ⟨x6,rfl⟩:=cS h6
 obtain rfl:=List.map_eq_nil_iff.1 k6
 show (Op.equalIn 10000 171 _ _).run _ _=_
 rw [show (10000:Nat)=9999+1 from rfl,run_equalIn_agg w 9999 171 _ _ hS hp]
 have u3:=underlying3
 have u4:=underlying9
 simp only [Program.fieldsOf,underlying171,underlying35,underlying37]
 go_simp⟩
instance:EQR prog 67 [0,0,0,0,1,0,0]:=⟨by kernel_rfl,fun w a ha=>by
 have hS:prog.underlying 67=some (.struct (prog.fieldsOf 67)):=by kernel_rfl
 have hp:prog.stoodInHeld 67=false:=by kernel_rfl
 obtain ⟨a0,r0,rfl,h0,k0⟩:=dO ha
 obtain ⟨x0,rfl⟩:=cS h0
 obtain ⟨a1,r1,rfl,h1,k1⟩:=dO k0
 obtain ⟨x1,rfl⟩:=cS h1
 obtain ⟨a2,r2,rfl,h2,k2⟩:=dO k1
 obtain ⟨x2,rfl⟩:=cS h2
 obtain ⟨a3,r3,rfl,h3,k3⟩:=dO k2
 obtain ⟨x3,rfl⟩:=cS h3
 obtain ⟨a4,r4,rfl,h4,k4⟩:=dO k3
 obtain ⟨x4,rfl⟩:=Ap h4
 obtain ⟨a5,r5,rfl,h5,k5⟩:=dO k4
 obtain ⟨x5,rfl⟩:=cS h5
 obtain ⟨a6,r6,rfl,h6,k6⟩:=dO k5
 obtain ⟨x6,rfl⟩:=cS h6
 obtain rfl:=List.map_eq_nil_iff.1 k6
 show (Op.equalIn 10000 67 _ _).run _ _=_
 rw [show (10000:Nat)=9999+1 from rfl,run_equalIn_agg w 9999 67 _ _ hS hp]
 have u3:=underlying3
 have u4:=underlying9
 simp only [Program.fieldsOf,underlying67,underlying35,underlying37]
 go_simp⟩
instance:EQR prog 55 [1,0,0,0]:=⟨by kernel_rfl,fun w a ha=>by
 have hS:prog.underlying 55=some (.struct (prog.fieldsOf 55)):=by kernel_rfl
 have hp:prog.stoodInHeld 55=false:=by kernel_rfl
 obtain ⟨a0,r0,rfl,h0,k0⟩:=dO ha
 obtain ⟨x0,rfl⟩:=Ap h0
 obtain ⟨a1,r1,rfl,h1,k1⟩:=dO k0
 obtain ⟨x1,rfl⟩:=cS h1
 obtain ⟨a2,r2,rfl,h2,k2⟩:=dO k1
 obtain ⟨x2,rfl⟩:=cS h2
 obtain ⟨a3,r3,rfl,h3,k3⟩:=dO k2
 obtain ⟨x3,rfl⟩:=cS h3
 obtain rfl:=List.map_eq_nil_iff.1 k3
 show (Op.equalIn 10000 55 _ _).run _ _=_
 rw [show (10000:Nat)=9999+1 from rfl,run_equalIn_agg w 9999 55 _ _ hS hp]
 have u3:=underlying3
 have u4:=underlying9
 simp only [Program.fieldsOf,underlying55]
 go_simp⟩
instance:EQR prog 141 [1,0,0,0,0]:=⟨by kernel_rfl,fun w a ha=>by
 have hS:prog.underlying 141=some (.struct (prog.fieldsOf 141)):=by kernel_rfl
 have hp:prog.stoodInHeld 141=false:=by kernel_rfl
 obtain ⟨a0,r0,rfl,h0,k0⟩:=dO ha
 obtain ⟨x0,rfl⟩:=Ap h0
 obtain ⟨a1,r1,rfl,h1,k1⟩:=dO k0
 obtain ⟨x1,rfl⟩:=cS h1
 obtain ⟨a2,r2,rfl,h2,k2⟩:=dO k1
 obtain ⟨x2,rfl⟩:=cS h2
 obtain ⟨a3,r3,rfl,h3,k3⟩:=dO k2
 obtain ⟨x3,rfl⟩:=cS h3
 obtain ⟨a4,r4,rfl,h4,k4⟩:=dO k3
 obtain ⟨x4,rfl⟩:=cS h4
 obtain rfl:=List.map_eq_nil_iff.1 k4
 show (Op.equalIn 10000 141 _ _).run _ _=_
 rw [show (10000:Nat)=9999+1 from rfl,run_equalIn_agg w 9999 141 _ _ hS hp]
 have u3:=underlying3
 have u4:=underlying9
 simp only [Program.fieldsOf,underlying141,underlying37]
 go_simp⟩
instance:EQR prog 143 [0,0]:=⟨by kernel_rfl,fun w a ha=>by
 have hS:prog.underlying 143=some (.struct (prog.fieldsOf 143)):=by kernel_rfl
 have hp:prog.stoodInHeld 143=false:=by kernel_rfl
 obtain ⟨a0,r0,rfl,h0,k0⟩:=dO ha
 obtain ⟨x0,rfl⟩:=cS h0
 obtain ⟨a1,r1,rfl,h1,k1⟩:=dO k0
 obtain ⟨x1,rfl⟩:=cS h1
 obtain rfl:=List.map_eq_nil_iff.1 k1
 show (Op.equalIn 10000 143 _ _).run _ _=_
 rw [show (10000:Nat)=9999+1 from rfl,run_equalIn_agg w 9999 143 _ _ hS hp]
 have u3:=underlying3
 have u4:=underlying9
 simp only [Program.fieldsOf,underlying143]
 go_simp⟩
instance:EQR prog 35 [0,0,0]:=⟨by kernel_rfl,fun w a ha=>by
 have hS:prog.underlying 35=some (.struct (prog.fieldsOf 35)):=by kernel_rfl
 have hp:prog.stoodInHeld 35=false:=by kernel_rfl
 obtain ⟨a0,r0,rfl,h0,k0⟩:=dO ha
 obtain ⟨x0,rfl⟩:=cS h0
 obtain ⟨a1,r1,rfl,h1,k1⟩:=dO k0
 obtain ⟨x1,rfl⟩:=cS h1
 obtain ⟨a2,r2,rfl,h2,k2⟩:=dO k1
 obtain ⟨x2,rfl⟩:=cS h2
 obtain rfl:=List.map_eq_nil_iff.1 k2
 show (Op.equalIn 10000 35 _ _).run _ _=_
 rw [show (10000:Nat)=9999+1 from rfl,run_equalIn_agg w 9999 35 _ _ hS hp]
 have u3:=underlying3
 have u4:=underlying9
 simp only [Program.fieldsOf,underlying35]
 go_simp⟩
instance:EQR prog 39 [1,0,0]:=⟨by kernel_rfl,fun w a ha=>by
 have hS:prog.underlying 39=some (.struct (prog.fieldsOf 39)):=by kernel_rfl
 have hp:prog.stoodInHeld 39=false:=by kernel_rfl
 obtain ⟨a0,r0,rfl,h0,k0⟩:=dO ha
 obtain ⟨x0,rfl⟩:=Ap h0
 obtain ⟨a1,r1,rfl,h1,k1⟩:=dO k0
 obtain ⟨x1,rfl⟩:=cS h1
 obtain ⟨a2,r2,rfl,h2,k2⟩:=dO k1
 obtain ⟨x2,rfl⟩:=cS h2
 obtain rfl:=List.map_eq_nil_iff.1 k2
 show (Op.equalIn 10000 39 _ _).run _ _=_
 rw [show (10000:Nat)=9999+1 from rfl,run_equalIn_agg w 9999 39 _ _ hS hp]
 have u3:=underlying3
 have u4:=underlying9
 simp only [Program.fieldsOf,underlying39,underlying37]
 go_simp⟩
theorem FX (L:List Ho):FSpec prog 103 [.one (.sl ga L),.one (.sl ga L)] [] [] (.b true) []:=by
 refine aS func103 ?_
 refine aH (fun c ρ a w hr=>bh (t:=0) hr rfl) (fun hl0=>?_)
 repeat' (first
  | refine ah ?_ ?_
  | (refine aa 10 rfl ?_;first|refine sx (cl rfl rfl rfl rfl rfl) ?_|refine sx (cm rfl rfl rfl rfl rfl) ?_)
  | refine af ?_
  | exact ai|(refine ae fun hb=>?_;first|(exact absurd rfl hb)|skip))
 refine aj (fun i=>i≤L.length) (fun i=>bH [] [(0,.c (.sl ga L)),(1,.c (.sl ga L)),(5,.i i)] []) (fun i=>L.length-i) 0 (Nat.zero_le _) (by exact ao (qf [])) ?_
 intro i hi
 by_cases hlt:i<L.length
 ·obtain ⟨o,ho⟩:∃o,L[i]? = some o:=⟨_,List.getElem?_eq_getElem hlt⟩
  repeat' (first
   | refine ah ?_ ?_
   | (refine aa 10 rfl ?_;first|refine sx (cl rfl rfl rfl rfl rfl) ?_|refine sx (cm rfl rfl rfl rfl rfl) ?_)
   | refine af ?_
   | exact ai|(refine ae fun hb=>?_;first|(exact absurd rfl hb)|skip))
  refine ⟨i+1,hlt,by omega,?_⟩
  exact ao (qf [])
 ·repeat' (first
   | refine ah ?_ ?_
   | refine af ?_
   | exact ai|refine ae fun hb=>?_
   | (refine aE (qf []) ?_;exact ab))
theorem zH (L:List Wt):FSpec prog 104 [.one (.sl eZ L),.one (.sl eZ L)] [] [] (.b true) []:=by
 refine aS func104 ?_
 refine aH (fun c ρ a w hr=>bh (t:=0) hr rfl) (fun hl0=>?_)
 repeat' (first
  | refine ah ?_ ?_
  | (refine aa 10 rfl ?_;first|refine sx (cl rfl rfl rfl rfl rfl) ?_|refine sx (cm rfl rfl rfl rfl rfl) ?_)
  | refine af ?_
  | exact ai|(refine ae fun hb=>?_;first|(exact absurd rfl hb)|skip))
 refine aj (fun i=>i≤L.length) (fun i=>bH [] [(0,.c (.sl eZ L)),(1,.c (.sl eZ L)),(5,.i i)] []) (fun i=>L.length-i) 0 (Nat.zero_le _) (by exact ao (qf [])) ?_
 intro i hi
 by_cases hlt:i<L.length
 ·obtain ⟨o,ho⟩:∃o,L[i]? = some o:=⟨_,List.getElem?_eq_getElem hlt⟩
  repeat' (first
   | refine ah ?_ ?_
   | (refine aa 10 rfl ?_;first|refine sx (cl rfl rfl rfl rfl rfl) ?_|refine sx (cm rfl rfl rfl rfl rfl) ?_)
   | refine af ?_
   | exact ai|(refine ae fun hb=>?_;first|(exact absurd rfl hb)|skip))
  refine ⟨i+1,hlt,by omega,?_⟩
  exact ao (qf [])
 ·repeat' (first
   | refine ah ?_ ?_
   | refine af ?_
   | exact ai|refine ae fun hb=>?_
   | (refine aE (qf []) ?_;exact ab))
theorem Ii (q:Qu):FSpec prog 43 [q.a,q.a] [] [] (.b true) []:=by
 refine aS func43 ?_
 have k1:=FX q.holds
 have k2:=zH q.convs
 have k3:=zH q.waits
 repeat' (first
  | refine ah ?_ ?_
  | (refine aa 9 rfl ?_;first
   | (refine cB [] (k1) ?_)
   | (refine cB [] (k2) ?_)
   | (refine cB [] (k3) ?_))
  | (refine aa 10 rfl ?_;first|refine sx (cl rfl rfl rfl rfl rfl) ?_|refine sx (cm rfl rfl rfl rfl rfl) ?_)
  | refine af ?_
  | exact ai|(refine ae fun hb=>?_;first|(exact absurd rfl hb)|skip)
  | (refine aE (qf []) ?_;exact ab))
theorem Ij (L:List Qu):FSpec prog 21 [.one (.sl dt L),.one (.sl dt L)] [] [] (.b true) []:=by
 refine aS func21 ?_
 refine aH (fun c ρ a w hr=>bh (t:=0) hr rfl) (fun hl0=>?_)
 repeat' (first
  | refine ah ?_ ?_
  | (refine aa 10 rfl ?_;first|refine sx (cl rfl rfl rfl rfl rfl) ?_|refine sx (cm rfl rfl rfl rfl rfl) ?_)
  | refine af ?_
  | exact ai|(refine ae fun hb=>?_;first|(exact absurd rfl hb)|skip))
 refine aj (fun i=>i≤L.length) (fun i=>bH [] [(0,.c (.sl dt L)),(1,.c (.sl dt L)),(5,.i i)] []) (fun i=>L.length-i) 0 (Nat.zero_le _) (by exact ao (qf [])) ?_
 intro i hi
 by_cases hlt:i<L.length
 ·obtain ⟨o,ho⟩:∃o,L[i]? = some o:=⟨_,List.getElem?_eq_getElem hlt⟩
  have kQ:=Ii o
  repeat' (first
   | refine ah ?_ ?_
   | refine aa 9 rfl (cB [] (kQ) ?_)
   | (refine aa 10 rfl ?_;first|refine sx (cl rfl rfl rfl rfl rfl) ?_|refine sx (cm rfl rfl rfl rfl rfl) ?_)
   | refine af ?_
   | exact ai|(refine ae fun hb=>?_;first|(exact absurd rfl hb)|skip))
  refine ⟨i+1,hlt,by omega,?_⟩
  exact ao (qf [])
 ·repeat' (first
   | refine ah ?_ ?_
   | refine af ?_
   | exact ai|refine ae fun hb=>?_
   | (refine aE (qf []) ?_;exact ab))
theorem FY (g:Lg):FSpec prog 44 [g.a,g.a] [] [] (.b true) []:=by
 refine aS func44 ?_
 refine aH (fun c ρ a w hr=>cR (t:=0) (i:=0) hr rfl rfl) (fun hl0_0=>?_)
 refine aH (fun c ρ a w hr=>cR (t:=0) (i:=1) hr rfl rfl) (fun hl0_1=>?_)
 repeat' (first
  | refine ah ?_ ?_
  | (refine aa 10 rfl ?_;first|refine sx (cl rfl rfl rfl rfl rfl) ?_|refine sx (cm rfl rfl rfl rfl rfl) ?_)
  | refine af ?_
  | exact ai|(refine ae fun hb=>?_;first|(exact absurd rfl hb)|skip))
 refine aj (fun i=>i≤g.entries.length) (fun i=>bH [2,3] [(2,.c (.ptr 2 0)),(3,.c (.ptr 3 0)),(5,.i i)] [(2,.box 61 [.sl jP g.entries,.sl lw g.saves]),(3,.box 61 [.sl jP g.entries,.sl lw g.saves])]) (fun i=>g.entries.length-i) 0 (Nat.zero_le _) (by exact ao (qf [])) ?_
 intro i hi
 by_cases hlt:i<g.entries.length
 ·obtain ⟨o,ho⟩:∃o,g.entries[i]? = some o:=⟨_,List.getElem?_eq_getElem hlt⟩
  repeat' (first
   | refine ah ?_ ?_
   | (refine aa 10 rfl ?_;first|refine sx (cl rfl rfl rfl rfl rfl) ?_|refine sx (cm rfl rfl rfl rfl rfl) ?_)
   | refine af ?_
   | exact ai|(refine ae fun hb=>?_;first|(exact absurd rfl hb)|skip))
  refine ⟨i+1,hlt,by omega,?_⟩
  exact ao (qf [])
 repeat' (first
  | refine ah ?_ ?_
  | refine af ?_
  | exact ai|refine ae fun hb=>?_)
 refine aj (fun i=>i≤g.saves.length) (fun i=>bH [2,3] [(2,.c (.ptr 2 0)),(3,.c (.ptr 3 0)),(6,.i i)] [(2,.box 61 [.sl jP g.entries,.sl lw g.saves]),(3,.box 61 [.sl jP g.entries,.sl lw g.saves])]) (fun i=>g.saves.length-i) 0 (Nat.zero_le _) (by exact ao (qf [])) ?_
 clear hi hlt
 intro i hi
 by_cases hlt:i<g.saves.length
 ·obtain ⟨o,ho⟩:∃o,g.saves[i]? = some o:=⟨_,List.getElem?_eq_getElem hlt⟩
  repeat' (first
   | refine ah ?_ ?_
   | (refine aa 10 rfl ?_;first|refine sx (cl rfl rfl rfl rfl rfl) ?_|refine sx (cm rfl rfl rfl rfl rfl) ?_)
   | refine af ?_
   | exact ai|(refine ae fun hb=>?_;first|(exact absurd rfl hb)|skip))
  refine ⟨i+1,hlt,by omega,?_⟩
  exact ao (qf [])
 ·repeat' (first
   | refine ah ?_ ?_
   | refine af ?_
   | exact ai|refine ae fun hb=>?_
   | (refine aE (qf []) ?_;exact ab))
theorem FZ:∀(x:Ex) (d:Nat),FSpec prog 105 [x.a d,x.a d] [] [] (.b true) []:=by
 refine Ex.ind (fun k a l ih=>?_)
 intro d
 show FSpec prog 105 [.ag (rp d k a l),.ag (rp d k a l)] [] [] (.b true) []
 refine aS func105 ?_
 refine aH (fun c ρ a w hr=>gX (t:=0) (i:=4) hr rfl rfl) (fun hx=>?_)
 obtain ⟨hlen,hne⟩:=hx
 rcases Nat.eq_zero_or_pos l.length with h0|h0
 ·obtain rfl:l=[]:=List.length_eq_zero_iff.1 h0
  repeat' (first
   | refine ah ?_ ?_
   | (refine aa 10 rfl ?_;first|refine sx (cl rfl rfl rfl rfl rfl) ?_|refine sx (cm rfl rfl rfl rfl rfl) ?_)
   | refine af ?_
   | exact ai|(refine ae fun hb=>?_;first|(exact absurd rfl hb)|skip))
  refine aj (fun _:Unit=>True) (fun _=>bH [2,3] [(2,.c (.ptr 2 0)),(3,.c (.ptr 3 0)),(5,.i (0:Nat))] [(2,.box 42 (rp d k a [])),(3,.box 42 (rp d k a []))]) (fun _=>0) () trivial (by exact ao (qf [])) ?_
  rintro _ -
  repeat' (first
   | refine ah ?_ ?_
   | refine af ?_
   | exact ai|(refine ae fun hb=>?_;first|(exfalso;omega)|skip)
   | (refine aE (qf []) ?_;exact ab))
 ·obtain ⟨e,rfl⟩:=hne h0
  clear hne
  repeat' (first
   | refine ah ?_ ?_
   | (refine aa 10 rfl ?_;first|refine sx (cl rfl rfl rfl rfl rfl) ?_|refine sx (cm rfl rfl rfl rfl rfl) ?_)
   | refine af ?_
   | exact ai|(refine ae fun hb=>?_;first|(exact absurd rfl hb)|skip))
  refine aj (fun i=>i≤l.length) (fun i=>bH [2,3] [(2,.c (.ptr 2 0)),(3,.c (.ptr 3 0)),(5,.i i)] [(2,.box 42 (rp (e+1) k a l)),(3,.box 42 (rp (e+1) k a l))]) (fun i=>l.length-i) 0 (Nat.zero_le _) (by exact ao (qf [])) ?_
  intro i hi
  by_cases hlt:i<l.length
  ·have kS:=ih l[i] (List.getElem_mem hlt) e
   clear ih
   repeat' (first
    | refine ah ?_ ?_
    | refine aa 9 rfl (cB [] (kS) ?_)
    | (refine aa 10 rfl ?_;first|refine sx (cl rfl rfl rfl rfl rfl) ?_|refine sx (cm rfl rfl rfl rfl rfl) ?_)
    | refine af ?_
    | exact ai|(refine ae fun hb=>?_;first|(exact absurd rfl hb)|skip))
   refine ⟨i+1,by omega,by omega,?_⟩
   exact ao (qf [])
  ·repeat' (first
    | refine ah ?_ ?_
    | refine af ?_
    | exact ai|refine ae fun hb=>?_
    | (refine aE (qf []) ?_;exact ab))
theorem F0 (d:Nat) (r:Rq):FSpec prog 45 [r.a d,r.a d] [] [] (.b true) []:=by
 refine aS func45 ?_
 have kS:=FZ r.expr d
 repeat' (first
  | refine ah ?_ ?_
  | refine aa 9 rfl (cB [] (kS) ?_)
  | (refine aa 10 rfl ?_;first|refine sx (cl rfl rfl rfl rfl rfl) ?_|refine sx (cm rfl rfl rfl rfl rfl) ?_|refine sx (uD underlying4 rfl rfl rfl) ?_)
  | refine af ?_
  | exact ai|(refine ae fun hb=>?_;first|(exact absurd rfl hb)|skip))
 all_goals (refine dD ?_;simp)
theorem F1 (d:Nat) (x:Pc):FSpec prog 22 [x.a d,x.a d] [] [] (.b true) []:=by
 refine aS func22 ?_
 have k1:=FY x.led
 have k2:=F0 d x.req
 repeat' (first
  | refine ah ?_ ?_
  | (refine aa 9 rfl ?_;first
   | (refine cB [] (k1) ?_)
   | (refine cB [] (k2) ?_))
  | (refine aa 10 rfl ?_;first|refine sx (cl rfl rfl rfl rfl rfl) ?_|refine sx (cm rfl rfl rfl rfl rfl) ?_|refine sx (uD underlying4 rfl rfl rfl) ?_)
  | refine af ?_
  | exact ai|(refine ae fun hb=>?_;first|(exact absurd rfl hb)|skip))
 all_goals (refine dD ?_;simp)
theorem Ik (d:Nat) (c:Cs):FSpec prog 8 [c.a d,c.a d] [] [] (.b true) []:=by
 refine aS func8 ?_
 refine aH (fun c ρ a w hr=>cR (t:=0) (i:=2) hr rfl rfl) (fun hl0_2=>?_)
 have k1:=Ij c.queues
 repeat' (first
  | refine ah ?_ ?_
  | refine aa 9 rfl (cB [] (k1) ?_)
  | (refine aa 10 rfl ?_;first|refine sx (cl rfl rfl rfl rfl rfl) ?_|refine sx (cm rfl rfl rfl rfl rfl) ?_)
  | refine af ?_
  | exact ai|(refine ae fun hb=>?_;first|(exact absurd rfl hb)|skip))
 refine aj (fun i=>i≤c.procs.length) (fun i=>bH [2,3] [(2,.c (.ptr 2 0)),(3,.c (.ptr 3 0)),(5,.i i)] [(2,.box 26 (c.d d)),(3,.box 26 (c.d d))]) (fun i=>c.procs.length-i) 0 (Nat.zero_le _) (by exact ao (qf [])) ?_
 intro i hi
 by_cases hlt:i<c.procs.length
 ·obtain ⟨x,hx⟩:∃x,c.procs[i]? = some x:=⟨_,List.getElem?_eq_getElem hlt⟩
  have kP:=F1 d x
  repeat' (first
   | refine ah ?_ ?_
   | refine aa 9 rfl (cB [] (kP) ?_)
   | (refine aa 10 rfl ?_;first|refine sx (cl rfl rfl rfl rfl rfl) ?_|refine sx (cm rfl rfl rfl rfl rfl) ?_)
   | refine af ?_
   | exact ai|(refine ae fun hb=>?_;first|(exact absurd rfl hb)|skip))
  refine ⟨i+1,hlt,by omega,?_⟩
  exact ao (qf [])
 ·repeat' (first
   | refine ah ?_ ?_
   | refine af ?_
   | exact ai|refine ae fun hb=>?_
   | (refine aE (qf []) ?_;exact ab))
theorem F2 (l:List Rs):FSpec prog 3 [.one (.sl de l)] [] [] (.b true) []:=by
 refine aS func3 ?_
 obtain ⟨v,hv⟩:∃v,Bc l=v:=⟨_,rfl⟩
 obtain ⟨Q,hQ⟩:∃Q,(bif v then l.map ln else [])=Q:=⟨_,rfl⟩
 have kN:=Gs 0 l hv hQ
 have kM:=Ih 0 l hv hQ
 have kS:=Ik 0 ⟨0,Q,[]⟩
 obtain ⟨b,hb0⟩:∃b,eH ⟨0,Q,[]⟩=b:=⟨_,rfl⟩
 have kV:=oY 0 ⟨0,Q,[]⟩ hb0
 have kW:=FV 0 ⟨0,Q,[]⟩ hb0
 have kA:=D1
 generalize (bif v then (0:Int) else 1)=e at kN kM
 cases b <;>
 repeat' (first
  | refine ah ?_ ?_
  | (refine aa 9 rfl ?_;first
   | (refine cC [] (kN) ?_)
   | (refine cC [] (kM) ?_)
   | (refine cB [] (kA) ?_)
   | (refine cB [] (kS) ?_)
   | (refine cB [] (kV) ?_)
   | (refine cB [] (kW) ?_))
  | (refine aa 10 rfl ?_;refine sx (uD underlying4 rfl rfl rfl) ?_)
  | refine af ?_
  | exact ai|(refine ae fun hb=>?_;first|(exact absurd rfl hb)|skip)
  | (refine aE (qf []) ?_;exact ab))
end Go.Proofs.YtjndcdcbjidocaaGreatDoor
