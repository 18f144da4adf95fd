/- Part 29 of 56 of the proof of both_hold (no condition). -/
import Derived.Test.YtcgpepnbohejfaaGreatDoorK28
set_option linter.unusedVariables false
set_option linter.unusedSimpArgs false
set_option maxRecDepth 100000
set_option maxHeartbeats 64000000
namespace Go.Proofs.YtcgpepnbohejfaaGreatDoor
open Go.RowKit Go.Proofs.Tryz
def HU (d:Nat) (w:Wk):List (Nat×Option Box):=[(0,some (.box 91 (ze w 2))),(1,some (.arr 66 (fu d) w.c.procs)),(2,some (.arr 79 iQ w.ev))]
theorem FD (d:Nat) (w:Wk) (h8:w.c.procs.length≤100000) (hx:JG w.c.procs) {e:Int} (he:et w=e):FSpec prog 76 [iS] (HP d w) [] (.i e) (HU d w):=by
 refine aT func76 ?_;obtain ⟨E,hE⟩:∃E,gY w.c.now 0 w.c.procs (-1,0)=E:=⟨_,rfl⟩;obtain rfl:E.1=e:=by rw [←he,←hE];rfl
 clear he;repeat' (first|refine af ?_ ?_|(refine aa 21 rfl ?_;refine sx (aE rfl rfl) ?_)|refine ae ?_|exact ah|refine ab fun hb=>?_)
 refine ak (fun y:Nat×Int×Int=>y.1≤w.c.procs.length∧gY w.c.now y.1 (w.c.procs.drop y.1) y.2=E∧(y.2.1<0∨∃(m:Nat) (z:Pc),y.2.1=(m:Int)∧w.c.procs[m]? = some z∧y.2.2=z.since+z.req.limit)) (fun y=>cq [0,1,2] [(0,.v iS),(3,.i y.2.1),(10,.c (.own 1)),(11,.i w.c.procs.length),(12,.i y.1)] [(0,.box 91 (ze w 2)),(1,.arr 66 (fu d) w.c.procs),(2,.arr 79 iQ w.ev)]) (fun y=>w.c.procs.length-y.1) (0,-1,0) ⟨Nat.zero_le _,hE,.inl (by decide)⟩ a7 ?_;rintro ⟨i,b⟩ ⟨hi,hs,hB⟩;dsimp only at *
 by_cases hlt:i<w.c.procs.length
 case neg =>
  obtain rfl:b=E:=by rw [←hs,List.drop_eq_nil_of_le (by omega)];rfl
  repeat' (first|refine af ?_ ?_|refine ae ?_|exact ah|refine ab fun hb=>?_|exact bB|fail)
 obtain ⟨x,hxe⟩:∃x,w.c.procs[i]=x:=⟨_,rfl⟩;have hgx:w.c.procs[i]? = some x:=by rw [List.getElem?_eq_getElem hlt,hxe]
 obtain ⟨⟨k1,k2⟩,k3,k4⟩:=hx x (hxe▸List.getElem_mem hlt);rw [List.drop_eq_getElem_cons hlt,hxe,xS] at hs;obtain ⟨b1,b2⟩:=b;dsimp only at *
 by_cases hc0:x.waiting=true∧¬x.req.limit=0∧x.since+x.req.limit≤w.c.now
 case neg =>
  rw [show (x.waiting && !decide (x.req.limit=0) && decide (x.since+x.req.limit≤w.c.now))=false by
   cases hh:(x.waiting && !decide (x.req.limit=0) && decide (x.since+x.req.limit≤w.c.now)) with
   | false=>rfl
   | true =>
    simp only [Bool.and_eq_true,Bool.not_eq_true',decide_eq_true_eq,decide_eq_false_iff_not] at hh;exact absurd ⟨hh.1.1,hh.1.2,hh.2⟩ hc0,Bool.false_and,cond_false] at hs
  have hc1:x.waiting=true→¬x.req.limit=0→x.since+x.req.limit≤w.c.now→False:=fun a b c=>hc0 ⟨a,b,c⟩;clear hc0;repeat' (first|refine af ?_ ?_|(refine aa 21 rfl ?_;refine sx (aE rfl rfl) ?_)|refine ae ?_|exact ah|(refine ab fun hb=>?_;first|(exact (hc1 (by assumption) (by assumption) (by omega)).elim)|skip))
  all_goals first|(exfalso;exact hc1 (by assumption) (by assumption) (by omega))|(refine ⟨(i+1,b1,b2),⟨by dsimp only;omega,hs,hB⟩,by dsimp only;omega,?_⟩;exact a7)
 obtain ⟨c1,c2,c3⟩:=hc0;rw [c1,decide_eq_false c2,decide_eq_true c3,show (true && !false && true)=true from rfl,Bool.true_and] at hs;by_cases hb1:b1<0
 ·rw [decide_eq_true hb1,Bool.true_or,cond_true] at hs;repeat' (first|refine af ?_ ?_|(refine aa 21 rfl ?_;refine sx (aE rfl rfl) ?_)|refine ae ?_|exact ah|(refine ab fun hb=>?_;first|(exfalso;first|omega|(simp_all;done))|skip))
  refine ⟨(i+1,(i:Int),x.since+x.req.limit),⟨by dsimp only;omega,hs,.inr ⟨i,x,rfl,hgx,rfl⟩⟩,by dsimp only;omega,?_⟩;exact a7
 ·obtain ⟨m,z,rfl,hgz,rfl⟩:=hB.resolve_left hb1;clear hB;have hm:=(List.getElem?_eq_some_iff.1 hgz).1;obtain ⟨⟨j1,j2⟩,j3,j4⟩:=hx z (List.mem_of_getElem? hgz);rw [decide_eq_false hb1,Bool.false_or] at hs;by_cases hd:x.since+x.req.limit<z.since+z.req.limit
  ·rw [decide_eq_true hd,cond_true] at hs;repeat' (first|refine af ?_ ?_|(refine aa 21 rfl ?_;refine sx (aE rfl rfl) ?_)|refine ae ?_|exact ah|(refine ab fun hb=>?_;first|(exfalso;first|omega|(simp_all;done))|skip))
   refine ⟨(i+1,(i:Int),x.since+x.req.limit),⟨by dsimp only;omega,hs,.inr ⟨i,x,rfl,hgx,rfl⟩⟩,by dsimp only;omega,?_⟩;exact a7
  ·rw [decide_eq_false hd,cond_false] at hs;repeat' (first|refine af ?_ ?_|(refine aa 21 rfl ?_;refine sx (aE rfl rfl) ?_)|refine ae ?_|exact ah|(refine ab fun hb=>?_;first|(exfalso;first|omega|(simp_all;done))|skip))
   refine ⟨(i+1,(m:Int),z.since+z.req.limit),⟨by dsimp only;omega,hs,.inr ⟨m,z,rfl,hgz,rfl⟩⟩,by dsimp only;omega,?_⟩;exact a7
theorem GU (d:Nat) (w:Wk) (n:Int) (h:CI w.c) (hs:∀x∈w.c.procs,dP w.c.queues x=false) (he:w.ev.length≤1000) {Z:Wk×Int} (hZ:gZ w n=Z):FSpec prog 45 [iS,uu n] (HP d w) [4] (.i Z.2) (HQ d Z.1):=by
 refine aT func45 ?_;rw [EW] at hZ;have hnow:=h.now;by_cases h1:0≤n∧n≤1000
 case neg =>
  obtain rfl:(w,1)=Z:=by
   rw [←hZ,show (decide (0≤n) && decide (n≤1000))=false by rw [Bool.and_eq_false_iff];simp;omega];rfl
  repeat' (first|refine af ?_ ?_|(refine aa 21 rfl ?_;refine sx (aE rfl rfl) ?_)|refine ae ?_|exact ah|refine ab fun hb=>?_|(refine ct (qf [(4,2)]) ?_;exact aw))
  all_goals (exfalso;omega)
 obtain ⟨h1,h2⟩:=h1;rw [decide_eq_true h1,decide_eq_true h2] at hZ;by_cases h3:1073741824-n<w.c.now
 ·obtain rfl:(w,16)=Z:=by rw [←hZ,decide_eq_true h3];rfl
  repeat' (first|refine af ?_ ?_|(refine aa 21 rfl ?_;refine sx (aE rfl rfl) ?_)|refine ae ?_|exact ah|(refine ab fun hb=>?_;first|(exfalso;omega)|skip)|(refine ct (qf [(4,2)]) ?_;exact aw))
 obtain ⟨W,hW⟩:∃W,fk w.c.procs.length (Ie w n)=W:=⟨_,rfl⟩;obtain rfl:(W,0)=Z:=by rw [←hZ,decide_eq_false h3,hW];rfl
 have hA:CI (Ie w n).c:=h.later h1 (by omega);have kL:=FD d (Ie w n) (by have:=hA.len;omega) (JH hA) rfl;repeat' (first|refine af ?_ ?_|refine aa 9 rfl (cH (qf [(0,0),(1,1),(2,2)]) (kL) ?_)|(refine aa 21 rfl ?_;refine sx (aE rfl rfl) ?_)|refine ae ?_|exact ah|(refine ab fun hb=>?_;first|(exfalso;omega)|skip))
 refine ak (fun y:Nat×Wk=>CI y.2.c∧(∀x∈y.2.c.procs,dP y.2.c.queues x=false)∧bY y.2.c.procs≤y.1∧y.2.ev.length+3000*y.1≤300000∧fk y.1 y.2=W) (fun y=>cq [0,1,2,1011] [(0,.v iS),(5,.i (et y.2))] [(0,.box 91 (ze y.2 1011)),(1,.arr 66 (fu d) y.2.c.procs),(1011,.arr 79 iQ y.2.ev)]) (fun y=>y.1) (w.c.procs.length,Ie w n) ⟨hA,hs,lV _,(by show w.ev.length+_≤_;have:=h.len;omega),hW⟩ (by exact bw (qf [(1011,2)])) ?_;clear hZ hW hA kL hs h he hnow h3;rintro ⟨m,v⟩ ⟨hc,hsv,hwc,hev,hs⟩;dsimp only at *
 obtain ⟨e,he⟩:∃e,et v=e:=⟨_,rfl⟩;rw [he];by_cases hneg:e<0
 ·obtain rfl:v=W:=by
   rw [←hs];cases m with
   | zero=>rfl
   | succ m=>rw [p5,he,decide_eq_true hneg];rfl
  repeat' (first|refine af ?_ ?_|refine ae ?_|exact ah|refine ab fun hb=>?_|(refine ct (qf [(4,1011)]) ?_;exact aw))
 obtain ⟨hi,hl1,_⟩:=(mO v).2 (by omega);have hwt:(v.pc (et v).toNat).waiting=true:=by rw [bG hi];exact hl1
 cases m with
 | zero=>exact absurd (jJ hi hl1) (by omega)
 | succ m =>
  have hts:Jk v=aY (az (v.note 4 (v.pc (et v).toNat).proc) (et v).toNat) (et v).toNat:=rfl;rw [p5,he,decide_eq_false hneg,cond_false,hts,he] at hs;clear hl1;rw [he] at hi hwt;clear hts;obtain ⟨i,hei⟩:∃i:Nat,e=(i:Int):=⟨e.toNat,by omega⟩;subst hei;simp only [Int.toNat_natCast] at hi hwt hs;obtain ⟨x,hx⟩:∃x,v.c.procs[i]? = some x:=⟨_,List.getElem?_eq_getElem hi⟩;have hpc:=fI hx;have hc0:CI (v.note 4 x.proc).c:=hc;have hp0:(v.note 4 x.proc).pc i=x:=hpc;have hw0:((v.note 4 x.proc).pc i).waiting=true:=by rw [hp0,←hpc];exact hwt
  obtain ⟨k1,k2,k3,k4,_⟩:=db hc0 hi hw0;have hdr:=Jn hc0 hi hw0 (by rw [mb];omega);have hevw:=iA (v.note 4 x.proc) i;rw [mb] at hevw;rw [hp0] at hdr;rw [hpc] at hs;have kN:=GF d v 4 x.proc (by omega);obtain ⟨V,hV⟩:∃V,az (v.note 4 x.proc) i=V:=⟨_,rfl⟩;have kW:=mV d (v.note 4 x.proc) i hx hdr hV;rw [hV] at k1 k2 k3 k4 hevw hs;have hi2:i<V.c.procs.length:=by rw [k3.len];exact hi
  obtain ⟨y,hy⟩:∃y,V.c.procs[i]? = some y:=⟨_,List.getElem?_eq_getElem hi2⟩;have hrun:(V.pc i).waiting=false:=by rw [bG hi2];simp [k4]
  obtain ⟨n1,n2,n3⟩:=gw k1 hi2 hrun;have hN:aY V i=V.setP i { y with gen:=aJ y.gen }:=by unfold aY;rw [fI hy]
  obtain ⟨q1,q2,q3,q4,q5,q6,_⟩:=g7 n1;have k2':bY V.c.procs+1=bY v.c.procs:=k2;have he3:=AG n1;have he2:(aY V i).ev.length≤v.ev.length+281:=by
   show V.ev.length≤_;omega
  have kS:=jP d (aY V i) _ (AP n1 (by omega));obtain ⟨F,hF⟩:∃F,aW (aY V i).c.procs.length (aY V i)=F:=⟨_,rfl⟩;rw [show bf (aY V i)=F from hF] at q1 q2 q5;rw [hF] at kS hs he3;rw [hN] at kS he3;have kX:=FD d F (by have:=q1.len;omega) (JH q1) rfl;have he4:(V.setP i { y with gen:=aJ y.gen }).ev.length=V.ev.length:=rfl;have f1:bY F.c.procs≤m:=by omega
  have f2:F.ev.length+3000*m≤300000:=by omega
  clear hF hN hV k4 hdr n1 n2 he2 k3 k1 hp0 hc0 hw0 he4 hrun hwt hevw k2 k2' he3 hwc hsv hev q5 n3 q3 q4 q6;repeat' (first|refine af ?_ ?_|(refine aa 9 rfl ?_;first|(refine cH (qf [(0,0),(1,1),(2,1011),(4,1020)]) (kN) ?_)|(refine cH (qf [(0,0),(1,1),(2,1020),(4,1030)]) (kW) ?_)|(refine cB [] (g6 y.gen) ?_)|(refine cH (qf [(0,0),(50,1),(2,1030),(4,1040)]) (kS) ?_)|(refine cH (qf [(0,0),(1,1),(2,1040)]) (kX) ?_))|(refine aa 21 rfl ?_;first|refine sx (aq rfl rfl) ?_|refine sx (aE rfl rfl) ?_)|refine ae ?_|(refine aa 4 rfl ?_;refine bc (aA (z:={ y with gen:=aJ y.gen }) rfl rfl rfl rfl hy rfl rfl rfl rfl (Nat.le_of_ble_eq_true rfl) rfl rfl) rfl rfl rfl ?_)|exact ah|(refine ab fun hb=>?_;first|(exfalso;omega)|skip))
  refine ⟨(m,F),⟨q1,q2,f1,f2,hs⟩,by dsimp only;omega,?_⟩;dsimp only;exact bw (qf [(1011,1040)])
end Go.Proofs.YtcgpepnbohejfaaGreatDoor
