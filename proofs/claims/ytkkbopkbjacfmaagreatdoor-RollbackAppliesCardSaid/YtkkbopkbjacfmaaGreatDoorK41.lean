/- Part K41 of a proof of statements of chapter 15 (no condition). -/
import Derived.Test.YtkkbopkbjacfmaaGreatDoorCards
import Derived.Test.YtkkbopkbjacfmaaGreatDoorTie
import Derived.Test.YtkkbopkbjacfmaaGreatDoorK38
import Derived.Test.YtkkbopkbjacfmaaGreatDoorK39
import Derived.Lib.LaidTab
import Derived.Shelf.Vars
import Derived.LaidMore
import Derived.Lay
import Derived.LaidSub
import Derived.MakeChecks
import Derived.Stop.Joined
import Derived.SevenTiedAt
import Derived.LaidByTextLater
import Derived.LaidOnce
import GoSem.ClaimSeven
set_option linter.unusedVariables false
set_option linter.unusedSimpArgs false
set_option maxRecDepth 100000
set_option maxHeartbeats 64000000
namespace Go.Proofs.YtkkbopkbjacfmaaGreatDoor
open Go.RowKit Go.Proofs.Tryz
section
open Go.ChangeShapes Go.WideShapes Go.ChangeAt Go.OpenShut
def jt:List (String×DataW Unit):=Rows.waitgraphStatesRow.laid
set_option maxRecDepth 100000
theorem xg (os:Os) (args:Array Value):laidMetH prog jt ((World.laidAll prog os jt).forCall (fun _ _=>0) ⟨#[],args,[]⟩).memory:=by
 rw [Go.MakeChecks.laidMetH_plain _ _ _ (by kernel_rfl)];exact laidMet_laidAll _ (by kernel_rfl) (by kernel_rfl)
theorem lQ {P:Program} {w:World}:∀{l:List (String×DataW Unit)} {ps:List MemPlace},DataW.LaidVars P w l ps->∀n d,(n,d)∈l->
  ∃g t cs fuel p,P.globalNamed n=some g/\(P.globals[g]?).map (·.type)=some t/\w.var? P n=some cs/\DataW.trod (fun _=>()) P w 0 (fun _=>true) false fuel t cs.toList=some (d,p)
 | [],_,_,_,_,hm=>by cases hm
 | (n',d') :: r,ps,h,n,d,hm=>by
  obtain ⟨g,t,cs,fuel,p,q,h1,h2,h3,h4,h5,_⟩:=h;rcases List.mem_cons.1 hm with e|e
  ·cases e
   exact ⟨g,t,cs,fuel,p,h1,h2,h3,h4⟩
  ·exact lQ h5 n d e
theorem Fa {P:Program} {w:World} {n:String} {g:Nat} {cs:Array Value} (hg:P.globalNamed n=some g) (h:w.var? P n=some cs) (i:Nat):w.cell? ⟨g,i,none⟩=cs[i]?:=by
 unfold World.var? at h;rw [hg] at h;simp only [Option.bind_some] at h;unfold World.cell?;rcases ho:w.heap[g]? with _|o
 ·rw [ho] at h;cases h
 ·rw [ho] at h;simp only at h ⊢;cases o <;> simp_all
section
variable {H:Type} {enc:TypeId×Value->H} {P:Program} {w:World} {base:Nat} {sp:Nat->Bool} {held:Bool} {fuel:Nat} {t e:TypeId} {n:Nat} {cs:List Value}
theorem GR {bs:List Bool} {p:List MemPlace} (ht:P.underlying t=some (.array n e)) (he:P.underlying e=some .bool) (hc:P.cellsOf e=1) (h:DataW.trod enc P w base sp held fuel t cs=some (.agg (bs.map fun b=>.lit (.bool b)),p)):∀j (hj:j<bs.length),cs[j]? = some (.bool bs[j]):=by
 obtain ⟨xs,m,_,hx,hl,hn,hi⟩:=DataW.trod_array ht h;injection hx with hx _;injection hx with hx;intro j hj;have hlen:bs.length=xs.length:=by have:=congrArg List.length hx;simpa using this
 have h1:=hi j (by omega);rw [hc,Nat.mul_one,qGg (by omega)] at h1;obtain ⟨b,h2,h3⟩:=DataW.trod_bool he h1;have h4:(xs.map (·.1))[j]? = some (.lit (.bool b)):=by rw [List.getElem?_map,qGg (by omega),h3];rfl
 rw [<-hx,List.getElem?_map,qGg hj] at h4;injection h4 with h4;injection h4 with h4;injection h4 with h4;have h5:(cs.drop j)[0]? = some (.bool b):=by
  have:=congrArg (·[0]?) h2;simpa [List.getElem?_take] using this
 rw [List.getElem?_drop,Nat.add_zero] at h5;rw [h5,h4]
theorem GS {bs:List (List Bool)} {p:List MemPlace} {t2:TypeId} {k:Nat} (ht:P.underlying t2=some (.array k t)) (ht2:P.underlying t=some (.array n e)) (he:P.underlying e=some .bool) (hc:P.cellsOf e=1) (hn5:P.cellsOf t=n) (hbs:∀r∈bs,r.length=n)
  (h:DataW.trod enc P w base sp held fuel t2 cs=some (.agg (bs.map fun r=>.agg (r.map fun b=>.lit (.bool b))),p)):∀i j (hi:i<bs.length) (hj:j<bs[i].length),cs[i*n+j]? = some (.bool bs[i][j]):=by
 obtain ⟨xs,m,_,hx,hl,hn,hi⟩:=DataW.trod_array ht h;injection hx with hx _;injection hx with hx;intro i j hil hj;have hlen:bs.length=xs.length:=by have:=congrArg List.length hx;simpa using this
 have h1:=hi i (by omega);rw [hn5,qGg (by omega)] at h1;have h4:(xs.map (·.1))[i]? = some xs[i].1:=by rw [List.getElem?_map,qGg (by omega)];rfl
 rw [<-hx,List.getElem?_map,qGg hil] at h4;injection h4 with h4;have h5:DataW.trod enc P w base sp held m t ((cs.drop (i*n)).take n)=some (.agg (bs[i].map fun b=>.lit (.bool b)),xs[i].2):=by rw [h1];exact congrArg some (Prod.ext h4.symm rfl)
 have h6:=GR ht2 he hc h5 j hj;have h7:j<n:=by have:=hbs _ (List.getElem_mem hil);omega
 rw [List.getElem?_take,if_pos h7,List.getElem?_drop] at h6;exact h6
end
theorem MV {W:World} (h:laidMetH prog jt W):Tog W:=by
 rw [Go.MakeChecks.laidMetH_plain _ _ _ (by kernel_rfl)] at h;obtain ⟨_,hv,_⟩:=h;obtain ⟨g',t',cs,fuel,p,h1,h2,h3,h4⟩:=lQ hv "clusterlocks/mode.together" Rows.laid_clusterlocks_mode_together (by simp [jt,Rows.waitgraphStatesRow]);have hg:prog.globalNamed "clusterlocks/mode.together" = some 0:=by kernel_rfl
 have ht:(prog.globals[0]?).map (·.type)=some 339:=by kernel_rfl
 obtain rfl:=Option.some.inj (hg.symm.trans h1);obtain rfl:=Option.some.inj (ht.symm.trans h2);have h5:=GS (bs:=[[true,true,true,true,false],[true,true,false,false,false],[true,false,true,false,false],[true,false,false,false,false],[false,false,false,false,false]]) (k:=5) (n:=5) (e:=4) (t:=338) underlying339 underlying338 underlying4 (by kernel_rfl) (by kernel_rfl) (by decide) h4;refine ⟨fun i j hi hj=>?_⟩;rw [Fa hg h3,<-Array.getElem?_toList]
 match i,hi,j,hj with
 | 0,_,0,_=>exact h5 0 0 (by decide) (by decide)
 | 0,_,1,_=>exact h5 0 1 (by decide) (by decide)
 | 0,_,2,_=>exact h5 0 2 (by decide) (by decide)
 | 0,_,3,_=>exact h5 0 3 (by decide) (by decide)
 | 0,_,4,_=>exact h5 0 4 (by decide) (by decide)
 | 1,_,0,_=>exact h5 1 0 (by decide) (by decide)
 | 1,_,1,_=>exact h5 1 1 (by decide) (by decide)
 | 1,_,2,_=>exact h5 1 2 (by decide) (by decide)
 | 1,_,3,_=>exact h5 1 3 (by decide) (by decide)
 | 1,_,4,_=>exact h5 1 4 (by decide) (by decide)
 | 2,_,0,_=>exact h5 2 0 (by decide) (by decide)
 | 2,_,1,_=>exact h5 2 1 (by decide) (by decide)
 | 2,_,2,_=>exact h5 2 2 (by decide) (by decide)
 | 2,_,3,_=>exact h5 2 3 (by decide) (by decide)
 | 2,_,4,_=>exact h5 2 4 (by decide) (by decide)
 | 3,_,0,_=>exact h5 3 0 (by decide) (by decide)
 | 3,_,1,_=>exact h5 3 1 (by decide) (by decide)
 | 3,_,2,_=>exact h5 3 2 (by decide) (by decide)
 | 3,_,3,_=>exact h5 3 3 (by decide) (by decide)
 | 3,_,4,_=>exact h5 3 4 (by decide) (by decide)
 | 4,_,0,_=>exact h5 4 0 (by decide) (by decide)
 | 4,_,1,_=>exact h5 4 1 (by decide) (by decide)
 | 4,_,2,_=>exact h5 4 2 (by decide) (by decide)
 | 4,_,3,_=>exact h5 4 3 (by decide) (by decide)
 | 4,_,4,_=>exact h5 4 4 (by decide) (by decide)
theorem DH {W:World} (h:laidMetH prog jt W) (_:W.ShapedOpen prog):Tog W:=MV h
end
theorem NS {d d':Nat} (hd:d<=d') {w:World} {S:Nat->Prop} {x:Pc} {cs:List Value} (h:(wS d).rep w S x cs):(wS d').rep w S x cs:=by
 obtain ⟨A1,c1,A2,c2,A3,c3,e,h1,h2,h3,h4,h5,h6⟩:=h;exact ⟨A1,c1,A2,c2,A3,c3,e,h1,h2,h3,h4,h5.map fun _ _ hx=>Hj hd hx,h6⟩
theorem Cs.up {d d':Nat} (hd:d<=d') {w:World} {S:Nat->Prop} {ρ:Nat->Value} {c:Cs} {v:Value} (h:(c.a d).rep w S ρ v):(c.a d').rep w S ρ v:=by
 obtain ⟨cs,e,hA⟩:=h
 match cs,hA with
 | [_,_,_],⟨h1,h2,⟨A,cap,h3,h4,h5⟩,_⟩=>exact ⟨_,e,h1,h2,⟨A,cap,h3,h4,h5.map fun _ _ hx=>NS hd hx⟩,trivial⟩
def Qn (t:Tp):List Rs:=[⟨nA,1,1,t.v 4⟩,⟨nB,1,1,t.s.v 4⟩,⟨nC,1,1,t.s.s.v 4⟩,⟨nD,1,1,t.s.s.s.v 4⟩]
def Qo (t:Tp):Nat->Tp
 | 0=>t
 | n+1=>(Qo t n).s
theorem PA (t:Tp) (h:TOk t):FSpec prog 101 [ls] (HT t) [] (.c (.sl f9 (toZ t).1)) (Mx (toZ t).2):=by
 refine aS func101 ?_;refine ao ?_;refine bK 3 1000 74 f9 rfl rfl rfl ?_;refine ab (fun i:Nat=>i<=4) (fun i=>bC [0,6,1000] [(0,.v ls),(3,.c (.own 1000)),(4,.c (.slb 6 4)),(5,.i i)] [(0,.box 138 (Ll (Qo t i))),(6,.box 9 [.sc (.string nA),.sc (.string nB),.sc (.string nC),.sc (.string nD)]),(1000,.arr 74 f9 ((Qn t).take i))]) (fun i=>4-i) 0 (Nat.zero_le _) aL ?_;rintro i hi;have k1:=h.s;have k2:=k1.s;have k3:=k2.s;have k4:=k3.s;obtain rfl|rfl|rfl|rfl|rfl:i=0\/i=1\/i=2\/i=3\/i=4:=by omega
 ·have kN:=iS t 4 h (by omega);repeat' (first|refine az ?_ ?_|(refine aa 6 rfl ?_;refine sx (bL (i:=0) rfl rfl rfl rfl (by decide)) ?_)|(refine aa 7 rfl ?_;refine sx (fQ rfl rfl) ?_)|(refine aa 8 rfl ?_;refine aK (ae rfl rfl (av rfl rfl) (aB [⟨nA,1,1,t.v 4⟩] rfl rfl rfl rfl) rfl aE aE) rfl rfl rfl ?_)|refine aa 9 rfl (cH (qf [(0,0)]) kN ?_)|refine ay ?_|exact aA|refine ax fun hb=>?_)
  refine ⟨1,by decide,by decide,?_⟩;exact a8 (qf [(1000,22)])
 ·have kN:=iS t.s 4 k1 (by omega);repeat' (first|refine az ?_ ?_|(refine aa 6 rfl ?_;refine sx (bL (i:=1) rfl rfl rfl rfl (by decide)) ?_)|(refine aa 7 rfl ?_;refine sx (fQ rfl rfl) ?_)|(refine aa 8 rfl ?_;refine aK (ae rfl rfl (av rfl rfl) (aB [⟨nB,1,1,t.s.v 4⟩] rfl rfl rfl rfl) rfl aE aE) rfl rfl rfl ?_)|refine aa 9 rfl (cH (qf [(0,0)]) kN ?_)|refine ay ?_|exact aA|refine ax fun hb=>?_)
  refine ⟨2,by decide,by decide,?_⟩;exact a8 (qf [(1000,22)])
 ·have kN:=iS t.s.s 4 k2 (by omega);repeat' (first|refine az ?_ ?_|(refine aa 6 rfl ?_;refine sx (bL (i:=2) rfl rfl rfl rfl (by decide)) ?_)|(refine aa 7 rfl ?_;refine sx (fQ rfl rfl) ?_)|(refine aa 8 rfl ?_;refine aK (ae rfl rfl (av rfl rfl) (aB [⟨nC,1,1,t.s.s.v 4⟩] rfl rfl rfl rfl) rfl aE aE) rfl rfl rfl ?_)|refine aa 9 rfl (cH (qf [(0,0)]) kN ?_)|refine ay ?_|exact aA|refine ax fun hb=>?_)
  refine ⟨3,by decide,by decide,?_⟩;exact a8 (qf [(1000,22)])
 ·have kN:=iS t.s.s.s 4 k3 (by omega);repeat' (first|refine az ?_ ?_|(refine aa 6 rfl ?_;refine sx (bL (i:=3) rfl rfl rfl rfl (by decide)) ?_)|(refine aa 7 rfl ?_;refine sx (fQ rfl rfl) ?_)|(refine aa 8 rfl ?_;refine aK (ae rfl rfl (av rfl rfl) (aB [⟨nD,1,1,t.s.s.s.v 4⟩] rfl rfl rfl rfl) rfl aE aE) rfl rfl rfl ?_)|refine aa 9 rfl (cH (qf [(0,0)]) kN ?_)|refine ay ?_|exact aA|refine ax fun hb=>?_)
  refine ⟨4,by decide,by decide,?_⟩;exact a8 (qf [(1000,22)])
 ·unfold toZ;rw [show Qo t 4=t.s.s.s.s from rfl];generalize t.s.s.s.s=u4 at *
  obtain ⟨u5,e5⟩:∃u,u4.s=u:=⟨_,rfl⟩;obtain ⟨u6,e6⟩:∃u,u5.s=u:=⟨_,rfl⟩;obtain ⟨u7,e7⟩:∃u,u6.s=u:=⟨_,rfl⟩;obtain ⟨u8,e8⟩:∃u,u7.s=u:=⟨_,rfl⟩;have k5:=k4.s;rw [e5] at k5;have k6:=k5.s;rw [e6] at k6;have k7:=k6.s;rw [e7] at k7;have kN1:=iS u4 8 k4 (by omega);have kN2:=iS u5 4 k5 (by omega);have kN3:=iS u6 3 k6 (by omega);have kN4:=iS u7 4 k7 (by omega);have b1:=u4.v_in (m:=8) (by omega);have b3:=u6.v_in (m:=3) (by omega);rw [e5,e6,e7,e8];rw [e5] at kN1;rw [e6] at kN2;rw [e7] at kN3;rw [e8] at kN4;generalize u4.v 8=v1 at *
  generalize u5.v 4=v2 at *
  generalize u6.v 3=v3 at *
  generalize u7.v 4=v4 at *
  clear e5 e6 e7 e8;repeat' (first|refine az ?_ ?_|(refine aa 7 rfl ?_;refine sx (fQ rfl rfl) ?_)|(refine aa 8 rfl ?_;first|(refine aK (ae rfl rfl (av rfl rfl) (aB [⟨nQ,2,1+v3,v4⟩] rfl rfl rfl rfl) rfl aE aE) rfl rfl rfl ?_)|(refine aK (ae rfl rfl (av rfl rfl) (aB [⟨nP,2,1+v1,v2⟩] rfl rfl rfl rfl) rfl aE aE) rfl rfl rfl ?_))|(refine aa 9 rfl ?_;first|(refine cH (qf [(0,0)]) kN1 ?_)|(refine cH (qf [(0,0)]) kN2 ?_)|(refine cH (qf [(0,0)]) kN3 ?_)|(refine cH (qf [(0,0)]) kN4 ?_))|refine ay ?_|exact aA|refine ax fun hb=>?_|(refine cn (qf [(0,0)]) ?_;exact ak))
def ME (d:Nat):El Cm where
 n:=13
 pos:=by decide
 rep:=fun w S k cs=>∃A c,cs=[.int .i64 k.kind,.int .i64 k.proc.site,.int .i64 k.proc.inc,.int .i64 k.proc.num,.int .i64 k.req.expr.k,.string k.req.expr.atom.name,.int .i64 k.req.expr.atom.am.mode,.int .i64 k.req.expr.atom.am.units,.slice A k.req.expr.kids.length c,.int .i64 k.req.prio,.int .i64 k.req.limit,.string k.name,.int .i64 k.n]/\
  RowsAt (qF d) w S A k.req.expr.kids/\(k.req.expr.kids.length<=c/\c<=maxLen)
 len:=fun h=>by obtain ⟨A,c,rfl,_⟩:=h;rfl
 one:=fun h=>by obtain ⟨A,c,rfl,_⟩:=h;intro u hu;simp at hu;rcases hu with rfl|rfl|rfl|rfl|rfl|rfl|rfl|rfl|rfl|rfl|rfl|rfl|rfl <;> rfl
 same:=fun h hk hS=>by
  obtain ⟨A,c,e,h1,h2⟩:=h;exact ⟨A,c,e,h1.same hk hS,h2⟩
instance (d:Nat):Dp (ME d) where
 deep:=Cm.d d
 get:=by
  rintro w F ρ x cs ⟨A,c,rfl,h1,h2⟩;exact ⟨rfl,rfl,rfl,rfl,rfl,rfl,rfl,rfl,⟨A,c,rfl,h2,h1⟩,rfl,rfl,rfl,rfl,trivial⟩
 put:=by
  intro w F ρ x cs h
  match cs,h with
  | [_,_,_,_,_,_,_,_,_,_,_,_,_],⟨rfl,rfl,rfl,rfl,rfl,rfl,rfl,rfl,⟨A,c,rfl,h2,h1⟩,rfl,rfl,rfl,rfl,_⟩=>exact ⟨A,c,rfl,h1,h2⟩
 nok:=fun _ _=>rfl
instance (d:Nat):ST prog (ME d) 130 87 136:=⟨ElTB.mk' underlying130 (.agg #[.int .i64 0,.int .i64 0,.int .i64 0,.int .i64 0,.int .i64 0,.string ⟨#[]⟩,.int .i64 0,.int .i64 0,.slice none 0 0,.int .i64 0,.int .i64 0,.string ⟨#[]⟩,.int .i64 0]) 13 136 (by kernel_rfl) rfl rfl⟩
theorem LC {l:List Rs} {t:Tp} (h:(toZ t).1=l):l.length=6/\∀r∈l,1<=r.units/\r.units<=1000:=by
 subst h;refine ⟨rfl,fun r hr=>?_⟩;have h1:=t.s.s.s.s.v_in (m:=8) (by omega);have h2:=t.s.s.s.s.s.s.v_in (m:=3) (by omega);simp only [toZ,List.mem_cons,List.not_mem_nil,or_false] at hr;rcases hr with rfl|rfl|rfl|rfl|rfl|rfl <;> dsimp only <;> omega
theorem I6 (t:Tp):Adv t (toZ t).2:=by
 have h:=(Adv.s t).ss.ss.ss.ss.ss.ss.ss;unfold toZ;dsimp only;exact h
def QR (a b c d e:Tp):Nat->Tp
 | 0=>a
 | 1=>b
 | 2=>c
 | 3=>d
 | _=>e
def C6 (p0 p1 p2 p3:Pr) (v0 v1 v2 v3:Int):List Cm:=[⟨1,p0,Rq.zero,⟨#[]⟩,1+v0⟩,⟨1,p1,Rq.zero,⟨#[]⟩,1+v1⟩,⟨1,p2,Rq.zero,⟨#[]⟩,1+v2⟩,⟨1,p3,Rq.zero,⟨#[]⟩,1+v3⟩]
theorem wg (cat:List Rs) (n:Nat) (t:Tp):vR cat (n+1) t=bif decide (t.at_<t.l.length) then (zd t cat).1 :: vR cat n (zd t cat).2 else []:=rfl
theorem I7 (l:List Int) (hl:l.length<=300) {R:List Rs×List Cm} (hR:gJ l=R):FSpec prog 66 [.one (.sl fo l)] [] [] (.tup [.one (.sl f9 R.1),.one (.sl (ME 2) R.2)]) []:=by
 refine aS func66 ?_;unfold gJ at hR;dsimp only at hR;have h0:TOk ⟨l,0⟩:=⟨Nat.zero_le _,by show l.length<=_;omega⟩;have kC:=PA ⟨l,0⟩ h0;have hadv:=I6 ⟨l,0⟩;obtain ⟨C,hC⟩:=qGe ((toZ ⟨l,0⟩).1);obtain ⟨u0,hu0⟩:∃u,(toZ ⟨l,0⟩).2=u:=⟨_,rfl⟩;obtain ⟨hc6,hcu⟩:=LC hC;rw [hC,hu0] at hR kC;rw [hu0] at hadv;have t0:=h0.adv hadv;have hul:u0.l=l:=hadv.l;clear hC hu0 hadv;repeat' (first|refine az ?_ ?_|refine aa 9 rfl (cH (qf [(0,10)]) kC ?_)|refine ay ?_|exact aA|refine ax fun hb=>?_)
 refine bK 6 1000 87 (ME 2) rfl rfl rfl ?_;obtain ⟨v0,u1,a1,a2,t1,a3,a4,n0⟩:=nx u0 9 t0 (by omega) (by omega);obtain ⟨v1,u2,b1,b2,t2,b3,b4,n1⟩:=nx u1 9 t1 (by omega) (by omega);obtain ⟨v2,u3,c1,c2,t3,c3,c4,n2⟩:=nx u2 9 t2 (by omega) (by omega);obtain ⟨v3,u4,d1,d2,t4,d3,d4,n3⟩:=nx u3 9 t3 (by omega) (by omega);obtain ⟨p0,q0⟩:∃p,iR 0=p:=⟨_,rfl⟩;obtain ⟨p1,q1⟩:∃p,iR 1=p:=⟨_,rfl⟩;obtain ⟨p2,q2⟩:∃p,iR 2=p:=⟨_,rfl⟩;obtain ⟨p3,q3⟩:∃p,iR 3=p:=⟨_,rfl⟩;have m0:=ri 0;have m1:=ri 1;have m2:=ri 2;have m3:=ri 3;rw [q0] at m0;rw [q1] at m1;rw [q2] at m2;rw [q3] at m3;have hul4:u4.l=l:=by rw [<-d2,Tp.s_l,<-c2,Tp.s_l,<-b2,Tp.s_l,<-a2,Tp.s_l,hul]
 have hR:(C,C6 p0 p1 p2 p3 v0 v1 v2 v3++vR C l.length u4)=R:=by
  rw [<-hR];unfold A4 C6;rw [a1,a2,b1,b2,c1,c2,d1,d2,q0,q1,q2,q3]
 clear a1 a2 b1 b2 c1 c2 d1 d2 q0 q1 q2 q3;refine ab (fun i:Nat=>i<=4) (fun i=>bC [10,1000] [(4,.c (.ptr 10 0)),(5,.c (.sl f9 C)),(6,.c (.own 1000)),(7,.i i)] [(10,.box 138 (Ll (QR u0 u1 u2 u3 u4 i))),(1000,.arr 87 (ME 2) ((C6 p0 p1 p2 p3 v0 v1 v2 v3).take i))]) (fun i=>4-i) 0 (Nat.zero_le _) aL ?_;rintro i hi;obtain rfl|rfl|rfl|rfl|rfl:i=0\/i=1\/i=2\/i=3\/i=4:=by omega
 ·repeat' (first
   | refine az ?_ ?_
   | (refine aa 8 rfl ?_;refine sx (ae rfl rfl (av rfl rfl) (AG [⟨1,p0,Rq.zero,⟨#[]⟩,1+v0⟩] rfl rfl rfl) rfl aE aE) ?_)
   | (refine aa 9 rfl ?_;first|(refine cH (qf [(0,10)]) n0 ?_)|(refine cB [] m0 ?_))
   | refine ay ?_
   | exact aA|refine ax fun hb=>?_)
  refine ⟨1,by decide,by decide,?_⟩;exact a8 (qf [(1000,25)])
 ·repeat' (first
   | refine az ?_ ?_
   | (refine aa 8 rfl ?_;refine sx (ae rfl rfl (av rfl rfl) (AG [⟨1,p1,Rq.zero,⟨#[]⟩,1+v1⟩] rfl rfl rfl) rfl aE aE) ?_)
   | (refine aa 9 rfl ?_;first|(refine cH (qf [(0,10)]) n1 ?_)|(refine cB [] m1 ?_))
   | refine ay ?_
   | exact aA|refine ax fun hb=>?_)
  refine ⟨2,by decide,by decide,?_⟩;exact a8 (qf [(1000,25)])
 ·repeat' (first
   | refine az ?_ ?_
   | (refine aa 8 rfl ?_;refine sx (ae rfl rfl (av rfl rfl) (AG [⟨1,p2,Rq.zero,⟨#[]⟩,1+v2⟩] rfl rfl rfl) rfl aE aE) ?_)
   | (refine aa 9 rfl ?_;first|(refine cH (qf [(0,10)]) n2 ?_)|(refine cB [] m2 ?_))
   | refine ay ?_
   | exact aA|refine ax fun hb=>?_)
  refine ⟨3,by decide,by decide,?_⟩;exact a8 (qf [(1000,25)])
 ·repeat' (first
   | refine az ?_ ?_
   | (refine aa 8 rfl ?_;refine sx (ae rfl rfl (av rfl rfl) (AG [⟨1,p3,Rq.zero,⟨#[]⟩,1+v3⟩] rfl rfl rfl) rfl aE aE) ?_)
   | (refine aa 9 rfl ?_;first|(refine cH (qf [(0,10)]) n3 ?_)|(refine cB [] m3 ?_))
   | refine ay ?_
   | exact aA|refine ax fun hb=>?_)
  refine ⟨4,by decide,by decide,?_⟩;exact a8 (qf [(1000,25)])
 ·rw [show QR u0 u1 u2 u3 u4 4=u4 from rfl,show (C6 p0 p1 p2 p3 v0 v1 v2 v3).take 4=C6 p0 p1 p2 p3 v0 v1 v2 v3 from rfl];have hol:(C6 p0 p1 p2 p3 v0 v1 v2 v3).length=4:=rfl;generalize C6 p0 p1 p2 p3 v0 v1 v2 v3=O at *
  clear n0 n1 n2 n3 m0 m1 m2 m3;refine ao ?_;refine ab (fun y:Nat×Tp×List Cm=>TOk y.2.1/\y.2.1.l=l/\l.length<=y.1+y.2.1.at_/\y.2.2.length+y.1<=304/\(C,y.2.2++vR C y.1 y.2.1)=R) (fun y=>bC [10,1000] [(4,.c (.ptr 10 0)),(5,.c (.sl f9 C)),(6,.c (.own 1000))] [(10,.box 138 (Ll y.2.1)),(1000,.arr 87 (ME 2) y.2.2)]) (fun y=>y.2.1.l.length-y.2.1.at_) (l.length,u4,O) ⟨t4,hul4,by dsimp only;omega,by dsimp only;omega,hR⟩ aL ?_;clear hR hol O t4 hul4;rintro ⟨n,u,acc⟩ ⟨hu,hul,hn,hal,hs⟩;dsimp only at *
  have kM:=NK u hu;by_cases hlt:u.at_<u.l.length
  ·rw [qDt hlt] at kM;obtain ⟨m,rfl⟩:∃m,n=m+1:=⟨n-1,by rw [hul] at hlt;omega⟩;rw [wg,qDt hlt,qCt] at hs;obtain ⟨G,hG⟩:=qGe (zd u C);have kG:=PC u C hu (by omega) hcu hG;have ha:=IH u C;have hs1:=u.s_lt hlt;rw [hG] at ha hs;have hw:=hu.s.adv ha;have hle:=ha.le;have hl2:G.2.l=l:=by rw [ha.l,u.s_l,hul]
   repeat' (first|refine az ?_ ?_|(refine aa 8 rfl ?_;refine aK (ae rfl rfl (av rfl rfl) (aB [G.1] rfl rfl rfl rfl) rfl aE aE) rfl rfl rfl ?_)|(refine aa 9 rfl ?_;first|(refine cH (qf [(0,10)]) kM ?_)|(refine cH (qf [(0,10)]) kG ?_))|refine ay ?_|exact aA|refine ax fun hb=>?_)
   refine ⟨(m,G.2,acc++[G.1]),⟨hw,hl2,by dsimp only;omega,by simp;omega,?_⟩,by dsimp only;rw [hl2,hul];rw [hul] at hlt;omega,?_⟩
   ·exact Ry
   ·exact a8 (qf [(1000,33)])
  ·rw [qDf hlt] at kM;have hm:vR C n u=[]:=by
    cases n with
    | zero=>rfl
    | succ n=>rw [wg,qDf hlt];rfl
   rw [hm,List.append_nil] at hs;obtain rfl:R=(C,acc):=hs.symm;repeat' (first|refine az ?_ ?_|refine aa 9 rfl (cH (qf [(0,10)]) kM ?_)|refine ay ?_|exact aA|refine ax fun hb=>?_|(refine gG (qf []) ?_;exact ak))
def QX (d:Nat) (R:Cs×List Ev×Int):TV:=.tup [R.1.a d,.one (.sl sR R.2.1),.one (.sc (.int .i64 R.2.2))]
theorem Qp (d:Nat) (c:Cs) (k:Cm) {R:Cs×List Ev×Int} (hR:nL c k=R):FSpec prog 34 [c.a d,k.a d] [] [] (QX d R) []:=by
 refine aS func34 ?_;unfold nL at hR;obtain ⟨v,hv⟩:=qGe (dA c);have kV:=ED d c hv;rw [hv] at hR;cases v with
 | false =>
  obtain rfl:R=(P0,[],2):=hR.symm;refine ao ?_
  (refine fk (qf []) ?_;exact ak)
 | true =>
  rw [Bool.not_true,qCf] at hR;obtain ⟨hci,hun⟩:=cf.1 hv;obtain ⟨Z,hZ⟩:=qGe (wD ⟨c,[]⟩ k);have kD:=Ql d ⟨c,[]⟩ k hci (fun x hx=>rh (hun x hx)) (by simp) hZ;have kC:=NT d c (by have:=(cm hci.tv).1;omega) (by have:=hci.len;omega);rw [hZ] at hR;repeat' (first|refine az ?_ ?_|(refine aa 9 rfl ?_;first|(refine cB [] kV ?_)|(refine cH (qf [(1,1001),(2,1002)]) kC ?_))|((fail_if_success (first|refine po 4 ?_|refine pp 4 ?_));refine ay ?_)|exact aA|refine ax fun hb=>?_)
  refine kx 1001 rfl ?_;refine Ik 16 2 1002 rfl rfl rfl rfl ?_;refine eG 16 3 1003 355 sR rfl rfl rfl rfl ?_;by_cases h0:Z.2=0
  ·rw [qDt h0] at hR;obtain rfl:R=(Z.1.c,Z.1.ev,0):=hR.symm;exact Ru
  ·rw [qDf h0] at hR;obtain rfl:R=(P0,[],Z.2):=hR.symm;exact Ru
theorem PD (l:List Rs) (hc:CatOk l):FSpec prog 146 [.one (.sl f9 l)] [] [] (.tup [.one (.sl ic (l.map lF)),.one (.sc (.int .i64 0))]) []:=by
 refine aS func146 ?_;have h8:=hc.len;have kV:=ni l hc;refine ao ?_;refine bK 4 1000 78 ic rfl rfl rfl ?_;refine ab (fun y:Nat×List Qu=>y.1<=l.length/\y.2=(l.take y.1).map lF) (fun y=>bC [1000] [(0,.c (.sl f9 l)),(4,.c (.own 1000)),(5,.i y.1)] [(1000,.arr 78 ic y.2)]) (fun y=>l.length-y.1) (0,[]) ⟨Nat.zero_le _,rfl⟩ aL ?_;rintro ⟨i,T⟩ ⟨hi,hT⟩;dsimp only at *
 have hTl:T.length=i:=by rw [hT];simp;omega
 by_cases hlt:i<l.length
 ·obtain ⟨r,hr⟩:∃r,l[i]? = some r:=⟨_,qGg hlt⟩;have er:=qGs hr;repeat' (first|refine az ?_ ?_|(refine aa 8 rfl ?_;refine sx (ae rfl rfl (av rfl rfl) (AG [lF r] rfl rfl rfl) rfl aE aE) ?_)|refine ay ?_|exact aA|refine ax fun hb=>?_)
  refine ⟨(i+1,T++[lF r]),⟨by dsimp only;omega,?_⟩,by dsimp only;omega,?_⟩
  ·dsimp only;rw [hT,List.take_succ_eq_append_getElem hlt,er];simp
  ·exact a8 (qf [(1000,22)])
 ·obtain rfl:T=l.map lF:=by rw [hT,List.take_of_length_le (by omega)]
  refine ao ?_
  (refine gG (qf []) ?_;exact ak)
theorem PE (d:Nat) (l:List Rs) (hc:CatOk l):FSpec prog 67 [.one (.sl f9 l)] [] [] (.tup [(Cs.mk 0 (l.map lF) []).a d,.one (.sc (.int .i64 0))]) []:=by
 refine aS func67 ?_;have kT:=PD l hc;refine ao ?_
 (refine gG (qf []) ?_;exact ak)
theorem Gd (c:Cs) (k:Cm) (l:List Cm):A5 c (k :: l)=A5 (bif decide ((nL c k).2.2=0) then (nL c k).1 else c) l:=rfl
theorem PF (c:Cs) (ks:List Cm) {W:Cs} (hW:A5 c ks=W):FSpec prog 68 [c.a 2,.one (.sl (ME 2) ks)] [] [] (.v (W.a 2)) []:=by
 refine aS func68 ?_;refine aP (fun c ρ a w hr=>ck (t:=1) hr rfl) (fun hl1=>?_);refine ao ?_;refine ab (fun y:Nat×Cs=>y.1<=ks.length/\A5 y.2 (ks.drop y.1)=W) (fun y=>bC [2,4] [(1,.c (.sl (ME 2) ks)),(2,.c (.ptr 2 0)),(4,.c (.ptr 4 0)),(5,.i y.1)] [(2,.box 50 (y.2.d 2)),(4,.box 50 [.sc (.int .i64 0),.sc (.slice none 0 0),.sc (.slice none 0 0)])]) (fun y=>ks.length-y.1) (0,c) ⟨Nat.zero_le _,hW⟩ aL ?_;clear hW c;rintro ⟨i,c⟩ ⟨hi,hs⟩;dsimp only at *
 by_cases hlt:i<ks.length
 ·obtain ⟨k,hk⟩:∃k,ks[i]? = some k:=⟨_,qGg hlt⟩;have ek:=qGs hk;rw [qDc hlt,ek,Gd] at hs;obtain ⟨R,hR⟩:=qGe (nL c k);have kD:=Qp 2 c k hR;rw [hR] at hs;by_cases h0:R.2.2=0
  ·rw [qDt h0,qCt] at hs;refine ao ?_;refine ⟨(i+1,R.1),⟨by dsimp only;omega,hs⟩,by dsimp only;omega,?_⟩;exact aL
  ·rw [qDf h0,qCf] at hs;refine ao ?_;refine ⟨(i+1,c),⟨by dsimp only;omega,hs⟩,by dsimp only;omega,?_⟩;exact aL
 ·rw [qDn (by omega)] at hs;obtain rfl:c=W:=hs;exact QY
def s8 (l:List Int):Cs:=A5 ⟨0,(gJ l).1.map lF,[]⟩ (gJ l).2
theorem Ge (l:List Int) (hl:l.length<=300) (hc:CatOk (gJ l).1) {W:Cs} (hW:s8 l=W):FSpec prog 20 [.one (.sl fo l)] [] [] (.v (W.a 2)) []:=by
 refine aS func20 ?_;unfold s8 at hW;obtain ⟨R,hR⟩:=qGe (gJ l);have kS:=I7 l hl hR;rw [hR] at hc hW;have kN:=PE 2 R.1 hc;have kR:=PF _ _ hW;exact QY
theorem PG:nA.toList=[97]:=by rw [ByteArray.toList_eq];rfl
theorem NU:nB.toList=[98]:=by rw [ByteArray.toList_eq];rfl
theorem NV:nC.toList=[99]:=by rw [ByteArray.toList_eq];rfl
theorem NW:nD.toList=[100]:=by rw [ByteArray.toList_eq];rfl
theorem NX:nP.toList=[112]:=by rw [ByteArray.toList_eq];rfl
theorem PH:nQ.toList=[113]:=by rw [ByteArray.toList_eq];rfl
theorem rn {n:ByteArray} {k u h:Int} (hn:bU n.toList=true) (hs:aW ⟨n,k,u,h⟩=true) (h0:0<=h) (h1:h<4):ly ⟨n,k,u,h⟩=true:=by
 unfold ly Rs.key;rw [hs,qDt h0,qDt h1];simpa using hn
theorem tX (l:List Int):CatOk (gJ l).1:=by
 show CatOk (toZ ⟨l,0⟩).1;generalize (⟨l,0⟩:Tp)=t;have b1:=t.v_in (m:=4) (by omega);have b2:=t.s.v_in (m:=4) (by omega);have b3:=t.s.s.v_in (m:=4) (by omega);have b4:=t.s.s.s.v_in (m:=4) (by omega);have b5:=t.s.s.s.s.v_in (m:=8) (by omega);have b6:=t.s.s.s.s.s.v_in (m:=4) (by omega);have b7:=t.s.s.s.s.s.s.v_in (m:=3) (by omega);have b8:=t.s.s.s.s.s.s.s.v_in (m:=4) (by omega);unfold toZ;dsimp only;generalize t.s.s.s.s.s.s.s.v 4=v8 at *
 generalize t.s.s.s.s.s.s.v 3=v7 at *
 generalize t.s.s.s.s.s.v 4=v6 at *
 generalize t.s.s.s.s.v 8=v5 at *
 generalize t.s.s.s.v 4=v4 at *
 generalize t.s.s.v 4=v3 at *
 generalize t.s.v 4=v2 at *
 generalize t.v 4=v1 at *
 have hp:∀n v,0<=v->v<8->∀h,aW ⟨n,2,1+v,h⟩=true:=fun n v h1 h2 h=>by unfold aW;simp;omega
 refine ⟨by simp,fun x hx=>?_,fun i hi=>?_⟩
 ·simp only [List.mem_cons,List.not_mem_nil,or_false] at hx;rcases hx with rfl|rfl|rfl|rfl|rfl|rfl
  ·exact rn (by rw [PG];decide) rfl (by omega) (by omega)
  ·exact rn (by rw [NU];decide) rfl (by omega) (by omega)
  ·exact rn (by rw [NV];decide) rfl (by omega) (by omega)
  ·exact rn (by rw [NW];decide) rfl (by omega) (by omega)
  ·exact rn (by rw [NX];decide) (hp _ _ (by omega) (by omega) _) (by omega) (by omega)
  ·exact rn (by rw [PH];decide) (hp _ _ (by omega) (by omega) _) (by omega) (by omega)
 ·simp only [List.length_cons,List.length_nil] at hi;unfold fT;obtain rfl|rfl|rfl|rfl|rfl:i=0\/i=1\/i=2\/i=3\/i=4:=by omega
  ·show Op.bytesLess nA.toList nB.toList=true;rw [PG,NU];decide
  ·show Op.bytesLess nB.toList nC.toList=true;rw [NU,NV];decide
  ·show Op.bytesLess nC.toList nD.toList=true;rw [NV,NW];decide
  ·show Op.bytesLess nD.toList nP.toList=true;rw [NW,NX];decide
  ·show Op.bytesLess nP.toList nQ.toList=true;rw [NX,PH];decide
theorem zk {r:Rs} (h:ly r=true):ai (lF r)=true:=by
 have hs:aW r=true:=by unfold ly at h;simp only [qBa] at h;exact h.1.1.2
 unfold ai eD lF;simp only [h,Bool.true_and];have h1:qD r []=true:=by unfold qD;rw [hs];simp [ue,g9,iA,hs,eC]
 rw [h1];rfl
theorem C7 {l:List Rs} (h:CatOk l):cM (l.map lF)=true:=by
 have key:∀(m:List Rs) (o:Option ByteArray),(∀x∈m,ly x=true)->(∀i (h:i+1<m.length),fT (m[i]'(by omega)).name m[i+1].name=true)->(∀n,o=some n->∀x,m.head? = some x->fT n x.name=true)->jz o (m.map lF)=true:=by
  intro m;induction m with
  | nil=>intro _ _ _ _;rfl
  | cons x m ih =>
   intro o h1 h2 h3;rw [List.map_cons,ct,zk (h1 x (by simp))];have e:Ka o (lF x).res.name=true:=by
    cases o with
    | none=>rfl
    | some n=>exact h3 n rfl x rfl
   rw [e];refine ih _ (fun y hy=>h1 y (by simp [hy])) (fun i hi=>?_) fun n hn y hy=>?_
   ·have:=h2 (i+1) (by simpa using hi);simpa using this
   ·cases m with
    | nil=>cases hy
    | cons z m =>
     have:=h2 0 (by simp);simp only [List.head?_cons,Option.some.injEq] at hy;subst hy;injection hn with hn;subst hn;show fT x.name z.name=true;simpa using this
 unfold cM;rw [key l none h.ok h.asc (fun n hn=>by cases hn)];simp [h.len]
theorem xY:dw []=[]:=by
 apply List.eq_nil_iff_forall_not_mem.2
 intro x hx;rw [bf] at hx;cases hx
theorem Gf (l:List Rs):iD (l.map lF)=[]:=by
 induction l with
 | nil=>rfl
 | cons x l ih=>show dw []++iD (l.map lF)=[];rw [ih,xY];rfl
theorem C8 {l:List Rs} (h:CatOk l):eV (l.map lF)=true/\aD (l.map lF)=[]:=by
 have e:aD (l.map lF)=[]:=by unfold aD;rw [Gf,xY]
 refine ⟨?_,e⟩;unfold eV;rw [C7 h,e];rfl
theorem mv {l:List Rs} (h:CatOk l):dA ⟨0,l.map lF,[]⟩=true:=by
 obtain ⟨h1,h2⟩:=C8 h;unfold dA;dsimp only;rw [h1,h2];rfl
theorem FSpec.up {P:Program} {f:FuncId} {args:List V0} {res res':TV} (h:FSpec P f args [] [] res []) (hok:Ca args [] [] res []=true) (hok':Ca args [] [] res' []=true) (hle:∀w S ρ v,res.rep w S ρ v->res'.rep w S ρ v):FSpec P f args [] [] res' [] :=
 gS h.en hok' fun w S ρ vs hp hS ha=>(h.calls hok hS hp ha).mono fun _ _ ⟨v,e,hb,hr⟩=>⟨v,e,hb,hle _ _ _ _ hr⟩
theorem Bd (d:Nat) (hd:2<=d) (l:List Int) (hl:l.length<=300):FSpec prog 20 [.one (.sl fo l)] [] [] (.v ((s8 l).a d)) [] :=
 (Ge l hl (tX l) rfl).up rfl rfl fun _ _ _ _ h=>Cs.up hd h
theorem Be (l:List Int):(s8 l).procs.length<=8:=(cf.1 (pG (gJ l).2 _ (mv (tX l)))).1.len
end Go.Proofs.YtkkbopkbjacfmaaGreatDoor
