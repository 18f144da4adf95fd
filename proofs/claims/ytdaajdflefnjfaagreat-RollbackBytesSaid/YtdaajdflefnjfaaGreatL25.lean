/- Part 25 of 26 of the proof of rollbackBytes_holds (no condition). -/
import Derived.Test.YtdaajdflefnjfaaGreatL24
import Derived.Test.YtdaajdflefnjfaaGreatChecked
set_option linter.unusedVariables false
set_option linter.unusedSimpArgs false
set_option maxRecDepth 100000
set_option maxHeartbeats 64000000
namespace Go.Proofs.YtdaajdflefnjfaaGreat
open Go.RowKit Go.Proofs.Tryz
section
variable {P:Program} {o:Oper} {s:Mst} {α:Type} {E:El α}
theorem Reps.takeK {w:World} {S:Nat→Prop}:∀{l:List α} {xs:List Value} (m:Nat),Reps E w S l xs→Reps E w S (l.take m) (xs.take (m*E.n))
 | [],xs,m,h=>by
  obtain rfl:xs=[]:=h
  simp
  rfl
 | x :: l,xs,0,h=>by
  simp
  rfl
 | x :: l,xs,m+1,h=>by
  obtain ⟨cs,rest,rfl,h1,h2⟩:=h
  have hl:=E.len h1
  refine ⟨cs,rest.take (m*E.n),?_,h1,Reps.takeK m h2⟩
  rw [Nat.add_mul,Nat.one_mul,Nat.add_comm,←hl,List.take_length_add_append]
theorem yP {w:World} {base:Nat} {e:TypeId} {n N m cap:Nat} {A:Option Addr} {xs:List Value} (h:w.ownsRow base e n (.slice A N cap) N xs) (hm:m≤N) (h0:0<N):w.ownsRow base e n (.slice A m cap) m (xs.take (m*n)):=by
 obtain ⟨h1,h2⟩:=h
 have hmn:m*n≤N*n:=Nat.mul_le_mul_right n hm
 refine ⟨by rw [List.length_take,h1];omega,.inr ?_⟩
 rcases h2 with ⟨_,hN⟩|⟨g,cap',cur,hv,hb,hh,hc,hcm,hcs,ht⟩
 ·omega
 ·injection hv with e1 _ e3
  subst e1
  subst e3
  exact ⟨g,cap,cur,rfl,hb,hh,by omega,hcm,hcs,by rw [←ht,List.take_take,Nat.min_eq_left hmn]⟩
theorem F4 {t e:TypeId} {x y:Operand} {row:Bool} {n m j k:Nat} {z:Int} {l l':List α} [I:SE P t e] [J:TI P e row n] (ho:o.op = .slice t x none (some y) none) (hdk:o.dst=some k) (hx:s.ev x = .c (.own j)) (hk:s.h j=some (.arr e E l)) (hy:s.ev y = .i z) (hz:z=(m:Int)) (hn:E.n=n) (hm:m≤l.length) (h0:0<l.length) (hl':l.take m=l') :
  LOp P o s [j] ⟨.c (.own k),[(k,some (.arr e E l')),(j,none)],[k]⟩:=by
 intro c st ρ a w hr h1 h2 h3 h4
 subst hl' hz hn
 have hfk:st.f k=true:=h3 k (by simp [aF])
 have hk':st.h j=some (.arr e E l):=(h2 j (by simp [aF])).trans hk
 have hne:k.beq j=false:=by
  cases h9:k.beq j with
  | false=>rfl
  | true=>rw [←Nat.eq_of_beq_eq_true h9,hr.wf.h k hfk] at hk';cases hk'
 have hxv:=hr.ev x
 rw [h1 x (by simp [ho,Op.operands]),hx] at hxv
 have hxv:a.eval x=ρ j:=hxv
 have hyv:=hr.ev y
 rw [h1 y (by simp [ho,Op.operands]),hy] at hyv
 have hyv:a.eval y = .int .i64 (m:Int):=hyv
 obtain ⟨xs,hown,hre⟩:=hr.hp j _ hk'
 obtain ⟨A,cap,hA,hc,hp⟩:=dI (hr.hp j _ hk')
 rw [hA] at hown
 have hown2:=yP hown hm h0
 have hkb:∀g,kb (Value.slice A m cap)=some g→kb (ρ j)=some g:=fun g hg=>by
  rw [hA]
  cases A with
  | none=>cases hg
  | some a=>exact hg
 have hexec:(execOp a.eval o).run P w = .ok (.value (.slice A m cap)) w:=by
  obtain ⟨g,ys,rfl,_⟩:=hp h0
  unfold execOp
  rw [ho]
  have hle1:¬(l.length<m):=by omega
  have hle2:m≤cap:=by omega
  obtain ⟨jj,hj,hjn⟩:∃jj,P.info? e=some jj∧jj.size=E.n:=by
   have:=J.s
   cases h:P.info? e with
   | none=>simp [h] at this
   | some jj=>exact ⟨jj,rfl,by simpa [h] using this⟩
  simp [Instr.sliceAt,Instr.slice,Instr.sliceBounds,Instr.sliceBound,run_underlying I.u,hxv,hyv,hA,asIntOf,sizeOf,typeInfo,hj,hle2,dx]
 have hputk:hput [(k,some (Box.arr e E (l.take m))),(j,none)] st.h k=some (.arr e E (l.take m)):=by simp [hput]
 have hputj:hput [(k,some (Box.arr e E (l.take m))),(j,none)] st.h j=none:=by simp [hput,hne]
 have hky:∀q,aA [(k,some (Box.arr e E (l.take m))),(j,none)] q=true→q=k∨q=j:=fun q h=>by
  simp only [aA,Bool.or_eq_true,Bool.or_false] at h
  rcases h with h|h
  ·exact .inl (Nat.eq_of_beq_eq_true h).symm
  ·exact .inr (Nat.eq_of_beq_eq_true h).symm
 have hsm:∀q bx,aA [(k,some (Box.arr e E (l.take m))),(j,none)] q=true→hput [(k,some (Box.arr e E (l.take m))),(j,none)] st.h q=some bx→q=k∧bx = .arr e E (l.take m):=fun q bx hq hb=>by
  rcases hky q hq with rfl|rfl
  ·rw [hputk] at hb;exact ⟨rfl,(Option.some.inj hb).symm⟩
  ·rw [hputj] at hb;cases hb
 have hFz:∀b,Fz c st.h ρ w b→Fz c (hput [(k,some (Box.arr e E (l.take m))),(j,none)] st.h) (upd ρ k (.slice A m cap)) w b:=fun b hb=>by
  refine ⟨hb.1,hb.2.1,fun q bx hq he=>?_⟩
  cases h9:aA [(k,some (Box.arr e E (l.take m))),(j,none)] q with
  | true =>
   obtain ⟨rfl,_⟩:=hsm q bx h9 hq
   rw [aL] at he
   exact hb.2.2 j _ hk' (hkb b he)
  | false =>
   rw [bR h9] at hq
   have hkq:k.beq q=false:=by
    cases h8:k.beq q with
    | false=>rfl
    | true=>rw [←Nat.eq_of_beq_eq_true h8,hr.wf.h k hfk] at hq;cases hq
   rw [dB hkq] at he
   exact hb.2.2 q bx hq he
 refine Oper.wp_value hexec ⟨upd ρ k (.slice A m cap),hr.app (e:=⟨.c (.own k),[(k,some (.arr e E (l.take m))),(j,none)],[k]⟩) h4 (fun q hq=>?_) (fun q hq=>dB (by simpa [aF] using hq)) (fun q hq=>?_) (Frx.refl _ _) (fun q bx g hq hb hg=>?_) (fun q q' b b' g hq hq' hb hb' _ _=>?_) (fun q hq=>.inl ?_) (fun q q' bx hq' hb hx2=>?_) (fun q bx hq hb=>?_) ?_⟩
 ·have:q=k:=by simp [aF] at hq;exact hq.symm
  subst this
  exact ⟨hfk,by simp [aA]⟩
 ·rcases hky q hq with rfl|rfl
  ·exact .inl (by simp [aF])
  ·exact .inr (hr.nfh hk')
 ·obtain ⟨rfl,_⟩:=hsm q bx hq hb
  rw [aL] at hg
  exact ⟨hr.ltb hk' (hkb g hg),.inr ⟨j,_,by simp [aA],hk',hkb g hg⟩⟩
 ·rw [(hsm q b hq hb).1,(hsm q' b' hq' hb').1]
 ·have:q=k:=by simp [TV.has,V0.has,D.has] at hq;exact hq.symm
  subst this
  simp [aF]
 ·rw [(hsm q' bx hq' hb).2] at hx2
  simp [Box.has] at hx2
 ·obtain ⟨rfl,rfl⟩:=hsm q bx hq hb
  rw [aL]
  refine ⟨_,?_,(hre.takeK m).same (fun _ _=>rfl) hFz⟩
  rw [List.length_take,Nat.min_eq_left hm]
  exact hown2
 ·exact (aL ρ k _).symm
end
theorem Bz:∀(n:Nat) (s:Ws),RedOk n s→cq (oQ n s).2=true
 | 0,s,h=>h.1
 | n+1,s,h=>by
  cases hF:iJ s with
  | nil=>rw [yK hF];exact h.1
  | cons p l=>rw [uX hF];exact Bz n _ (h.2 p l hF)
theorem yQ (s:Ws):(mh s).2.length≤8:=by
 unfold mh
 cases hv:cq s with
 | false=>exact Nat.zero_le _
 | true=>exact (gU (Bz _ _ (FY _ s hv (Nat.le_refl _)))).2.2.2
theorem F5 (d:Nat) (s:Ws) {R:List Pr×List Pr} (hR:mh s=R):FSpec prog 39 [s.a d] [] [] (.tup [.one (.sl iz R.1),.one (.sl iz R.2)]) []:=by
 unfold mh at hR
 cases hv:cq s with
 | true =>
  rw [hv] at hR
  obtain rfl:=hR.symm
  exact Ie d s _ (by have:=(gU hv).2.2.2;omega) (FY _ s hv (Nat.le_refl _)) rfl
 | false =>
  rw [hv] at hR
  obtain rfl:R=([],[]):=hR.symm
  refine aX func39 ?_
  have kV:=oa d s
  rw [hv] at kV
  repeat' (first
   | refine ah ?_ ?_
   | refine aa 9 rfl (cB [] (kV) ?_)
   | refine af ?_
   | exact ai|refine ae fun hb=>?_
   | (refine iG (qf []) ?_;exact ab))
theorem C5 (p:Pc):(mx p).length≤5:=by
 unfold mx
 cases hh:fI p.proc && decide (1≤p.cost) && decide (p.cost≤1000) && qi p.led && (!p.waiting || qL p.req) with
 | false=>exact Nat.zero_le _
 | true =>
  simp only [Bool.and_eq_true] at hh
  have h4:=(f8 hh.1.2).2
  show (bif (wG p).all mS then wG p else []).length≤5
  cases (wG p).all mS with
  | false=>exact Nat.zero_le _
  | true =>
   show (wG p).length≤5
   unfold wG
   simp
   omega
def uY (x:Pc):List Pr→List Opn→List Opn
 | [],T=>T
 | q :: l,T=>uY x l (bif decide (x.proc=q) then T++mx x else T)
def yR (dead:List Pr):List Pc→List Opn→List Opn
 | [],T=>T
 | x :: l,T=>yR dead l (uY x dead T)
def yS (c:Cs) (m:Nat):List Opn:=(yR (mh (JX c)).2 c.procs []).take m
theorem J2 (d:Nat) (c:Cs) (m:Nat) (hm:m≤1000) (hc:c.procs.length≤8) {R:List Opn} (hR:yS c m=R):FSpec prog 14 [c.a d,jX m] [] [0] (.c (.own 0)) [(0,some (.arr 41 tj R))]:=by
 refine aX func14 ?_
 unfold yS at hR
 have kO:=Mm d c rfl
 obtain ⟨Z,hZ⟩:∃Z,mh (JX c)=Z:=⟨_,rfl⟩
 have kR:=F5 d (JX c) hZ
 have hl8:=yQ (JX c)
 rw [hZ] at hR hl8
 obtain ⟨Z1,dead⟩:=Z
 dsimp only at hR hl8 kR
 generalize JX c=O at kO kR
 repeat' (first
  | refine ah ?_ ?_
  | (refine aa 9 rfl ?_;first
   | (refine cC [] (kO) ?_)
   | (refine cC [] (kR) ?_))
  | refine af ?_
  | exact ai|refine ae fun hb=>?_)
 refine cc 5 1000 41 tj rfl rfl rfl ?_
 obtain ⟨T9,hT9⟩:∃T9,yR dead c.procs []=T9:=⟨_,rfl⟩
 rw [hT9] at hR
 refine ak (fun y:Nat×List Opn=>y.1≤c.procs.length∧y.2.length≤40*y.1∧yR dead (c.procs.drop y.1) y.2=T9) (fun y=>bH [2,1000] [(1,.v (jX m)),(2,.c (.ptr 2 0)),(5,.c (.own 1000)),(7,.c (.sl iz dead)),(8,.i y.1)] [(2,.box 49 (c.d d)),(1000,.arr 41 tj y.2)]) (fun y=>c.procs.length-y.1) (0,[]) ⟨Nat.zero_le _,Nat.le_refl _,hT9⟩ (by exact ao (qf [])) ?_
 clear hT9 kO kR hZ
 rintro ⟨i,T⟩ ⟨hi,hTl,hs⟩
 dsimp only at *
 by_cases hlt:i<c.procs.length
 case neg =>
  rw [List.drop_eq_nil_of_le (by omega)] at hs
  obtain rfl:T=T9:=hs
  by_cases hb9:m<T.length
  ·obtain ⟨T2,hT2⟩:∃T2,T.take m=T2:=⟨_,rfl⟩
   obtain rfl:R=T2:=by rw [←hR,hT2]
   repeat' (first
    | refine ah ?_ ?_
    | (refine aa 14 rfl ?_;refine sx (F4 rfl rfl rfl rfl rfl rfl rfl (by omega) (by omega) hT2) ?_)
    | refine af ?_
    | exact ai|refine ae fun hb=>?_
    | (refine aE (qf [(0,54)]) ?_;exact ab))
  ·obtain rfl:R=T:=by rw [←hR];exact List.take_of_length_le (by omega)
   repeat' (first
    | refine ah ?_ ?_
    | refine af ?_
    | exact ai|refine ae fun hb=>?_
    | (refine aE (qf [(0,1000)]) ?_;exact ab))
 obtain ⟨x,hx⟩:∃x,c.procs[i]? = some x:=⟨_,List.getElem?_eq_getElem hlt⟩
 have ex:c.procs[i]=x:=(List.getElem?_eq_some_iff.1 hx).2
 rw [List.drop_eq_getElem_cons hlt,ex] at hs
 have hs:yR dead (c.procs.drop (i+1)) (uY x dead T)=T9:=hs
 obtain ⟨Y,hY⟩:∃Y,mx x=Y:=⟨_,rfl⟩
 have kX:=Ey d x hY
 have hYl:=C5 x
 rw [hY] at hYl
 obtain ⟨T8,hT8⟩:∃T8,uY x dead T=T8:=⟨_,rfl⟩
 rw [hT8] at hs
 repeat' (first
  | refine ah ?_ ?_
  | refine af ?_
  | exact ai|refine ae fun hb=>?_)
 refine ak (fun y:Nat×List Opn=>y.1≤dead.length∧y.2.length≤40*i+5*y.1∧uY x (dead.drop y.1) y.2=T8) (fun y=>bH [2,1000] [(1,.v (jX m)),(2,.c (.ptr 2 0)),(5,.c (.own 1000)),(7,.c (.sl iz dead)),(8,.i i),(9,.i y.1)] [(2,.box 49 (c.d d)),(1000,.arr 41 tj y.2)]) (fun y=>dead.length-y.1) (0,T) ⟨Nat.zero_le _,hTl,hT8⟩ (by exact ao (qf [])) ?_
 clear hT8 hTl
 rintro ⟨k,T⟩ ⟨hk,hTl,ht⟩
 dsimp only at *
 by_cases hlk:k<dead.length
 case neg =>
  rw [List.drop_eq_nil_of_le (by omega)] at ht
  obtain rfl:T=T8:=ht
  repeat' (first
   | refine ah ?_ ?_
   | refine af ?_
   | exact ai|refine ae fun hb=>?_)
  refine ⟨(i+1,T),⟨by dsimp only;omega,by dsimp only;omega,hs⟩,by dsimp only;omega,?_⟩
  exact ao (qf [])
 obtain ⟨q,hq⟩:∃q,dead[k]? = some q:=⟨_,List.getElem?_eq_getElem hlk⟩
 have eq:dead[k]=q:=(List.getElem?_eq_some_iff.1 hq).2
 rw [List.drop_eq_getElem_cons hlk,eq] at ht
 have ht:uY x (dead.drop (k+1)) (bif decide (x.proc=q) then T++mx x else T)=T8:=ht
 by_cases hp:x.proc=q
 ·rw [decide_eq_true hp,cond_true,hY] at ht
  repeat' (first
   | refine ah ?_ ?_
   | refine aa 9 rfl (cC [] (kX) ?_)
   | refine af ?_
   | exact ai|(refine ae fun hb=>?_;first|(exact absurd hp hb)|skip))
  refine ⟨(k+1,T++Y),⟨by dsimp only;omega,by dsimp only;rw [List.length_append];omega,ht⟩,by dsimp only;omega,?_⟩
  exact ao (qf [(1000,47)])
 ·rw [decide_eq_false hp,cond_false] at ht
  repeat' (first
   | refine ah ?_ ?_
   | refine af ?_
   | exact ai|(refine ae fun hb=>?_;first|(exact absurd hb hp)|skip))
  refine ⟨(k+1,T),⟨by dsimp only;omega,by dsimp only;omega,ht⟩,by dsimp only;omega,?_⟩
  exact ao (qf [])
theorem J3 (l:List Int) {b:Bool} (hb0:decide (l.length≤300)=b):FSpec prog 5 [.one (.sl fm l)] [] [] (.b b) []:=by
 refine aX func5 ?_
 repeat' (first
  | refine ah ?_ ?_
  | refine af ?_
  | exact ai|refine ae fun hb=>?_)
 refine gz ?_
 rw [←hb0]
 congr 1
 exact decide_eq_decide.2 (by omega)
theorem LA (b:List UInt8) (o:Opn) (hb:b.length≤100000000) {R:List UInt8} (hR:b++lp o=R):FSpec prog 15 [yB b,o.a] [] [] (.c (.sl aQ R)) []:=by
 refine aX func15 ?_
 obtain ⟨v,hv⟩:∃v,mS o=v:=⟨_,rfl⟩
 have kV:=qW o hv
 unfold lp at hR
 rw [hv] at hR
 cases v with
 | false =>
  obtain rfl:R=b:=by rw [←hR];simp
  repeat' (first
   | refine ah ?_ ?_
   | refine aa 9 rfl (cB [] (kV) ?_)
   | refine af ?_
   | exact ai|refine ae fun hb=>?_
   | (refine aE (qf []) ?_;exact ab))
 | true =>
  obtain ⟨p1,p2,p3,p4,p5⟩:=mf hv
  have hatm:=oK p5
  clear p5
  rw [cond_true] at hR
  have hw1:=tM (o.label+1) (by omega) (by omega)
  have hw2:=tM o.cost (by omega) (by omega)
  have hw3:=tM (o.lower.length:Int) (by omega) (by omega)
  have e3:((o.lower.length:Int)).toNat=o.lower.length:=by omega
  rw [e3] at hw3
  obtain ⟨n1,hn1⟩:∃n,(o.label+1).toNat=n:=⟨_,rfl⟩
  obtain ⟨n2,hn2⟩:∃n,o.cost.toNat=n:=⟨_,rfl⟩
  have l1:n1≤100:=by omega
  have l2:n2≤1073741824:=by omega
  rw [hn1] at hw1 hR
  rw [hn2] at hw2 hR
  obtain ⟨B1,hB1⟩:∃B,b++ml o.proc=B:=⟨_,rfl⟩
  have q1:B1.length≤100000100:=by
   rw [←hB1]
   have:=td o.proc p1
   simp;omega
  obtain ⟨B2,hB2⟩:∃B,B1++aK n1=B:=⟨_,rfl⟩
  have q2:B2.length≤100000110:=by rw [←hB2];have:=dm (v:=n1) (by omega);simp;omega
  obtain ⟨B3,hB3⟩:∃B,B2++aK n2=B:=⟨_,rfl⟩
  have q3:B3.length≤100000120:=by rw [←hB3];have:=dm (v:=n2) (by omega);simp;omega
  obtain ⟨B4,hB4⟩:∃B,B3++aK o.lower.length=B:=⟨_,rfl⟩
  have q4:B4.length≤100000130:=by rw [←hB4];have:=dm (v:=o.lower.length) (by omega);simp;omega
  have k1:=CY b o.proc p1 (by omega) hB1
  have k2:=jf B1 n1 (by omega) (by omega) hB2
  have k3:=jf B2 n2 (by omega) (by omega) hB3
  have k4:=jf B3 o.lower.length (by omega) (by omega) hB4
  have hR4:B4++ip o.lower=R:=by rw [←hR,←hB4,←hB3,←hB2,←hB1];simp only [List.append_assoc]
  clear hR hB1 hB2 hB3 hB4 hn1 hn2
  repeat' (first
   | refine ah ?_ ?_
   | (refine aa 0 rfl ?_;first|refine sx (bt rfl underlying3 underlying96 rfl hw1) ?_|refine sx (bt rfl underlying3 underlying96 rfl hw2) ?_|refine sx (bt rfl underlying3 underlying96 rfl hw3) ?_)
   | (refine aa 9 rfl ?_;first
    | (refine cB [] (kV) ?_)
    | (refine cC [8] (k1) ?_)
    | (refine cC [] (k2) ?_)
    | (refine cC [] (k3) ?_)
    | (refine cC [] (k4) ?_))
   | refine af ?_
   | exact ai|refine ae fun hb=>?_)
  refine ak (fun y:Nat×List UInt8=>y.1≤o.lower.length∧y.2.length≤100000130+50*y.1∧y.2++ip (o.lower.drop y.1)=R) (fun y=>bH [] [(0,.c (.sl aQ y.2)),(35,.c (.sl cr o.lower)),(36,.i o.lower.length),(37,.i y.1)] []) (fun y=>o.lower.length-y.1) (0,B4) ⟨Nat.zero_le _,by dsimp only;omega,hR4⟩ (by exact ao (qf [])) ?_
  clear hR4 k1 k2 k3 k4 kV hw1 hw2 hw3 hb
  rintro ⟨i,B⟩ ⟨hi,hBl,hs⟩
  dsimp only at *
  by_cases hlt:i<o.lower.length
  ·obtain ⟨a,ha⟩:∃a,o.lower[i]? = some a:=⟨_,List.getElem?_eq_getElem hlt⟩
   have ea:o.lower[i]=a:=(List.getElem?_eq_some_iff.1 ha).2
   obtain ⟨z1,z2⟩:=hatm a (ea▸List.getElem_mem hlt)
   have z3:=jM z1
   obtain ⟨m0,m1,m2,m3⟩:=mg z2
   rw [List.drop_eq_getElem_cons hlt,ea] at hs
   have hs:B++(aK a.name.size++a.name.data.toList++aK a.am.mode.toNat++aK a.am.units.toNat++ip (o.lower.drop (i+1)))=R:=hs
   have hw1:=tM a.am.mode m0 (by omega)
   have hw2:=tM a.am.units m2 (by omega)
   obtain ⟨n1,hn1⟩:∃n,a.am.mode.toNat=n:=⟨_,rfl⟩
   obtain ⟨n2,hn2⟩:∃n,a.am.units.toNat=n:=⟨_,rfl⟩
   have l1:n1≤8:=by omega
   have l2:n2≤8:=by omega
   rw [hn1] at hw1 hs
   rw [hn2] at hw2 hs
   obtain ⟨B1,hB1⟩:∃X,B++aK a.name.size++a.name.data.toList=X:=⟨_,rfl⟩
   have q1:B1.length≤100000130+50*i+22:=by rw [←hB1];have:=dm (v:=a.name.size) (by omega);have h9:a.name.data.toList.length=a.name.size:=(by simp);simp only [List.length_append];omega
   obtain ⟨B2,hB2⟩:∃X,B1++aK n1=X:=⟨_,rfl⟩
   have q2:B2.length≤100000130+50*i+32:=by rw [←hB2];have:=dm (v:=n1) (by omega);simp;omega
   obtain ⟨B3,hB3⟩:∃X,B2++aK n2=X:=⟨_,rfl⟩
   have q3:B3.length≤100000130+50*i+42:=by rw [←hB3];have:=dm (v:=n2) (by omega);simp;omega
   have k1:=CZ B a.name (by omega) (by omega) hB1
   have k2:=jf B1 n1 (by omega) (by omega) hB2
   have k3:=jf B2 n2 (by omega) (by omega) hB3
   have hs3:B3++ip (o.lower.drop (i+1))=R:=by rw [←hs,←hB3,←hB2,←hB1];simp only [List.append_assoc]
   clear hs hB1 hB2 hB3 hn1 hn2
   repeat' (first
    | refine ah ?_ ?_
    | (refine aa 0 rfl ?_;first|refine sx (bt rfl underlying3 underlying96 rfl hw1) ?_|refine sx (bt rfl underlying3 underlying96 rfl hw2) ?_)
    | (refine aa 9 rfl ?_;first
     | (refine cC [] (k1) ?_)
     | (refine cC [] (k2) ?_)
     | (refine cC [] (k3) ?_))
    | refine af ?_
    | exact ai|refine ae fun hb=>?_)
   refine ⟨(i+1,B3),⟨by dsimp only;omega,by dsimp only;omega,hs3⟩,by dsimp only;omega,?_⟩
   exact ao (qf [])
  ·rw [List.drop_eq_nil_of_le (by omega)] at hs
   obtain rfl:B=R:=by rw [←hs];simp [ip]
   repeat' (first
    | refine ah ?_ ?_
    | refine af ?_
    | exact ai|refine ae fun hb=>?_
    | (refine aE (qf []) ?_;exact ab))
theorem C6 {l:List UInt8} {t:ByteArray} {m:Nat} {x:Int} (h:dA l=(t,m,x)) (hx:x≠0):t = .empty∧m=0:=by
 unfold dA at h
 by_cases h1:(aD l).2.2=0
 ·rw [decide_eq_true h1] at h
  by_cases h2:1024<(aD l).1
  ·rw [decide_eq_true h2] at h
   obtain ⟨rfl,rfl,_⟩:=bI h
   exact ⟨rfl,rfl⟩
  ·rw [decide_eq_false h2] at h
   by_cases h3:l.length<(aD l).2.1+(aD l).1
   ·rw [decide_eq_true h3] at h
    obtain ⟨rfl,rfl,_⟩:=bI h
    exact ⟨rfl,rfl⟩
   ·rw [decide_eq_false h3] at h
    obtain ⟨_,_,rfl⟩:=bI h
    exact absurd rfl hx
 ·rw [decide_eq_false h1] at h
  obtain ⟨rfl,rfl,_⟩:=bI h
  exact ⟨rfl,rfl⟩
theorem C7 {l:List UInt8} {p:Pr} {m:Nat} {x:Int} (h:bO l=(p,m,x)) (hx:x≠0):p=eF∧m=0:=by
 unfold bO qJ at h
 dsimp only at h
 split at h
 ·obtain ⟨rfl,rfl,_⟩:=bI h
  exact ⟨rfl,rfl⟩
 ·split at h
  ·obtain ⟨rfl,rfl,_⟩:=bI h
   exact ⟨rfl,rfl⟩
  ·split at h
   ·obtain ⟨rfl,rfl,_⟩:=bI h
    exact ⟨rfl,rfl⟩
   ·split at h
    ·obtain ⟨_,_,rfl⟩:=bI h
     exact absurd rfl hx
    ·obtain ⟨rfl,rfl,_⟩:=bI h
     exact ⟨rfl,rfl⟩
abbrev If (all:List UInt8) (at_:Nat) (err:Int):Box:=.box 108 [.sl aQ all,.sc (.int .i64 (at_:Int)),.sc (.int .i64 err)]
theorem oR (all:List UInt8) (at_:Nat) (err limit over:Int) (hl:all.length≤1000000000) (ha:at_≤all.length) (h0:0≤limit) (h1:limit≤1073741824) (ho:over≠0) {v e:Int} {k:Nat} (hR:ir all at_ err limit over=(v,k,e)):FSpec prog 53 [.one (.ptr 0 0),.one (.sc (.int .i64 limit)),.one (.sc (.int .i64 over))] [(0,If all at_ err)] [] (.c (.sc (.int .i64 v))) [(0,some (If all k e))]:=by
 refine aX func53 ?_
 unfold ir at hR
 by_cases he:err=0
 case neg =>
  rw [decide_eq_false he] at hR
  obtain ⟨rfl,rfl,rfl⟩:=bI hR
  repeat' (first
   | refine ah ?_ ?_
   | refine af ?_
   | exact ai|(refine ae fun hb=>?_;first|(exact absurd hb he)|skip)
   | (refine aE (qf []) ?_;exact ab))
 subst he
 rw [decide_eq_true rfl] at hR
 have hR:(bif !decide (Bu (all.drop at_) limit over=0) then (0,at_,Bu (all.drop at_) limit over) else (((aD (all.drop at_)).1:Int),at_+(aD (all.drop at_)).2.1,0))=(v,k,e):=hR
 obtain ⟨D',hD'⟩:∃D',all.drop at_=D':=⟨_,rfl⟩
 have hD2:all.drop ((at_:Int)).toNat=D':=by rw [Int.toNat_natCast];exact hD'
 have hDl:D'.length=all.length-at_:=by rw [←hD'];simp
 rw [hD'] at hR
 have xI:=bi D'
 unfold Bu at hR
 obtain ⟨⟨n,m,x⟩,hu⟩:∃x,aD D'=x:=⟨_,rfl⟩
 have kU:=FK D' (by omega) hu
 rw [hu] at hR xI
 dsimp only at hR xI
 obtain ⟨b1,b2,b3⟩:=xI
 have hw:IntKind.u64.wrap limit=limit:=IntWalk.u64_in _ (by omega)
 by_cases hx:x=0
 case neg =>
  rw [decide_eq_false hx] at hR
  have hR:(bif !decide (x=0) then (0,at_,x) else ((n:Int),at_+m,0))=(v,k,e):=hR
  rw [decide_eq_false hx] at hR
  obtain ⟨rfl,rfl,rfl⟩:=bI hR
  repeat' (first
   | refine ah ?_ ?_
   | (refine aa 0 rfl ?_;refine sx (bt rfl underlying3 underlying96 rfl hw) ?_)
   | refine aa 9 rfl (cB [] (kU) ?_)
   | (refine aa 14 rfl ?_;refine sx (bg (z:=(at_:Int)) rfl rfl rfl rfl (by omega) (by omega) hD2) ?_)
   | refine af ?_
   | exact ai|(refine ae fun hb=>?_;first|(exact absurd hb hx)|(exact absurd rfl hb)|skip)
   | (refine aE (qf []) ?_;exact ab))
 subst hx
 obtain ⟨c1,c2,c3⟩:=b2 rfl
 by_cases hlt:limit<(n:Int)
 ·rw [decide_eq_true hlt] at hR
  have hR:(bif !decide (over=0) then (0,at_,over) else ((n:Int),at_+m,0))=(v,k,e):=hR
  rw [decide_eq_false ho] at hR
  obtain ⟨rfl,rfl,rfl⟩:=bI hR
  repeat' (first
   | refine ah ?_ ?_
   | (refine aa 0 rfl ?_;refine sx (bt rfl underlying3 underlying96 rfl hw) ?_)
   | refine aa 9 rfl (cB [] (kU) ?_)
   | (refine aa 14 rfl ?_;refine sx (bg (z:=(at_:Int)) rfl rfl rfl rfl (by omega) (by omega) hD2) ?_)
   | refine af ?_
   | exact ai|(refine ae fun hb=>?_;first|(exact absurd hb ho)|skip)
   | (refine aE (qf []) ?_;exact ab))
 ·rw [decide_eq_false hlt] at hR
  have hR:((n:Int),at_+m,(0:Int))=(v,k,e):=hR
  obtain ⟨rfl,rfl,rfl⟩:=bI hR
  have hcv:IntKind.i64.wrap (n:Int)=(n:Int):=IntWalk.i64_in _ (by omega)
  repeat' (first
   | refine ah ?_ ?_
   | (refine aa 0 rfl ?_;first|refine sx (bt rfl underlying3 underlying96 rfl hw) ?_|refine sx (bt rfl underlying96 underlying3 rfl hcv) ?_)
   | refine aa 9 rfl (cB [] (kU) ?_)
   | (refine aa 14 rfl ?_;refine sx (bg (z:=(at_:Int)) rfl rfl rfl rfl (by omega) (by omega) hD2) ?_)
   | refine af ?_
   | exact ai|refine ae fun hb=>?_
   | (refine aE (qf []) ?_;exact ab))
theorem LB (all:List UInt8) (at_:Nat) (err:Int) (hl:all.length≤1000000000) (ha:at_≤all.length) {t:ByteArray} {e:Int} {k:Nat} (hR:uU all at_ err=(t,k,e)) (hk:k≤all.length):FSpec prog 95 [.one (.ptr 0 0)] [(0,If all at_ err)] [] (.c (.sc (.string t))) [(0,some (If all k e))]:=by
 refine aX func95 ?_
 unfold uU at hR
 by_cases he:err=0
 case neg =>
  rw [decide_eq_false he] at hR
  obtain ⟨rfl,rfl,rfl⟩:=bI hR
  repeat' (first
   | refine ah ?_ ?_
   | refine af ?_
   | exact ai|(refine ae fun hb=>?_;first|(exact absurd hb he)|skip)
   | (refine aE (qf []) ?_;exact ab))
 subst he
 rw [decide_eq_true rfl] at hR
 obtain ⟨D',hD'⟩:∃D',all.drop at_=D':=⟨_,rfl⟩
 have hD2:all.drop ((at_:Int)).toNat=D':=by rw [Int.toNat_natCast];exact hD'
 have hDl:D'.length=all.length-at_:=by rw [←hD'];simp
 rw [hD'] at hR
 obtain ⟨⟨n,m,x⟩,hu⟩:∃x,dA D'=x:=⟨_,rfl⟩
 have kU:=Lw D' (by omega) hu
 rw [hu] at hR
 by_cases hx:x=0
 case neg =>
  obtain ⟨rfl,rfl⟩:=C6 hu hx
  have hR:((.empty:ByteArray),at_+0,x)=(t,k,e):=hR
  obtain ⟨rfl,rfl,rfl⟩:=bI hR
  repeat' (first
   | refine ah ?_ ?_
   | refine aa 9 rfl (cB [] (kU) ?_)
   | (refine aa 14 rfl ?_;refine sx (bg (z:=(at_:Int)) rfl rfl rfl rfl (by omega) (by omega) hD2) ?_)
   | refine af ?_
   | exact ai|(refine ae fun hb=>?_;first|(exact absurd hb hx)|(exact absurd rfl hb)|skip)
   | (refine aE (qf []) ?_;exact ab))
 subst hx
 have hR:(n,at_+m,(0:Int))=(t,k,e):=hR
 obtain ⟨rfl,rfl,rfl⟩:=bI hR
 repeat' (first
  | refine ah ?_ ?_
  | refine aa 9 rfl (cB [] (kU) ?_)
  | (refine aa 14 rfl ?_;refine sx (bg (z:=(at_:Int)) rfl rfl rfl rfl (by omega) (by omega) hD2) ?_)
  | refine af ?_
  | exact ai|refine ae fun hb=>?_
  | (refine aE (qf []) ?_;exact ab))
theorem LC (all:List UInt8) (at_:Nat) (hl:all.length≤1000000000) (ha:at_≤all.length) {p:Pr} {e:Int} {m:Nat} (hR:bO (all.drop at_)=(p,m,e)) (hk:at_+m≤all.length):FSpec prog 52 [.one (.ptr 0 0)] [(0,If all at_ 0)] [] (.v p.a) [(0,some (If all (at_+m) e))]:=by
 refine aX func52 ?_
 obtain ⟨D',hD'⟩:∃D',all.drop at_=D':=⟨_,rfl⟩
 have hD2:all.drop ((at_:Int)).toNat=D':=by rw [Int.toNat_natCast];exact hD'
 have hDl:D'.length=all.length-at_:=by rw [←hD'];simp
 rw [hD'] at hR
 have kP:=JU D' (by omega) hR
 by_cases hx:e=0
 case neg =>
  obtain ⟨rfl,rfl⟩:=C7 hR hx
  repeat' (first
   | refine ah ?_ ?_
   | refine aa 9 rfl (cB [] (kP) ?_)
   | (refine aa 14 rfl ?_;refine sx (bg (z:=(at_:Int)) rfl rfl rfl rfl (by omega) (by omega) hD2) ?_)
   | refine af ?_
   | exact ai|(refine ae fun hb=>?_;first|(exact absurd hb hx)|(exact absurd rfl hb)|skip)
   | (refine aE (qf []) ?_;exact ab))
 subst hx
 repeat' (first
  | refine ah ?_ ?_
  | refine aa 9 rfl (cB [] (kP) ?_)
  | (refine aa 14 rfl ?_;refine sx (bg (z:=(at_:Int)) rfl rfl rfl rfl (by omega) (by omega) hD2) ?_)
  | refine af ?_
  | exact ai|refine ae fun hb=>?_
  | (refine aE (qf []) ?_;exact ab))
theorem J4 (all:List UInt8) (at_:Nat) (err:Int) (hl:all.length≤1000000000) (ha:at_≤all.length) {t:ByteArray} {u1 u2 f1 f2 f3:Int} {q1 q2 q3:Nat} (h1:uU all at_ err=(t,q1,f1)) (h2:ir all q1 f1 1073741824 16=(u1,q2,f2)) (h3:ir all q2 f2 1073741824 16=(u2,q3,f3)) (hk1:q1≤all.length) (hk2:q2≤all.length):FSpec prog 54 [.one (.ptr 0 0)] [(0,If all at_ err)] [] (.v (Tm.a ⟨t,⟨u1,u2⟩⟩)) [(0,some (If all q3 f3))]:=by
 refine aX func54 ?_
 have kT:=LB all at_ err hl ha h1 hk1
 have kM:=oR all q1 f1 1073741824 16 hl hk1 (by omega) (by omega) (by omega) h2
 have kU:=oR all q2 f2 1073741824 16 hl hk2 (by omega) (by omega) (by omega) h3
 clear h1 h2 h3
 repeat' (first
  | refine ah ?_ ?_
  | (refine aa 9 rfl ?_;first
   | (refine cH (qf [(0,0)]) (kT) ?_)
   | (refine cH (qf [(0,0)]) (kM) ?_)
   | (refine cH (qf [(0,0)]) (kU) ?_))
  | refine af ?_
  | exact ai|refine ae fun hb=>?_
  | (refine aE (qf []) ?_;exact ab))
theorem LD (all:List UInt8) (hl:all.length≤1000000000) (hp8:(bO all).2.1≤all.length) {o:Opn} {k:Nat} {e:Int} (hR:jg all=(o,k,e)):FSpec prog 19 [yB all] [] [] (IJ o k e) []:=by
 refine aX func19 ?_
 unfold jg at hR
 obtain ⟨⟨p,k0,e0⟩,hp⟩:∃x,bO all=x:=⟨_,rfl⟩
 rw [hp] at hR hp8
 dsimp only at hR hp8
 have kP:=LC all 0 hl (Nat.zero_le _) hp (by omega)
 rw [Nat.zero_add] at kP
 obtain ⟨⟨v1,k1,e1⟩,h1⟩:∃x,ir all k0 e0 1073741824 16=x:=⟨_,rfl⟩
 have kA:=oR all k0 e0 1073741824 16 hl hp8 (by omega) (by omega) (by omega) h1
 obtain ⟨a1,_,a2⟩:=iP h1 hp8 (by omega)
 rw [h1] at hR
 dsimp only at hR
 obtain ⟨⟨v2,k2,e2⟩,h2⟩:∃x,ir all k1 e1 1073741824 16=x:=⟨_,rfl⟩
 have kB:=oR all k1 e1 1073741824 16 hl a1 (by omega) (by omega) (by omega) h2
 obtain ⟨b1,_,b2⟩:=iP h2 a1 (by omega)
 rw [h2] at hR
 dsimp only at hR
 obtain ⟨⟨v3,k3,e3⟩,h3⟩:∃x,ir all k2 e2 8 4=x:=⟨_,rfl⟩
 have kC:=oR all k2 e2 8 4 hl b1 (by omega) (by omega) (by omega) h3
 obtain ⟨c1,_,c2⟩:=iP h3 b1 (by omega)
 rw [h3] at hR
 dsimp only at hR
 obtain ⟨n,rfl⟩:∃n:Nat,v3=n:=⟨v3.toNat,(Int.toNat_of_nonneg (c2 (by omega)).1).symm⟩
 have hn8:n≤8:=by have:=(c2 (by omega)).2;omega
 have ha2:=a2 (by omega)
 rw [Int.toNat_natCast] at hR
 obtain ⟨⟨G,K,E⟩,hG⟩:∃x,jN all n (k3,e3) []=x:=⟨_,rfl⟩
 rw [hG] at hR
 dsimp only at hR
 clear hp h1 h2 h3 a2 b2 c2
 repeat' (first
  | refine ah ?_ ?_
  | (refine aa 9 rfl ?_;first
   | (refine cH (qf [(0,10)]) (kP) ?_)
   | (refine cH (qf [(0,10)]) (kA) ?_)
   | (refine cH (qf [(0,10)]) (kB) ?_)
   | (refine cH (qf [(0,10)]) (kC) ?_))
  | refine af ?_
  | exact ai|refine ae fun hb=>?_)
 refine fC 6 5 1000 31 cr rfl rfl rfl rfl ?_
 refine ak (fun y:Nat×(Nat×Int)×List Tm=>y.2.1.1≤all.length∧y.2.2.length+y.1≤8∧jN all y.1 y.2.1 y.2.2=(G,K,E)) (fun y=>bH [2,6,10,1000] [(2,.c (.ptr 2 0)),(5,.c (.ptr 10 0)),(6,.c (.ptr 6 0)),(7,.i y.1)] [(2,.box 41 [.sc (.int .i64 0),.sc (.int .i64 0),.sc (.int .i64 0),.sc (.int .i64 0),.sc (.int .i64 0),.sc (.slice none 0 0)]),(6,.box 41 [.sc (.int .i64 p.site),.sc (.int .i64 p.inc),.sc (.int .i64 p.num),.sc (.int .i64 (v1-1)),.sc (.int .i64 v2),.own 1000]),(10,If all y.2.1.1 y.2.1.2),(1000,.arr 31 cr y.2.2)]) (fun y=>y.1) (n,(k3,e3),[]) ⟨c1,by dsimp only;simp;omega,hG⟩ (by exact ao (qf [])) ?_
 clear kP kA kB kC hG
 rintro ⟨m,⟨at_,err⟩,acc⟩ ⟨hat,hm8,hs⟩
 dsimp only at *
 by_cases hgo:m=0∨err≠0
 ·have hend:(acc,at_,err)=(G,K,E):=by
   rw [←hs]
   cases m with
   | zero=>rfl
   | succ m =>
    have:err≠0:=hgo.resolve_left (by omega)
    show _=bif decide (err=0) then _ else _
    rw [decide_eq_false this]
    rfl
  obtain ⟨rfl,rfl,rfl⟩:=bI hend
  have hgo2:0<(m:Int)→err=0→False:=fun h1 h2=>by rcases hgo with h|h;omega;exact h h2
  unfold oN at hR
  obtain ⟨b,hb0⟩:∃b,mS ⟨p,v1-1,v2,acc⟩=b:=⟨_,rfl⟩
  have kV:=qW _ hb0
  rw [hb0] at hR
  clear hs hend hgo
  by_cases he:err=0
  ·subst he
   rw [decide_eq_true rfl] at hR
   cases b with
   | true =>
    have hR:((⟨p,v1-1,v2,acc⟩:Opn),at_,(0:Int))=(o,k,e):=hR
    obtain ⟨rfl,rfl,rfl⟩:=bI hR
    repeat' (first
     | refine ah ?_ ?_
     | refine aa 9 rfl (cB [1000] (kV) ?_)
     | refine af ?_
     | exact ai|(refine ae fun hb=>?_;first|(exact (hgo2 (by omega) rfl).elim)|skip)
     | (refine eR (qf []) ?_;exact ab))
   | false =>
    have hR:(FN,0,(2:Int))=(o,k,e):=hR
    obtain ⟨rfl,rfl,rfl⟩:=bI hR
    repeat' (first
     | refine ah ?_ ?_
     | refine aa 9 rfl (cB [1000] (kV) ?_)
     | refine af ?_
     | exact ai|(refine ae fun hb=>?_;first|(exact (hgo2 (by omega) rfl).elim)|skip)
     | (refine eR (qf []) ?_;exact ab))
  ·rw [decide_eq_false he] at hR
   have hR:(FN,0,err)=(o,k,e):=hR
   obtain ⟨rfl,rfl,rfl⟩:=bI hR
   repeat' (first
    | refine ah ?_ ?_
    | refine aa 9 rfl (cB [1000] (kV) ?_)
    | refine af ?_
    | exact ai|(refine ae fun hb=>?_;first|(exact absurd hb he)|(exact absurd (by assumption) he)|skip)
    | (refine eR (qf []) ?_;exact ab))
 ·obtain ⟨hm0,he0⟩:m≠0∧err=0:=⟨fun h=>hgo (.inl h),Classical.byContradiction fun h=>hgo (.inr h)⟩
  subst he0
  obtain ⟨j,rfl⟩:∃j,m=j+1:=⟨m-1,by omega⟩
  have hs:jN all j (fG all (at_,0)).2 (acc++[(fG all (at_,0)).1])=(G,K,E):=hs
  unfold fG at hs
  have hk1:=FQ (err:=0) hat
  obtain ⟨⟨t,q1,f1⟩,h1⟩:∃x,uU all at_ 0=x:=⟨_,rfl⟩
  rw [h1] at hk1
  dsimp only at hs
  rw [h1] at hs
  dsimp only at hs hk1
  obtain ⟨⟨u1,q2,f2⟩,h2⟩:∃x,ir all q1 f1 1073741824 16=x:=⟨_,rfl⟩
  obtain ⟨hk2,_,_⟩:=iP h2 hk1 (by omega)
  rw [h2] at hs
  dsimp only at hs
  obtain ⟨⟨u2,q3,f3⟩,h3⟩:∃x,ir all q2 f2 1073741824 16=x:=⟨_,rfl⟩
  have kC:=J4 all at_ 0 hl hat h1 h2 h3 hk1 hk2
  obtain ⟨hk3,_,_⟩:=iP h3 hk2 (by omega)
  rw [h3] at hs
  dsimp only at hs
  clear h1 h2 h3 hgo
  repeat' (first
   | refine ah ?_ ?_
   | (refine aa 8 rfl ?_;refine aM (aj rfl rfl (ax rfl rfl) (aB [⟨t,⟨u1,u2⟩⟩] rfl rfl rfl rfl) rfl aC aC) rfl rfl rfl ?_)
   | refine aa 9 rfl (cH (qf [(0,10)]) (kC) ?_)
   | refine af ?_
   | exact ai|refine ae fun hb=>?_)
  refine ⟨(j,(q3,f3),acc++[⟨t,⟨u1,u2⟩⟩]),⟨hk3,by simp;omega,hs⟩,by dsimp only;omega,?_⟩
  exact ao (qf [(1000,39)])
theorem C8 (c:Cs) (m:Nat):(yS c m).length≤m:=by
 unfold yS
 rw [List.length_take]
 omega
theorem F6 (a b:List UInt8):(oL (a++b)).toList=(oL a++oL b).toList:=by
 rw [ByteArray.toList_eq,ByteArray.toList_eq]
 show (a++b).toArray.toList=_
 simp [oL]
theorem yT:∀l:List Tm,(∀a∈l,bJ a.name.toList=true∧(a.am=⟨0,0⟩∨aZ a.am=true))→(ip l).length≤42*l.length
 | [],_=>Nat.le_refl _
 | a :: l,h=>by
  have h1:=yT l fun x hx=>h x (by simp [hx])
  obtain ⟨h2,h3⟩:=h a (by simp)
  have h4:=jM h2
  have h5:=mg h3
  have e1:=dm (v:=a.name.size) (by omega)
  have e2:=dm (v:=a.am.mode.toNat) (by omega)
  have e3:=dm (v:=a.am.units.toNat) (by omega)
  have hs:a.name.data.toList.length=a.name.size:=Array.length_toList
  show (FM a++ip l).length≤_
  unfold FM
  simp only [List.length_append,List.length_cons,hs]
  omega
theorem F7 (o:Opn):(lp o).length≤2000:=by
 unfold lp
 cases hv:mS o with
 | false=>exact Nat.zero_le _
 | true =>
  obtain ⟨h1,h2,h3,h4,h5⟩:=mf hv
  have e1:=td o.proc h1
  have e2:=dm (v:=(o.label+1).toNat) (by omega)
  have e3:=dm (v:=o.cost.toNat) (by omega)
  have e4:=dm (v:=o.lower.length) (by omega)
  have e5:=yT o.lower (oK h5)
  show (ml o.proc++aK (o.label+1).toNat++aK o.cost.toNat++aK o.lower.length++ip o.lower).length≤_
  simp only [List.length_append]
  omega
theorem yU {P:Program} {o:Oper} {s:Mst} {t t':TypeId} {x y:Operand} {a b:ByteArray} (ho:o.op = .binOp .add t x y t') (hx:s.ev x = .c (.sc (.string a))) (hy:s.ev y = .c (.sc (.string b))) (h:a.size+b.size≤1099511627776):LOp P o s [] ⟨.c (.sc (.string (a++b))),[],[]⟩ :=
 fq (by rw [ho];rfl) hx hy fun ev w hx hy=>by
  simp [execOp,ho,hx,hy,eqGuard,binOp,Op.stringOp]
  omega
theorem mi (l:List UInt8):(oL l).size=l.length:=List.size_toArray
theorem C9 (o:Opn) (raw:List UInt8) (l:List Int):FSpec prog 4 [o.a,.one (.sl aQ raw),.one (.sl fm l)] [] [] (.b true) []:=by
 refine aX func4 ?_
 have kA:=FV
 obtain ⟨bl,hbl⟩:∃b,decide (l.length≤300)=b:=⟨_,rfl⟩
 have kL:=J3 l hbl
 by_cases hok:bl=true∧raw.length≤300∧o.lower.length≤20
 case neg =>
  have hok':bl=true→raw.length≤300→o.lower.length≤20→False:=fun a b c=>hok ⟨a,b,c⟩
  clear hok
  refine aR (fun c ρ a w hr=>cu (t:=1) hr rfl) (fun hl1=>?_)
  repeat' (first
   | refine ah ?_ ?_
   | (refine aa 9 rfl ?_;first
    | (refine cB [] (kL) ?_)
    | (refine cB [] (kA) ?_))
   | refine af ?_
   | exact ai|(refine ae fun hb=>?_;first|(exact absurd rfl hb)|(exact (hok' rfl (by omega) (by omega)).elim)|(exact (hok' (by assumption) (by omega) (by omega)).elim)|skip)
   | (refine aE (qf []) ?_;exact ab))
 obtain ⟨rfl,hr,hol⟩:=hok
 have hl:=of_decide_eq_true hbl
 have kC:=Fb 2 (Nat.le_refl _) l hl
 have hcl:=Fc l
 generalize yg l=C at kC hcl
 obtain ⟨PL,hPL⟩:∃PL,yS C 12=PL:=⟨_,rfl⟩
 have kP:=J2 2 C 12 (by decide) hcl hPL
 have hPl:PL.length≤12:=by rw [←hPL];exact C8 _ _
 clear hPL hcl
 repeat' (first
  | refine ah ?_ ?_
  | (refine aa 8 rfl ?_;refine aM (aj rfl rfl (ax rfl rfl) (aB [o] rfl rfl rfl rfl) rfl aC aC) rfl rfl rfl ?_)
  | (refine aa 9 rfl ?_;first
   | (refine cB [] (kL) ?_)
   | (refine cC [] (kC) ?_)
   | (refine cH (qf [(0,1040)]) (kP) ?_))
  | refine af ?_
  | exact ai|(refine ae fun hb=>?_;first|(exact absurd rfl hb)|(omega)|skip))
 refine pp 43 rfl ?_
 obtain ⟨LL,hLL⟩:∃LL,PL++[o]=LL:=⟨_,rfl⟩
 have hLl:LL.length≤13:=by rw [←hLL];simp;omega
 rw [hLL]
 clear hLL hPl kP kC kL hbl
 refine ak (fun i:Nat=>i≤LL.length) (fun i=>bH [3] [(1,.c (.sl aQ raw)),(3,.c (.ptr 3 0)),(7,.c (.sl tj LL)),(8,.i i)] [(3,.box 41 o.d)]) (fun i=>LL.length-i) 0 (Nat.zero_le _) (by exact ao (qf [])) ?_
 intro i hi
 by_cases hlt:i<LL.length
 case neg =>
  obtain ⟨O3,K3,E3,hT⟩:∃O3 K3 E3,jg raw=(O3,K3,E3):=⟨_,_,_,rfl⟩
  have kTa:=Bv raw (by omega) (ls _) hT
  have kTb:=LD raw (by omega) (ls _) hT
  have kS:=Al O3
  clear hT
  repeat' (first
   | refine ah ?_ ?_
   | (refine aa 9 rfl ?_;first
    | (refine cC [] (kTa) ?_)
    | (refine cC [] (kTb) ?_)
    | (refine cB [] (kA) ?_)
    | (refine cB [] (kS) ?_))
   | refine af ?_
   | exact ai|(refine ae fun hb=>?_;first|(exact absurd rfl hb)|skip)
   | (refine aE (qf []) ?_;exact ab))
 obtain ⟨x,hx⟩:∃x,LL[i]? = some x:=⟨_,List.getElem?_eq_getElem hlt⟩
 obtain ⟨B,hB⟩:∃B,lp x=B:=⟨_,rfl⟩
 have hBl:B.length≤2000:=by rw [←hB];exact F7 x
 have kR:=LA [] x (Nat.zero_le _) (R:=B) (by rw [List.nil_append];exact hB)
 have kQ:=Lu raw x (by omega) (R:=raw++B) (by rw [hB])
 obtain ⟨O2,K2,E2,hT⟩:∃O2 K2 E2,jg (B++raw)=(O2,K2,E2):=⟨_,_,_,rfl⟩
 have kT:=Bv (B++raw) (by simp;omega) (ls _) hT
 obtain ⟨bx,hbx⟩:∃b,mS x=b:=⟨_,rfl⟩
 have kV:=qW x hbx
 have kS:=Al x
 have hTx:bx=true→O2=x∧K2=B.length∧E2=0:=fun h=>by
  subst h
  have:=lv hbx raw
  rw [hB,hT] at this
  injection this with h1 h2
  injection h2 with h2 h3
  exact ⟨h1,h2,h3⟩
 have hstr:=F6 raw B
 cases bx with
 | true =>
  obtain ⟨rfl,rfl,rfl⟩:=hTx rfl
  clear hTx hT
  repeat' (first
   | refine ah ?_ ?_
   | (refine aa 0 rfl ?_;refine sx (q7 rfl underlying56 underlying5 underlying9 rfl rfl) ?_)
   | (refine aa 9 rfl ?_;first
    | (refine cC [] (kR) ?_)
    | (refine cC [] (kQ) ?_)
    | (refine cC [72] (kT) ?_)
    | (refine cB [] (kV) ?_)
    | (refine cB [] (kS) ?_))
   | (refine aa 10 rfl ?_;refine sx (yU rfl rfl rfl (by rw [mi,mi];omega)) ?_)
   | refine af ?_
   | exact ai|(refine ae fun hb=>?_;first|(exact absurd rfl hb)|(exact absurd hstr hb)|skip))
  refine ak (fun k:Nat=>k≤B.length) (fun k=>bH [3] [(1,.c (.sl aQ raw)),(3,.c (.ptr 3 0)),(7,.c (.sl tj LL)),(8,.i i),(9,.c (.sl aQ B)),(13,.i k)] [(3,.box 41 o.d)]) (fun k=>B.length-k) 0 (Nat.zero_le _) (by exact ao (qf [])) ?_
  clear kR kQ kT kV kS hstr
  intro k hk
  by_cases hlk:k<B.length
  case neg =>
   repeat' (first
    | refine ah ?_ ?_
    | refine af ?_
    | exact ai|refine ae fun hb=>?_)
   refine ⟨i+1,hlt,by omega,?_⟩
   exact ao (qf [])
  have hcut:jg (B.take k)=(FN,0,5):=by rw [←hB];exact FS k (by rw [hB];exact hlk)
  obtain ⟨Bk,hBk⟩:∃Bk,B.take k=Bk:=⟨_,rfl⟩
  have hBk2:B.take ((k:Int)).toNat=Bk:=by rw [Int.toNat_natCast];exact hBk
  have hBkl:Bk.length≤2000:=by rw [←hBk,List.length_take];omega
  rw [hBk] at hcut
  have kT:=Bv Bk (by omega) (ls _) hcut
  clear hBk hcut hB
  repeat' (first
   | refine ah ?_ ?_
   | refine aa 9 rfl (cC [] (kT) ?_)
   | (refine aa 14 rfl ?_;refine sx (nZ rfl rfl rfl rfl (by omega) (by omega) hBk2) ?_)
   | refine af ?_
   | exact ai|(refine ae fun hb=>?_;first|(exact absurd rfl hb)|skip))
  refine ⟨k+1,hlk,by omega,?_⟩
  exact ao (qf [])
 | false =>
  obtain rfl:B=[]:=by rw [←hB];unfold lp;rw [hbx];rfl
  clear hTx hT
  repeat' (first
   | refine ah ?_ ?_
   | (refine aa 0 rfl ?_;refine sx (q7 rfl underlying56 underlying5 underlying9 rfl rfl) ?_)
   | (refine aa 9 rfl ?_;first
    | (refine cC [] (kR) ?_)
    | (refine cC [] (kQ) ?_)
    | (refine cC [72] (kT) ?_)
    | (refine cB [] (kV) ?_))
   | (refine aa 10 rfl ?_;refine sx (yU rfl rfl rfl (by rw [mi,mi];simp <;> omega)) ?_)
   | refine af ?_
   | exact ai|(refine ae fun hb=>?_;first|(exact absurd rfl hb)|(exact absurd hstr hb)|skip))
  refine ak (fun k:Nat=>k=0) (fun k=>bH [3] [(1,.c (.sl aQ raw)),(3,.c (.ptr 3 0)),(7,.c (.sl tj LL)),(8,.i i),(9,.c (.sl aQ [])),(13,.i k)] [(3,.box 41 o.d)]) (fun k=>0-k) 0 rfl (by exact ao (qf [])) ?_
  rintro k rfl
  repeat' (first
   | refine ah ?_ ?_
   | refine af ?_
   | exact ai|(refine ae fun hb=>?_;first|((simp at hb;done))|skip))
  refine ⟨i+1,hlt,by omega,?_⟩
  exact ao (qf [])
end Go.Proofs.YtdaajdflefnjfaaGreat
