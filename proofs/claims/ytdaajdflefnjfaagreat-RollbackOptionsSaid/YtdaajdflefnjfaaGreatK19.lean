/- Part 19 of 24 of the proof of rollbackOptions_holds (no condition). -/
import Derived.Test.YtdaajdflefnjfaaGreatK18
set_option linter.unusedVariables false
set_option linter.unusedSimpArgs false
set_option maxRecDepth 100000
set_option maxHeartbeats 64000000
namespace Go.Proofs.YtdaajdflefnjfaaGreat
open Go.RowKit Go.Proofs.Tryz
section
variable {P:Program} {o:Oper} {s:Mst} {α:Type} {E:El α}
theorem E7 {t e:TypeId} {by_ k kr:Nat} {x y:Operand} {l m l':List α} {R:List Nat} [T:ST P E t e by_] (ho:o.op = .call { callee:=.builtin .append,args:=#[x,y],argTypes:=#[t,t] }) (hdk:o.dst=some k) (hx:s.ev x = .c (.ocut kr)) (hkr:s.h kr=some (.arr e E l)) (hy:Iy s E y m R) (hl':l++m=l') (hm:0<m.length)
  (hlen:l.length+m.length≤maxLen) (hby:(l.length+m.length)*by_≤140737488355328):LOp P o s (kr :: R) ⟨.c (.ocut k),[(k,some (.arr e E l')),(kr,none)],[k]⟩:=by
 intro c st ρ a w hr h1 h2 h3 h4
 subst hl'
 have hfk:st.f k=true:=h3 k (by simp [aG])
 have hk2:=(h2 kr (by simp [aG])).trans hkr
 have hne:k.beq kr=false:=by
  cases h9:k.beq kr with
  | false=>rfl
  | true=>rw [←Nat.eq_of_beq_eq_true h9,hr.wf.h k hfk] at hk2;cases hk2
 have hv1:=hr.ev x
 rw [h1 x (by simp [ho,Op.operands,Call.operands]),hx] at hv1
 obtain ⟨A1,n1,cap1,c1,hρ1,⟨b1,b2⟩,hv1⟩:=(show (D.ocut kr).rep w (Fz c st.h ρ w) ρ (a.eval x) from hv1)
 obtain ⟨xs,hown,hreps⟩:=hr.hp kr _ hk2
 obtain ⟨A,cap,ys,hyv,hyr,hyc⟩:=hy c st ρ a w hr (h1 y (by simp [ho,Op.operands,Call.operands])) fun j hj=>h2 j (by simp only [aG,hj,Bool.or_true])
 obtain ⟨b,off,hA,hcells⟩:=hyc hm
 subst hA
 have hyl:=hyr.length
 have hpos:=E.pos
 obtain ⟨ti,z,hi1,hi2,hi3,hi4,hi5⟩:=T.T.info
 have hexec:∀v' w',(Builtin.append_ #[t,t] o.type #[.slice A1 n1 c1,.slice (some ⟨b,off,none⟩) m.length cap]).run P w = .ok v' w'→(execOp a.eval o).run P w = .ok (.value v') w':=fun v' w' hrun=>by
  unfold execOp
  simp only [ho,resolve,invoke,builtin,Sem.run_bind,Sem.run_pure,Result.andThen_ok,List.map_toArray,List.map_cons,List.map_nil,hv1,hyv,hrun]
 have hya:∀j u,ys[j]? = some u→w.cell? ((⟨b,off,none⟩:Addr).add j)=some u:=fun j u hu=>by
  rw [dQ]
  exact hcells j u hu
 rw [hρ1] at hown
 have hxl:=hown.1
 have hn1:n1=l.length∧(A1=none→c1=cap1):=by
  rcases hown.2 with ⟨hv,hz⟩|⟨g,cap',cur,hv,_⟩
  ·injection hv with e1 e2 e3
   exact ⟨by omega,fun _=>by omega⟩
  ·injection hv with e1 e2 e3
   exact ⟨e2,fun h=>by rw [h] at e1;cases e1⟩
 obtain ⟨rfl,hn1⟩:=hn1
 have hyo:∀u∈ys,u.oneCell'=true:=hyr.one
 have key:∃v' vg w',(execOp a.eval o).run P w = .ok (.value v') w'∧w'.ownsRow 0 e E.n vg (l.length+m.length) (xs++ys)∧w.grownBy w' (Value.slice A1 l.length cap1).ownBlock∧(∀g,vg.ownBlock=some g→(Value.slice A1 l.length cap1).ownBlock=some g∨w.heap.size≤g)∧∃A n cap c,vg = .slice A n cap∧(n≤c∧c≤cap)∧v' = .slice A n c:=by
  obtain ⟨v',w',hrun,ho1,hgr,_,hob⟩:=run_append_own_at (P:=P) w 0 t o.type e ti z E.n by_ T.T.under hi1 hi2 hi3 hi5 hi4 hpos (.slice A1 l.length cap1) l.length xs hown ⟨b,off,none⟩ m.length cap ys hyl hya hyo hlen hby (Nat.zero_le _)
  have hform:∃A n cap,v' = .slice A n cap∧n≤cap:=by
   rcases ho1.2 with ⟨hv,_⟩|⟨g',cap',cur',hv,_,_,hnc,_⟩
   ·exact ⟨none,0,0,hv,Nat.le_refl _⟩
   ·exact ⟨_,_,_,hv,hnc⟩
  have hobg:∀g,v'.ownBlock=some g→(Value.slice A1 l.length cap1).ownBlock=some g∨w.heap.size≤g:=fun g hg=>by
   rcases hob with h|h
   ·exact .inl (h▸hg)
   ·rw [h] at hg;injection hg with hg;exact .inr (by omega)
  by_cases hcc:c1=cap1
  ·subst hcc
   obtain ⟨A,n,cp,hv',hnc⟩:=hform
   exact ⟨v',v',w',hexec _ _ hrun,ho1,hgr,hobg,A,n,cp,cp,hv',⟨hnc,Nat.le_refl _⟩,hv'⟩
  ·cases A1 with
   | none=>exact absurd (hn1 rfl) hcc
   | some g0 =>
    obtain ⟨g,cur,rfl,hh,hcm,hcs,ht⟩:∃g cur,g0=⟨g,0,none⟩∧w.heap[g]? = some (.cells cur e (0,0))∧cap1≤maxLen∧cur.size=cap1*E.n∧cur.toList.take (l.length*E.n)=xs:=by
     rcases hown.2 with ⟨hv,_⟩|⟨g',cap',cur,hv,_,hh,_,q1,q2,q3⟩
     ·cases hv
     ·injection hv with e1 e2 e3
      injection e1 with e1
      subst e3
      exact ⟨g',cur,e1,hh,q1,q2,q3⟩
    have hcell:∀j u,xs[j]? = some u→w.cell? ((⟨g,0,none⟩:Addr).add j)=some u:=fun j u hu=>by
     rw [dQ,Nat.zero_add,cell_of_row w g j cur e (0,0) hh,←Array.getElem?_toList]
     rw [←ht,List.getElem?_take] at hu
     split at hu
     ·exact hu
     ·cases hu
    by_cases hroom:l.length+m.length≤c1
    ·have hsz:(l.length+m.length)*E.n≤cap1*E.n:=Nat.mul_le_mul_right _ (by omega)
     have hin:∀j,j<ys.length→l.length*ti.size+j<cur.size:=fun j hj=>by rw [hcs,hi3];rw [hyl] at hj;rw [Nat.add_mul] at hsz;omega
     have hc:∀j,j<ys.length→(w.cell? ⟨g,0+l.length*ti.size+j,none⟩).isSome=true:=fun j hj=>by
      rw [cell_of_row w g _ cur e (0,0) hh]
      simp [Nat.zero_add,hin j hj]
     have hf:∀j,j<ys.length→w.frozen? ⟨g,0+l.length*ti.size+j,none⟩=false:=fun j _=>frozen_of_row w g _ cur e hh
     have r1:=run_append_room_cells (P:=P) w t o.type e ti T.T.under hi1 g 0 l.length cap1 ⟨b,off,none⟩ m.length cap ys (by rw [hi3];exact hyl) hya hyo (by omega) hc hf
     have r2:=run_append_room_cells (P:=P) w t o.type e ti T.T.under hi1 g 0 l.length c1 ⟨b,off,none⟩ m.length cap ys (by rw [hi3];exact hyl) hya hyo hroom hc hf
     rw [hrun] at r1
     injection r1 with r1 r1'
     subst r1
     subst r1'
     exact ⟨_,_,_,hexec _ _ r2,ho1,hgr,hobg,_,_,_,_,rfl,⟨hroom,b2⟩,rfl⟩
    ·obtain ⟨v2,w2,hrun2,ho2,hgr2⟩:=run_append_arg_grows (P:=P) w t o.type e ti z E.n by_ T.T.under hi1 hi2 hi3 hi5 hi4 hpos ⟨g,0,none⟩ l.length c1 xs hxl hcell ⟨b,off,none⟩ m.length cap ys hyl hya (by omega) hlen hby
     obtain ⟨g',cap',rfl,hb1,hb3⟩:∃g' cap',v2 = .slice (some ⟨g',0,none⟩) (l.length+m.length) cap'∧w.heap.size≤g'∧l.length+m.length≤cap':=by
      rcases ho2.2 with ⟨_,hz⟩|⟨g',cap',cur',hv,hb,_,hnc',_⟩
      ·omega
      ·exact ⟨g',cap',hv,hb,hnc'⟩
     refine ⟨_,_,w2,hexec _ _ hrun2,⟨ho2.1,ho2.2.imp id fun ⟨a1,a2,a3,a4,_,a6⟩=>⟨a1,a2,a3,a4,Nat.zero_le _,a6⟩⟩,⟨hgr2.os,hgr2.tape,hgr2.output,hgr2.size,fun b hb _=>hgr2.block b hb (by simp)⟩,fun g2 hg2=>.inr ?_,_,_,cap',cap',rfl,⟨hb3,Nat.le_refl _⟩,rfl⟩
     injection hg2 with hg2
     simp at hg2
     omega
 obtain ⟨v',vg,w',hrun,ho1,hgr,hob,A',n',cap',c',hvg,hcc,hv'⟩:=key
 have hob1:∀{g:Nat} {u:Value},(∃A n cap,u = .slice A n cap)→(kb u=some g↔u.ownBlock=some g):=fun {g u} ⟨A,n,cap,h⟩=>by
  subst h
  cases A <;> exact Iff.rfl
 have hkb:∀g,(Value.slice A1 l.length cap1).ownBlock=some g↔kb (ρ kr)=some g:=fun g=>by rw [hρ1];exact (hob1 ⟨_,_,_,rfl⟩).symm
 have hg':∀g,kb vg=some g→g<w'.heap.size∧(w.heap.size≤g∨kb (ρ kr)=some g):=fun g hg=>by
  have h:=(hob1 ⟨_,_,_,hvg⟩).1 hg
  exact ⟨(ho1.lt g h).2,(hob g h).symm.imp id (hkb g).1⟩
 have hky:∀n,aB [(k,some (Box.arr e E (l++m))),(kr,none)] n=true↔n=k∨n=kr:=fun n=>by
  simp only [aB,Bool.or_false,Bool.or_eq_true]
  constructor
  ·rintro (h|h)
   ·exact .inl (Nat.eq_of_beq_eq_true h).symm
   ·exact .inr (Nat.eq_of_beq_eq_true h).symm
  ·rintro (rfl|rfl)
   ·exact .inl (Nat.beq_refl _)
   ·exact .inr (Nat.beq_refl _)
 have hputk:hput [(k,some (Box.arr e E (l++m))),(kr,none)] st.h k=some (.arr e E (l++m)):=by simp [hput]
 have hputr:hput [(k,some (Box.arr e E (l++m))),(kr,none)] st.h kr=none:=by simp [hput,hne]
 have hsm:∀n bx,aB [(k,some (Box.arr e E (l++m))),(kr,none)] n=true→hput [(k,some (Box.arr e E (l++m))),(kr,none)] st.h n=some bx→n=k∧bx = .arr e E (l++m):=fun n bx hn hb=>by
  rcases (hky n).1 hn with rfl|rfl
  ·rw [hputk] at hb;exact ⟨rfl,(Option.some.inj hb).symm⟩
  ·rw [hputr] at hb;cases hb
 have hblk:∀b,b<w.heap.size→kb (ρ kr)≠some b→w'.heap[b]? = w.heap[b]?:=fun b hlt hn=>hgr.block b hlt fun he=>hn ((hkb b).1 he.symm)
 have hFz:∀b,Fz c st.h ρ w b→Fz c (hput [(k,some (Box.arr e E (l++m))),(kr,none)] st.h) (upd ρ k vg) w' b∧w'.heap[b]? = w.heap[b]?:=fun b hb=>by
  have hnb:=hb.2.2 kr _ hk2
  refine ⟨⟨hb.1,Nat.lt_of_lt_of_le hb.2.1 hgr.size,fun n bx hn he=>?_⟩,hblk b hb.2.1 hnb⟩
  cases h9:aB [(k,some (Box.arr e E (l++m))),(kr,none)] n with
  | true =>
   obtain ⟨rfl,_⟩:=hsm n bx h9 hn
   rw [aN] at he
   rcases (hg' b he).2 with h|h
   ·have:=hb.2.1;omega
   ·exact hnb h
  | false =>
   rw [bM h9] at hn
   have hkn:k.beq n=false:=by
    cases h8:k.beq n with
    | false=>rfl
    | true=>rw [←Nat.eq_of_beq_eq_true h8,hr.wf.h k hfk] at hn;cases hn
   rw [d8 hkn] at he
   exact hb.2.2 n bx hn he
 refine Oper.wp_value hrun ⟨upd ρ k vg,hr.app (e:=⟨.c (.ocut k),[(k,some (.arr e E (l++m))),(kr,none)],[k]⟩) h4 (fun n hn=>?_) (fun n hn=>d8 (by simpa [aG] using hn)) (fun n hn=>?_) ⟨hgr.os,hgr.tape,hgr.output,hgr.size,fun b hlt hn=>hblk b hlt fun e=>hn ⟨kr,_,(hky kr).2 (.inr rfl),hk2,e⟩⟩ (fun n bx g' hn hb hg=>?_) (fun n n' b b' g' hn hn' hb hb' _ _=>?_) (fun n hn=>.inl ?_) (fun n n' bx hn hb hx2=>?_) (fun n bx hn hb=>?_) ?_⟩
 ·have:n=k:=by simp [aG] at hn;exact hn.symm
  subst this
  exact ⟨hfk,(hky n).2 (.inl rfl)⟩
 ·rcases (hky n).1 hn with rfl|rfl
  ·exact .inl (by simp [aG])
  ·exact .inr (hr.nfh hk2)
 ·obtain ⟨rfl,_⟩:=hsm n bx hn hb
  rw [aN] at hg
  exact ⟨(hg' g' hg).1,(hg' g' hg).2.imp id fun h=>⟨kr,_,(hky kr).2 (.inr rfl),hk2,h⟩⟩
 ·rw [(hsm n b hn hb).1,(hsm n' b' hn' hb').1]
 ·have:n=k:=by simp [TV.has,V0.has,D.has] at hn;exact hn.symm
  subst this
  simp [aG]
 ·rw [(hsm n' bx hn hb).2] at hx2
  simp [Box.has] at hx2
 ·obtain ⟨rfl,rfl⟩:=hsm n bx hn hb
  rw [aN]
  exact ⟨xs++ys,by rw [List.length_append];exact ho1,(hreps.append hyr).same (fun b hb=>(hFz b hb).2) fun b hb=>(hFz b hb).1⟩
 ·exact ⟨A',n',cap',c',(aN ρ k vg).trans hvg,hcc,hv'⟩
end
theorem yo (l:List Pc) (d:Nat) (p:Pr):FSpec prog 122 [.one (.sl (sa d) l),.ag [.sc (.int .i64 p.site),.sc (.int .i64 p.inc),.sc (.int .i64 p.num)]] [] [] (.i (fm p 0 l)) []:=by
 refine jd func122 rfl (fun b W=>by kernel_rfl) rfl (Nat.le_of_ble_eq_true rfl) ?_
 refine bY (fun c ρ a w hr=>gc (t:=0) hr rfl) (fun hl=>?_)
 repeat' (first
  | refine af ?_ ?_
  | refine en ?_
  | exact ah|refine ae fun hb=>?_)
 refine ao (fun i=>i≤l.length∧fm p i (l.drop i)=fm p 0 l) (fun i=>cy [3] [(0,.c (.sl (sa d) l)),(3,.c (.ptr 3 0)),(5,.i i)] [(3,.box 23 [.sc (.int .i64 p.site),.sc (.int .i64 p.inc),.sc (.int .i64 p.num)])]) (fun i=>l.length-i) 0 ⟨Nat.zero_le _,rfl⟩
  (by refine DK (qf []) rfl ?_ ?_ <;> repeat' (first|exact trivial|exact jD rfl|exact ⟨_,rfl,gw rfl⟩|refine ⟨?_,?_⟩)) ?_
 rintro i ⟨hi,hs⟩
 repeat' (first
  | refine af ?_ ?_
  | refine en ?_
  | exact ah|refine ae fun hb=>?_)
 ·refine zy (.inr rfl) rfl rfl ?_
  rw [←hs,List.drop_eq_getElem_cons (by omega)]
  simp [fm,hb]
 ·refine ⟨i+1,⟨by omega,?_⟩,by omega,?_⟩
  ·rw [←hs,List.drop_eq_getElem_cons (i:=i) (by omega)]
   simp [fm,hb]
  ·refine DK (qf []) rfl ?_ ?_ <;> repeat' (first|exact trivial|exact jD rfl|exact ⟨_,rfl,gw rfl⟩|refine ⟨?_,?_⟩)
 ·refine zy (.inr rfl) rfl rfl ?_
  rw [←hs,List.drop_eq_nil_of_le (by omega)]
  rfl
def Lr (p:Pr) (P:List Pc):Prop:=∀i j (hi:i<P.length) (hj:j<P.length),i≤j→0<dw P[i].proc p→0<dw P[j].proc p
theorem E8 (x:Pc):∀(P:List Pc) (k:Nat),k≤P.length→(∀j (hj:j<P.length),j<k→¬0<dw P[j].proc x.proc)→(∀j (hj:j<P.length),k≤j→0<dw P[j].proc x.proc)→n9 x P=P.take k++x :: P.drop k
 | [],k,hk,_,_=>by
  obtain rfl:k=0:=by simpa using hk
  rfl
 | y :: P,0,_,_,h2=>by
  have:=h2 0 (by simp) (Nat.le_refl _)
  simp only [List.getElem_cons_zero] at this
  simp [n9,this]
 | y :: P,k+1,hk,h1,h2=>by
  have h3:=h1 0 (by simp) (by omega)
  simp only [List.getElem_cons_zero] at h3
  have ih:=E8 x P k (by simpa using hk) (fun j hj hjk=>by have:=h1 (j+1) (by simpa using hj) (by omega);simpa using this) (fun j hj hjk=>by have:=h2 (j+1) (by simpa using hj) (by omega);simpa using this)
  simp [n9,h3,ih]
theorem Hz {P:List Pc} {x:Pc} {k:Nat} (hk:k<P.length):((P.take (k+1)++x :: P.drop (k+1)).set (k+1) P[k]).set k x=P.take k++x :: P.drop k:=by
 have hl:(P.take k).length=k:=by simp;omega
 rw [List.take_succ_eq_append_getElem hk,List.drop_eq_getElem_cons hk,List.append_assoc,List.singleton_append]
 generalize P.take k=A at *
 generalize P.drop (k+1)=B at *
 generalize P[k]=z at *
 rw [List.set_append_right _ _ (by omega),show k+1-A.length=1 by omega,List.set_cons_succ,List.set_cons_zero,List.set_append_right _ _ (by omega),show k-A.length=0 by omega,List.set_cons_zero]
theorem wi (l:List Pc) (d:Nat) (p:Pr) {z:Int} (h:fm p 0 l=z):FSpec prog 122 [.one (.sl (sa d) l),p.a] [] [] (.i z) []:=h▸yo l d p
theorem Ls (d:Nat) (w:Wk) (p:Pr) (cost:Int) (h8:w.c.procs.length≤100000) (hup:Lr p w.c.procs) {Z:Wk×Int} (hZ:mB w p cost=Z):FSpec prog 127 [j6,p.a,mb cost] (HI d w) [3,4] (.i Z.2) (HO d Z.1):=by
 refine bJ func127 ?_
 unfold mB at hZ
 have kV:=iA p
 obtain ⟨bA,hA⟩:∃b,(fo p && decide (1≤cost) && decide (cost≤1000))=b:=⟨_,rfl⟩
 rw [hA] at hZ
 cases bA with
 | false =>
  obtain rfl:Z=(w,1):=by rw [←hZ];rfl
  obtain ⟨v,hv⟩:∃v,fo p=v:=⟨_,rfl⟩
  rw [hv] at kV hA
  cases v with
  | false =>
   repeat' (first
    | refine af ?_ ?_
    | refine aa 9 rfl (cB [] (kV) ?_)
    | refine en ?_
    | exact ah|refine ae fun hb=>?_
    | (refine aP (qf [(3,1),(4,2)]) ?_;exact ab))
  | true =>
   simp only [Bool.true_and,Bool.and_eq_false_iff,decide_eq_false_iff_not] at hA
   by_cases h1:1≤cost
   ·repeat' (first
     | refine af ?_ ?_
     | refine aa 9 rfl (cB [] (kV) ?_)
     | refine en ?_
     | exact ah|refine ae fun hb=>?_
     | (refine aP (qf [(3,1),(4,2)]) ?_;exact ab))
   ·repeat' (first
     | refine af ?_ ?_
     | refine aa 9 rfl (cB [] (kV) ?_)
     | refine en ?_
     | exact ah|refine ae fun hb=>?_
     | (refine aP (qf [(3,1),(4,2)]) ?_;exact ab))
 | true =>
  simp only [Bool.and_eq_true,decide_eq_true_eq] at hA
  obtain ⟨⟨hv,h1⟩,h2⟩:=hA
  rw [hv] at kV
  rw [Bool.not_true,cond_false] at hZ
  obtain ⟨ix,hix⟩:∃ix,fm p 0 w.c.procs=ix:=⟨_,rfl⟩
  have kI:=wi w.c.procs d p hix
  rw [hix] at hZ
  by_cases h0:0≤ix
  ·obtain rfl:Z=(w,11):=by rw [←hZ,decide_eq_true h0];rfl
   repeat' (first
    | refine af ?_ ?_
    | (refine aa 9 rfl ?_;first
     | (refine cB [] (kV) ?_)
     | (refine cB [1] (kI) ?_))
    | refine en ?_
    | exact ah|refine ae fun hb=>?_
    | (refine aP (qf [(3,1),(4,2)]) ?_;exact ab))
  ·rw [decide_eq_false h0,cond_false] at hZ
   by_cases hl:w.c.procs.length=8
   ·obtain rfl:Z=(w,4):=by rw [←hZ,decide_eq_true hl];rfl
    repeat' (first
     | refine af ?_ ?_
     | (refine aa 9 rfl ?_;first
      | (refine cB [] (kV) ?_)
      | (refine cB [1] (kI) ?_))
     | refine en ?_
     | exact ah|refine ae fun hb=>?_
     | (refine aP (qf [(3,1),(4,2)]) ?_;exact ab))
   ·rw [decide_eq_false hl,cond_false] at hZ
    obtain ⟨R0,hR0⟩:∃R0,w.c.procs++[{ F7 with proc:=p,cost:=cost }]=R0:=⟨_,rfl⟩
    obtain ⟨P,hP⟩:∃P,w.c.procs=P:=⟨_,rfl⟩
    have hR0l:R0.length=P.length+1:=by rw [←hR0,hP];simp
    have hPl:P.length≤100000:=hP▸h8
    repeat' (first
     | refine af ?_ ?_
     | (refine aa 9 rfl ?_;first
      | (refine cB [] (kV) ?_)
      | (refine cB [1] (kI) ?_))
     | refine en ?_
     | exact ah|refine ae fun hb=>?_
     | (refine bc (E7 rfl rfl rfl rfl (xO [{ F7 with proc:=p,cost:=cost }] rfl rfl (by (repeat' (first|exact trivial|exact .same _|exact .nil|refine ⟨?_,?_⟩));first|done|fail) rfl) hR0 (by simp) (by simp only [List.length_cons,List.length_nil,maxLen];omega) (by simp only [List.length_cons,List.length_nil];omega)) rfl rfl rfl ?_))
    obtain ⟨x,hx⟩:∃x,({ F7 with proc:=p,cost:=cost }:Pc)=x:=⟨_,rfl⟩
    have hxp:x.proc=p:=by rw [←hx]
    have hR0':R0=P.take P.length++x :: P.drop P.length:=by rw [←hR0,hP,hx];simp
    have hZ:((⟨{ w.c with procs:=n9 x w.c.procs },w.ev⟩,0):Wk×Int)=Z:=by rw [←hx];exact hZ
    clear hR0 hx hix kI kV
    rw [hP] at hup
    refine ao (fun y:Nat×List Pc=>y.1≤P.length∧y.2=P.take y.1++x :: P.drop y.1∧∀j (hj:j<P.length),y.1≤j→0<dw P[j].proc p) (fun y=>cy [0,1,2,4,1010] [(0,.v j6),(4,.c (.ptr 4 0)),(7,.c (.ocut 1010)),(8,.i y.1)] [(0,.box 169 (Db w 1 2)),(2,.arr 296 qq w.ev),(4,.box 23 [.sc (.int .i64 p.site),.sc (.int .i64 p.inc),.sc (.int .i64 p.num)]),(1010,.arr 38 (sa d) y.2)]) (fun y=>y.1) (P.length,R0) ⟨Nat.le_refl _,hR0',fun j hj h=>absurd hj (by dsimp only at h;omega)⟩ (by exact ap (qf [(1010,45)])) ?_
    clear hR0' hR0l R0
    rintro ⟨k,R⟩ ⟨hk,hR,hgt⟩
    dsimp only at *
    have hRl:R.length=P.length+1:=by rw [hR];simp;omega
    have hRk:R[k]? = some x:=by
     rw [hR,List.getElem?_append_right (by simp;omega)]
     simp
     rw [Nat.min_eq_left hk]
     simp
    have fin:(∀j (hj:j<P.length),j<k→¬0<dw P[j].proc p)→R=n9 x w.c.procs:=fun h=>by
     rw [hR,hP]
     exact (E8 x P k hk (by rw [hxp];exact h) (by rw [hxp];exact hgt)).symm
    cases k with
    | zero =>
     have hf:=fin (fun j _ h=>absurd h (by omega))
     rw [←hf] at hZ
     obtain rfl:Z=(⟨{ w.c with procs:=R },w.ev⟩,0):=hZ.symm
     repeat' (first
      | refine af ?_ ?_
      | refine en ?_
      | exact ah|refine ae fun hb=>?_
      | (refine aP (qf [(3,1010),(4,2)]) ?_;exact ab))
    | succ j =>
     have hj:j<P.length:=hk
     obtain ⟨z,hz⟩:∃z,P[j]=z:=⟨_,rfl⟩
     have ej:(((j+1:Nat):Int)-1).toNat=j:=by omega
     have hRj:R[(((j+1:Nat):Int)-1).toNat]? = some z:=by
      rw [ej,hR,List.getElem?_append_left (by simp;omega),List.getElem?_take,if_pos (by omega),List.getElem?_eq_getElem hj,hz]
     obtain ⟨e,he⟩:∃e,dw z.proc x.proc=e:=⟨_,rfl⟩
     have kC:=xQ z.proc x.proc
     rw [he] at kC
     by_cases h0:0<e
     ·have hR1:(R.set (j+1) z)[(((j+1:Nat):Int)-1).toNat]? = some z:=by
       rw [List.getElem?_set_ne (by omega)]
       exact hRj
      have hl1:(R.set (j+1) z).length=R.length:=List.length_set
      repeat' (first
       | refine af ?_ ?_
       | refine aa 9 rfl (cB [1010] (kC) ?_)
       | refine en ?_
       | (refine aa 4 rfl ?_;first
        | (refine bW (aL (z:=z) rfl rfl rfl rfl hRk rfl rfl rfl rfl (Nat.le_of_ble_eq_true rfl) rfl rfl) rfl rfl rfl ?_)
        | (refine bW (aL (z:=x) rfl rfl rfl rfl hR1 rfl rfl rfl rfl (Nat.le_of_ble_eq_true rfl) rfl rfl) rfl rfl rfl ?_))
       | exact ah|refine ae fun hb=>?_)
      refine ⟨(j,(R.set (j+1) z).set (((j+1:Nat):Int)-1).toNat x),⟨by dsimp only;omega,?_,fun i hi hij=>?_⟩,by dsimp only;omega,?_⟩
      ·dsimp only
       rw [ej,hR,←hz]
       exact Hz hj
      ·dsimp only at hij
       by_cases e2:i=j
       ·subst e2
        rw [hz,←hxp,he]
        exact h0
       ·exact hgt i hi (by omega)
      ·exact ap (qf [])
     ·have hf:=fin (fun i hi hij hpos=>h0 (by
       have:=hup i j hi hj (by omega) hpos
       rw [hz,←hxp,he] at this
       exact this))
      rw [←hf] at hZ
      obtain rfl:Z=(⟨{ w.c with procs:=R },w.ev⟩,0):=hZ.symm
      repeat' (first
       | refine af ?_ ?_
       | refine aa 9 rfl (cB [1010] (kC) ?_)
       | refine en ?_
       | exact ah|refine ae fun hb=>?_
       | (refine aP (qf [(3,1010),(4,2)]) ?_;exact ab))
theorem ox (w:Wk) (t:List Qu) (ev:List Ev):(w.take t ev).ev.length=w.ev.length+ev.length:=List.length_append
theorem E9 (w:Wk) (p:Pr) (n:ByteArray):(iy w p n).ev.length≤w.ev.length+17:=by
 unfold iy lW
 cases (ai (bd w.c.queues n) p).isSome with
 | false=>simp
 | true=>rw [cond_true,ox];have:=qD w.c.queues p n;omega
theorem sP (w:Wk) (p:Pr) (n:ByteArray) (l:Am):(cO w p n l).ev.length≤w.ev.length+18:=by
 unfold cO eY
 cases decide (aj (bd w.c.queues n).holds p=l) with
 | true=>simp
 | false=>rw [cond_false,ox];have:=fZ w.c.queues p ⟨n,l⟩;omega
theorem oy (w:Wk) (x:Pc) (n:ByteArray):(bL w x n).ev.length≤w.ev.length+35:=by
 unfold bL
 have h1:=E9 w x.proc n
 have h2:=sP (iy w x.proc n) x.proc n (ay x.led.entries n)
 omega
theorem ux (x:Pc):∀(l:List Tm) (w:Wk),(eG x l w).ev.length≤w.ev.length+35*l.length
 | [],w=>by simp [eG]
 | a :: l,w=>by
  have h1:=oy w x a.name
  have h2:=ux x l (bL w x a.name)
  show (eG x l (bL w x a.name)).ev.length≤_
  rw [List.length_cons]
  omega
theorem Bo (w:Wk) (i:Nat) (p:Pr) (n:ByteArray):(iX w i p n).ev=w.ev:=by
 unfold iX
 cases decide (aj (bd w.c.queues n).holds p=ay (w.pc i).led.entries n) <;> rfl
theorem Fa (w:Wk) (i:Nat) (p:Pr) (n:ByteArray):(iX w i p n).c.procs.length=w.c.procs.length:=by
 unfold iX
 cases decide (aj (bd w.c.queues n).holds p=ay (w.pc i).led.entries n)
 ·exact gI _ _ _
 ·rfl
theorem sQ (x:Pc) (i:Nat):∀(l:List Tm) (bs:List Bool) (w:Wk),(di x i l bs w).ev.length≤w.ev.length+35*l.length∧(di x i l bs w).c.procs.length=w.c.procs.length
 | [],bs,w=>by cases bs <;> exact ⟨by simp [di],rfl⟩
 | a :: l,[],w=>⟨by simp [di],rfl⟩
 | a :: l,b :: bs,w=>by
  have h2:=sQ x i l bs (bif b then iX w i x.proc a.name else bL w x a.name)
  have h3:(bif b then iX w i x.proc a.name else bL w x a.name).ev.length≤w.ev.length+35∧(bif b then iX w i x.proc a.name else bL w x a.name).c.procs.length=w.c.procs.length:=by
   cases b with
   | true=>exact ⟨by rw [cond_true,Bo];omega,Fa _ _ _ _⟩
   | false=>exact ⟨oy w x a.name,congrArg List.length (qE w x a.name)⟩
  show (di x i l bs (bif b then iX w i x.proc a.name else bL w x a.name)).ev.length≤_∧(di x i l bs (bif b then iX w i x.proc a.name else bL w x a.name)).c.procs.length=_
  rw [List.length_cons]
  omega
theorem oz (w:Wk) (k:Int) (p:Pr):(w.note k p).ev.length=w.ev.length+1:=by unfold Wk.note;simp
theorem Bp (w:Wk) (i:Nat):(km w i).ev.length≤w.ev.length+281:=by
 have h1:=(sQ (w.pc i) i (cY (w.pc i).req.expr) (cP (w.pc i).req.expr (br w.c.queues (w.pc i).proc (w.pc i).req.expr)) (w.note 2 (w.pc i).proc)).1
 rw [oz] at h1
 have h2:=dy (w.pc i).req.expr
 show (di (w.pc i) i (cY (w.pc i).req.expr) (cP (w.pc i).req.expr (br w.c.queues (w.pc i).proc (w.pc i).req.expr)) (w.note 2 (w.pc i).proc)).ev.length≤_
 omega
theorem sR:∀(n:Nat) (w:Wk),(aS n w).ev.length≤w.ev.length+281*n
 | 0,w=>by simp [aS]
 | n+1,w=>by
  unfold aS
  cases eP w.c.queues 0 w.c.procs with
  | none=>dsimp only;omega
  | some i =>
   have h1:=Bp w i
   have h2:=sR n (km w i)
   dsimp only
   omega
theorem jP (w:Wk) (i:Nat):(az w i).ev.length≤w.ev.length+280:=by
 have h1:=ux (w.pc i) (cY (w.pc i).req.expr) w
 have h2:=dy (w.pc i).req.expr
 show (eG (w.pc i) (cY (w.pc i).req.expr) w).ev.length≤_
 omega
theorem sS (p:Pr) (prio:Int):∀(l:List Tm) (w:Wk),(dj p prio l w).ev.length≤w.ev.length+18*l.length
 | [],w=>by simp [dj]
 | a :: l,w=>by
  have h1:=na w.c.queues p a prio
  have h2:=sS p prio l (w.take (bI w.c.queues p a prio).1 (bI w.c.queues p a prio).2.1)
  rw [ox] at h2
  show (dj p prio l (w.take (bI w.c.queues p a prio).1 (bI w.c.queues p a prio).2.1)).ev.length≤_
  rw [List.length_cons]
  omega
theorem sT (p:Pr):∀(l:List Tm) (w:Wk),(cf p l w).ev.length≤w.ev.length+18*l.length
 | [],w=>by simp [cf]
 | a :: l,w=>by
  have h1:=sP w p a.name a.am
  have h2:=sT p l (cO w p a.name a.am)
  show (cf p l (cO w p a.name a.am)).ev.length≤_
  rw [List.length_cons]
  omega
theorem DrT.ok {x:Pc}:∀{l:List Tm} {w:Wk},DrT x l w→w.ev.length+35*l.length≤900000→CK x l w
 | [],_,_,_=>trivial
 | a :: l,w,h,he=>by
  rw [List.length_cons] at he
  have h1:=oy w x a.name
  exact ⟨h.1,h.2.1,by omega,h.2.2.ok (by omega)⟩
theorem FinT.ok {x:Pc} {i:Nat}:∀{l:List Tm} {bs:List Bool} {w:Wk},FinT x i l bs w→w.ev.length+35*l.length≤900000→Bl x i l bs w
 | [],bs,_,_,_=>by cases bs <;> trivial
 | a :: l,[],_,_,_=>trivial
 | a :: l,b :: bs,w,h,he=>by
  rw [List.length_cons] at he
  have h3:(bif b then iX w i x.proc a.name else bL w x a.name).ev.length≤w.ev.length+35:=by
   cases b with
   | true=>rw [cond_true,Bo];omega
   | false=>exact oy w x a.name
  exact ⟨h.1,h.2.1,by omega,h.2.2.1,h.2.2.2.ok (by omega)⟩
theorem LwT.ok {p:Pr}:∀{l:List Tm} {w:Wk},LwT p l w→w.ev.length+18*l.length≤900000→E2 p l w
 | [],_,_,_=>trivial
 | a :: l,w,h,he=>by
  rw [List.length_cons] at he
  have h1:=sP w p a.name a.am
  exact ⟨h.1,by omega,h.2.ok (by omega)⟩
theorem Lt {p:Pr} {prio:Int}:∀{l:List Tm} {w:Wk},w.ev.length+18*l.length≤900000→Hx p prio l w
 | [],_,_=>trivial
 | a :: l,w,he=>by
  rw [List.length_cons] at he
  have h1:=na w.c.queues p a prio
  exact ⟨by omega,Lt (by rw [ox];omega)⟩
theorem Lu:∀(n:Nat) (w:Wk),CI w.c→cZ w.c.procs≤n→w.ev.length+281*n≤800000→StOk n w
 | 0,w,h,hn,_=>by
  refine ⟨by have:=h.len;omega,?_⟩
  cases hs:eP w.c.queues 0 w.c.procs with
  | none=>rfl
  | some i =>
   obtain ⟨j,hj,_,h2⟩:=jN hs
   unfold ec at h2
   rw [Bool.and_eq_true] at h2
   have:=mc hj h2.1
   omega
 | n+1,w,h,hn,he=>by
  refine ⟨by have:=h.len;omega,by omega,fun i hs=>?_⟩
  obtain ⟨j,hj,e,h2⟩:=jN hs
  have e':i=j:=by omega
  subst e'
  have hwt:(w.pc i).waiting=true:=by
   rw [bX hj]
   unfold ec at h2
   rw [Bool.and_eq_true] at h2
   exact h2.1
  obtain ⟨k1,k2,_,_,_,_,_,_,k9⟩:=EK h hj hwt
  have h8:=dy (w.pc i).req.expr
  have hfe:=Bp w i
  refine ⟨hj,?_,k9.ok (by rw [oz];omega),Lu n (km w i) k1 (by omega) (by omega)⟩
  show i<(di (w.pc i) i (cY (w.pc i).req.expr) (cP (w.pc i).req.expr (br w.c.queues (w.pc i).proc (w.pc i).req.expr)) (w.note 2 (w.pc i).proc)).c.procs.length
  rw [(sQ _ _ _ _ _).2]
  exact hj
theorem uy {w:Wk} (h:CI w.c) (he:w.ev.length≤700000):StOk w.c.procs.length w:=Lu _ _ h (oq _) (by have:=h.len;omega)
theorem CN {w:Wk} (h:CI w.c):(aS w.c.procs.length w).ev.length≤w.ev.length+2248:=by
 have:=sR w.c.procs.length w
 have:=h.len
 omega
theorem MU {c:Cs} (h:CI c):Lh c.procs:=fun x hx=>by
 have hi:=h.inv x hx
 have hn:=h.now
 cases hw:x.waiting with
 | false =>
  obtain ⟨h1,h2,_⟩:=hi.run hw
  rw [h1,h2]
  simp [Rq.zero]
 | true =>
  obtain ⟨h1,_⟩:=hi.wat hw
  have h2:=h1.rq
  have h3:=h1.sn
  unfold qo at h2
  simp only [Bool.and_eq_true,decide_eq_true_eq] at h2
  omega
theorem Lv {w:Wk} {i:Nat} {n:ByteArray} (h:CI w.c) (hi:i<w.c.procs.length) (he:w.ev.length≤600000):IS w i n:=by
 refine ⟨hi,by omega,fun hw h0=>uy (qz h hi hw h0).1 ?_⟩
 have:=fZ w.c.queues (w.pc i).proc ⟨n,⟨0,0⟩⟩
 show (w.take (cl w.c.queues (w.pc i).proc ⟨n,⟨0,0⟩⟩).1 (cl w.c.queues (w.pc i).proc ⟨n,⟨0,0⟩⟩).2.1).ev.length≤_
 rw [ox]
 omega
theorem CO {g:Lg} (h:Ld g) (n:Int):(bU g n).2.1.length≤1000:=by
 unfold bU
 rw [eS.2 h,Bool.not_true,cond_false]
 cases (!decide (n=0) && decide (aE n 0 g.saves<0)) with
 | true=>simp
 | false =>
  rw [cond_false]
  dsimp only
  rw [List.length_map]
  have:=pm (jH (fU (g.entries.drop (bi g n).entries.length))) (m:=bp g.entries) fun x hx=>by
   obtain ⟨e,he,hn⟩:=du.1 hx
   exact du.2 ⟨e,List.mem_of_mem_drop he,hn⟩
  have:=h.nms
  omega
theorem oA (p:Pr):∀t:List Qu,(∀q∈t,av q=true)→(aQ p t).2.length≤18*t.length
 | [],_=>by simp [aQ]
 | q :: l,h=>by
  have ih:=oA p l fun x hx=>h x (by simp [hx])
  have h1:=qt (h q (by simp)) p
  have e:aQ p (q :: l)=bif !eF q p then (q :: (aQ p l).1,(aQ p l).2) else
   ((bg q p).1 :: (aQ p l).1,(bif aF (aj q.holds p) then [] else [⟨3,p,q.res.name,⟨0,0⟩⟩])++aW (bg q p).1.res.name (bg q p).2.1++(aQ p l).2):=rfl
  rw [e,List.length_cons]
  cases (!eF q p) with
  | true=>rw [cond_true];dsimp only;omega
  | false =>
   rw [cond_false]
   cases aF (aj q.holds p) <;> simp [gH] <;> omega
theorem yp (t:List Qu) (p:Pr):(bO t p).2.length≤144:=by
 unfold bO
 cases hv:eO t with
 | false=>simp
 | true =>
  have:=oA p t fun q hq=>dK hv hq
  have:=(cr hv).1
  rw [Bool.not_true,cond_false]
  omega
theorem Lw {w:Wk} {i:Nat} {n:Int} (h:CI w.c) (hi:i<w.c.procs.length) (he:w.ev.length≤600000):IT w i n:=by
 refine ⟨hi,fun hu=>?_⟩
 obtain ⟨h1,h2,_⟩:=ou h hi hu
 have h8:=dy (w.pc i).req.expr
 have hA:(pD w i).ev.length≤w.ev.length+280:=by
  unfold pD
  cases (w.pc i).waiting with
  | false=>rw [cond_false];omega
  | true=>exact jP w i
 have hB:(ya w i n).ev.length≤w.ev.length+280:=hA
 have hinv:=h.inv _ (List.getElem_mem hi)
 rw [←bX hi] at hinv
 have hl:=CO hinv.stat.led n
 have hS:(pE w i n).ev.length≤w.ev.length+280+18*(bU (w.pc i).led n).2.1.length:=by
  have:=sT (w.pc i).proc (bU (w.pc i).led n).2.1 (ya w i n)
  show (cf (w.pc i).proc (bU (w.pc i).led n).2.1 (ya w i n)).ev.length≤_
  omega
 exact ⟨fun hw=>(mX h hi hw).ok (by omega),h1.ok (by omega),uy h2 (by omega)⟩
theorem MA {w:Wk} {i:Nat} {r:Rq} (h:CI w.c) (hi:i<w.c.procs.length) (he:w.ev.length≤600000):Ln w i r:=by
 have h8:=dy r.expr
 refine ⟨hi,h.tv,by have:=(cr h.tv).1;omega,fun hw hq hr=>⟨Lt ?_,uy (qw h hi hw hq hr).1 ?_⟩⟩
 ·show w.ev.length+_≤_
  omega
 ·have:=sS (w.pc i).proc r.prio (cY r.expr) (JW w i r)
  have e:(JW w i r).ev=w.ev:=rfl
  rw [e] at this
  show (dj (w.pc i).proc r.prio (cY r.expr) (JW w i r)).ev.length≤_
  omega
theorem MB {w:Wk} {i:Nat} (h:CI w.c) (hi:i<w.c.procs.length) (he:w.ev.length≤600000):Lp w i:=by
 have hr:(bO w.c.queues (w.pc i).proc).2.length≤1000:=by have:=yp w.c.queues (w.pc i).proc;omega
 refine ⟨hi,by have:=h.len;omega,by omega,hr,uy (yd h hi) ?_⟩
 unfold IN
 rw [oz]
 simp only [List.length_append]
 omega
theorem Lx:∀(n:Nat) (w:Wk),CI w.c→(∀x∈w.c.procs,ec w.c.queues x=false)→cZ w.c.procs≤n→w.ev.length+3000*n≤600000→TkOk n w
 | 0,w,h,hs,hn,he=>by
  refine ⟨by have:=h.len;omega,MU h,?_⟩
  by_cases h0:eZ w<0
  ·exact h0
  ·exfalso
   obtain ⟨hi,hl,_⟩:=(pI w).2 (by omega)
   have:=mc hi hl
   omega
 | n+1,w,h,hs,hn,he=>by
  refine ⟨by have:=h.len;omega,MU h,fun h0=>?_⟩
  obtain ⟨hi,hl1,hl2,hl3⟩:=(pI w).2 h0
  have hts:IU w=bb (az (w.note 4 (w.pc (eZ w).toNat).proc) (eZ w).toNat) (eZ w).toNat:=rfl
  rw [hts]
  clear hts
  generalize (eZ w).toNat=i at *
  have hc0:CI (w.note 4 (w.pc i).proc).c:=h
  have hp0:(w.note 4 (w.pc i).proc).pc i=w.pc i:=rfl
  have hw0:((w.note 4 (w.pc i).proc).pc i).waiting=true:=by rw [hp0,bX hi];exact hl1
  obtain ⟨k1,k2,k3,k4,_⟩:=gG hc0 hi hw0
  have hdt:=mX hc0 hi hw0
  have hev:=jP (w.note 4 (w.pc i).proc) i
  rw [oz] at hev
  have hi2:i<(az (w.note 4 (w.pc i).proc) i).c.procs.length:=by rw [k3.len];exact hi
  have hrun:((az (w.note 4 (w.pc i).proc) i).pc i).waiting=false:=by rw [bX hi2];simp [k4]
  obtain ⟨n1,n2,n3⟩:=mf k1 hi2 hrun
  obtain ⟨q1,q2,q3,q4,q5,q6,_⟩:=md n1
  have k2':cZ (az (w.note 4 (w.pc i).proc) i).c.procs+1=cZ w.c.procs:=k2
  have he2:(bb (az (w.note 4 (w.pc i).proc) i) i).ev.length≤w.ev.length+281:=by
   show (az (w.note 4 (w.pc i).proc) i).ev.length≤_
   omega
  have he3:=CN n1
  have h8:=dy (w.pc i).req.expr
  refine ⟨by omega,hi,?_,uy n1 (by omega),Lx n _ q1 q2 ?_ ?_⟩
  ·rw [←hp0]
   exact hdt.ok (by rw [oz,hp0];omega)
  ·show cZ (bP (bb (az (w.note 4 (w.pc i).proc) i) i)).c.procs≤n
   omega
  ·show (aS _ (bb (az (w.note 4 (w.pc i).proc) i) i)).ev.length+_≤_
   omega
theorem MC {c:Cs} (h:CI c) (p:Pr):Lr p c.procs:=fun i j hi hj hij hk=>by
 by_cases e:i=j
 ·subst e;exact hk
 ·have ha:=List.pairwise_iff_getElem.1 h.asc i j (by simpa using hi) (by simpa using hj) (by omega)
  simp only [List.getElem_map] at ha
  rcases dV c.procs[i].proc p with ⟨_,k1⟩|⟨_,k1⟩|⟨k0,_⟩
  ·omega
  ·omega
  ·rcases dV c.procs[j].proc p with ⟨k2,_⟩|⟨k2,_⟩|⟨_,k3⟩
   ·exact absurd (da (da k0 ha) k2) (bH _)
   ·exact absurd (k2▸da k0 ha) (bH _)
   ·omega
def Cm.d (d:Nat) (k:Cm):List D:=[.sc (.int .i64 k.kind),.sc (.int .i64 k.proc.site),.sc (.int .i64 k.proc.inc),.sc (.int .i64 k.proc.num),.sc (.int .i64 k.req.expr.k),.sc (.string k.req.expr.atom.name),.sc (.int .i64 k.req.expr.atom.am.mode),.sc (.int .i64 k.req.expr.atom.am.units),.sl (oN d) k.req.expr.kids,.sc (.int .i64 k.req.prio),.sc (.int .i64 k.req.limit),.sc (.string k.name),.sc (.int .i64 k.n)]
def Cm.a (d:Nat) (k:Cm):V0:=.ag (k.d d)
theorem MD (d:Nat) (w:Wk) (k:Cm) (h:CI w.c) (hs:∀x∈w.c.procs,ec w.c.queues x=false) (he:w.ev.length≤1000) {Z:Wk×Int} (hZ:D1 w k=Z):FSpec prog 100 [j6,k.a d] (HI d w) [3,4] (.i Z.2) (HO d Z.1):=by
 refine bJ func100 ?_
 obtain ⟨kd,p,r,nm,n⟩:=k
 unfold D1 at hZ
 dsimp only at hZ
 have h8:w.c.procs.length≤100000:=by have:=h.len;omega
 by_cases hA:1≤kd∧kd≤9
 case neg =>
  rw [show (decide (1≤kd) && decide (kd≤9))=false by rw [Bool.and_eq_false_iff];simp;omega] at hZ
  obtain rfl:Z=(w,1):=hZ.symm
  by_cases hA1:1≤kd
  ·repeat' (first
    | refine af ?_ ?_
    | refine en ?_
    | exact ah|refine ae fun hb=>?_
    | (refine aP (qf [(3,1),(4,2)]) ?_;exact ab))
  ·repeat' (first
    | refine af ?_ ?_
    | refine en ?_
    | exact ah|refine ae fun hb=>?_
    | (refine aP (qf [(3,1),(4,2)]) ?_;exact ab))
 obtain ⟨hA1,hA2⟩:=hA
 rw [decide_eq_true hA1,decide_eq_true hA2,Bool.and_self,Bool.not_true,cond_false] at hZ
 by_cases h1:kd=1
 ·subst h1
  have hZ:mB w p n=Z:=hZ
  have kO:=Ls d w p n h8 (MC h p) hZ
  repeat' (first
   | refine af ?_ ?_
   | refine aa 9 rfl (cH (qf [(1,1),(2,2),(3,1003),(4,1004)]) (kO) ?_)
   | refine en ?_
   | exact ah|refine ae fun hb=>?_
   | (refine aP (qf [(3,1003),(4,1004)]) ?_;exact ab))
 rw [decide_eq_false h1,cond_false] at hZ
 by_cases h9:kd=9
 ·subst h9
  have hZ:j0 w n=Z:=hZ
  have kT:=Lj d w n (by have:=h.now;omega) (fun a1 a2 a3=>Lx _ _ (h.later a1 (by omega)) hs (oq _) (by show w.ev.length+_≤_;have:=h.len;omega)) hZ
  repeat' (first
   | refine af ?_ ?_
   | refine aa 9 rfl (cH (qf [(1,1),(2,2),(3,1003),(4,1004)]) (kT) ?_)
   | refine en ?_
   | exact ah|refine ae fun hb=>?_
   | (refine aP (qf [(3,1003),(4,1004)]) ?_;exact ab))
 rw [decide_eq_false h9,cond_false] at hZ
 by_cases hI:fm p 0 w.c.procs<0
 ·rw [decide_eq_true hI,cond_true] at hZ
  obtain rfl:Z=(w,10):=hZ.symm
  have kI:=yo w.c.procs d p
  repeat' (first
   | refine af ?_ ?_
   | refine aa 9 rfl (cB [1] (kI) ?_)
   | refine en ?_
   | exact ah|refine ae fun hb=>?_
   | (refine aP (qf [(3,1),(4,2)]) ?_;exact ab))
 rw [decide_eq_false hI,cond_false] at hZ
 obtain ⟨i,hi,ei,_⟩:=mh (p:=p) (l:=w.c.procs) (k:=0) (by omega)
 rw [Nat.zero_add] at ei
 have kI:=wi w.c.procs d p ei
 rw [ei,Int.toNat_natCast] at hZ
 clear hI ei
 obtain ⟨x,hx⟩:∃x,w.c.procs[i]? = some x:=⟨_,List.getElem?_eq_getElem hi⟩
 have hpc:=j7 hx
 by_cases h2:kd=2
 ·subst h2
  have hZ:cQ w i r=Z:=hZ
  have kT:=E6 d w i r (MA h hi (by omega)) hZ
  repeat' (first
   | refine af ?_ ?_
   | (refine aa 9 rfl ?_;first
    | (refine cB [1] (kI) ?_)
    | (refine cH (qf [(1,1),(2,2),(3,1003),(4,1004)]) (kT) ?_))
   | refine en ?_
   | exact ah|refine ae fun hb=>?_
   | (refine aP (qf [(3,1003),(4,1004)]) ?_;exact ab))
 rw [decide_eq_false h2,cond_false] at hZ
 by_cases h3:kd=3
 ·subst h3
  rw [hpc] at hZ
  cases hw:x.waiting with
  | false =>
   rw [hw] at hZ
   obtain rfl:Z=(w,14):=hZ.symm
   repeat' (first
    | refine af ?_ ?_
    | refine aa 9 rfl (cB [1] (kI) ?_)
    | refine en ?_
    | exact ah|(refine ae fun hb=>?_;first|(cases hw.symm.trans hb;done)|skip)
    | (refine aP (qf [(3,1),(4,2)]) ?_;exact ab))
  | true =>
   rw [hw] at hZ
   have hw2:(w.pc i).waiting=true:=by rw [hpc];exact hw
   obtain ⟨k1,k2,k3,k4,_⟩:=gG h hi hw2
   have hi2:i<(az w i).c.procs.length:=by rw [k3.len];exact hi
   obtain ⟨n1,n2,_⟩:=mf k1 hi2 (by rw [bX hi2];simp [k4])
   have h9:=jP w i
   have h88:=dy (w.pc i).req.expr
   have kW:=pL d w i hi ((mX h hi hw2).ok (by omega)) (by rw [dm];exact hi)
   have kX:=mW d (az w i) i hi2
   have kS:=mj d _ _ (uy n1 (by show (az w i).ev.length≤_;omega))
   have hZ:(aS (bb (az w i) i).c.procs.length (bb (az w i) i),(0:Int))=Z:=hZ
   obtain ⟨A,hA⟩:∃A,az w i=A:=⟨_,rfl⟩
   rw [hA] at kW kX kS hZ
   obtain ⟨B,hB⟩:∃B,bb A i=B:=⟨_,rfl⟩
   rw [hB] at kX kS hZ
   obtain ⟨F,hF⟩:∃F,aS B.c.procs.length B=F:=⟨_,rfl⟩
   rw [hF] at kS hZ
   obtain rfl:Z=(F,0):=hZ.symm
   repeat' (first
    | refine af ?_ ?_
    | (refine aa 9 rfl ?_;first
     | (refine cB [1] (kI) ?_)
     | (refine cH (qf [(1,1),(2,2),(3,1003),(4,1004)]) (kW) ?_)
     | (refine cH (qf [(1,1003),(2,1004),(3,1005),(4,1006)]) (kX) ?_)
     | (refine cH (qf [(1,1005),(2,1006),(3,1007),(4,1008)]) (kS) ?_))
    | refine en ?_
    | exact ah|(refine ae fun hb=>?_;first|(cases hw.symm.trans hb;done)|skip)
    | (refine aP (qf [(3,1007),(4,1008)]) ?_;exact ab))
 rw [decide_eq_false h3,cond_false] at hZ
 by_cases h4:kd=4
 ·subst h4
  have hZ:ed w i nm=Z:=hZ
  have kT:=E1 d w i nm (Lv h hi (by omega)) hZ
  repeat' (first
   | refine af ?_ ?_
   | (refine aa 9 rfl ?_;first
    | (refine cB [1] (kI) ?_)
    | (refine cH (qf [(1,1),(2,2),(3,1003),(4,1004)]) (kT) ?_))
   | refine en ?_
   | exact ah|refine ae fun hb=>?_
   | (refine aP (qf [(3,1003),(4,1004)]) ?_;exact ab))
 rw [decide_eq_false h4,cond_false] at hZ
 by_cases h5:kd=5
 ·subst h5
  rw [hpc] at hZ
  obtain ⟨G,hG⟩:∃G,iN x.led n=G:=⟨_,rfl⟩
  have kL:=K7 x.led n hG
  have kX:=mW d (w.setP i { x with led:=G.1 }) i (by rw [gI];exact hi)
  obtain ⟨N,hN⟩:∃N,bb (w.setP i { x with led:=G.1 }) i=N:=⟨_,rfl⟩
  have hZ:(bif x.waiting then (w,(14:Int)) else bif !decide (G.2=0) then (w,G.2) else (N,0))=Z:=by rw [←hZ,←hN,←hG];rfl
  rw [hN] at kX
  cases hw:x.waiting with
  | true =>
   rw [hw] at hZ
   obtain rfl:Z=(w,14):=hZ.symm
   repeat' (first
    | refine af ?_ ?_
    | refine aa 9 rfl (cB [1] (kI) ?_)
    | refine en ?_
    | exact ah|(refine ae fun hb=>?_;first|(cases hw.symm.trans hb;done)|skip)
    | (refine aP (qf [(3,1),(4,2)]) ?_;exact ab))
  | false =>
   rw [hw,cond_false] at hZ
   by_cases h0:G.2=0
   case neg =>
    obtain rfl:Z=(w,G.2):=by rw [←hZ,decide_eq_false h0];rfl
    repeat' (first
     | refine af ?_ ?_
     | (refine aa 9 rfl ?_;first
      | (refine cB [1] (kI) ?_)
      | (refine cC [] (kL) ?_))
     | refine en ?_
     | exact ah|(refine ae fun hb=>?_;first|(cases hw.symm.trans hb;done)|skip)
     | (refine aP (qf [(3,1),(4,2)]) ?_;exact ab))
   obtain rfl:Z=(N,0):=by rw [←hZ,decide_eq_true h0];rfl
   repeat' (first
    | refine af ?_ ?_
    | (refine aa 9 rfl ?_;first
     | (refine cB [1] (kI) ?_)
     | (refine cC [] (kL) ?_)
     | (refine cH (qf [(1,1),(2,2),(3,1003),(4,1004)]) (kX) ?_))
    | refine en ?_
    | (refine aa 4 rfl ?_;refine bW (aL (z:={ x with led:=G.1 }) rfl rfl rfl rfl hx rfl rfl rfl rfl (Nat.le_of_ble_eq_true rfl) rfl rfl) rfl rfl rfl ?_)
    | exact ah|(refine ae fun hb=>?_;first|(cases hw.symm.trans hb;done)|skip)
    | (refine aP (qf [(3,1003),(4,1004)]) ?_;exact ab))
 rw [decide_eq_false h5,cond_false] at hZ
 by_cases h6:kd=6
 ·subst h6
  have hZ:dc w i n=Z:=hZ
  have kT:=CM d w i n (Lw h hi (by omega)) hZ
  repeat' (first
   | refine af ?_ ?_
   | (refine aa 9 rfl ?_;first
    | (refine cB [1] (kI) ?_)
    | (refine cH (qf [(1,1),(2,2),(3,1003),(4,1004)]) (kT) ?_))
   | refine en ?_
   | exact ah|refine ae fun hb=>?_
   | (refine aP (qf [(3,1003),(4,1004)]) ?_;exact ab))
 rw [decide_eq_false h6,cond_false] at hZ
 have kG:=Lq d w i (MB h hi (by omega))
 by_cases h8b:kd=8
 ·subst h8b
  rw [hpc] at hZ
  cases hw:x.waiting with
  | true =>
   rw [hw] at hZ
   obtain rfl:Z=(w,14):=hZ.symm
   repeat' (first
    | refine af ?_ ?_
    | refine aa 9 rfl (cB [1] (kI) ?_)
    | refine en ?_
    | exact ah|(refine ae fun hb=>?_;first|(cases hw.symm.trans hb;done)|skip)
    | (refine aP (qf [(3,1),(4,2)]) ?_;exact ab))
  | false =>
   rw [hw] at hZ
   obtain ⟨F,hF⟩:∃F,iO w i=F:=⟨_,rfl⟩
   rw [hF] at kG hZ
   obtain rfl:Z=(F,0):=hZ.symm
   repeat' (first
    | refine af ?_ ?_
    | (refine aa 9 rfl ?_;first
     | (refine cB [1] (kI) ?_)
     | (refine cH (qf [(1,1),(2,2),(3,1003),(4,1004)]) (kG) ?_))
    | refine en ?_
    | exact ah|(refine ae fun hb=>?_;first|(cases hw.symm.trans hb;done)|skip)
    | (refine aP (qf [(3,1003),(4,1004)]) ?_;exact ab))
 ·rw [decide_eq_false h8b] at hZ
  obtain rfl:kd=7:=by omega
  obtain ⟨F,hF⟩:∃F,iO w i=F:=⟨_,rfl⟩
  rw [hF] at kG hZ
  obtain rfl:Z=(F,0):=hZ.symm
  repeat' (first
   | refine af ?_ ?_
   | (refine aa 9 rfl ?_;first
    | (refine cB [1] (kI) ?_)
    | (refine cH (qf [(1,1),(2,2),(3,1003),(4,1004)]) (kG) ?_))
   | refine en ?_
   | exact ah|refine ae fun hb=>?_
   | (refine aP (qf [(3,1003),(4,1004)]) ?_;exact ab))
instance (d:Nat):ST prog (oN (d+1)) 32 34 64:=⟨ElTB.mk' underlying32 (.agg #[.int .i64 0,.string ⟨#[]⟩,.int .i64 0,.int .i64 0,.slice none 0 0]) 5 64 (by kernel_rfl) rfl rfl⟩
theorem yq {L:List Tm} {v:Int} {a:Tm} (h:L[v.toNat]? = some a):Bk L v=a:=by unfold Bk;rw [List.getD_eq_getElem?_getD,h];rfl
theorem nx (t:Tp) (m:Int) (h:TOk t) (h1:1≤m) (hm:m≤1048576):∃v u,t.v m=v∧t.s=u∧TOk u∧0≤v∧v<m∧FSpec prog 57 [j6,mb m] (HT t) [] (.i v) (IQ u) :=
 ⟨_,_,rfl,rfl,h.s,(t.v_in h1).1,(t.v_in h1).2,jO t m h hm⟩
theorem Bq (L:List Tm) (hL:0<L.length∧L.length≤1000):∀(d:Nat) (t:Tp) (dz:Int),dz=(d:Int)→d≤100→TOk t→∀{R:Ex×Tp},fa L d t=R→FSpec prog 181 [j6,.one (.sl cL L),mb dz] (HT t) [] (.v (R.1.a d)) (IQ R.2)
 | 0,t,dz,hd,_,ht,R,hR=>by
  refine bJ func181 ?_
  unfold fa at hR
  obtain ⟨v,u,e1,e2,hu,b1,b2,kN⟩:=nx t L.length ht (by omega) (by omega)
  rw [e1,e2] at hR
  obtain ⟨a,ha⟩:∃a,L[v.toNat]? = some a:=⟨_,List.getElem?_eq_getElem (by omega)⟩
  rw [yq ha] at hR
  obtain rfl:R=(.mk 0 a [],u):=hR.symm
  clear e1 e2
  subst hd
  repeat' (first
   | refine af ?_ ?_
   | refine aa 9 rfl (cH (qf [(0,0)]) (kN) ?_)
   | refine en ?_
   | exact ah|refine ae fun hb=>?_
   | (refine aP (qf [(0,0)]) ?_;exact ab))
 | d+1,t,dz,hd,hd9,ht,R,hR=>by
  refine bJ func181 ?_
  unfold fa at hR
  obtain ⟨v,u,e1,e2,hu,b1,b2,kN⟩:=nx t 4 ht (by omega) (by omega)
  rw [e1,e2] at hR
  clear e1 e2
  by_cases h0:v=0
  ·rw [decide_eq_true h0,cond_true] at hR
   obtain ⟨v2,u2,e1,e2,hu2,c1,c2,kN2⟩:=nx u L.length hu (by omega) (by omega)
   rw [e1,e2] at hR
   clear e1 e2
   obtain ⟨a,ha⟩:∃a,L[v2.toNat]? = some a:=⟨_,List.getElem?_eq_getElem (by omega)⟩
   rw [yq ha] at hR
   obtain rfl:R=(.mk 0 a [],u2):=hR.symm
   repeat' (first
    | refine af ?_ ?_
    | (refine aa 9 rfl ?_;first
     | (refine cH (qf [(0,0)]) (kN) ?_)
     | (refine cH (qf [(0,0)]) (kN2) ?_))
    | refine en ?_
    | exact ah|(refine ae fun hb=>?_;first|(exact absurd h0 hb)|skip)
    | (refine aP (qf [(0,0)]) ?_;exact ab))
  ·rw [decide_eq_false h0,cond_false] at hR
   obtain ⟨v3,u2,e1,e2,hu2,c1,c2,kN2⟩:=nx u 3 hu (by omega) (by omega)
   rw [e1,e2] at hR
   clear e1 e2
   obtain ⟨vk,u3,e1,e2,hu3,d1,d2,kN3⟩:=nx u2 (1+v3) hu2 (by omega) (by omega)
   rw [e1,e2] at hR
   clear e1 e2
   obtain ⟨n,hn⟩:∃n:Nat,1+v3=(n:Int):=⟨(1+v3).toNat,by omega⟩
   rw [hn,Int.toNat_natCast] at hR
   obtain ⟨K,hK⟩:∃K,j8 (fa L d) n u3=K:=⟨_,rfl⟩
   rw [hK] at hR
   obtain rfl:R=(.mk (1+vk) ⟨⟨#[]⟩,Am.zero⟩ K.1,K.2):=hR.symm
   repeat' (first
    | refine af ?_ ?_
    | (refine aa 9 rfl ?_;first
     | (refine cH (qf [(0,0)]) (kN) ?_)
     | (refine cH (qf [(0,0)]) (kN2) ?_)
     | (refine cH (qf [(0,0)]) (kN3) ?_))
    | refine en ?_
    | exact ah|(refine ae fun hb=>?_;first|(exact absurd hb h0)|skip))
   refine jJ 8 4 1000 34 (oN (d+1)) rfl rfl rfl rfl ?_
   refine ao (fun y:Nat×Tp×List Ex=>y.1≤n∧TOk y.2.1∧y.2.2.length=y.1∧(y.2.2++(j8 (fa L d) (n-y.1) y.2.1).1,(j8 (fa L d) (n-y.1) y.2.1).2)=K) (fun y=>cy [0,6,8,1000] [(0,.v j6),(1,.c (.sl cL L)),(2,.v (mb dz)),(6,.c (.ptr 6 0)),(7,.i (1+v3)),(8,.c (.ptr 8 0)),(9,.i y.1)] [(0,.box 115 (JY y.2.1)),(6,.box 34 [.sc (.int .i64 0),.sc (.string ⟨#[]⟩),.sc (.int .i64 0),.sc (.int .i64 0),.sc (.slice none 0 0)]),(8,.box 34 [.sc (.int .i64 (1+vk)),.sc (.string ⟨#[]⟩),.sc (.int .i64 0),.sc (.int .i64 0),.own 1000]),(1000,.arr 34 (oN (d+1)) y.2.2)]) (fun y=>n-y.1) (0,u3,[]) ⟨Nat.zero_le _,hu3,rfl,by rw [←hK];simp⟩ (by exact ap (qf [])) ?_
   clear hK kN3 kN2 kN
   rintro ⟨i,w,ks⟩ ⟨hi,hw,hkl,hs⟩
   dsimp only at *
   by_cases hlt:i<n
   ·obtain ⟨G,hG⟩:∃G,fa L d w=G:=⟨_,rfl⟩
    have kG:=Bq L hL d w (dz-1) (by omega) (by omega) hw hG
    have hadv:=m9 L d w
    rw [hG] at hadv
    have e1:j8 (fa L d) (n-i) w=(G.1 :: (j8 (fa L d) (n-(i+1)) G.2).1,(j8 (fa L d) (n-(i+1)) G.2).2):=by
     rw [show n-i=(n-(i+1))+1 by omega,←hG]
     rfl
    rw [e1] at hs
    repeat' (first
     | refine af ?_ ?_
     | (refine aa 8 rfl ?_;refine bc (ak rfl rfl (aI rfl rfl) (aO [G.1] rfl rfl rfl rfl) rfl aJ aJ) rfl rfl rfl ?_)
     | refine aa 9 rfl (cH (qf [(0,0)]) (kG) ?_)
     | refine en ?_
     | exact ah|refine ae fun hb=>?_)
    refine ⟨(i+1,G.2,ks++[G.1]),⟨by dsimp only;omega,hw.adv hadv,by simp [hkl],?_⟩,by dsimp only;omega,?_⟩
    ·dsimp only
     rw [←hs]
     simp
    ·exact ap (qf [(1000,46)])
   ·rw [show n-i=0 by omega] at hs
    obtain rfl:K=(ks,w):=by rw [←hs];simp [j8]
    repeat' (first
     | refine af ?_ ?_
     | refine en ?_
     | exact ah|refine ae fun hb=>?_
     | (refine aP (qf [(0,0)]) ?_;exact ab))
theorem Fb (t:Tp) (l:List Rs) (h:TOk t) (hl:0<l.length∧l.length≤8) (hu:∀r∈l,1≤r.units∧r.units≤1000) {R:Ex×Tp} (hR:ow t l=R):FSpec prog 125 [j6,.one (.sl fJ l)] (HT t) [] (.v (R.1.a 2)) (IQ R.2):=by
 refine bJ func125 ?_
 unfold ow at hR
 obtain ⟨first,u,e1,e2,hu1,b1,b2,kN⟩:=nx t 1048576 h (by omega) (by omega)
 rw [e1,e2] at hR
 clear e1 e2
 obtain ⟨T,hT⟩:∃T,ut first 0 l=T:=⟨_,rfl⟩
 rw [hT] at hR
 repeat' (first
  | refine af ?_ ?_
  | refine aa 9 rfl (cH (qf [(0,0)]) (kN) ?_)
  | refine en ?_
  | exact ah|refine ae fun hb=>?_)
 refine dS 6 1000 31 cL rfl rfl rfl ?_
 refine ao (fun y:Nat×List Tm=>y.1≤l.length∧y.2.length=y.1∧y.2++ut first y.1 (l.drop y.1)=T) (fun y=>cy [0,4,1000] [(0,.v j6),(1,.c (.sl fJ l)),(4,.c (.ptr 4 0)),(5,.i first),(6,.c (.own 1000)),(7,.i y.1)] [(0,.box 115 (JY u)),(4,.box 34 [.sc (.int .i64 0),.sc (.string ⟨#[]⟩),.sc (.int .i64 0),.sc (.int .i64 0),.sc (.slice none 0 0)]),(1000,.arr 31 cL y.2)]) (fun y=>l.length-y.1) (0,[]) ⟨Nat.zero_le _,rfl,hT⟩ (by exact ap (qf [])) ?_
 clear hT
 rintro ⟨i,ts⟩ ⟨hi,htl,hs⟩
 dsimp only at *
 by_cases hlt:i<l.length
 ·obtain ⟨r,hr⟩:∃r,l[i]? = some r:=⟨_,List.getElem?_eq_getElem hlt⟩
  have er:l[i]=r:=(List.getElem?_eq_some_iff.1 hr).2
  obtain ⟨c,hc⟩:∃c,first.fdiv (2 ^ (3*i))=c:=⟨_,rfl⟩
  have kA:=Mx r c (hu r (er▸List.getElem_mem hlt))
  rw [List.drop_eq_getElem_cons hlt,er] at hs
  have hs:ts++(⟨r.name,IP r (first.fdiv (2 ^ (3*i)))⟩ :: ut first (i+1) (l.drop (i+1)))=T:=hs
  rw [hc] at hs
  have hcv:IntKind.u64.wrap (3*(i:Int))=((3*i:Nat):Int):=by rw [IntWalk.u64_in _ (by omega)];omega
  obtain ⟨a,ha⟩:∃a,IP r c=a:=⟨_,rfl⟩
  rw [ha] at kA hs
  repeat' (first
   | refine af ?_ ?_
   | (refine aa 0 rfl ?_;refine sx (dM rfl underlying3 underlying149 rfl hcv) ?_)
   | (refine aa 8 rfl ?_;refine bc (ak rfl rfl (aI rfl rfl) (aO [⟨r.name,a⟩] rfl rfl rfl rfl) rfl aJ aJ) rfl rfl rfl ?_)
   | refine aa 9 rfl (cB [] (kA) ?_)
   | (refine aa 10 rfl ?_;first
    | (refine sx (Hp rfl rfl rfl (by omega) (by show 3*i≤64;omega) hc) ?_)
    | (refine sx (nR rfl rfl rfl (IntWalk.i64_in _ (by omega))) ?_))
   | refine en ?_
   | exact ah|refine ae fun hb=>?_)
  refine ⟨(i+1,ts++[⟨r.name,a⟩]),⟨by dsimp only;omega,by simp [htl],?_⟩,by dsimp only;omega,?_⟩
  ·dsimp only
   rw [←hs]
   simp
  ·exact ap (qf [(1000,34)])
 ·rw [List.drop_eq_nil_of_le (by omega)] at hs
  obtain rfl:ts=T:=by rw [←hs];simp [ut]
  have kG:=Bq ts (by omega) 2 u 2 rfl (by omega) hu1 hR
  repeat' (first
   | refine af ?_ ?_
   | ((fail_if_success (first|refine xM 7 ?_|refine xN 7 ?_));refine en ?_)
   | exact ah|refine ae fun hb=>?_)
  refine sd 1000 rfl ?_
  repeat' (first
   | refine af ?_ ?_
   | refine aa 9 rfl (cH (qf [(0,0)]) (kG) ?_)
   | refine en ?_
   | exact ah|refine ae fun hb=>?_
   | (refine aP (qf [(0,0)]) ?_;exact ab))
theorem Ly (t:Tp) (l:List Rs) (h:TOk t) (hl:0<l.length∧l.length≤8) (hu:∀r∈l,1≤r.units∧r.units≤1000) {R:Rq×Tp} (hR:zV t l=R):FSpec prog 97 [j6,.one (.sl fJ l)] (HT t) [] (.v (R.1.a 2)) (IQ R.2):=by
 refine bJ func97 ?_
 unfold zV at hR
 obtain ⟨v,u,e1,e2,hu1,b1,b2,kN⟩:=nx t 8 h (by omega) (by omega)
 rw [e1,e2] at hR
 clear e1 e2
 obtain ⟨v2,u2,e1,e2,hu2,c1,c2,kN2⟩:=nx u 5 hu1 (by omega) (by omega)
 rw [e1,e2] at hR
 clear e1 e2
 by_cases h1:v2=1
 ·rw [decide_eq_true h1,cond_true] at hR
  obtain ⟨v3,u3,e1,e2,hu3,d1,d2,kN3⟩:=nx u2 20 hu2 (by omega) (by omega)
  rw [e1,e2] at hR
  clear e1 e2
  obtain ⟨G,hG⟩:∃G,ow u3 l=G:=⟨_,rfl⟩
  have kE:=Fb u3 l hu3 hl hu hG
  rw [hG] at hR
  obtain rfl:R=(⟨G.1,v,1+v3⟩,G.2):=hR.symm
  repeat' (first
   | refine af ?_ ?_
   | (refine aa 9 rfl ?_;first
    | (refine cH (qf [(0,0)]) (kN) ?_)
    | (refine cH (qf [(0,0)]) (kN2) ?_)
    | (refine cH (qf [(0,0)]) (kN3) ?_)
    | (refine cH (qf [(0,0)]) (kE) ?_))
   | refine en ?_
   | exact ah|(refine ae fun hb=>?_;first|(exact absurd h1 hb)|skip)
   | (refine aP (qf [(0,0)]) ?_;exact ab))
 ·rw [decide_eq_false h1,cond_false] at hR
  obtain ⟨G,hG⟩:∃G,ow u2 l=G:=⟨_,rfl⟩
  have kE:=Fb u2 l hu2 hl hu hG
  rw [hG] at hR
  obtain rfl:R=(⟨G.1,v,0⟩,G.2):=hR.symm
  repeat' (first
   | refine af ?_ ?_
   | (refine aa 9 rfl ?_;first
    | (refine cH (qf [(0,0)]) (kN) ?_)
    | (refine cH (qf [(0,0)]) (kN2) ?_)
    | (refine cH (qf [(0,0)]) (kE) ?_))
   | refine en ?_
   | exact ah|(refine ae fun hb=>?_;first|(exact absurd hb h1)|skip)
   | (refine aP (qf [(0,0)]) ?_;exact ab))
theorem Lz (t:Tp) (l:List Rs) (h:TOk t) (hl:0<l.length∧l.length≤8) (hu:∀r∈l,1≤r.units∧r.units≤1000) {R:Cm×Tp} (hR:vY t l=R):FSpec prog 59 [j6,.one (.sl fJ l)] (HT t) [] (.v (R.1.a 2)) (IQ R.2):=by
 refine bJ func59 ?_
 unfold vY at hR
 dsimp only at hR
 obtain ⟨n,u,e1,e2,hu1,b1,b2,kN⟩:=nx t 16 h (by omega) (by omega)
 rw [e1,e2] at hR
 clear e1 e2
 obtain ⟨v2,u2,e1,e2,hu2,c1,c2,kN2⟩:=nx u 6 hu1 (by omega) (by omega)
 rw [e1,e2] at hR
 clear e1 e2
 have kP:=pK v2
 obtain ⟨p,hp⟩:∃p,iC v2=p:=⟨_,rfl⟩
 rw [hp] at kP hR
 by_cases h0:n=0
 ·subst h0
  obtain ⟨v3,u3,e1,e2,hu3,d1,d2,kN3⟩:=nx u2 9 hu2 (by omega) (by omega)
  obtain rfl:R=(⟨1,p,Rq.zero,⟨#[]⟩,1+v3⟩,u3):=by rw [←hR,←e1,←e2];rfl
  clear e1 e2
  repeat' (first
   | refine af ?_ ?_
   | (refine aa 9 rfl ?_;first
    | (refine cH (qf [(0,0)]) (kN) ?_)
    | (refine cH (qf [(0,0)]) (kN2) ?_)
    | (refine cH (qf [(0,0)]) (kN3) ?_)
    | (refine cB [] (kP) ?_))
   | refine en ?_
   | exact ah|(refine ae fun hb=>?_;first|(exact absurd rfl hb)|skip)
   | (refine aP (qf [(0,0)]) ?_;exact ab))
 rw [decide_eq_false h0,cond_false] at hR
 by_cases h9:n<9
 ·rw [decide_eq_true h9,cond_true] at hR
  obtain ⟨G,hG⟩:∃G,zV u2 l=G:=⟨_,rfl⟩
  have kQ:=Ly u2 l hu2 hl hu hG
  rw [hG] at hR
  obtain rfl:R=(⟨2,p,G.1,⟨#[]⟩,0⟩,G.2):=hR.symm
  repeat' (first
   | refine af ?_ ?_
   | (refine aa 9 rfl ?_;first
    | (refine cH (qf [(0,0)]) (kN) ?_)
    | (refine cH (qf [(0,0)]) (kN2) ?_)
    | (refine cB [] (kP) ?_)
    | (refine cH (qf [(0,0)]) (kQ) ?_))
   | refine en ?_
   | exact ah|(refine ae fun hb=>?_;first|(exact absurd hb h0)|skip)
   | (refine aP (qf [(0,0)]) ?_;exact ab))
 rw [decide_eq_false h9,cond_false] at hR
 by_cases e9:n=9
 ·subst e9
  obtain rfl:R=(⟨3,p,Rq.zero,⟨#[]⟩,0⟩,u2):=hR.symm
  repeat' (first
   | refine af ?_ ?_
   | (refine aa 9 rfl ?_;first
    | (refine cH (qf [(0,0)]) (kN) ?_)
    | (refine cH (qf [(0,0)]) (kN2) ?_)
    | (refine cB [] (kP) ?_))
   | refine en ?_
   | exact ah|refine ae fun hb=>?_
   | (refine aP (qf [(0,0)]) ?_;exact ab))
 rw [decide_eq_false e9,cond_false] at hR
 by_cases e10:n=10
 ·subst e10
  obtain ⟨v3,u3,e1,e2,hu3,d1,d2,kN3⟩:=nx u2 l.length hu2 (by omega) (by omega)
  obtain ⟨r,hr⟩:∃r,l[v3.toNat]? = some r:=⟨_,List.getElem?_eq_getElem (by omega)⟩
  obtain rfl:R=(⟨4,p,Rq.zero,r.name,0⟩,u3):=by
   rw [←hR,←e2]
   have e3:l.getD (u2.v l.length).toNat ⟨⟨#[]⟩,0,0,0⟩=r:=by rw [e1,List.getD_eq_getElem?_getD,hr];rfl
   simp only [decide_true,cond_true,e3]
  clear e1 e2
  repeat' (first
   | refine af ?_ ?_
   | (refine aa 9 rfl ?_;first
    | (refine cH (qf [(0,0)]) (kN) ?_)
    | (refine cH (qf [(0,0)]) (kN2) ?_)
    | (refine cH (qf [(0,0)]) (kN3) ?_)
    | (refine cB [] (kP) ?_))
   | refine en ?_
   | exact ah|refine ae fun hb=>?_
   | (refine aP (qf [(0,0)]) ?_;exact ab))
 rw [decide_eq_false e10,cond_false] at hR
 by_cases e11:n=11
 ·subst e11
  obtain ⟨v3,u3,e1,e2,hu3,d1,d2,kN3⟩:=nx u2 4 hu2 (by omega) (by omega)
  obtain rfl:R=(⟨5,p,Rq.zero,⟨#[]⟩,1+v3⟩,u3):=by rw [←hR,←e1,←e2];rfl
  clear e1 e2
  repeat' (first
   | refine af ?_ ?_
   | (refine aa 9 rfl ?_;first
    | (refine cH (qf [(0,0)]) (kN) ?_)
    | (refine cH (qf [(0,0)]) (kN2) ?_)
    | (refine cH (qf [(0,0)]) (kN3) ?_)
    | (refine cB [] (kP) ?_))
   | refine en ?_
   | exact ah|refine ae fun hb=>?_
   | (refine aP (qf [(0,0)]) ?_;exact ab))
 rw [decide_eq_false e11,cond_false] at hR
 by_cases e12:n=12
 ·subst e12
  obtain ⟨v3,u3,e1,e2,hu3,d1,d2,kN3⟩:=nx u2 5 hu2 (by omega) (by omega)
  obtain rfl:R=(⟨6,p,Rq.zero,⟨#[]⟩,v3⟩,u3):=by rw [←hR,←e1,←e2];rfl
  clear e1 e2
  repeat' (first
   | refine af ?_ ?_
   | (refine aa 9 rfl ?_;first
    | (refine cH (qf [(0,0)]) (kN) ?_)
    | (refine cH (qf [(0,0)]) (kN2) ?_)
    | (refine cH (qf [(0,0)]) (kN3) ?_)
    | (refine cB [] (kP) ?_))
   | refine en ?_
   | exact ah|refine ae fun hb=>?_
   | (refine aP (qf [(0,0)]) ?_;exact ab))
 rw [decide_eq_false e12,cond_false] at hR
 by_cases e13:n=13
 ·subst e13
  obtain rfl:R=(⟨7,p,Rq.zero,⟨#[]⟩,0⟩,u2):=hR.symm
  repeat' (first
   | refine af ?_ ?_
   | (refine aa 9 rfl ?_;first
    | (refine cH (qf [(0,0)]) (kN) ?_)
    | (refine cH (qf [(0,0)]) (kN2) ?_)
    | (refine cB [] (kP) ?_))
   | refine en ?_
   | exact ah|refine ae fun hb=>?_
   | (refine aP (qf [(0,0)]) ?_;exact ab))
 rw [decide_eq_false e13,cond_false] at hR
 by_cases e14:n=14
 ·subst e14
  obtain rfl:R=(⟨8,p,Rq.zero,⟨#[]⟩,0⟩,u2):=hR.symm
  repeat' (first
   | refine af ?_ ?_
   | (refine aa 9 rfl ?_;first
    | (refine cH (qf [(0,0)]) (kN) ?_)
    | (refine cH (qf [(0,0)]) (kN2) ?_)
    | (refine cB [] (kP) ?_))
   | refine en ?_
   | exact ah|refine ae fun hb=>?_
   | (refine aP (qf [(0,0)]) ?_;exact ab))
 rw [decide_eq_false e14,cond_false] at hR
 obtain ⟨v3,u3,e1,e2,hu3,d1,d2,kN3⟩:=nx u2 12 hu2 (by omega) (by omega)
 obtain rfl:R=(⟨9,p,Rq.zero,⟨#[]⟩,v3⟩,u3):=by rw [←hR,←e1,←e2]
 clear e1 e2
 repeat' (first
  | refine af ?_ ?_
  | (refine aa 9 rfl ?_;first
   | (refine cH (qf [(0,0)]) (kN) ?_)
   | (refine cH (qf [(0,0)]) (kN2) ?_)
   | (refine cH (qf [(0,0)]) (kN3) ?_)
   | (refine cB [] (kP) ?_))
  | refine en ?_
  | exact ah|(refine ae fun hb=>?_;first|(exact absurd hb e9)|(exact absurd hb e10)|(exact absurd hb e11)|(exact absurd hb e12)|(exact absurd hb e13)|(exact absurd hb e14)|skip)
  | (refine aP (qf [(0,0)]) ?_;exact ab))
def IV (d:Nat):El Cm where
 n:=13
 pos:=by decide
 rep:=fun w S k cs=>∃A c,cs=[.int .i64 k.kind,.int .i64 k.proc.site,.int .i64 k.proc.inc,.int .i64 k.proc.num,.int .i64 k.req.expr.k,.string k.req.expr.atom.name,.int .i64 k.req.expr.atom.am.mode,.int .i64 k.req.expr.atom.am.units,.slice A k.req.expr.kids.length c,.int .i64 k.req.prio,.int .i64 k.req.limit,.string k.name,.int .i64 k.n]∧
  RowsAt (oN d) w S A k.req.expr.kids∧(k.req.expr.kids.length≤c∧c≤maxLen)
 len:=fun h=>by obtain ⟨A,c,rfl,_⟩:=h;rfl
 one:=fun h=>by obtain ⟨A,c,rfl,_⟩:=h;intro u hu;simp at hu;rcases hu with rfl|rfl|rfl|rfl|rfl|rfl|rfl|rfl|rfl|rfl|rfl|rfl|rfl <;> rfl
 same:=fun h hk hS=>by
  obtain ⟨A,c,e,h1,h2⟩:=h
  exact ⟨A,c,e,h1.same hk hS,h2⟩
instance (d:Nat):Dp (IV d) where
 deep:=Cm.d d
 get:=by
  rintro w F ρ x cs ⟨A,c,rfl,h1,h2⟩
  exact ⟨rfl,rfl,rfl,rfl,rfl,rfl,rfl,rfl,⟨A,c,rfl,h2,h1⟩,rfl,rfl,rfl,rfl,trivial⟩
 put:=by
  intro w F ρ x cs h
  match cs,h with
  | [_,_,_,_,_,_,_,_,_,_,_,_,_],⟨rfl,rfl,rfl,rfl,rfl,rfl,rfl,rfl,⟨A,c,rfl,h2,h1⟩,rfl,rfl,rfl,rfl,_⟩=>exact ⟨A,c,rfl,h1,h2⟩
 nok:=fun _ _=>rfl
instance (d:Nat):ST prog (IV d) 66 119 136:=⟨ElTB.mk' underlying66 (.agg #[.int .i64 0,.int .i64 0,.int .i64 0,.int .i64 0,.int .i64 0,.string ⟨#[]⟩,.int .i64 0,.int .i64 0,.slice none 0 0,.int .i64 0,.int .i64 0,.string ⟨#[]⟩,.int .i64 0]) 13 136 (by kernel_rfl) rfl rfl⟩
theorem H0 {l:List Rs} {t:Tp} (h:(qS t).1=l):l.length=6∧∀r∈l,1≤r.units∧r.units≤1000:=by
 subst h
 refine ⟨rfl,fun r hr=>?_⟩
 have h1:=t.s.s.s.s.v_in (m:=8) (by omega)
 have h2:=t.s.s.s.s.s.s.v_in (m:=3) (by omega)
 simp only [qS,List.mem_cons,List.not_mem_nil,or_false] at hr
 rcases hr with rfl|rfl|rfl|rfl|rfl|rfl <;> dsimp only <;> omega
theorem Fc (t:Tp):Adv t (qS t).2:=by
 have h:=(Adv.s t).ss.ss.ss.ss.ss.ss.ss
 unfold qS
 dsimp only
 exact h
def MV (a b c d e:Tp):Nat→Tp
 | 0=>a
 | 1=>b
 | 2=>c
 | 3=>d
 | _=>e
def z8 (p0 p1 p2 p3:Pr) (v0 v1 v2 v3:Int):List Cm:=[⟨1,p0,Rq.zero,⟨#[]⟩,1+v0⟩,⟨1,p1,Rq.zero,⟨#[]⟩,1+v1⟩,⟨1,p2,Rq.zero,⟨#[]⟩,1+v2⟩,⟨1,p3,Rq.zero,⟨#[]⟩,1+v3⟩]
theorem sU (cat:List Rs) (n:Nat) (t:Tp):sM cat (n+1) t=bif decide (t.at_<t.l.length) then (vY t cat).1 :: sM cat n (vY t cat).2 else []:=rfl
theorem Fd (l:List Int) (hl:l.length≤300) {R:List Rs×List Cm} (hR:iR l=R):FSpec prog 21 [.one (.sl fk l)] [] [] (.tup [.one (.sl fJ R.1),.one (.sl (IV 2) R.2)]) []:=by
 refine bJ func21 ?_
 unfold iR at hR
 dsimp only at hR
 have h0:TOk ⟨l,0⟩:=⟨Nat.zero_le _,by show l.length≤_;omega⟩
 have kC:=Lc ⟨l,0⟩ h0
 have hadv:=Fc ⟨l,0⟩
 obtain ⟨C,hC⟩:∃C,(qS ⟨l,0⟩).1=C:=⟨_,rfl⟩
 obtain ⟨u0,hu0⟩:∃u,(qS ⟨l,0⟩).2=u:=⟨_,rfl⟩
 obtain ⟨hc6,hcu⟩:=H0 hC
 rw [hC,hu0] at hR kC
 rw [hu0] at hadv
 have t0:=h0.adv hadv
 have hul:u0.l=l:=hadv.l
 clear hC hu0 hadv
 repeat' (first
  | refine af ?_ ?_
  | refine aa 9 rfl (cH (qf [(0,10)]) (kC) ?_)
  | refine en ?_
  | exact ah|refine ae fun hb=>?_)
 refine dS 6 1000 119 (IV 2) rfl rfl rfl ?_
 obtain ⟨v0,u1,a1,a2,t1,a3,a4,n0⟩:=nx u0 9 t0 (by omega) (by omega)
 obtain ⟨v1,u2,b1,b2,t2,b3,b4,n1⟩:=nx u1 9 t1 (by omega) (by omega)
 obtain ⟨v2,u3,c1,c2,t3,c3,c4,n2⟩:=nx u2 9 t2 (by omega) (by omega)
 obtain ⟨v3,u4,d1,d2,t4,d3,d4,n3⟩:=nx u3 9 t3 (by omega) (by omega)
 obtain ⟨p0,q0⟩:∃p,iC 0=p:=⟨_,rfl⟩
 obtain ⟨p1,q1⟩:∃p,iC 1=p:=⟨_,rfl⟩
 obtain ⟨p2,q2⟩:∃p,iC 2=p:=⟨_,rfl⟩
 obtain ⟨p3,q3⟩:∃p,iC 3=p:=⟨_,rfl⟩
 have m0:=pK 0
 have m1:=pK 1
 have m2:=pK 2
 have m3:=pK 3
 rw [q0] at m0
 rw [q1] at m1
 rw [q2] at m2
 rw [q3] at m3
 have hul4:u4.l=l:=by rw [←d2,Tp.s_l,←c2,Tp.s_l,←b2,Tp.s_l,←a2,Tp.s_l,hul]
 have hR:(C,z8 p0 p1 p2 p3 v0 v1 v2 v3++sM C l.length u4)=R:=by
  rw [←hR]
  unfold yh z8
  rw [a1,a2,b1,b2,c1,c2,d1,d2,q0,q1,q2,q3]
 clear a1 a2 b1 b2 c1 c2 d1 d2 q0 q1 q2 q3
 refine ao (fun i:Nat=>i≤4) (fun i=>cy [10,1000] [(4,.c (.ptr 10 0)),(5,.c (.sl fJ C)),(6,.c (.own 1000)),(7,.i i)] [(10,.box 115 (JY (MV u0 u1 u2 u3 u4 i))),(1000,.arr 119 (IV 2) ((z8 p0 p1 p2 p3 v0 v1 v2 v3).take i))]) (fun i=>4-i) 0 (Nat.zero_le _) (by exact ap (qf [])) ?_
 rintro i hi
 obtain rfl|rfl|rfl|rfl|rfl:i=0∨i=1∨i=2∨i=3∨i=4:=by omega
 ·repeat' (first
   | refine af ?_ ?_
   | (refine aa 8 rfl ?_;refine sx (ak rfl rfl (aI rfl rfl) (xP [⟨1,p0,Rq.zero,⟨#[]⟩,1+v0⟩] rfl rfl rfl) rfl aJ aJ) ?_)
   | (refine aa 9 rfl ?_;first
    | (refine cH (qf [(0,10)]) (n0) ?_)
    | (refine cB [] (m0) ?_))
   | refine en ?_
   | exact ah|refine ae fun hb=>?_)
  refine ⟨1,by decide,by decide,?_⟩
  exact ap (qf [(1000,25)])
 ·repeat' (first
   | refine af ?_ ?_
   | (refine aa 8 rfl ?_;refine sx (ak rfl rfl (aI rfl rfl) (xP [⟨1,p1,Rq.zero,⟨#[]⟩,1+v1⟩] rfl rfl rfl) rfl aJ aJ) ?_)
   | (refine aa 9 rfl ?_;first
    | (refine cH (qf [(0,10)]) (n1) ?_)
    | (refine cB [] (m1) ?_))
   | refine en ?_
   | exact ah|refine ae fun hb=>?_)
  refine ⟨2,by decide,by decide,?_⟩
  exact ap (qf [(1000,25)])
 ·repeat' (first
   | refine af ?_ ?_
   | (refine aa 8 rfl ?_;refine sx (ak rfl rfl (aI rfl rfl) (xP [⟨1,p2,Rq.zero,⟨#[]⟩,1+v2⟩] rfl rfl rfl) rfl aJ aJ) ?_)
   | (refine aa 9 rfl ?_;first
    | (refine cH (qf [(0,10)]) (n2) ?_)
    | (refine cB [] (m2) ?_))
   | refine en ?_
   | exact ah|refine ae fun hb=>?_)
  refine ⟨3,by decide,by decide,?_⟩
  exact ap (qf [(1000,25)])
 ·repeat' (first
   | refine af ?_ ?_
   | (refine aa 8 rfl ?_;refine sx (ak rfl rfl (aI rfl rfl) (xP [⟨1,p3,Rq.zero,⟨#[]⟩,1+v3⟩] rfl rfl rfl) rfl aJ aJ) ?_)
   | (refine aa 9 rfl ?_;first
    | (refine cH (qf [(0,10)]) (n3) ?_)
    | (refine cB [] (m3) ?_))
   | refine en ?_
   | exact ah|refine ae fun hb=>?_)
  refine ⟨4,by decide,by decide,?_⟩
  exact ap (qf [(1000,25)])
 ·rw [show MV u0 u1 u2 u3 u4 4=u4 from rfl,show (z8 p0 p1 p2 p3 v0 v1 v2 v3).take 4=z8 p0 p1 p2 p3 v0 v1 v2 v3 from rfl]
  have hol:(z8 p0 p1 p2 p3 v0 v1 v2 v3).length=4:=rfl
  generalize z8 p0 p1 p2 p3 v0 v1 v2 v3=O at *
  clear n0 n1 n2 n3 m0 m1 m2 m3
  repeat' (first
   | refine af ?_ ?_
   | refine en ?_
   | exact ah|refine ae fun hb=>?_)
  refine ao (fun y:Nat×Tp×List Cm=>TOk y.2.1∧y.2.1.l=l∧l.length≤y.1+y.2.1.at_∧y.2.2.length+y.1≤304∧(C,y.2.2++sM C y.1 y.2.1)=R) (fun y=>cy [10,1000] [(4,.c (.ptr 10 0)),(5,.c (.sl fJ C)),(6,.c (.own 1000))] [(10,.box 115 (JY y.2.1)),(1000,.arr 119 (IV 2) y.2.2)]) (fun y=>y.2.1.l.length-y.2.1.at_) (l.length,u4,O) ⟨t4,hul4,by dsimp only;omega,by dsimp only;omega,hR⟩ (by exact ap (qf [])) ?_
  clear hR hol O t4 hul4
  rintro ⟨n,u,acc⟩ ⟨hu,hul,hn,hal,hs⟩
  dsimp only at *
  have kM:=JZ u hu
  by_cases hlt:u.at_<u.l.length
  ·rw [decide_eq_true hlt] at kM
   obtain ⟨m,rfl⟩:∃m,n=m+1:=⟨n-1,by rw [hul] at hlt;omega⟩
   rw [sU,decide_eq_true hlt,cond_true] at hs
   obtain ⟨G,hG⟩:∃G,vY u C=G:=⟨_,rfl⟩
   have kG:=Lz u C hu (by omega) hcu hG
   have ha:=ER u C
   have hs1:=u.s_lt hlt
   rw [hG] at ha hs
   have hw:=hu.s.adv ha
   have hle:=ha.le
   have hl2:G.2.l=l:=by rw [ha.l,u.s_l,hul]
   repeat' (first
    | refine af ?_ ?_
    | (refine aa 8 rfl ?_;refine bc (ak rfl rfl (aI rfl rfl) (aO [G.1] rfl rfl rfl rfl) rfl aJ aJ) rfl rfl rfl ?_)
    | (refine aa 9 rfl ?_;first
     | (refine cH (qf [(0,10)]) (kM) ?_)
     | (refine cH (qf [(0,10)]) (kG) ?_))
    | refine en ?_
    | exact ah|refine ae fun hb=>?_)
   refine ⟨(m,G.2,acc++[G.1]),⟨hw,hl2,by dsimp only;omega,by simp;omega,?_⟩,by dsimp only;rw [hl2,hul];rw [hul] at hlt;omega,?_⟩
   ·dsimp only
    rw [←hs]
    simp
   ·exact ap (qf [(1000,33)])
  ·rw [decide_eq_false hlt] at kM
   have hm:sM C n u=[]:=by
    cases n with
    | zero=>rfl
    | succ n=>rw [sU,decide_eq_false hlt];rfl
   rw [hm,List.append_nil] at hs
   obtain rfl:R=(C,acc):=hs.symm
   repeat' (first
    | refine af ?_ ?_
    | refine aa 9 rfl (cH (qf [(0,10)]) (kM) ?_)
    | refine en ?_
    | exact ah|refine ae fun hb=>?_
    | (refine mu (qf []) ?_;exact ab))
end Go.Proofs.YtdaajdflefnjfaaGreat
