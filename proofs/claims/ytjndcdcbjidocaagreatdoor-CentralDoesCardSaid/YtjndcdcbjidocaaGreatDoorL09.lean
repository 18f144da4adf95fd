/- Part 9 of 33 of the proof of centralDoes_holds (no condition). -/
import Derived.Test.YtjndcdcbjidocaaGreatDoorL08
set_option linter.unusedVariables false
set_option linter.unusedSimpArgs false
set_option maxRecDepth 100000
set_option maxHeartbeats 64000000
namespace Go.Proofs.YtjndcdcbjidocaaGreatDoor
open Go.RowKit Go.Proofs.Tryz
section
variable {P:Program} {s:Mst} {o:Oper} {α:Type} {E:El α} {l:List α} {e':TypeId}
theorem lT {c:Ctx} {st:Mst} {ρ:Nat→Value} {a:Act} {w:World} {F:Nat→Prop} (hr:Rp c st ρ a w) {k:Nat} (hk:st.h k=some (.arr e' E l)) {v:Value} (hv:(D.ocut k).rep w F ρ v) :
  ∃A cap cp,v = .slice A l.length cp∧(l.length≤cp∧cp≤cap∧cap≤maxLen)∧ρ k = .slice A l.length cap∧(0<l.length→∃g,A=some ⟨g,0,none⟩):=by
 obtain ⟨A0,n0,cap0,c0,hρ0,hc0,rfl⟩:=hv;obtain ⟨A,cap,hA,hc,hp⟩:=eC (hr.hp k _ hk);have hA':=hA;rw [hρ0] at hA';injection hA' with e1 e2 e3;subst e1;subst e2;subst e3;exact ⟨A0,cap0,c0,rfl,⟨hc0.1,hc0.2,hc.2⟩,hρ0,fun h=>by obtain ⟨g,xs,rfl,_⟩:=hp h;exact ⟨g,rfl⟩⟩
theorem pD {t e:TypeId} {x y:Operand} {row:Bool} {n i k:Nat} {kd:IntKind} {z:Int} (ho:o.op = .indexAddr t x y) (hx:s.ev x = .c (.ocut k)) (hk:s.h k=some (.arr e' E l)) (hy:s.ev y = .c (.sc (.int kd z))) [SE P t e] [TI P e row n] (hn:E.n=n) (hz:z=(i:Int)) (hi:i<l.length) :
  LOp P o s [k] ⟨.c (.optr k n i 0),[],[]⟩ :=
 bp fun c st ρ a w hr h1 h2=>by
  have he:=h1 x (by simp [ho,Op.operands]);have he2:=h1 y (by simp [ho,Op.operands]);rw [hx] at he;rw [hy] at he2;have hv:=hr.ev x;rw [he] at hv;have hv2:=hr.ev y;rw [he2] at hv2;have hv2:a.eval y = .int kd z:=hv2;obtain ⟨A,cap,cp,hv,hc,hρ,hp⟩:=lT hr ((h2 k (by simp [aK])).trans hk) (show (D.ocut k).rep w (Fz c st.h ρ w) ρ (a.eval x) from hv);obtain ⟨g,rfl⟩:=hp (by omega);subst hz;subst hn;refine ⟨.pointer (some ⟨g,0+i*E.n,none⟩),by unfold execOp;rw [ho];simp only [hv,hv2,Sem.run_bind,iD w l.length cp i hi,Result.andThen_ok,Sem.run_pure],⟨g,_,_,hρ,by simp⟩,fun k' hk'=>hr.nf (x:=x) he (by simpa [TV.has,V0.has,D.has] using hk')⟩
theorem Bw {t e:TypeId} {x:Operand} {k:Nat} [SE P t e] (ho:o.op = .call { callee:=.builtin .len,args:=#[x],argTypes:=#[t] }) (hx:s.ev x = .c (.ocut k)) (hk:s.h k=some (.arr e' E l)):LOp P o s [k] ⟨.i l.length,[],[]⟩ :=
 ig (ty:=0) ho fun c st ρ a w hr he h2=>by
  have hv:=hr.ev x;rw [he,hx] at hv;obtain ⟨A,cap,cp,hv,_⟩:=lT hr ((h2 k (by simp [aK])).trans hk) (show (D.ocut k).rep w (Fz c st.h ρ w) ρ (a.eval x) from hv);exact ⟨A,cp,hv⟩
theorem Dg {t e:TypeId} {x y z:Operand} {row:Bool} {n i k:Nat} (ho:o.op = .slice t x none (some y) (some z)) (hx:s.ev x = .c (.ocut k)) (hk:s.h k=some (.arr e' E l)) (hy:s.ev y = .i i) (hz:s.ev z = .i i) [I:SE P t e] [J:TI P e row n] (hn:E.n=n) (hi:i≤l.length) (h0:0<l.length) :
  LOp P o s [k] ⟨.c (.osl k n 0 i true),[],[]⟩ :=
 bp fun c st ρ a w hr h1 h2=>by
  have he:=h1 x (by simp [ho,Op.operands]);rw [hx] at he;have hv:=hr.ev x;rw [he] at hv;have hv2:a.eval y = .int .i64 (i:Int):=by have:=hr.ev y;rwa [h1 y (by simp [ho,Op.operands]),hy] at this
  have hv3:a.eval z = .int .i64 (i:Int):=by have:=hr.ev z;rwa [h1 z (by simp [ho,Op.operands]),hz] at this
  obtain ⟨A,cap,cp,hv,hc,hρ,hp⟩:=lT hr ((h2 k (by simp [aK])).trans hk) (show (D.ocut k).rep w (Fz c st.h ρ w) ρ (a.eval x) from hv);obtain ⟨g,rfl⟩:=hp h0;obtain ⟨j,hj,hjn⟩:∃j,P.info? e=some j∧j.size=n:=by
   have:=J.s;cases h:P.info? e with
   | none=>simp [h] at this
   | some j=>exact ⟨j,rfl,by simpa [h] using this⟩
  subst hjn;refine ⟨.slice (some ⟨g,0,none⟩) i i,?_,⟨g,_,_,i,⟨g,0,none⟩,hρ,⟨Nat.zero_le _,hi,by omega,by omega⟩,fun _=>by omega,by simp,fun _=>by simp⟩,fun k' hk'=>hr.nf (x:=x) he (by simpa [TV.has,V0.has,D.has] using hk')⟩;unfold execOp;rw [ho];have h3:i≤cp:=by omega
  by_cases hi0:i=0
  ·subst hi0;simp [hv,hv2,hv3,Instr.sliceAt,Instr.slice,Instr.sliceBounds,Instr.sliceBound,asIntOf,run_underlying I.u,sizeOf,typeInfo,hj]
  ·simp [hv,hv2,hv3,Instr.sliceAt,Instr.slice,Instr.sliceBounds,Instr.sliceBound,asIntOf,run_underlying I.u,sizeOf,typeInfo,hj,h3,hi0,cZ]
theorem Dh {t e:TypeId} {x y:Operand} {row:Bool} {n j k:Nat} (ho:o.op = .slice t x (some y) none none) (hx:s.ev x = .c (.ocut k)) (hk:s.h k=some (.arr e' E l)) (hy:s.ev y = .i j) [I:SE P t e] [J:TI P e row n] (hn:E.n=n) (hj:j≤l.length) (h0:0<l.length) :
  LOp P o s [k] ⟨.c (.osl k n j l.length false),[],[]⟩ :=
 bp fun c st ρ a w hr h1 h2=>by
  have he:=h1 x (by simp [ho,Op.operands]);rw [hx] at he;have hv:=hr.ev x;rw [he] at hv;have hv2:a.eval y = .int .i64 (j:Int):=by have:=hr.ev y;rwa [h1 y (by simp [ho,Op.operands]),hy] at this
  obtain ⟨A,cap,cp,hv,hc,hρ,hp⟩:=lT hr ((h2 k (by simp [aK])).trans hk) (show (D.ocut k).rep w (Fz c st.h ρ w) ρ (a.eval x) from hv);obtain ⟨g,rfl⟩:=hp h0;obtain ⟨q,hq,hqn⟩:∃q,P.info? e=some q∧q.size=n:=by
   have:=J.s;cases h:P.info? e with
   | none=>simp [h] at this
   | some q=>exact ⟨q,rfl,by simpa [h] using this⟩
  subst hqn;have h3:j≤cp:=by omega
  refine ⟨.slice (some (if cp=j then ⟨g,0,none⟩ else ⟨g,j*q.size,none⟩)) (l.length-j) (cp-j),?_,⟨g,_,_,cp-j,_,hρ,⟨hj,Nat.le_refl _,by omega,by omega⟩,(fun h=>by cases h),rfl,fun h=>?_⟩,fun k' hk'=>hr.nf (x:=x) he (by simpa [TV.has,V0.has,D.has] using hk')⟩
  ·unfold execOp;rw [ho];by_cases hi0:cp=j
   ·simp [hv,hv2,Instr.sliceAt,Instr.slice,Instr.sliceBounds,Instr.sliceBound,asIntOf,run_underlying I.u,sizeOf,typeInfo,hq,hi0,hj,h3];try omega
   ·simp [hv,hv2,Instr.sliceAt,Instr.slice,Instr.sliceBounds,Instr.sliceBound,asIntOf,run_underlying I.u,sizeOf,typeInfo,hq,hi0,hj,h3,cZ,hc.1]
  ·rcases h with h|h
   ·subst h;simp
   ·rw [if_neg (by omega)]
theorem mR {t e:TypeId} {row:Bool} {n:Nat} {z:Int} {x y:Operand} {L L':List α} [I:SE P t e] [J:TI P e row n] (ho:o.op = .slice t x (some y) none none) (hx:s.ev x = .c (.sl E L)) (hn:E.n=n) (hy:s.ev y = .i z) (h0:0≤z) (h1:z.toNat≤L.length) (hL:L.drop z.toNat=L'):LOp P o s [] ⟨.c (.sl E L'),[],[]⟩ :=
 tA ho hx hn (.inl ⟨y,rfl,by rw [hy,Int.toNat_of_nonneg h0]⟩) (.inr ⟨rfl,rfl⟩) h1 (Nat.le_refl _) (by rw [List.take_length];exact hL)
theorem rf {t e:TypeId} {row:Bool} {n:Nat} {z:Int} {x y:Operand} {L L':List α} [I:SE P t e] [J:TI P e row n] (ho:o.op = .slice t x none (some y) none) (hx:s.ev x = .c (.sl E L)) (hn:E.n=n) (hy:s.ev y = .i z) (h0:0≤z) (h1:z.toNat≤L.length) (hL:L.take z.toNat=L'):LOp P o s [] ⟨.c (.sl E L'),[],[]⟩ :=
 tA ho hx hn (.inr ⟨rfl,rfl⟩) (.inl ⟨y,rfl,by rw [hy,Int.toNat_of_nonneg h0]⟩) (Nat.zero_le _) h1 (by rw [List.drop_zero];exact hL)
theorem wZ {t e:TypeId} {x y:Operand} {row:Bool} {n:Nat} {kd:IntKind} {z:Int} (ho:o.op = .indexAddr t x y) (hx:s.ev x = .c (.sl E l)) (hy:s.ev y = .c (.sc (.int kd z))) [SE P t e] [TI P e row n] (hn:E.n=n) (h0:0≤z) (hi:z.toNat<l.length):LOp P o s [] ⟨.c (.eptr E l z.toNat 0),[],[]⟩ :=
 tt ho hx hy hn (Int.toNat_of_nonneg h0).symm hi
theorem va {t e:TypeId} {x y:Operand} {row:Bool} {n k:Nat} {kd:IntKind} {z:Int} (ho:o.op = .indexAddr t x y) (hx:s.ev x = .c (.own k)) (hk:s.h k=some (.arr e' E l)) (hy:s.ev y = .c (.sc (.int kd z))) [SE P t e] [TI P e row n] (hn:E.n=n) (h0:0≤z) (hi:z.toNat<l.length):LOp P o s [k] ⟨.c (.optr k n z.toNat 0),[],[]⟩ :=
 pq ho hx hk hy hn (Int.toNat_of_nonneg h0).symm hi
theorem vb {t e:TypeId} {x y:Operand} {row:Bool} {n k:Nat} {kd:IntKind} {z:Int} (ho:o.op = .indexAddr t x y) (hx:s.ev x = .c (.ocut k)) (hk:s.h k=some (.arr e' E l)) (hy:s.ev y = .c (.sc (.int kd z))) [SE P t e] [TI P e row n] (hn:E.n=n) (h0:0≤z) (hi:z.toNat<l.length):LOp P o s [k] ⟨.c (.optr k n z.toNat 0),[],[]⟩ :=
 pD ho hx hk hy hn (Int.toNat_of_nonneg h0).symm hi
theorem yH {t e by_ n i j k k':Nat} {x y:Operand} {l':List α} [T:ST P E t e by_] (ho:o.op = .call { callee:=.builtin .append,args:=#[x,y],argTypes:=#[t,t] }) (hdk:o.dst=some k') (hx:s.ev x = .c (.osl k n 0 i true)) (hy:s.ev y = .c (.osl k n j l.length false)) (hk:s.h k=some (.arr e E l))
  (hn:E.n=n) (hi:i≤l.length) (hj:j≤l.length) (hl':l.take i++l.drop j=l') (hlen:i+(l.length-j)≤maxLen) (hby:(i+(l.length-j))*by_≤140737488355328):LOp P o s [k] ⟨.c (.ocut k'),[(k',some (.arr e E l')),(k,none)],[k']⟩:=by
 intro c st ρ a w hr h1 h2 h3 h4;subst hl';subst hn;have hfk:st.f k'=true:=h3 k' (by simp [aK]);have hk2:=(h2 k (by simp [aK])).trans hk;have hne:k'.beq k=false:=by
  cases h9:k'.beq k with
  | false=>rfl
  | true=>rw [←Nat.eq_of_beq_eq_true h9,hr.wf.h k' hfk] at hk2;cases hk2
 have hv1:=hr.ev x;rw [h1 x (by simp [ho,Op.operands,Call.operands]),hx] at hv1;obtain ⟨g,nn,cap,c1,A1,hρ1,⟨_,b2,b3,b4⟩,b5,hv1,b6⟩:=(show (D.osl k E.n 0 i true).rep w (Fz c st.h ρ w) ρ (a.eval x) from hv1);have hv2:=hr.ev y;rw [h1 y (by simp [ho,Op.operands,Call.operands]),hy] at hv2;obtain ⟨g2,nn2,cap2,c2,A2,hρ2,⟨d1,d2,d3,d4⟩,_,hv2,d6⟩:=(show (D.osl k E.n j l.length false).rep w (Fz c st.h ρ w) ρ (a.eval y) from hv2);rw [hρ1] at hρ2;injection hρ2 with e1 e2 e3;injection e1 with e1;injection e1 with e1;subst e1;subst e2;subst e3;obtain rfl:A1=⟨g,0,none⟩:=by have:=b6 (.inl rfl);simpa using this
 obtain rfl:c1=i:=by have:=b5 rfl;omega
 obtain ⟨xs,hown,hreps⟩:=hr.hp k _ hk2;have hxl:=hown.1;have hpos:=E.pos;obtain ⟨g3,cap3,cur,hq,_,hh,hnc,hcm,hcs,ht⟩:∃g' cap' cur,ρ k = .slice (some ⟨g',0,none⟩) l.length cap'∧0≤g'∧w.heap[g']? = some (.cells cur e (0,0))∧l.length≤cap'∧cap'≤maxLen∧cur.size=cap'*E.n∧cur.toList.take (l.length*E.n)=xs:=by
  rcases hown.2 with ⟨hv,_⟩|⟨g',cap',cur,hv,h0,hh,r⟩
  ·rw [hρ1] at hv;cases hv
  ·exact ⟨g',cap',cur,hv,h0,hh,r⟩
 rw [hρ1] at hq;injection hq with e1 e2 e3;injection e1 with e1;injection e1 with e1;subst e1;subst e2;subst e3;have hcell:∀q u,xs[q]? = some u→w.cell? ⟨g,q,none⟩=some u:=fun q u hu=>by
  rw [cell_of_row w g q cur e (0,0) hh,←Array.getElem?_toList];rw [←ht,List.getElem?_take] at hu;split at hu
  ·exact hu
  ·cases hu
 have hkb:kb (ρ k)=some g:=by rw [hρ1];rfl
 have key:∃v' vg w' zs,(execOp a.eval o).run P w = .ok (.value v') w'∧Below w.heap.size w w'∧w'.ownsRow 0 e E.n vg (l.take c1++l.drop j).length zs∧Reps E w (Fz c st.h ρ w) (l.take c1++l.drop j) zs∧(∃A n cap c,vg = .slice A n cap∧(n≤c∧c≤cap)∧v' = .slice A n c)∧∀g',kb vg=some g'→g'<w'.heap.size∧(w.heap.size≤g'∨g'=g):=by
  have hr1:Reps E w (Fz c st.h ρ w) (l.take c1) (xs.take (c1*E.n)):=hreps.take c1;have hr2:Reps E w (Fz c st.h ρ w) (l.drop j) (xs.drop (j*E.n)):=hreps.drop j;have hl1:(xs.take (c1*E.n)).length=c1*E.n:=by rw [List.length_take,hxl];exact Nat.min_eq_left (Nat.mul_le_mul_right _ hi)
  have hl2:(xs.drop (j*E.n)).length=(l.length-j)*E.n:=by rw [List.length_drop,hxl,Nat.sub_mul]
  have hlr:(l.take c1++l.drop j).length=c1+(l.length-j):=by simp [Nat.min_eq_left hi]
  obtain ⟨ti,z,hi1,hi2,hi3,hi4,hi5⟩:=T.T.info;have hexec:∀v' w',(Builtin.append_ #[t,t] o.type #[.slice (some ⟨g,0,none⟩) c1 c1,.slice (some A2) (l.length-j) c2]).run P w = .ok v' w'→(execOp a.eval o).run P w = .ok (.value v') w':=fun v' w' hrun=>by
   unfold execOp;simp only [ho,resolve,invoke,builtin,Sem.run_bind,Sem.run_pure,Result.andThen_ok,List.map_toArray,List.map_cons,List.map_nil,hv1,hv2,Nat.sub_zero,hrun]
  by_cases hm:l.length-j=0
  ·have hd:l.drop j=[]:=List.drop_eq_nil_of_le (by omega);have hrun:=run_append_room_cells (P:=P) w t o.type e ti T.T.under hi1 g 0 c1 c1 A2 0 c2 [] (by simp) (by simp) (by simp) (by omega) (by simp) (by simp);rw [hm] at hexec;refine ⟨_,.slice (some ⟨g,0,none⟩) c1 cap,w,xs.take (c1*E.n),hexec _ _ hrun,Below.refl _ _,⟨by rw [hlr,hm,hl1];rfl,.inr ⟨g,cap,cur,by rw [hlr,hm];rfl,Nat.zero_le _,hh,by rw [hlr,hm];omega,hcm,hcs,?_⟩⟩,by rw [hd,List.append_nil];exact hr1,⟨some ⟨g,0,none⟩,c1,cap,c1,rfl,⟨Nat.le_refl _,by omega⟩,rfl⟩,fun g' hg'=>?_⟩
   ·rw [hlr,hm,←ht,List.take_take,Nat.min_eq_left (Nat.mul_le_mul_right _ (by omega))];rfl
   ·injection hg' with hg';subst hg';exact ⟨(Array.getElem?_eq_some_iff.1 hh).1,.inr rfl⟩
  ·obtain rfl:A2=⟨g,j*E.n,none⟩:=d6 (.inr (by omega));obtain ⟨v',w',hrun,hown',hgr⟩:=run_append_arg_grows (P:=P) w t o.type e ti z E.n by_ T.T.under hi1 hi2 hi3 hi5 hi4 hpos ⟨g,0,none⟩ c1 c1 (xs.take (c1*E.n)) hl1 (fun q u hu=>by
    rw [cZ,Nat.zero_add];rw [List.getElem?_take] at hu;split at hu
    ·exact hcell q u hu
    ·cases hu) ⟨g,j*E.n,none⟩ (l.length-j) c2 (xs.drop (j*E.n)) hl2 (fun q u hu=>by
    rw [cZ];rw [List.getElem?_drop] at hu;exact hcell _ u hu) (by omega) hlen hby
   have hform:∃g' cap',v' = .slice (some ⟨g',0,none⟩) (c1+(l.length-j)) cap'∧w.heap.size≤g'∧g'<w'.heap.size∧c1+(l.length-j)≤cap':=by
    rcases hown'.2 with ⟨_,hz⟩|⟨g',cap',cur',hv,hb,hh',hnc',_⟩
    ·omega
    ·exact ⟨g',cap',hv,hb,(Array.getElem?_eq_some_iff.1 hh').1,hnc'⟩
   obtain ⟨g',cap',rfl,hb1,hb2,hb3⟩:=hform;refine ⟨_,_,w',_,hexec _ _ hrun,⟨hgr.os,hgr.tape,hgr.output,hgr.size,fun b hb=>hgr.block b hb (by simp)⟩,by rw [hlr];exact ⟨hown'.1,hown'.2.imp id fun ⟨a1,a2,a3,a4,_,a6⟩=>⟨a1,a2,a3,a4,Nat.zero_le _,a6⟩⟩,hr1.append hr2,⟨_,_,cap',cap',rfl,⟨hb3,Nat.le_refl _⟩,rfl⟩,fun q hq=>?_⟩;injection hq with hq;subst hq;exact ⟨hb2,.inl hb1⟩
 obtain ⟨v',vg,w',zs,hrun,hB,hown',hreps',⟨A',n',cap',c',hvg,hcc,hv'⟩,hg'⟩:=key;have hky:∀n,aA [(k',some (Box.arr e E (l.take c1++l.drop j))),(k,none)] n=true↔n=k'∨n=k:=fun n=>by
  simp only [aA,Bool.or_false,Bool.or_eq_true];constructor
  ·rintro (h|h)
   ·exact .inl (Nat.eq_of_beq_eq_true h).symm
   ·exact .inr (Nat.eq_of_beq_eq_true h).symm
  ·rintro (rfl|rfl)
   ·exact .inl (Nat.beq_refl _)
   ·exact .inr (Nat.beq_refl _)
 have hputk:hput [(k',some (Box.arr e E (l.take c1++l.drop j))),(k,none)] st.h k'=some (.arr e E (l.take c1++l.drop j)):=by simp [hput]
 have hputr:hput [(k',some (Box.arr e E (l.take c1++l.drop j))),(k,none)] st.h k=none:=by simp [hput,hne]
 have hsm:∀n bx,aA [(k',some (Box.arr e E (l.take c1++l.drop j))),(k,none)] n=true→hput [(k',some (Box.arr e E (l.take c1++l.drop j))),(k,none)] st.h n=some bx→n=k'∧bx = .arr e E (l.take c1++l.drop j):=fun n bx hn hb=>by
  rcases (hky n).1 hn with rfl|rfl
  ·rw [hputk] at hb;exact ⟨rfl,(Option.some.inj hb).symm⟩
  ·rw [hputr] at hb;cases hb
 have hFz:∀b,Fz c st.h ρ w b→Fz c (hput [(k',some (Box.arr e E (l.take c1++l.drop j))),(k,none)] st.h) (upd ρ k' vg) w' b∧w'.heap[b]? = w.heap[b]?:=fun b hb=>by
  refine ⟨⟨hb.1,Nat.lt_of_lt_of_le hb.2.1 hB.size,fun n bx hn he=>?_⟩,hB.block b hb.2.1⟩;cases h9:aA [(k',some (Box.arr e E (l.take c1++l.drop j))),(k,none)] n with
  | true =>
   obtain ⟨rfl,_⟩:=hsm n bx h9 hn;rw [aI] at he;rcases (hg' b he).2 with h|h
   ·have:=hb.2.1;omega
   ·subst h;exact hb.2.2 k _ hk2 hkb
  | false =>
   rw [bN h9] at hn;have hkn:k'.beq n=false:=by
    cases h8:k'.beq n with
    | false=>rfl
    | true=>rw [←Nat.eq_of_beq_eq_true h8,hr.wf.h k' hfk] at hn;cases hn
   rw [df hkn] at he;exact hb.2.2 n bx hn he
 refine Oper.wp_value hrun ⟨upd ρ k' vg,hr.app (e:=⟨.c (.ocut k'),[(k',some (.arr e E (l.take c1++l.drop j))),(k,none)],[k']⟩) h4 (fun n hn=>?_) (fun n hn=>df (by simpa [aK] using hn)) (fun n hn=>?_) (Frx.below hB) (fun n bx g' hn hb hg=>?_) (fun n n' b b' g' hn hn' hb hb' _ _=>?_) (fun n hn=>.inl ?_) (fun n n' bx hn hb hx2=>?_) (fun n bx hn hb=>?_) ?_⟩
 ·have:n=k':=by simp [aK] at hn;exact hn.symm
  subst this;exact ⟨hfk,(hky n).2 (.inl rfl)⟩
 ·rcases (hky n).1 hn with rfl|rfl
  ·exact .inl (by simp [aK])
  ·exact .inr (hr.nfh hk2)
 ·obtain ⟨rfl,_⟩:=hsm n bx hn hb;rw [aI] at hg;exact ⟨(hg' g' hg).1,(hg' g' hg).2.imp id fun h=>by subst h;exact ⟨k,_,(hky k).2 (.inr rfl),hk2,hkb⟩⟩
 ·rw [(hsm n b hn hb).1,(hsm n' b' hn' hb').1]
 ·have:n=k':=by simp [TV.has,V0.has,D.has] at hn;exact hn.symm
  subst this;simp [aK]
 ·rw [(hsm n' bx hn hb).2] at hx2;simp [Box.has] at hx2
 ·obtain ⟨rfl,rfl⟩:=hsm n bx hn hb;rw [aI];exact ⟨zs,hown',hreps'.same (fun b hb=>(hFz b hb).2) fun b hb=>(hFz b hb).1⟩
 ·exact ⟨A',n',cap',c',(aI ρ k' vg).trans hvg,hcc,hv'⟩
theorem Di {x y z:Operand} {b:Bool} {v:V0} (ho:o.op = .pick x y z) (hx:s.ev x = .b b) (hv:(bif b then s.ev y else s.ev z) = .v v):LOp P o s [] ⟨.v v,[],[]⟩ :=
 bp fun c st ρ a w hr h1 _=>by
  have he:=h1 x (by simp [ho,Op.operands]);rw [hx] at he;have hb:a.eval x = .bool b:=by have:=hr.ev x;rwa [he] at this
  cases b with
  | true =>
   have he2:=h1 y (by simp [ho,Op.operands]);rw [show s.ev y = .v v from hv] at he2;exact ⟨a.eval y,by unfold execOp;rw [ho];simp [hb,asBool],by have:=hr.ev y;rwa [he2] at this,fun k hk=>hr.nf he2 hk⟩
  | false =>
   have he2:=h1 z (by simp [ho,Op.operands]);rw [show s.ev z = .v v from hv] at he2;exact ⟨a.eval z,by unfold execOp;rw [ho];simp [hb,asBool],by have:=hr.ev z;rwa [he2] at this,fun k hk=>hr.nf he2 hk⟩
theorem f9 {t e k n by_:Nat} {x y:Operand} {z:Value} {y0:α} (I:P.underlying t=some (.slice e)) (hI:(P.info? e).map (fun i=>(i.zero,i.size,i.bytes))=some (some z,1,by_)) (hz:z.cells = #[z]) (hb:by_≤64) (hE:E.n=1) (hy0:∀w S,E.rep w S y0 [z])
  (ho:o.op = .makeSlice t x y) (hdk:o.dst=some k) (hx:s.ev x = .i n) (hy:s.ev y = .i n) (hn:n≤1000000):LOp P o s [] ⟨.c (.own k),[(k,some (.arr e E (List.replicate n y0)))],[k]⟩:=by
 intro c st ρ a w hr h1 h2 h3 h4;have hv1:a.eval x = .int .i64 (n:Int):=by have:=hr.ev x;rwa [h1 x (by simp [ho,Op.operands]),hx] at this
 have hv2:a.eval y = .int .i64 (n:Int):=by have:=hr.ev y;rwa [h1 y (by simp [ho,Op.operands]),hy] at this
 have hfk:st.f k=true:=h3 k (by simp [aK]);have hrun:=If (P:=P) t e z by_ I hI hz hb n hn w;have ho1:=World.ownsRow_lit (e:=e) (size:=E.n) (base:=0) w (madeCells #[z] n) n (Nat.zero_le _) (by simp only [maxLen];omega) (by rw [size_madeCells,hE,Nat.mul_one]);rw [toList_madeCells_one] at ho1;have hgen:∀(S:Nat→Prop) (q:Nat),Reps E (w.alloc (.cells (madeCells #[z] n) e)) S (List.replicate q y0) (List.replicate q z):=by
  intro S q;induction q with
  | zero=>rfl
  | succ q ih=>exact ⟨[z],List.replicate q z,rfl,hy0 _ _,ih⟩
 have hkk:∀k':Nat,aA [(k,some (Box.arr e E (List.replicate n y0)))] k'=true→k'=k:=fun k' h=>by
  simp only [aA,Bool.or_false] at h;exact (Nat.eq_of_beq_eq_true h).symm
 refine Oper.wp_value (v:=.slice (some ⟨w.heap.size,0,none⟩) n n) (w':=w.alloc (.cells (madeCells #[z] n) e)) ?_ ⟨upd ρ k (.slice (some ⟨w.heap.size,0,none⟩) n n),hr.app (e:=⟨.c (.own k),[(k,some (.arr e E (List.replicate n y0)))],[k]⟩) h4 (fun k' h=>?_) (fun k' h=>?_) (fun k' h=>.inl ?_) (Frx.alloc _ _ _) (fun k' bx g' h _ hg'=>?_) (fun k1 k2 _ _ _ h h' _ _ _ _=>?_) (fun k' h=>.inl ?_) (fun k1 k2 bx h hp hx=>?_) (fun k2 bx h hp=>?_) ?_⟩
 ·unfold execOp;rw [ho];simp only [hv1,hv2,Sem.run_bind,hrun,Result.andThen_ok,Sem.run_pure]
 ·have:k'=k:=by simp [aK] at h;exact h.symm
  subst this;exact ⟨hfk,by simp [aA]⟩
 ·exact df (by simpa [aK] using h)
 ·rw [hkk k' h];simp [aK]
 ·rw [hkk k' h,aI] at hg';injection hg' with hg';subst hg';exact ⟨by simp,.inl (Nat.le_refl _)⟩
 ·rw [hkk k1 h,hkk k2 h']
 ·have:k'=k:=by simp [TV.has,V0.has,D.has] at h;exact h.symm
  subst this;simp [aK]
 ·rw [hkk k2 h] at hp;simp only [hput,Nat.beq_refl,cond_true,Option.some.injEq] at hp;subst hp;simp [Box.has] at hx
 ·rw [hkk k2 h] at hp ⊢;simp only [hput,Nat.beq_refl,cond_true,Option.some.injEq] at hp;subst hp;rw [aI];exact ⟨List.replicate n z,by rw [List.length_replicate];exact ho1,hgen _ n⟩
 ·exact (aI _ _ _).symm
end
def LC:Op→Nat
 | .move _=>1
 | .assign _=>2
 | .load ..=>3
 | .store ..=>4
 | .fieldAddr ..=>5
 | .indexAddr ..=>6
 | .call c=>match c.callee with
  | .builtin .len=>7
  | .builtin .append=>8
  | _=>9
 | .binOp ..=>10
 | .unOp ..=>11
 | .build ..=>12
 | .buildSlice ..=>13
 | .slice ..=>14
 | .extract ..=>15
 | .field ..=>16
 | .alloc _=>17
 | .box ..=>18
 | .pick ..=>19
 | .makeSlice ..=>20
 | .nilCheck _=>21
 | .makeMap ..=>22
 | .lookup ..=>23
 | .mapUpdate ..=>24
 | .range ..=>25
 | .next ..=>26
 | .entry ..=>27
 | _=>0
section
variable {P:Program} {nt:Nat} {Ks:List Nat} {Q:Exit→Mst→Prop} {s:Mst} {K:Mst→Prop} {ops:Array Oper} {draw:Bool} {o:Oper} {l:List Oper} {acc:List (List Nat×List Nat)} {x:Code}
theorem JD {l:List Oper} (h:DA P ops draw l acc s K):DA P ops draw l acc s K:=h
theorem Dj (h:AW P nt Ks x Q s):AW P nt Ks x Q s:=h
theorem xa {t:Nat} {b:Bool} (h:s.t t = .b b):s.app (some t) ⟨.b b,[],[]⟩=s:=by
 cases s with
 | mk st sh sf =>
  simp only [Mst.app,hput,aK,Bool.not_false,Bool.and_true,Mst.mk.injEq,and_true];funext n
  simp only [jZ];cases hn:t.beq n with
  | false=>rfl
  | true=>rw [←Nat.eq_of_beq_eq_true hn];exact h.symm
theorem Dk {j t:Nat} {want b:Bool} (hg:o.guard=some (j,want)) (hj:(ops[j]?).bind (·.dst)=some t) (ht:s.t t = .b b) (h1:b=true→DA P ops draw (o :: l) acc (s.app (some t) ⟨.b true,[],[]⟩) K) (h2:b=false→DA P ops draw (o :: l) acc (s.app (some t) ⟨.b false,[],[]⟩) K):DA P ops draw (o :: l) acc s K:=by
 cases b with
 | true=>have:=h1 rfl;rwa [xa ht] at this
 | false=>have:=h2 rfl;rwa [xa ht] at this
theorem aa (n:Nat) (_:LC o.op=n) (h:DA P ops draw (o :: l) acc s K):DA P ops draw (o :: l) acc s K:=h
end
inductive NR:D→D→Prop
 | same (d:D):NR d d
 | nil {α:Type} {E:El α}:NR (.sc (.slice none 0 0)) (.sl E [])
theorem NR.rep {w:World} {F:Nat→Prop} {ρ:Nat→Value} {d0 d:D} {v:Value} (h:NR d0 d) (hv:d0.rep w F ρ v):d.rep w F ρ v:=by
 cases h with
 | same=>exact hv
 | nil=>exact ⟨none,0,hv,by simp [maxLen],RowsAt.nil _ _ _ _⟩
theorem NR.reps {w:World} {F:Nat→Prop} {ρ:Nat→Value}:∀{l0 l:List D} {vs:List Value},All2 NR l0 l→All2 (D.rep w F ρ) l0 vs→All2 (D.rep w F ρ) l vs
 | [],[],[],_,_=>trivial
 | _ :: _,_ :: _,_ :: _,h,k=>⟨h.1.rep k.1,NR.reps h.2 k.2⟩
 | [],_ :: _,_,h,_=>h.elim
 | _ :: _,[],_,h,_=>h.elim
 | [],[],_ :: _,_,k=>k.elim
 | _ :: _,_ :: _,[],_,k=>k.elim
section
variable {P:Program} {o:Oper} {s:Mst}
theorem jG {t e:TypeId} {x y:Operand} {row:Bool} {n m i k off:Nat} {α:Type} {E:El α} {l l':List α} {u z:α} {ds:List D} [I:TI P t row n] [J:Dp E] (ho:o.op = .store t x y) (hx:s.ev x = .c (.optr k m i off)) (hk:s.h k=some (.arr e E l)) (hm:E.n=m) (hu:l[i]? = some u)
  (hd:(s.ev y).cells=some ds) (hok:ds.all (okD s.h)=true) (hno:gG ds=[]) (hn:ds.length=n) (hl:off+n≤m) (hz:All2 NR ((J.deep u).take off++ds++(J.deep u).drop (off+n)) (J.deep z)) (hl':l.set i z=l'):LOp P o s [k] ⟨.c .any,[(k,some (.arr e E l'))],[]⟩:=by
 intro c st ρ a w hr h1 h2 _ h4;subst hl';subst hm;have he:=h1 x (by simp [ho,Op.operands]);have he2:=h1 y (by simp [ho,Op.operands]);rw [hx] at he;rw [←he2] at hd;have hv:=hr.ev x;rw [he] at hv;obtain ⟨g,len,cap,hg,hv⟩:=hv;have hk':=(h2 k (by simp [aK])).trans hk;have hil:i<l.length:=(List.getElem?_eq_some_iff.1 hu).1;have hui:l[i]=u:=by rw [List.getElem?_eq_getElem hil] at hu;exact Option.some.inj hu
 obtain ⟨xs,hown,hreps⟩:=hr.hp k _ hk';have hown0:=hown;rw [hg] at hown;obtain rfl:len=l.length:=by
  rcases hown.2 with ⟨hv,_⟩|⟨g',cap',cur,hv,_⟩
  ·cases hv
  ·injection hv
 obtain ⟨hc1,hc2⟩:=TV.cells_rep (hr.ev y) hd fun q hq u hu=>hr.okD (gZ (List.all_eq_true.1 hok q hq) fun j hj=>by have:=fv (hj▸hq);rw [hno] at this;simp [aK] at this) hu;generalize hvs:(a.eval y).cells.toList=vs at *
 have hsz:vs.length=n:=by rw [←hc1.length,hn]
 have hxl:=hown.1;have hin:i*E.n+E.n≤l.length*E.n:=by have:=Nat.mul_le_mul_right E.n (show i+1≤l.length from hil);rwa [Nat.add_mul,Nat.one_mul] at this
 have hst:=run_storeCells_cells (P:=P) g (i*E.n+off) vs 0 w (fun j hj=>by have:=(fE hown (j:=i*E.n+off+j) (by omega)).1;simpa using this) (fun j hj=>by have:=(fE hown (j:=i*E.n+off+j) (by omega)).2;simpa using this) hc2;simp only [Nat.add_zero] at hst;obtain ⟨cs,hcs1,hcs2⟩:=hreps.get i hil;have hcl:=E.len hcs1;rw [hui] at hcs1;have hcs:cs=(xs.drop (i*E.n)).take E.n:=by
  apply List.ext_getElem?
  intro j;rw [List.getElem?_take];by_cases hj:j<E.n
  ·rw [if_pos hj,List.getElem?_drop,hcs2 j hj]
  ·rw [if_neg hj,List.getElem?_eq_none (by omega)]
 have hz':E.rep w (Fz c st.h ρ w) z (cs.take off++vs++cs.drop (off+n)):=J.put (ρ:=ρ) (NR.reps hz ((((J.get hcs1).take off).append hc1).append ((J.get hcs1).drop (off+n))));have hrow:=fp vs (i*E.n+off) w xs hown (by omega);rw [qM (n:=E.n) (by omega) hcs (by omega),hsz] at hrow;have hkb:kb (ρ k)=some g:=by rw [hg];rfl
 have hsize:=bO (g:=g) vs (i*E.n+off) w;have hoth:∀b,b≠g→(w.setCells g (i*E.n+off) vs).heap[b]? = w.heap[b]?:=fun b hb=>bM vs _ w b hb;have hbel:=de (B:=0) (w:=w) (Nat.zero_le g) vs (i*E.n+off) w (Below.refl _ _);have hkk:∀k':Nat,aA [(k,some (Box.arr e E (l.set i z)))] k'=true→k'=k:=fun k' h=>by
  simp only [aA,Bool.or_false] at h;exact (Nat.eq_of_beq_eq_true h).symm
 have hfz:∀b,Fz c st.h ρ w b→Fz c (hput [(k,some (Box.arr e E (l.set i z)))] st.h) ρ (w.setCells g (i*E.n+off) vs) b∧(w.setCells g (i*E.n+off) vs).heap[b]? = w.heap[b]?:=fun b ⟨f1,f2,f3⟩=>by
  have hbg:b≠g:=fun e=>f3 k _ hk' (by rw [hkb,e]);refine ⟨⟨f1,by rw [hsize];exact f2,fun k' bx hk2=>?_⟩,hoth b hbg⟩;simp only [hput] at hk2;cases h9:k.beq k' with
  | true=>rw [←Nat.eq_of_beq_eq_true h9,hkb];intro e;injection e with e;exact hbg e.symm
  | false=>rw [h9] at hk2;exact f3 k' bx hk2
 refine Oper.wp_skip (w':=w.setCells g (i*E.n+off) vs) ?_ ⟨ρ,hr.app (e:=⟨.c .any,[(k,some (.arr e E (l.set i z)))],[]⟩) h4 (fun k h=>by simp [aK] at h) (fun _ _=>rfl) (fun k' h=>.inr (by rw [hkk k' h];exact hr.nfh hk')) ⟨hbel.os,hbel.tape,hbel.output,hbel.size,fun b hlt hn=>hoth b fun e=>hn ⟨k,_,by simp [aA],hk',by rw [hkb,e]⟩⟩ ?_ ?_ (fun k h=>by simp [TV.has,V0.has,D.has] at h) ?_ ?_ trivial⟩
 ·unfold execOp;rw [ho];have hi:=I.s;cases hq:P.info? t with
  | none=>simp [hq] at hi
  | some ti =>
   have hs:(a.eval y).cells.size=ti.size:=by
    simp [hq] at hi;rw [←Array.length_toList,hvs];omega
   simp only [hv,Instr.storeAt,Instr.sureAddr,Sem.run_bind,Sem.run_pure,Result.andThen_ok];have h3:(storeVar t ⟨g,i*E.n+off,none⟩ (a.eval y)).run P w = .ok () (w.setCells g (i*E.n+off) vs):=by
    simp [storeVar,sizeOf,typeInfo,hq,hs,hvs,hst]
   rw [h3];rfl
 ·intro k' bx g' h _ hg';rw [hkk k' h,hkb] at hg';injection hg' with hg';subst hg';exact ⟨by rw [hsize];exact hr.ltb hk' hkb,.inr ⟨k,_,by simp [aA],hk',hkb⟩⟩
 ·intro k1 k2 _ _ _ h h' _ _ _ _;rw [hkk k1 h,hkk k2 h']
 ·intro k1 k2 bx h hp hx;rw [hkk k2 h] at hp;simp only [hput,Nat.beq_refl,cond_true,Option.some.injEq] at hp;subst hp;simp [Box.has] at hx
 ·intro k2 bx h hp;rw [hkk k2 h] at hp ⊢;simp only [hput,Nat.beq_refl,cond_true,Option.some.injEq] at hp;subst hp;refine ⟨_,by rw [List.length_set,hg];exact hrow,?_⟩;exact (Reps.set hreps hz' hil).same (fun b hb=>(hfz b hb).2) fun b hb=>(hfz b hb).1
end
theorem All2.setAt {α:Type _} {β:Type _} {R:α→β→Prop}:∀{l:List α} {m:List β} {i:Nat} {x y:α},All2 R l m→l[i]? = some y→(∀u,R y u→R x u)→All2 R (l.set i x) m
 | [],_,_,_,_,_,h,_=>by simp at h
 | _ :: _,[],_,_,_,h,_,_=>h.elim
 | a :: l,b :: m,0,x,y,h,hi,hr=>by
  simp at hi;subst hi;exact ⟨hr b h.1,h.2⟩
 | a :: l,b :: m,i+1,x,y,h,hi,hr=>⟨h.1,All2.setAt (i:=i) h.2 (by simpa using hi) hr⟩
section
variable {P:Program} {nt:Nat} {Ks:List Nat} {Q:Exit→Mst→Prop} {s:Mst}
theorem lU {x:Code} {α:Type} {ty:TypeId} {cs new:List D} (k0 off k:Nat) (e:TypeId) (E:El α) (h0:s.h k0=some (.box ty cs)) (hc0:cs[off]? = some (.sc (.slice none 0 0))) (hf:s.f k=true) (hn:cs.set off (.own k)=new)
  (h:AW P nt Ks x Q ((s.app none ⟨.c .any,[(k,some (.arr e E []))],[k]⟩).app none ⟨.c .any,[(k0,some (.box ty new))],[]⟩)):AW P nt Ks x Q s:=by
 intro c ρ a w hc hK hr;subst hn;have hkk:∀k':Nat,aA [(k,some (Box.arr e E ([]:List α)))] k'=true→k'=k:=fun k' h=>by
  simp only [aA,Bool.or_false] at h;exact (Nat.eq_of_beq_eq_true h).symm
 have h2:=hr.app (ρ':=upd ρ k (.slice none 0 0)) (w':=w) (dst:=none) (v:=undef) (e:=⟨.c .any,[(k,some (.arr e E []))],[k]⟩) (fun d hd=>by cases hd)
  (fun k' hk=>by have h9:k'=k:=(by simp [aK] at hk;exact hk.symm);subst h9;exact ⟨hf,by simp [aA]⟩)
  (fun k' hk=>df (by simpa [aK] using hk)) (fun k' hk=>.inl (by rw [hkk k' hk];simp [aK])) (Frx.refl _ _)
  (fun k' bx g hk _ hg=>by rw [hkk k' hk,aI] at hg;cases hg) (fun k1 k2 b b' g h1 h2 _ _ _ _=>by rw [hkk k1 h1,hkk k2 h2]) (fun k' hk=>by simp [TV.has,V0.has,D.has] at hk) (fun k1 k2 bx hk hb hx=>by
   rw [hkk k2 hk] at hb;simp only [Go.Proofs.YtjndcdcbjidocaaGreatDoor.hput,Nat.beq_refl,cond_true,Option.some.injEq] at hb;subst hb;simp [Box.has] at hx)
  (fun k' bx hk hb=>by
   rw [hkk k' hk] at hb ⊢;simp only [Go.Proofs.YtjndcdcbjidocaaGreatDoor.hput,Nat.beq_refl,cond_true,Option.some.injEq] at hb;subst hb;rw [aI];exact ⟨[],World.ownsRow_nil _ _ _ _,rfl⟩)
  trivial
 have hne:k.beq k0=false:=by
  cases h9:k.beq k0 with
  | false=>rfl
  | true=>rw [←Nat.eq_of_beq_eq_true h9,hr.wf.h k hf] at h0;cases h0
 have h0':(s.app none ⟨.c .any,[(k,some (.arr e E []))],[k]⟩).h k0=some (.box ty cs):=by
  show hput _ _ _=_;simp only [Go.Proofs.YtjndcdcbjidocaaGreatDoor.hput,hne,cond_false];exact h0
 obtain ⟨g,vs,hg,hB,hA,h1⟩:=h2.hp k0 _ h0';refine h c _ a w hc hK (h2.setBox (dst:=none) (v:=undef) (fun d hd=>by cases hd) h0' hg ⟨rfl,rfl,rfl,Nat.le_refl _,fun _ _ _=>rfl⟩ hB (hA.setAt hc0 fun u hu=>?_) h1 fun k' hh=>?_)
 ·show u=upd ρ k (.slice none 0 0) k;rw [aI];exact hu
 ·obtain ⟨d,hd,hd2⟩:=List.any_eq_true.1 hh;rcases List.mem_or_eq_of_mem_set hd with hd|rfl
  ·exact h2.nfb h0' (by simp only [Box.has];exact List.any_eq_true.2 ⟨d,hd,hd2⟩)
  ·simp only [D.has] at hd2;have:k=k':=Nat.eq_of_beq_eq_true hd2;subst this;simp [Mst.app,aK]
end
section
variable {P:Program} {nt:Nat} {Ks:List Nat} {Q:Exit→Mst→Prop} {s:Mst} {K:Mst→Prop} {ops:Array Oper} {draw:Bool} {o:Oper} {l:List Oper} {acc:List (List Nat×List Nat)} {x:Code} {R us:List Nat} {e:Mef} {t:Nat} {d:TV} {hs:List (Nat×Option Box)}
structure LO (P:Program) (o:Oper) (s:Mst) (R:List Nat) (e:Mef):Prop where
 h:LOp P o s R e
theorem lk (n:Nat) (_:LC o.op=n) (h:LOp P o s R e):LO P o s R e:=⟨h⟩
theorem LR (he:LO P o s R ⟨d,hs,us⟩:=by first|(apply lk 1 rfl;first|exact CO rfl rfl|exact yp rfl rfl)|(apply lk 2 rfl;exact yo rfl rfl)|(apply lk 3 rfl;first|exact CQ rfl rfl rfl rfl|exact uO rfl rfl rfl rfl (Nat.le_of_ble_eq_true rfl)|exact yq rfl rfl (by first|assumption|exact List.getElem?_eq_getElem (by omega)) rfl|exact qH rfl rfl (by first|assumption|exact List.getElem?_eq_getElem (by omega)) rfl (Nat.le_of_ble_eq_true rfl)|exact yr rfl rfl rfl rfl (by first|assumption|exact List.getElem?_eq_getElem (by omega)) rfl|exact qI rfl rfl rfl rfl (by first|assumption|exact List.getElem?_eq_getElem (by omega)) rfl (Nat.le_of_ble_eq_true rfl))|(apply lk 5 rfl;first|exact A8 rfl rfl|exact wm rfl rfl|exact wn rfl rfl)|(apply lk 6 rfl;first|exact pD rfl rfl rfl rfl rfl rfl (by omega)|exact tt rfl rfl rfl rfl rfl (by omega)|exact pq rfl rfl rfl rfl rfl rfl (by omega)|exact wZ rfl rfl rfl rfl (by omega) (by first|omega|(simp <;> omega))|exact va rfl rfl rfl rfl rfl (by omega) (by first|omega|(simp <;> omega))|exact vb rfl rfl rfl rfl rfl (by omega) (by first|omega|(simp <;> omega)))|(apply lk 7 rfl;first|exact Bw rfl rfl rfl|exact FG rfl rfl|exact Bd rfl rfl rfl|exact Be rfl rfl)|(apply lk 8 rfl;first|exact ak rfl rfl (aB rfl rfl) (qN rfl) rfl aL aL|exact ak rfl rfl (aB rfl rfl) (uS rfl rfl) rfl aL aL|exact ak rfl rfl (aB rfl rfl) (qO rfl) rfl aL aL|exact ak rfl rfl (uT rfl rfl) (qN rfl) (List.nil_append _) aL aL|exact ak rfl rfl (uT rfl rfl) (uS rfl rfl) (List.nil_append _) aL aL|exact ak rfl rfl (uT rfl rfl) (qO rfl) (List.nil_append _) aL aL|exact ak rfl rfl (p6 rfl) (qN rfl) (List.nil_append _) aL aL|exact ak rfl rfl (p6 rfl) (uS rfl rfl) (List.nil_append _) aL aL|exact ak rfl rfl (p6 rfl) (qO rfl) (List.nil_append _) aL aL)|(apply lk 10 rfl;first|exact Fv rfl rfl rfl (IntWalk.i64_in _ (by omega))|exact Fw rfl rfl rfl (IntWalk.i64_in _ (by omega))|exact Ia rfl rfl rfl|exact Ib rfl rfl rfl|exact Ic rfl rfl rfl|exact Ie rfl rfl rfl|exact H8 rfl rfl rfl|exact H9 rfl rfl rfl|exact Fy rfl rfl rfl|exact FA rfl rfl rfl|exact FB rfl rfl rfl|exact FC rfl rfl rfl|exact FE rfl rfl rfl rfl rfl rfl rfl (by first|exact G8 _ _|exact tB _ _|exact tB _ ⟨0,0⟩|exact tB ⟨0,0⟩ _|exact eq_tm _ _|exact eq_tm _ iB)|exact FF rfl rfl rfl rfl rfl rfl rfl (by first|exact congrArg _ (G8 _ _)|exact congrArg _ (tB _ _)|exact congrArg _ (tB _ ⟨0,0⟩)|exact congrArg _ (tB ⟨0,0⟩ _)|exact congrArg _ (eq_tm _ _)|exact congrArg _ (eq_tm _ iB)))|(apply lk 11 rfl;exact FD rfl rfl)|(apply lk 12 rfl;exact Bi rfl rfl rfl)|(apply lk 13 rfl;exact qS rfl rfl rfl (by decide) rfl)|(apply lk 14 rfl;first|exact mR rfl rfl rfl rfl (by omega) (by first|omega|(simp <;> omega)) rfl|exact rf rfl rfl rfl rfl (by omega) (by first|omega|(simp <;> omega)) rfl)|(apply lk 15 rfl;exact pt rfl rfl rfl)|(apply lk 16 rfl;first|exact Bf rfl rfl rfl|exact sL rfl rfl rfl)|(apply lk 17 rfl;exact Ba rfl rfl rfl)|(apply lk 18 rfl;exact FL rfl rfl rfl rfl)|(apply lk 19 rfl;exact Di rfl rfl rfl)|(apply lk 21 rfl;exact aO rfl rfl)) (hd:o.dst=some t:=by rfl) (hg:s.gd ops o=some true:=by rfl) (hf:us.all s.f=true:=by rfl):DA P ops draw l ((R,av hs) :: acc) (s.app (some t) ⟨d,hs,us⟩) K→DA P ops draw (o :: l) acc s K:=fun h=>aV he.h hd hg hf h
theorem KT (he:LO P o s R ⟨d,hs,us⟩:=by (apply lk 4 rfl;exact A9 rfl rfl rfl rfl rfl (Nat.le_of_ble_eq_true rfl) rfl rfl)) (hd:o.dst=none:=by rfl) (hg:s.gd ops o=some true:=by rfl) (hf:us.all s.f=true:=by rfl):DA P ops draw l ((R,av hs) :: acc) (s.app none ⟨d,hs,us⟩) K→DA P ops draw (o :: l) acc s K:=fun h=>aR he.h hd hg hf h
theorem sx (he:LOp P o s R ⟨d,hs,us⟩) (h:DA P ops draw l ((R,av hs) :: acc) (s.app (some t) ⟨d,hs,us⟩) K) (hd:o.dst=some t:=by rfl) (hg:s.gd ops o=some true:=by rfl) (hf:us.all s.f=true:=by rfl):DA P ops draw (o :: l) acc s K:=aV he hd hg hf h
theorem KU (he:LOp P o s R ⟨d,hs,us⟩) (h:DA P ops draw l ((R,av hs) :: acc) (s.app none ⟨d,hs,us⟩) K) (hd:o.dst=none:=by rfl) (hg:s.gd ops o=some true:=by rfl) (hf:us.all s.f=true:=by rfl):DA P ops draw (o :: l) acc s K:=aR he hd hg hf h
structure HbI (p q:Prop):Prop where
 h:p→q
def KA (_:Bool):Prop:=True
theorem KV:KA true:=trivial
theorem KX:KA false:=trivial
theorem Ir {j t:Nat} {want b:Bool} (h1:HbI (b=true) (DA P ops draw (o :: l) acc (s.app (some t) ⟨.b true,[],[]⟩) K)) (h2:HbI (b=false) (DA P ops draw (o :: l) acc (s.app (some t) ⟨.b false,[],[]⟩) K)) (hg:o.guard=some (j,want):=by rfl) (hj:(ops[j]?).bind (·.dst)=some t:=by rfl) (ht:s.t t = .b b:=by rfl) (_:KA b:=by (fail_if_success (with_reducible exact KV));(fail_if_success (with_reducible exact KX));exact trivial):DA P ops draw (o :: l) acc s K:=Dk hg hj ht h1.h h2.h
theorem Is {x:Operand} {u e:Code} {b:Bool} (h1:HbI (b=true) (AW P nt Ks u Q s)) (h2:HbI (b=false) (AW P nt Ks e Q s)) (hx:s.ev x = .b b:=by rfl):AW P nt Ks (.cond x u e) Q s:=Fs hx h1.h h2.h
theorem LS {p q:Prop} (h:p→False:=by intro hb;first|(cases hb;done)|((try simp only [decide_eq_true_eq,decide_eq_false_iff_not,Bool.not_eq_true',Bool.not_eq_false',beq_iff_eq,bne_iff_ne,beq_eq_false_iff_ne,bne_eq_false_iff_eq,ne_eq,Decidable.not_not] at hb);first|contradiction|exact Bool.noConfusion (hb.symm.trans (by assumption):false=true)|exact Bool.noConfusion (hb.symm.trans (by assumption):true=false)|omega)):HbI p q:=⟨fun hp=>(h hp).elim⟩
theorem ab {p r q:Prop} (h:r→q) (hq:p→r:=by intro hb;(try simp only [decide_eq_true_eq,decide_eq_false_iff_not,Bool.not_eq_true',Bool.not_eq_false',beq_iff_eq,bne_iff_ne,beq_eq_false_iff_ne,bne_eq_false_iff_eq,ne_eq,Decidable.not_not] at hb);exact hb):HbI p q:=⟨fun hp=>h (hq hp)⟩
def Dl (ops:Array Oper) (fps:List (List Nat×List Nat)) (listed:Array Bool) (k:Nat):Bool :=
 match ops[k]? with
 | none=>false
 | some o=>(List.range ops.size).all fun j=>j == k || listed.getD j true || ((match ops[j]? with|none=>true|some o'=>o.apart ops o' && Jn (mJ fps k) (mJ fps j)) || Fl ops 6 k j)
theorem Dm (ops:Array Oper) (fps:List (List Nat×List Nat)) (listed:Array Bool) (k:Nat):Dl ops fps listed k=uJ ops fps listed k:=by
 unfold Dl uJ;cases ops[k]? with
 | none=>rfl
 | some o =>
  dsimp only;congr 1
  funext j
  rw [Bool.or_comm _ (Fl ops 6 k j),Bool.or_assoc (j == k || listed.getD j true)];cases ops[j]? <;> rfl
def FV (ops:Array Oper) (fps:List (List Nat×List Nat)):Nat→Nat→Array Bool→Bool
 | 0,_,listed=>(Region.ready .any ops listed).isEmpty
 | fuel+1,k,listed=>(Region.ready .any ops listed).contains k && Dl ops fps listed k && FV ops fps fuel (k+1) (listed.setIfInBounds k true)
theorem zM {ops:Array Oper} {fps:List (List Nat×List Nat)}:∀{n k:Nat} {listed:Array Bool},FV ops fps n k listed=nu ops fps n k listed
 | 0,_,_=>rfl
 | n+1,k,listed=>by
  unfold FV nu;rw [Dm,zM]
theorem KY {acc:List (List Nat×List Nat)} (hB:FV ops acc.reverse ops.size 0 (Array.replicate ops.size false)=true:=by kernel_rfl):K s→DA P ops true [] acc s K:=FJ (zM▸hB)
theorem KZ {id:Nat} {l:List Oper} {y:Code} (hnt:ie nt l=true:=by kernel_rfl):(DA P l.toArray false l [] s fun s'=>AW P nt Ks y Q s')→AW P nt Ks (.seq (.region id l.toArray false) y) Q s:=JA hnt
theorem K0 {id:Nat} {l:List Oper} {y:Code} (hm:P.follows .mixedOrders=true:=by kernel_rfl) (hnt:ie nt l=true:=by kernel_rfl):(DA P l.toArray true l [] s fun s'=>AW P nt Ks y Q s')→AW P nt Ks (.seq (.region id l.toArray true) y) Q s:=Ih hm hnt
theorem LT {id:Nat} {l:List Oper} (hnt:ie nt l=true:=by kernel_rfl):(DA P l.toArray false l [] s fun s'=>Q .normal s')→AW P nt Ks (.region id l.toArray false) Q s:=Jz hnt
theorem LU {id:Nat} {l:List Oper} (hm:P.follows .mixedOrders=true:=by kernel_rfl) (hnt:ie nt l=true:=by kernel_rfl):(DA P l.toArray true l [] s fun s'=>Q .normal s')→AW P nt Ks (.region id l.toArray true) Q s:=G6 hm hnt
structure QE (e:Exit) (Q:Exit→Mst→Prop) (F:Mst→Prop):Prop where
 h:∀s,F s→Q e s
section
variable {Q':Exit→Mst→Prop} {F K':Mst→Prop} {i j:Nat} {fn:Func} {hin:List (Nat×Box)} {res:TV} {hout:List (Nat×Option Box)}
theorem JE (h:QE .ret Q' F):QE .ret (nB K' Q') F:=⟨h.h⟩
theorem JF (h:QE .ret Q' F):QE .ret (fM i Q') F:=⟨h.h⟩
theorem JG:QE .ret (vN P fn hin res hout) (vN P fn hin res hout .ret):=⟨fun _ h=>h⟩
theorem JH (h:QE (.exit j) Q' F):QE (.exit j) (nB K' Q') F:=⟨h.h⟩
theorem JI (h:QE .normal Q' F):QE (.exit i) (fM i Q') F:=⟨fun s hs=>KL (h.h s hs)⟩
theorem JJ (hj:j.beq i=false) (h:QE (.exit j) Q' F):QE (.exit j) (fM i Q') F:=⟨fun s hs=>KM hj (h.h s hs)⟩
theorem JK:QE .normal (nB K' Q') K':=⟨fun _ h=>h⟩
theorem JL (h:QE .normal Q' F):QE .normal (fM i Q') F:=⟨h.h⟩
theorem JM:QE .normal (vN P fn hin res hout) (vN P fn hin res hout .normal):=⟨fun _ h=>h⟩
theorem qe {e:Exit} (h:QE e Q' F:=by repeat' (first|(with_reducible exact JK)|(with_reducible exact JG)|(with_reducible exact JM)|(with_reducible apply JE)|(with_reducible apply JF)|(with_reducible apply JH)|(with_reducible apply JI)|(with_reducible apply JL)|(with_reducible apply JJ)|(show Nat.beq _ _=false;decide))):QE e Q' F:=h
theorem qx {e:Exit} (h:F s) (hq:QE e (nB K' Q') F:=by exact qe):nB K' Q' e s:=hq.h s h
theorem qy {e:Exit} (h:F s) (hq:QE e (fM i Q') F:=by exact qe):fM i Q' e s:=hq.h s h
end
theorem It {q1:Option Tmp} {q2:Op} {q3:TypeId} {q4:String} {q5:Array Edge} {q6:Nat×Bool} (h:DA P ops draw (⟨q1,q2,q3,q4,q5,some q6⟩ :: l) acc s K):DA P ops draw (⟨q1,q2,q3,q4,q5,some q6⟩ :: l) acc s K:=h
theorem K1 {K':Mst→Prop} {Q':Exit→Mst→Prop} {e:Exit} (h:nB K' Q' e s):nB K' Q' e s:=h
theorem K2 {i:Nat} {Q':Exit→Mst→Prop} {e:Exit} (h:fM i Q' e s):fM i Q' e s:=h
theorem K3 {p q:Prop} (h:HbI p q):HbI p q:=h
theorem Iu {y:Operand} {u v:Code} (h:AW P nt Ks (.cond y u v) Q s):AW P nt Ks (.cond y u v) Q s:=h
theorem ae {g g':Prop} (h:g') (hs:g'→g:=by intro h;first|((with_reducible refine JD ?_);revert h;first|(with_reducible exact Ig)|(with_reducible exact KY)|exact FK rfl rfl|exact LR|exact KT)|((with_reducible refine Dj ?_);revert h;first|(with_reducible exact KZ)|(with_reducible exact K0)|(with_reducible exact qJ)|(with_reducible exact CV)|(with_reducible exact H6)|(with_reducible exact Fr)|(with_reducible exact Fq)|(with_reducible exact LT)|(with_reducible exact LU))|((with_reducible refine K1 ?_);exact qx h)|((with_reducible refine K2 ?_);exact qy h)):g:=hs h
theorem af {g g1 g2:Prop} (h1:g1) (h2:g2) (hs:g1→g2→g:=by intro h1 h2;first|((with_reducible refine It ?_);exact Ir h1 h2)|((with_reducible refine Iu ?_);exact Is h1 h2)):g:=hs h1 h2
theorem ah {g:Prop} (hs:g:=by (with_reducible refine K3 ?_);exact LS):g:=hs
end
section
variable {P:Program} {nt:Nat} {Ks:List Nat} {s:Mst} {K:Mst→Prop} {ops:Array Oper} {draw:Bool} {o:Oper} {l:List Oper} {acc:List (List Nat×List Nat)} {t:Nat}
theorem a8 {U:List Nat} {ts:List (Nat×TV)} {hs:List (Nat×Box)} (q:Nat→Nat) (hok:H7 U ts hs q Ks=true:=by rfl) (ht:Ft s q (fun j=>∀k,dU hs k≠none→q k≠j) ts:=by repeat' (first|exact trivial|exact jA rfl|exact jA (congrArg TV.i (by omega))|exact ⟨_,rfl,gq rfl⟩|exact eZ rfl|exact .any _|exact .froz _ _ _ _ rfl (pZ rfl)|exact .frozc _ _ _ _ rfl (pZ rfl)|exact .ocut _ _ _ _ rfl|exact .nil _|exact .full _ _|refine .v ?_|refine .one ?_|refine .ag ?_|refine ⟨_,rfl,?_⟩|refine ⟨?_,?_⟩|refine .box _ ?_)) (hh:Fu s q (fun j=>∀k,dU hs k≠none→q k≠j) hs:=by repeat' (first|exact trivial|exact jA rfl|exact jA (congrArg TV.i (by omega))|exact ⟨_,rfl,gq rfl⟩|exact eZ rfl|exact .any _|exact .froz _ _ _ _ rfl (pZ rfl)|exact .frozc _ _ _ _ rfl (pZ rfl)|exact .ocut _ _ _ _ rfl|exact .nil _|exact .full _ _|refine .v ?_|refine .one ?_|refine .ag ?_|refine ⟨_,rfl,?_⟩|refine ⟨?_,?_⟩|refine .box _ ?_)):Le nt Ks s (bt U ts hs):=CW q hok ht hh
theorem aP {f:FuncId} {fn:Func} {code:Code} {args:List V0} {hin:List (Nat×Box)} {us:List Nat} {res:TV} {hout:List (Nat×Option Box)} (hf:P.funcs[f]? = some fn) (h:AW P fn.ntmps (av hin) code (vN P fn hin res hout) (KJ args hin)) (hb:fn.body=some code:=by exact rfl) (hen:∀(vs:Array Value) (w:World),(callFunc f vs).run P w = .ok (.enter f vs) w:=by exact fun b W=>by kernel_rfl) (hok:Bb args hin us res hout=true:=by exact rfl) (hnt:args.length≤fn.ntmps:=by exact Nat.le_of_ble_eq_true rfl):FSpec P f args hin us res hout:=gp hf hb hen hok hnt h
theorem vc {R us:List Nat} {ot:Option Nat} {d:TV} {hs:List (Nat×Option Box)} (he:LOp P o s R ⟨d,hs,us⟩) (hd:o.dst=ot) (hg:s.gd ops o=some true) (hf:us.all s.f=true) (h:DA P ops draw l ((R,av hs) :: acc) (s.app ot ⟨d,hs,us⟩) K):DA P ops draw (o :: l) acc s K:=by
 cases ot with
 | none=>exact aR he hd hg hf h
 | some t=>exact aV he hd hg hf h
theorem cB {f:FuncId} {xs:Array Operand} {ts:Array TypeId} {args:List V0} {ot:Option Nat} {res:TV} (R:List Nat) (hs:FSpec P f args [] [] res []) (h:DA P ops draw l ((R,av ([]:List (Nat×Option Box))) :: acc) (s.app ot ⟨res,[],[]⟩) K) (ho:o.op = .call { callee:=.value (.func f),args:=xs,argTypes:=ts }:=by rfl) (hok:Bb args [] [] res []=true:=by rfl) (hb:res.isSc=true:=by rfl) (ha:All2 (fun x d=>AR s R (s.ev x) d) xs.toList args:=by (repeat' (first|exact trivial|exact .same _|refine ⟨⟨_,rfl,?_⟩,?_⟩|refine .ag ?_|refine .one ?_|exact .own rfl rfl|exact .ocut rfl rfl|exact .full|exact .nil|refine ⟨?_,?_⟩));first|done|fail) (hd:o.dst=ot:=by first|exact (rfl:_=some _)|exact (rfl:_=none)) (hg:s.gd ops o=some true:=by rfl) (hf:[].all s.f=true:=by rfl):DA P ops draw (o :: l) acc s K  :=vc (Bu R hs ho hok hb ha) hd hg hf h
theorem cC {f:FuncId} {xs:Array Operand} {ts:Array TypeId} {args:List V0} {ot:Option Nat} {res:TV} (ks:List Nat) (hs:FSpec P f args [] [] res []) (h:DA P ops draw l ((ks,av (j7 ks)) :: acc) (s.app ot ⟨res,j7 ks,[]⟩) K) (ho:o.op = .call { callee:=.value (.func f),args:=xs,argTypes:=ts }:=by rfl) (hok:Bb args [] [] res []=true:=by rfl) (hks:ks.all (fun k=>(s.h k).isSome)=true:=by rfl) (ha:All2 (fun x d=>AR s ks (s.ev x) d) xs.toList args:=by (repeat' (first|exact trivial|exact .same _|refine ⟨⟨_,rfl,?_⟩,?_⟩|refine .ag ?_|refine .one ?_|exact .own rfl rfl|exact .ocut rfl rfl|exact .full|exact .nil|refine ⟨?_,?_⟩));first|done|fail) (hd:o.dst=ot:=by first|exact (rfl:_=some _)|exact (rfl:_=none)) (hg:s.gd ops o=some true:=by rfl) (hf:[].all s.f=true:=by rfl):DA P ops draw (o :: l) acc s K  :=vc (Bv ks hs ho hok hks ha) hd hg hf h
theorem cH {f:FuncId} {xs:Array Operand} {ts:Array TypeId} {args:List V0} {ot:Option Nat} {res:TV} {hin:List (Nat×Box)} {us:List Nat} {hout:List (Nat×Option Box)} (q:Nat→Nat) (hs:FSpec P f args hin us res hout) (h:DA P ops draw l (((av hin).map q,av (el q hout)) :: acc) (s.app ot ⟨res.ren q,el q hout,us.map q⟩) K) (ho:o.op = .call { callee:=.value (.func f),args:=xs,argTypes:=ts }:=by rfl) (ha:All2 (fun x d=>s.ev x = .v (V0.ren q d)) xs.toList args:=by (repeat' (first|exact trivial|refine ⟨rfl,?_⟩));first|done|fail) (hn:eD ((av hin++us).map q)=true:=by rfl) (hh:tx s q hin:=by (repeat' (first|exact trivial|refine ⟨rfl,?_⟩));first|done|fail) (hd:o.dst=ot:=by first|exact (rfl:_=some _)|exact (rfl:_=none)) (hg:s.gd ops o=some true:=by rfl) (hf:(us.map q).all s.f=true:=by rfl):DA P ops draw (o :: l) acc s K  :=vc (CX hs q ho ha hn hh) hd hg hf h
theorem mS {fn:Func} {hin:List (Nat×Box)} {hout:List (Nat×Option Box)} {e:Exit} (q:Nat→Nat) (he:e = .normal∨e = .ret:=by first|exact .inl rfl|exact .inr rfl) (hr:fn.results.toList=[]:=by rfl)  (hq:(av hin).all (fun k=>(q k).beq k)=true:=by rfl) (hn:eD ((av (hout.filter fun x=>x.2.isSome)).map q)=true:=by rfl) (hh:pT s q (fun j=>∀k,hput hout (fun _=>none) k≠none→q k≠j) hout:=by (repeat' (first|exact trivial|exact ⟨_,rfl,gq rfl⟩|exact eZ rfl|exact .froz _ _ _ _ rfl (fa rfl)|exact .frozc _ _ _ _ rfl (fa rfl)|exact .ocut _ _ _ _ rfl|exact .nil _|refine ⟨_,rfl,?_⟩|refine ⟨?_,?_⟩|refine .box _ ?_));first|done|fail):vN P fn hin (.tup []) hout e s:=Il q he hr hq hn hh
theorem bP {fn:Func} {hin:List (Nat×Box)} {r1:ResultVar} {x1:V0} {res:TV} {hout:List (Nat×Option Box)} {e:Exit} (q:Nat→Nat) (h:TVLe s q (fun j=>∀k,hput hout (fun _=>none) k≠none→q k≠j) (.v x1) res) (he:e = .normal∨e = .ret:=by first|exact .inl rfl|exact .inr rfl) (hr:fn.results.toList=[r1]:=by rfl) (h1:RV P s r1 x1:=by first|exact .tmp rfl|exact .row rfl rfl rfl|exact .one rfl rfl) (hq:(av hin).all (fun k=>(q k).beq k)=true:=by rfl) (hn:eD ((av (hout.filter fun x=>x.2.isSome)).map q)=true:=by rfl) (hh:pT s q (fun j=>∀k,hput hout (fun _=>none) k≠none→q k≠j) hout:=by (repeat' (first|exact trivial|exact ⟨_,rfl,gq rfl⟩|exact eZ rfl|exact .froz _ _ _ _ rfl (fa rfl)|exact .frozc _ _ _ _ rfl (fa rfl)|exact .ocut _ _ _ _ rfl|exact .nil _|refine ⟨_,rfl,?_⟩|refine ⟨?_,?_⟩|refine .box _ ?_));first|done|fail):vN P fn hin res hout e s:=Ii q he hr h1 hq hn hh h
theorem fe {fn:Func} {hin:List (Nat×Box)} {r1:ResultVar} {x1:V0} {r2:ResultVar} {x2:V0} {res:TV} {hout:List (Nat×Option Box)} {e:Exit} (q:Nat→Nat) (h:TVLe s q (fun j=>∀k,hput hout (fun _=>none) k≠none→q k≠j) (.tup [x1,x2]) res) (he:e = .normal∨e = .ret:=by first|exact .inl rfl|exact .inr rfl) (hr:fn.results.toList=[r1,r2]:=by rfl) (h1:RV P s r1 x1:=by first|exact .tmp rfl|exact .row rfl rfl rfl|exact .one rfl rfl) (h2:RV P s r2 x2:=by first|exact .tmp rfl|exact .row rfl rfl rfl|exact .one rfl rfl) (hq:(av hin).all (fun k=>(q k).beq k)=true:=by rfl) (hn:eD ((av (hout.filter fun x=>x.2.isSome)).map q)=true:=by rfl) (hh:pT s q (fun j=>∀k,hput hout (fun _=>none) k≠none→q k≠j) hout:=by (repeat' (first|exact trivial|exact ⟨_,rfl,gq rfl⟩|exact eZ rfl|exact .froz _ _ _ _ rfl (fa rfl)|exact .frozc _ _ _ _ rfl (fa rfl)|exact .ocut _ _ _ _ rfl|exact .nil _|refine ⟨_,rfl,?_⟩|refine ⟨?_,?_⟩|refine .box _ ?_));first|done|fail):vN P fn hin res hout e s:=Ij q he hr h1 h2 hq hn hh h
theorem cX {fn:Func} {hin:List (Nat×Box)} {r1:ResultVar} {x1:V0} {r2:ResultVar} {x2:V0} {r3:ResultVar} {x3:V0} {res:TV} {hout:List (Nat×Option Box)} {e:Exit} (q:Nat→Nat) (h:TVLe s q (fun j=>∀k,hput hout (fun _=>none) k≠none→q k≠j) (.tup [x1,x2,x3]) res) (he:e = .normal∨e = .ret:=by first|exact .inl rfl|exact .inr rfl) (hr:fn.results.toList=[r1,r2,r3]:=by rfl) (h1:RV P s r1 x1:=by first|exact .tmp rfl|exact .row rfl rfl rfl|exact .one rfl rfl) (h2:RV P s r2 x2:=by first|exact .tmp rfl|exact .row rfl rfl rfl|exact .one rfl rfl) (h3:RV P s r3 x3:=by first|exact .tmp rfl|exact .row rfl rfl rfl|exact .one rfl rfl) (hq:(av hin).all (fun k=>(q k).beq k)=true:=by rfl) (hn:eD ((av (hout.filter fun x=>x.2.isSome)).map q)=true:=by rfl) (hh:pT s q (fun j=>∀k,hput hout (fun _=>none) k≠none→q k≠j) hout:=by (repeat' (first|exact trivial|exact ⟨_,rfl,gq rfl⟩|exact eZ rfl|exact .froz _ _ _ _ rfl (fa rfl)|exact .frozc _ _ _ _ rfl (fa rfl)|exact .ocut _ _ _ _ rfl|exact .nil _|refine ⟨_,rfl,?_⟩|refine ⟨?_,?_⟩|refine .box _ ?_));first|done|fail):vN P fn hin res hout e s:=Ik q he hr h1 h2 h3 hq hn hh h
theorem aj {p:Prop} (h:p:=by repeat' (first|exact trivial|exact jA rfl|exact eZ rfl|exact .froz _ _ _ _ rfl (fa rfl)|exact .frozc _ _ _ _ rfl (fa rfl)|exact .ocut _ _ _ _ rfl|exact .nil _|exact .full _ _|exact .any _|refine .v ?_|refine .tup ?_|refine .one ?_|refine .ag ?_|refine ⟨?_,?_⟩)):p:=h
theorem aN {P:Prop} (h:P:=by exact a8 (qf [])):P:=h
theorem aX {P:Prop} (h:P:=by (refine bP (qf []) ?_;exact aj)):P:=h
theorem d7 {fn:Func} {t:Nat} {v v':Value} {e:Exit} (h:v=v') (he:e = .normal∨e = .ret:=by first|exact .inl rfl|exact .inr rfl) (hr:fn.results.toList=[.tmp t]:=by rfl) (hx:s.t t = .c (.sc v):=by rfl):vN P fn [] (.c (.sc v')) [] e s:=yx he hr hx h
end
instance (d:Nat):Dp (nc (d+1)) where
 deep:=Ex.d d
 get:=by
  rintro w F ρ x cs ⟨A,c,rfl,h1,h2,h3⟩;exact ⟨rfl,rfl,rfl,rfl,⟨A,c,rfl,⟨h1,h2⟩,h3⟩,trivial⟩
 put:=by
  intro w F ρ x cs h
  match cs,h with
  | [_,_,_,_,_],⟨rfl,rfl,rfl,rfl,⟨A,c,rfl,h1,h3⟩,_⟩=>exact ⟨A,c,rfl,h1.1,h1.2,h3⟩
 nok:=fun _ _=>rfl
theorem eq_tm (p q:Tm):zC [.string p.name,.int .i64 p.am.mode,.int .i64 p.am.units] [.string q.name,.int .i64 q.am.mode,.int .i64 q.am.units]=decide (p=q):=by
 obtain ⟨a,b,c⟩:=p;obtain ⟨x,y,z⟩:=q;rw [Bool.eq_iff_iff];simp [zC,Jp]
 intros
 obtain ⟨a⟩:=a;obtain ⟨x⟩:=x;rw [show ((ByteArray.mk a) == (ByteArray.mk x))=(a == x) from rfl,beq_iff_eq];simp
instance:EQ prog 39 [1,0,0]:=⟨by kernel_rfl,fun w a b ha hb=>by
 obtain ⟨a1,a2,a3,rfl⟩:=FM (oA ha);obtain ⟨b1,b2,b3,rfl⟩:=FM (oA hb);simp only [List.map_cons,List.map_nil,List.cons.injEq,and_true] at ha hb;obtain ⟨x1,rfl⟩:=C5 ha.1;obtain ⟨x2,rfl⟩:=dN ha.2.1;obtain ⟨x3,rfl⟩:=dN ha.2.2;obtain ⟨y1,rfl⟩:=C5 hb.1;obtain ⟨y2,rfl⟩:=dN hb.2.1;obtain ⟨y3,rfl⟩:=dN hb.2.2;rw [eq_tm ⟨x1,⟨x2,x3⟩⟩ ⟨y1,⟨y2,y3⟩⟩];exact zz ⟨x1,⟨x2,x3⟩⟩ ⟨y1,⟨y2,y3⟩⟩ w⟩
instance:Dp cg:=fo _ _ _ _ _
instance:Dp pS:=fo _ _ _ _ _
abbrev iV (n:Int):V0:=.one (.sc (.int .i64 n))
theorem iH {c:Ctx} {s:Mst} {ρ:Nat→Value} {a:Act} {w:World} (hr:Rp c s ρ a w) {t i:Nat} {cs:List D} {d:Nat} {l:List Ex} (h:s.t t = .v (.ag cs)) (hi:cs[i]? = some (.sl (nc d) l)):l.length≤9223372036854775807∧(0<l.length→∃e,d=e+1):=by
 refine ⟨dj hr h hi,fun h0=>?_⟩;cases d with
 | succ e=>exact ⟨e,rfl⟩
 | zero =>
  have:=hr.tmp t;rw [h] at this;obtain ⟨vs,_,h2⟩:=this;obtain ⟨v,_,A,cap,rfl,_,hR⟩:=h2.get hi;obtain ⟨g,off,cs',_,_,hc,_⟩:=hR.getx h0 rfl;exact hc.elim
theorem tL:∀{l:List (Nat×Option Box)} {h h':Nat→Option Box} {n:Nat},h n=h' n→hput l h n=hput l h' n
 | [],_,_,_,e=>e
 | (k,b) :: l,h,h',n,e=>by simp only [hput];rw [tL e]
theorem FSpec.nil0 {P:Program} {f:FuncId} {args:List V0} {α:Type} {e:TypeId} {E:El α} {us:List Nat} {res:TV} {hout:List (Nat×Option Box)} (h:FSpec P f (.one (.own 0) :: args) [(0,.arr e E [])] us res ((0,none) :: hout)) (hu:aK us 0=false) (ha:∀(q:Nat→Nat) k,args.all (fun d=>!(V0.ren q d).has k)=true):FSpec P f (.one (.sc (.slice none 0 0)) :: args) [] (0 :: us) res ((0,none) :: hout):=by
 refine ⟨h.en,fun q c st ρ a w vs hr hq hargs hin hfree=>?_⟩;have hf0:st.f (q 0)=true:=hfree 0 (by simp [aK]);have hne:∀{k},k≠q 0→(q 0).beq k=false:=fun hk=>by
  cases hb:(q 0).beq _ with
  | false=>rfl
  | true=>exact absurd (Nat.eq_of_beq_eq_true hb).symm hk
 have hkk:∀k':Nat,aA [(q 0,some (Box.arr e E ([]:List α)))] k'=true→k'=q 0:=fun k' h=>by
  simp only [aA,Bool.or_false] at h;exact (Nat.eq_of_beq_eq_true h).symm
 have h2:=hr.app (ρ':=upd ρ (q 0) (.slice none 0 0)) (w':=w) (dst:=none) (v:=undef) (e:=⟨.c .any,[(q 0,some (.arr e E []))],[q 0]⟩) (fun d hd=>by cases hd)
  (fun k' hk=>by have h9:k'=q 0:=(by simp [aK] at hk;exact hk.symm);subst h9;exact ⟨hf0,by simp [aA]⟩)
  (fun k' hk=>df (by simpa [aK] using hk)) (fun k' hk=>.inl (by rw [hkk k' hk];simp [aK])) (Frx.refl _ _)
  (fun k' bx g hk _ hg=>by rw [hkk k' hk,aI] at hg;cases hg) (fun k1 k2 b b' g h1 h2 _ _ _ _=>by rw [hkk k1 h1,hkk k2 h2]) (fun k' hk=>by simp [TV.has,V0.has,D.has] at hk) (fun k1 k2 bx hk hb hx=>by
   rw [hkk k2 hk] at hb;simp only [Go.Proofs.YtjndcdcbjidocaaGreatDoor.hput,Nat.beq_refl,cond_true,Option.some.injEq] at hb;subst hb;simp [Box.has] at hx)
  (fun k' bx hk hb=>by
   rw [hkk k' hk] at hb ⊢;simp only [Go.Proofs.YtjndcdcbjidocaaGreatDoor.hput,Nat.beq_refl,cond_true,Option.some.injEq] at hb;subst hb;rw [aI];exact ⟨[],World.ownsRow_nil _ _ _ _,rfl⟩)
  trivial
 match vs,hargs with
 | v :: vs,⟨hv,hvs⟩ =>
  have hv:v = .slice none 0 0:=hv;subst hv;refine (h.ca q c _ _ a w (.slice none 0 0 :: vs) h2 hq ⟨(aI _ _ _).symm,hvs.imp fun d u hd h5=>h5.mono (fun b hb=>⟨⟨hb.1,hb.2.1,fun k bx hk he=>?_⟩,rfl⟩) fun k hk=>?_⟩ (fun k b hb=>?_) fun k hk=>?_).mono ?_
  ·by_cases h9:k=q 0
   ·rw [h9,aI] at he;cases he
   ·rw [df (hne h9)] at he;refine hb.2.2 k bx ?_ he;have hk:hput [(q 0,some (.arr e E []))] st.h k=some bx:=hk
    rwa [bN (by simp [aA,hne h9])] at hk
  ·have:=List.all_eq_true.1 (ha q k) d hd;rw [hk] at this;cases this
  ·cases k with
   | succ k=>cases hb
   | zero =>
    injection hb with hb;subst hb;show hput [(q 0,some (.arr e E []))] st.h (q 0)=_;simp [Go.Proofs.YtjndcdcbjidocaaGreatDoor.hput,Box.ren]
  ·have h7:q k≠q 0:=fun h8=>by
    have:=hq k 0 (by show (Nat.beq 0 k || aK us k)=true;rw [hk,Bool.or_true]) rfl h8;subst this;rw [hu] at hk;cases hk
   show (st.f (q k) && !aK [q 0] (q k))=true;rw [hfree k (by show (Nat.beq 0 k || aK us k)=true;rw [hk,Bool.or_true])];simp [aK,hne h7]
  ·rintro en w' ⟨v,he,hd⟩;refine ⟨v,he,fun dst hdst=>?_⟩;obtain ⟨ρ',h3⟩:=hd dst hdst;refine ⟨ρ',?_⟩;have hE:st.app dst ⟨res.ren q,el q ((0,none) :: hout),(0 :: us).map q⟩=(st.app none ⟨.c .any,[(q 0,some (.arr e E []))],[q 0]⟩).app dst ⟨res.ren q,el q ((0,none) :: hout),us.map q⟩:=by
    unfold Mst.app;congr 1
    ·funext n
     show hput ((q 0,none) :: el q hout) st.h n=hput ((q 0,none) :: el q hout) (hput [(q 0,some (.arr e E []))] st.h) n;simp only [hput];cases hb:(q 0).beq n with
     | true=>rfl
     | false=>exact tL (by simp [Go.Proofs.YtjndcdcbjidocaaGreatDoor.hput,hb])
    ·funext n
     simp [aK,Bool.and_assoc]
   rw [hE];exact h3
section
variable {P:Program} {nt:Nat} {Ks:List Nat} {Q:Exit→Mst→Prop} {s:Mst}
theorem my (id:Nat) {l:List Oper} {dr:Bool} {y:Code} (h:AW P nt Ks (.seq (.region id l.toArray dr) y) Q s):AW P nt Ks (.seq (.region id l.toArray dr) y) Q s:=h
theorem mz (id:Nat) {l:List Oper} {dr:Bool} (h:AW P nt Ks (.region id l.toArray dr) Q s):AW P nt Ks (.region id l.toArray dr) Q s:=h
theorem Dn {x:Code} {α:Type} {ty e:TypeId} {E:El α} {l:List α} {cs new:List D} (k0 off k:Nat) (h0:s.h k0=some (.box ty cs)) (hc0:cs[off]? = some (.own k)) (hk:s.h k=some (.arr e E l)) (hn:cs.set off (.ocut k)=new)
  (h:AW P nt Ks x Q (s.app none ⟨.c .any,[(k0,some (.box ty new))],[]⟩)):AW P nt Ks x Q s:=by
 intro c ρ a w hc hK hr;subst hn;obtain ⟨g,vs,hg,hB,hA,h1⟩:=hr.hp k0 _ h0;refine h c ρ a w hc hK (hr.setBox (dst:=none) (v:=undef) (fun d hd=>by cases hd) h0 hg ⟨rfl,rfl,rfl,Nat.le_refl _,fun _ _ _=>rfl⟩ hB (hA.setAt hc0 fun u hu=>?_) h1 fun k' hh=>?_)
 ·have hu:u=ρ k:=hu;rw [hu];exact ny hr hk rfl
 ·obtain ⟨d,hd,hd2⟩:=List.any_eq_true.1 hh;rcases List.mem_or_eq_of_mem_set hd with hd|rfl
  ·exact hr.nfb h0 (by simp only [Box.has];exact List.any_eq_true.2 ⟨d,hd,hd2⟩)
  ·simp only [D.has] at hd2;have:k=k':=Nat.eq_of_beq_eq_true hd2;subst this;exact hr.nfh hk
end
theorem xb {s:Mst} {α:Type} {E:El α} [J:Dp E] {x:Operand} {k n:Nat} {e:TypeId} {cs:List D} (m:List α) (hx:s.ev x = .c (.slb k n)) (hk:s.h k=some (.box e cs)) (hm:All2 NR cs (m.flatMap J.deep)) (hn:m.length=n):FH s E x m [k]:=fun c st ρ a w hr he h2=>by
 have hv:=hr.ev x;rw [he,hx] at hv;obtain ⟨g,hg,hv⟩:=hv;subst hn;obtain ⟨vs,hB,hA,_⟩:=hr.box ((h2 k (by simp [aK])).trans hk) hg;exact ⟨_,_,vs,hv,eY (NR.reps hm hA),fun _=>⟨g,0,rfl,fun j u hu=>by rw [Nat.zero_add];exact hB.cellx j (by simpa using hu)⟩⟩
theorem JN {s:Mst} {α:Type} {E:El α} [J:Dp E] {x:Operand} {k n:Nat} {e:TypeId} {cs:List D} (m:List α) (hx:s.ev x = .c (.slb k n)) (hk:s.h k=some (.box e cs)) (hn:m.length=n) (hm:All2 NR cs (m.flatMap J.deep):=by (repeat' (first|exact trivial|exact .same _|exact .nil|refine ⟨?_,?_⟩));first|done|fail):FH s E x m [k]:=xb m hx hk hm hn
def Do (a b:Int):Nat→Int→Int
 | 0,_=>0
 | n+1,m=>bif dw m a && dw m b then m else Do a b n (m+1)
theorem lV (m:Int):FSpec prog 139 [iV m] [] [] (.b (bY m)) []:=by
 unfold bY;refine aP func139 ?_;repeat' (first|refine af ?_ ?_|refine ae ?_|exact ah|refine ab fun hb=>?_)
 all_goals (refine d7 ?_;simp [*])
theorem nP (x:Am):FSpec prog 206 [x.a] [] [] (.b (bQ x)) []:=by
 have h0:bY 0=false:=rfl;unfold bQ;refine aP func206 ?_;repeat' (first|refine af ?_ ?_|refine aa 9 rfl (cB [] (lV x.mode) ?_)|refine ae ?_|exact ah|refine ab fun hb=>?_)
 all_goals (refine d7 ?_;first|(simp [*];done)|(simp [*] <;> rfl))
theorem zN (a b:Int):FSpec prog 207 [iV a,iV b] [] [] (.b (dw a b)) []:=by
 unfold dw;refine aP func207 ?_;repeat' (first|refine af ?_ ?_|(refine aa 9 rfl ?_;first|(refine cB [] (lV a) ?_)|(refine cB [] (lV b) ?_))|refine ae ?_|exact ah|refine ab fun hb=>?_)
 all_goals (refine d7 ?_;first|(simp [*];done)|(simp_all [bY] <;> rfl))
theorem JO (a b:Int):FSpec prog 330 [iV a,iV b] [] [] (.b (ke a b)) []:=by
 unfold ke;refine aP func330 ?_;repeat' (first|refine af ?_ ?_|(refine aa 9 rfl ?_;first|(refine cB [] (lV a) ?_)|(refine cB [] (lV b) ?_))|refine ae ?_|exact ah|refine ab fun hb=>?_)
 all_goals (refine d7 ?_;first|(simp [*];done)|(simp_all [bY] <;> rfl))
theorem K4 (a b:Int):FSpec prog 214 [iV a,iV b] [] [] (.i (mO a b)) []:=by
 obtain ⟨v,hv⟩:∃v,mO a b=v:=⟨_,rfl⟩;rw [hv];refine aP func214 ?_;repeat' (first|refine af ?_ ?_|refine ae ?_|exact ah|refine ab fun hb=>?_)
 refine ai (fun x:Nat×Int=>x.1≤5∧x.2+x.1=6∧Do a b x.1 x.2=v) (fun x=>bt [] [(0,.i a),(1,.i b),(5,.i x.2)] []) (fun x=>x.1) (5,1) ⟨by decide,rfl,hv⟩ aN ?_;rintro ⟨n,m⟩ ⟨h5,hm,hs⟩;dsimp only at *
 cases n with
 | zero =>
  repeat' (first|refine af ?_ ?_|refine ae ?_|exact ah|refine ab fun hb=>?_)
  exact d7 (congrArg _ hs)
 | succ n =>
  unfold Do at hs;repeat' (first|refine af ?_ ?_|(refine aa 9 rfl ?_;first|(refine cB [] (zN m a) ?_)|(refine cB [] (zN m b) ?_))|refine ae ?_|exact ah|refine ab fun hb=>?_)
  ·refine d7 (congrArg _ ?_);rw [←hs];simp [*]
  all_goals
   refine ⟨(n,m+1),⟨by dsimp only;omega,by dsimp only;omega,?_⟩,by dsimp only;omega,?_⟩
   ·rw [←hs];simp [*]
   ·exact aN
theorem lW (r:Rs):FSpec prog 138 [r.a] [] [] (.b (bc r)) []:=by
 unfold bc;refine aP func138 ?_;repeat' (first|refine af ?_ ?_|refine ae ?_|exact ah|refine ab fun hb=>?_)
 all_goals (refine d7 ?_;simp [*])
theorem fP (x:Am):FSpec prog 141 [x.a] [] [] (.b (aH x)) []:=by
 refine aP func141 ?_;repeat' (first|refine af ?_ ?_|refine ae ?_|exact ah|refine ab fun hb=>?_)
 exact d7 rfl
theorem im (r:Rs) (x:Am):FSpec prog 66 [r.a,x.a] [] [] (.b (aF r x)) []:=by
 unfold aF;refine aP func66 ?_;repeat' (first|refine af ?_ ?_|(refine aa 9 rfl ?_;first|(refine cB [] (lW r) ?_)|(refine cB [] (lV x.mode) ?_))|refine ae ?_|exact ah|refine ab fun hb=>?_)
 all_goals (refine d7 ?_;simp [*] <;> rfl)
theorem rg (r:Rs) (x:Am):FSpec prog 213 [r.a,x.a] [] [] (.b (bj r x)) []:=by
 unfold bj;refine aP func213 ?_;repeat' (first|refine af ?_ ?_|(refine aa 9 rfl ?_;first|(refine cB [] (lW r) ?_)|(refine cB [] (fP x) ?_)|(refine cB [] (im r x) ?_))|refine ae ?_|exact ah|refine ab fun hb=>?_)
 all_goals (refine d7 ?_;simp [*])
theorem dK (r:Rs) (x y:Am):FSpec prog 147 [r.a,x.a,y.a] [] [] (.b (bg r x y)) []:=by
 unfold bg;refine aP func147 ?_;repeat' (first|refine af ?_ ?_|(refine aa 9 rfl ?_;first|(refine cB [] (rg r x) ?_)|(refine cB [] (rg r y) ?_)|(refine cB [] (fP y) ?_)|(refine cB [] (fP x) ?_)|(refine cB [] (zN x.mode y.mode) ?_))|refine ae ?_|exact ah|refine ab fun hb=>?_)
 all_goals (refine d7 ?_;simp [*])
theorem Dq (r:Rs) (x y:Am):FSpec prog 148 [r.a,x.a,y.a] [] [] (.v (bG r x y).a) []:=by
 obtain ⟨v,hv⟩:∃v,bG r x y=v:=⟨_,rfl⟩;rw [hv];unfold bG at hv;refine aP func148 ?_;repeat' (first|refine af ?_ ?_|(refine aa 9 rfl ?_;first|(refine cB [] (rg r x) ?_)|(refine cB [] (rg r y) ?_)|(refine cB [] (dK r x y) ?_)|(refine cB [] (dK r y x) ?_)|(refine cB [] (K4 x.mode y.mode) ?_))|refine ae ?_|exact ah|refine ab fun hb=>?_)
 all_goals
  simp only [*,Bool.and_true,Bool.and_false,Bool.true_and,cond_true,cond_false] at hv;subst hv;refine bP (qf []) ?_;exact aj
theorem Iv {r:Rs} {a:Am} (hp:bj r a=true) (h:r.kind=2):0≤a.units∧a.units≤8:=(kn hp (by omega)).2
theorem yI (a b:Am) (l:List Am):jT a (b :: l)=((!aH a && !aH b && !ke a.mode b.mode) || jT a l):=rfl
theorem FW (r:Rs) (l:List Am):FSpec prog 315 [r.a,.one (.sl zt l)] [] [] (.b (ib r l)) []:=by
  obtain ⟨v,hv⟩:∃v,ib r l=v:=⟨_,rfl⟩;rw [hv];unfold ib at hv;refine aP func315 ?_;refine aM (fun c ρ a w hr=>bz (t:=1) hr rfl) (fun hl1=>?_);cases hs:bc r with
  | false =>
    rw [hs] at hv;obtain rfl:false=v:=hv;repeat' (first|refine af ?_ ?_|refine aa 9 rfl (cB [] (lW r) ?_)|refine ae ?_|exact ah|(refine ab fun hb=>?_;first|(simp [hs] at hb;done)|skip)|exact aX)
  | true =>
    rw [hs,Bool.true_and] at hv;have hu:0≤r.units∧r.units≤8:=by have:=cj hs;omega
    repeat' (first|refine af ?_ ?_|refine aa 9 rfl (cB [] (lW r) ?_)|refine ae ?_|exact ah|(refine ab fun hb=>?_;first|(simp [hs] at hb;done)|skip))
    refine ai (fun x:Nat×Int=>x.1≤l.length∧0≤x.2∧x.2≤r.units∧eB r x.2 (l.take x.1) (l.drop x.1)=v) (fun x=>bt [2] [(1,.c (.sl zt l)),(2,.c (.ptr 2 0)),(5,.i x.2),(6,.i x.1)] [(2,.box 55 [.sc (.string r.name),.sc (.int .i64 r.kind),.sc (.int .i64 r.units),.sc (.int .i64 r.home)])]) (fun x=>l.length-x.1) (0,0) ⟨Nat.zero_le _,Int.le_refl _,hu.1,hv⟩ aN ?_;rintro ⟨i,s⟩ ⟨hi,h0,h1,hs⟩;dsimp only at *
    by_cases hlt:i<l.length
    case neg =>
      rw [List.drop_eq_nil_of_le (by omega)] at hs;obtain rfl:true=v:=hs;repeat' (first|refine af ?_ ?_|refine ae ?_|exact ah|refine ab fun hb=>?_|exact aX)
    rw [List.drop_eq_getElem_cons hlt,km,←List.take_succ_eq_append_getElem hlt] at hs;cases hp:bj r l[i] with
    | false =>
      rw [hp] at hs;obtain rfl:false=v:=hs;repeat' (first|refine af ?_ ?_|refine aa 9 rfl (cB [] (rg r l[i]) ?_)|refine ae ?_|exact ah|(refine ab fun hb=>?_;first|(simp [hp] at hb;done)|skip)|exact aX)
    | true =>
      rw [hp,Bool.true_and] at hs;by_cases hk:r.kind=2
      · have h2:=Iv hp hk
        rw [if_pos hk] at hs;repeat' (first|refine af ?_ ?_|refine aa 9 rfl (cB [] (rg r l[i]) ?_)|refine ae ?_|exact ah|(refine ab fun hb=>?_;first|(simp [hp] at hb;done)|skip))
        · rw [decide_eq_false (by omega)] at hs
          obtain rfl:false=v:=hs;refine bP (qf []) ?_;exact aj
        · rw [decide_eq_true (by omega),Bool.true_and] at hs
          refine ⟨(i+1,s+l[i].units),⟨by dsimp only;omega,by dsimp only;omega,by dsimp only;omega,hs⟩,by dsimp only;omega,?_⟩;exact aN
      · rw [if_neg hk] at hs
        obtain ⟨c,hc⟩:∃c,jT l[i] (l.take i)=c:=⟨_,rfl⟩;rw [hc] at hs;have hlen:(l.take i).length=i:=by simp;omega
        repeat' (first|refine af ?_ ?_|refine aa 9 rfl (cB [] (rg r l[i]) ?_)|refine ae ?_|exact ah|(refine ab fun hb=>?_;first|(simp [hp] at hb;done)|skip))
        refine ai (fun k=>k≤i∧jT l[i] ((l.take i).drop k)=c) (fun k=>bt [2] [(1,.c (.sl zt l)),(2,.c (.ptr 2 0)),(5,.i s),(6,.i i),(7,.i k)] [(2,.box 55 [.sc (.string r.name),.sc (.int .i64 r.kind),.sc (.int .i64 r.units),.sc (.int .i64 r.home)])]) (fun k=>i-k) 0 ⟨Nat.zero_le _,hc⟩ aN ?_;rintro k ⟨hk,hc⟩;by_cases hki:k<i
        · rw [List.drop_eq_getElem_cons (by omega),yI,List.getElem_take] at hc
          repeat' (first|refine af ?_ ?_|(refine aa 9 rfl ?_;first|(refine cB [] (fP l[i]) ?_)|(refine cB [] (fP l[k]) ?_)|(refine cB [] (JO l[i].mode l[k].mode) ?_))|refine ae ?_|exact ah|refine ab fun hb=>?_)
          all_goals first
            | (obtain rfl:true=c:=by rw [←hc];simp [*]
               obtain rfl:false=v:=hs;refine bP (qf []) ?_;exact aj)
            | (refine ⟨k+1,⟨by omega,by rw [←hc];simp [*]⟩,by omega,?_⟩
               exact aN)
        · rw [List.drop_eq_nil_of_le (by omega)] at hc
          obtain rfl:false=c:=hc;repeat' (first|refine af ?_ ?_|refine ae ?_|exact ah|refine ab fun hb=>?_)
          refine ⟨(i+1,s),⟨by dsimp only;omega,by dsimp only;omega,by dsimp only;omega,hs⟩,by dsimp only;omega,?_⟩;exact aN
end Go.Proofs.YtjndcdcbjidocaaGreatDoor
