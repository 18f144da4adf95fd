/- Part K41 of a proof of statements of chapter 15 (no condition). -/
import Derived.Test.YthpgjkjgkhjjlaaGreatDoorK37
import Derived.Test.YthpgjkjgkhjjlaaGreatDoorK35
import Derived.Test.YthpgjkjgkhjjlaaGreatDoorK38
import Derived.Lib.Overlaps
import Derived.Lib.AppendZeros
import Derived.Laws.Externs
set_option linter.unusedVariables false
set_option linter.unusedSimpArgs false
set_option maxRecDepth 100000
set_option maxHeartbeats 64000000
namespace Go.Proofs.YthpgjkjgkhjjlaaGreatDoor
open Go.RowKit Go.Proofs.Tryz
section
open Go.Lib
theorem yB {P:Program} {ops:Array Oper} {o:Oper} {a:Act} {w:World} {K:Act->World->Prop} {Q:Exit->Act->World->Prop} {E:Prop}
  (hg:o.guard=none) (d x:Operand) (dT sT:TypeId) (hop:o.op=Op.call { callee:=Callee.builtin Builtin.copy,args:=#[d,x],argTypes:=#[dT,sT] })
  (v u:Value) (hd:a.eval d=v) (hx:a.eval x=u) {v':Value} {w':World} (hr:(Builtin.copy_ #[dT,sT] o.type #[v,u]).run P w = .ok v' w') (hK:K (a.put o.dst v') w') :
  if Region.wanted o (yielded ops a.tmps)=true then Oper.wp P o a w K Q else E:=by
 have hw:Region.wanted o (yielded ops a.tmps)=true:=by simp [Region.wanted,hg]
 rw [if_pos hw];unfold Oper.wp;simp [execOp,hop,resolve,invoke,builtin,hd,hx,hr,Result.andThen];exact hK
section
variable {w:World} {e:TypeId} {N n cap:Nat}
theorem Oi (w:World) (ROW:Array Value) (hcs:ROW.size=cap*N) (hnc:n<=cap) (hcm:cap<=maxLen):(w.alloc (.cells ROW e)).ownsRow 0 e N (.slice (some ⟨w.heap.size,0,none⟩) n cap) n (ROW.toList.take (n*N)):=by
 refine ⟨?_,.inr ⟨_,_,ROW,rfl,Nat.zero_le _,?_,hnc,hcm,hcs,rfl⟩⟩
 ·rw [List.length_take,Array.length_toList,hcs];exact Nat.min_eq_left (Nat.mul_le_mul_right _ hnc)
 ·exact heap_alloc_new w _
theorem JN (w:World) (o:Obj) (M:Nat->Prop):Frx w (w.drew.alloc o) M:=(Frx.drew (Frx.refl w M)).trans (Frx.alloc w.drew o M)
theorem H5 {w w1:World} {M:Nat->Prop} {g:Nat} (h:Frx w w1 M) (hg:w.heap.size<=g) (j:Nat) (vs:List Value):Frx w (w1.setCells g j vs) M :=
 ⟨(il vs j w1).1.trans h.os,(il vs j w1).2.1.trans h.tape,(il vs j w1).2.2.trans h.output,by rw [cm];exact h.size,fun b hb hn=>(cf vs j w1 b (by omega)).trans (h.keep b hb hn)⟩
end
def Sn (A:Option Addr):Option Nat:=A.map (·.block)
theorem Gi {n cap g3:Nat} {A:Option Addr} {xs cs:List Value} (w:World) (ho:w.ownsRow 0 82 16 (.slice A n cap) n xs) (hcl:cs.length=16) (hsrc:∀j u,cs[j]? = some u->w.cell? ⟨g3,j,none⟩=some u) (hc1:∀u∈cs,u.oneCell'=true) (hn:n<=100000) :
  Calls prog 130 #[.slice A n cap,.int .i64 n,.slice (some ⟨g3,0,none⟩) 1 1] w fun e w'=>∃v',e = .returned v'/\Frx w w' (fun b=>Sn A=some b)/\(∀g',kb v'=some g'->g'<w'.heap.size/\(w.heap.size<=g'\/Sn A=some g'))/\w'.ownsRow 0 82 16 v' (n+1) (xs++cs):=by
 have hinfo:(prog.info? 82).map (fun i=>(i.zero,i.size,i.bytes))=some (some KA,16,184):=by kernel_rfl
 obtain ⟨ti,hi1,hi2,hi3,hi5⟩:=info_parts hinfo;obtain ⟨v',w',hrun,ho1,hgr,_,hob⟩:=run_append_own_at (P:=prog) w 0 30 30 82 ti KA 16 184 underlying30 hi1 hi2 hi3 hi5 (by decide) (by decide) (.slice A n cap) n xs ho ⟨g3,0,none⟩ 1 1 cs (by omega) (fun j u hj=>by rw [dS,Nat.zero_add];exact hsrc j u hj) hc1 (by simp only [maxLen];omega) (by omega) (Nat.zero_le _);have hEND:Hid (Frx w w' (fun b=>Sn A=some b)/\(∀g',kb v'=some g'->g'<w'.heap.size/\(w.heap.size<=g'\/Sn A=some g'))/\w'.ownsRow 0 82 16 v' (n+1) (xs++cs)):=by
  have hv:∃A' n' c',v' = .slice A' n' c':=by
   rcases ho1.2 with ⟨hv,_⟩|⟨g',cap',cur',hv,_⟩ <;> exact ⟨_,_,_,hv⟩
  refine ⟨⟨hgr.os,hgr.tape,hgr.output,hgr.size,fun b hb hn=>hgr.block b hb fun e=>hn ?_⟩,fun g' hg'=>?_,ho1⟩
  ·cases A with
   | none=>cases e
   | some a=>exact e.symm
  ·rcases ho1.2 with ⟨hv,_⟩|⟨g0,cap',cur',hv,_,hh,_⟩
   ·omega
   ·subst hv;injection hg' with hg';subst hg';refine ⟨(Array.getElem?_eq_some_iff.1 hh).1,?_⟩;rcases hob with h|h
    ·right
     cases A with
     | none=>cases h
     | some a=>exact h.symm
    ·injection h with h;exact .inl (Nat.le_of_eq h.symm)
 have HR:=Lib.hid hrun;clear hrun ho1 hgr hob hsrc ho hi1 hi2 hi3 hi5 hinfo
 go_enter func130,ntmps130
 go_wp2_with (at_builtin;refine Lib.wpList_append_run _ rfl _ _ 30 30 rfl _ _ rfl rfl _ _ HR.out ?_)
 all_goals (go_ret;exact ⟨_,rfl,hEND.out⟩)
theorem JO {ys xs cs:List Value} {a b c:Nat} (hx:ys.take c=xs) (hac:a<=c) (hcl:cs.length=b) (hc:c+b<=ys.length) :
  ((ys.take (a+b)++xs.drop a++ys.drop (a+b+(xs.drop a).length)).take a++cs++(ys.take (a+b)++xs.drop a++ys.drop (a+b+(xs.drop a).length)).drop (a+cs.length)).take (c+b)=xs.take a++cs++xs.drop a:=by
 have hxl:xs.length=c:=by rw [<-hx,List.length_take];omega
 have hyl:(ys.take (a+b)).length=a+b:=by rw [List.length_take];omega
 generalize hR:ys.drop (a+b+(xs.drop a).length)=R;have e1:(ys.take (a+b)++xs.drop a++R).take a=xs.take a:=by
  rw [List.append_assoc,List.take_append_of_le_length (by omega),List.take_take,<-hx,List.take_take];congr 1
  omega
 have e2:(ys.take (a+b)++xs.drop a++R).drop (a+cs.length)=xs.drop a++R:=by
  rw [List.append_assoc,hcl];exact List.drop_left' hyl
 rw [e1,e2,<-List.append_assoc];exact List.take_left' (by simp only [List.length_append,List.length_take,List.length_drop];omega)
section
variable {n cap i g g3:Nat} {xs cs:List Value}
theorem H6 {k:Nat} (h:k<=100000):IntKind.i64.wrap ((k:Int)+1)=(k:Int)+1:=by rw [IntKind.wrap_i64];omega
theorem Cg {tb:TypeId} (w:World) (ho:w.ownsRow 0 82 16 (.slice (some ⟨g,0,none⟩) n cap) n xs) (hone:∀u∈xs,u.oneCell'=true) (hcl:cs.length=16) (hb:w.heap[g3]? = some (.cells cs.toArray tb (0,0))) (hc1:∀u∈cs,u.oneCell'=true) (hne:g3≠g) (hn:n<=100000) (hi:i<n) (hroom:n+1<=cap) :
  Calls prog 130 #[.slice (some ⟨g,0,none⟩) n cap,.int .i64 i,.slice (some ⟨g3,0,none⟩) 1 1] w fun e w'=>e = .returned (.slice (some ⟨g,0,none⟩) (n+1) cap)/\Frx w w' (fun b=>b=g)/\w'.ownsRow 0 82 16 (.slice (some ⟨g,0,none⟩) (n+1) cap) (n+1) (xs.take (i*16)++cs++xs.drop (i*16)):=by
 obtain ⟨ys,hf,ht,hnc,hcm,hgw⟩:=m7 ho;have hxl:=pU ho;have hyl:=pU hf;have hinfo:(prog.info? 82).map (fun i=>(i.zero,i.size,i.bytes))=some (some KA,16,184):=by kernel_rfl
 have hsz:(prog.info? 82).map (·.size)=some 16:=by kernel_rfl
 obtain ⟨D,hD⟩:=qGe (xs.drop (i*16));have hDl:D.length=(n-i)*16:=by rw [<-hD,List.length_drop,hxl,Nat.sub_mul]
 have hfd:w.drew.ownsRow 0 82 16 (.slice (some ⟨g,0,none⟩) cap cap) cap ys:=hf;obtain ⟨W1,hW1⟩:∃W1,W1=w.drew.setCells g ((i+1)*16) D:=⟨_,rfl⟩;have hf1:W1.ownsRow 0 82 16 (.slice (some ⟨g,0,none⟩) cap cap) cap (ys.take ((i+1)*16)++D++ys.drop ((i+1)*16+D.length)):=by
  rw [hW1];exact yA hfd D (by rw [hDl,hyl];omega)
 have hf2:=yA hf1 cs (j:=i*16) (by simp only [List.length_append,List.length_take,List.length_drop,hDl,hyl,hcl];omega);have hf3:=vj hf2 (m:=n+1) hroom (by omega);have hic:=JO (a:=i*16) (b:=16) (c:=n*16) ht (by omega) hcl (by rw [hyl];omega);rw [hD] at hic;rw [show (i+1)*16=i*16+16 by omega,show (n+1)*16=n*16+16 by omega,hic] at hf3;have hcp1:∀ty dc sc,(Builtin.copy_ #[30,30] ty #[.slice (some ⟨g,(i+1)*16,none⟩) (n-i) dc,.slice (some ⟨g,i*16,none⟩) (n+1-i) sc]).run prog w.drew = .ok (goInt (Nat.min (n+1-i) (n-i))) (w.drew.setCells g ((i+1)*16) D):=fun ty dc sc =>
  jh w.drew _ ty 82 16 g ((i+1)*16) (n-i) dc ⟨g,i*16,none⟩ (n+1-i) sc D underlying30 hsz (by rw [hDl];congr 1;simp only [Nat.min_def];split <;> omega)
   (fun j v hj=>by rw [Addr.add_lit];exact pT ho (by rw [<-hD,List.getElem?_drop] at hj;exact hj))
   (fun j hj=>(eG hfd (j:=(i+1)*16+j) (by omega)).1) (fun j hj=>(eG hfd (j:=(i+1)*16+j) (by omega)).2) (fun v hv=>hone v (List.mem_of_mem_drop (hD▸hv)))
 have hcp2:∀ty dc,(Builtin.copy_ #[30,30] ty #[.slice (some ⟨g,i*16,none⟩) (n+1-i) dc,.slice (some ⟨g3,0,none⟩) 1 1]).run prog W1 = .ok (goInt (Nat.min 1 (n+1-i))) (W1.setCells g (i*16) cs):=fun ty dc =>
  jh W1 _ ty 82 16 g (i*16) (n+1-i) dc ⟨g3,0,none⟩ 1 1 cs underlying30 hsz (by rw [hcl];simp only [Nat.min_def];split <;> omega)
   (fun j v hj=>by
    rw [Addr.add_lit,Nat.zero_add,hW1];have:(w.drew.setCells g ((i+1)*16) D).heap[g3]? = some (.cells cs.toArray tb (0,0)):=(cf D _ w.drew g3 hne).trans hb;simp only [World.cell?,this];simpa using hj)
   (fun j hj=>(eG hf1 (j:=i*16+j) (by omega)).1) (fun j hj=>(eG hf1 (j:=i*16+j) (by omega)).2) hc1
 have hov:∀lb cb,(callFunc 203 #[.slice (some ⟨g3,0,none⟩) 1 1,.slice (some ⟨g,(i+1)*16,none⟩) lb cb]).run prog w = .ok (.value (.bool false)) w:=fun lb cb=>by
  obtain ⟨cur,hh,hcs⟩:∃cur,w.heap[g]? = some (.cells cur 82 (0,0))/\cur.size=cap*16:=by
   rcases ho.2 with ⟨hv,_⟩|⟨g',cap',cur,hv,_,hh,_,_,hcs,_⟩
   ·cases hv
   ·injection hv with e1 _ e3;injection e1 with e1;injection e1 with e1;subst e1;subst e3;exact ⟨cur,hh,hcs⟩
  rw [run_callFunc_extern func203 (by kernel_rfl) (by kernel_rfl) (by kernel_rfl) (e:=Extern.SlicesOverlaps.overlaps #[30,30] #[4]) (by kernel_rfl),
   Lib.run_overlaps_apart w 30 4 82 underlying30 16 sizeOf82 ⟨g3,0,none⟩ ⟨g,(i+1)*16,none⟩ 1 1 lb cb hne tb 82 16 (cap*16) (by simp [World.shape?,hb,hcl]) (by simp [World.shape?,hh,hcs]) (by omega) (by simp [World.frozen?,hb]) (by simp [World.frozen?,hb])]
  rfl
 have hEND:Hid (Frx w (W1.setCells g (i*16) cs) (fun b=>b=g)/\(W1.setCells g (i*16) cs).ownsRow 0 82 16 (.slice (some ⟨g,0,none⟩) (n+1) cap) (n+1) (xs.take (i*16)++cs++D)):=by
  refine ⟨?_,hf3⟩;have h1:Frx w W1 fun b=>b=g:=by rw [hW1];exact (Frx.trans (Frx.drew (Frx.refl w _)) (jd w.drew g _ D))
  exact h1.trans (jd W1 g _ cs)
 have S1:=(Dk underlying30 hinfo (some ⟨g,0,none⟩) n cap i (by omega) hnc).2;have S2:∀w,(Instr.sliceAt 30 (.slice (some ⟨g,0,none⟩) n cap) none (some (.int .i64 ((n:Int)+1))) none).run prog w = .ok (.slice (some ⟨g,0,none⟩) (n+1) cap) w:=fun w=>by
  obtain ⟨i0,hi0,_⟩:=info_parts hinfo;have he:prog.elem 30=82:=by simp [Program.elem,underlying30]
  rw [run_sliceAt_slice w _ _ _ _ _ (by rw [he];exact underlying30)];exact Dj underlying30 hi0 (some ⟨g,0,none⟩) n cap (n+1) hroom w
 have S3:=(Dk underlying30 hinfo (some ⟨g,0,none⟩) (n+1) cap i (by omega) hroom).2;have S4:=(Dk underlying30 hinfo (some ⟨g,0,none⟩) (n+1) cap (i+1) (by omega) hroom).2;have ec:∀k,k<cap->xM (some ⟨g,0,none⟩) cap k 16=some ⟨g,k*16,none⟩:=fun k hk=>by unfold xM;rw [if_neg (by omega),Option.map_some,gL,Nat.zero_add]
 rw [ec i (by omega)] at S1 S3;rw [ec (i+1) (by omega)] at S4;rw [show ((i+1:Nat):Int)=(i:Int)+1 by omega] at S4;have hz2:¬((i:Int)=(n:Int)):=by omega
 have hz3:¬((cap:Int)<(n:Int)+1):=by omega
 have w1:=H6 hn;have w2:=H6 (k:=i) (by omega);rw [<-hW1] at hcp1;rw [hD];have HC1:=Lib.hid hcp1;have HC2:=hcp2;clear hcp1 hcp2 hW1 hf hfd hf1 hf2 hf3 hic ho hone hb hD hDl hxl hyl ht hsz hinfo ec hc1 hcl
 go_enter func130,ntmps130
 have mixed:prog.follows .mixedOrders=true:=by kernel_rfl
 go_wp2_with (simp only [hov])
 go_region_law_o (refine yB rfl _ _ 30 30 rfl (.slice (some ⟨g,(i+1)*16,none⟩) (n-i) (cap-(i+1))) (.slice (some ⟨g,i*16,none⟩) (n+1-i) (cap-i)) (by simp [Act.eval,Act.put]) (by simp [Act.eval,Act.put]) (HC1.out 3 (cap-(i+1)) (cap-i)) ?_)
 go_wp2_with fail
 go_ret
 exact ⟨rfl,hEND.out⟩
theorem Ed {tb:TypeId} (w:World) (ho:w.ownsRow 0 82 16 (.slice (some ⟨g,0,none⟩) n cap) n xs) (hone:∀u∈xs,u.oneCell'=true) (hcl:cs.length=16) (hb:w.heap[g3]? = some (.cells cs.toArray tb (0,0))) (hc1:∀u∈cs,u.oneCell'=true) (hn:n<=100000) (hi:i<n) (hroom:cap<n+1) :
  Calls prog 130 #[.slice (some ⟨g,0,none⟩) n cap,.int .i64 i,.slice (some ⟨g3,0,none⟩) 1 1] w fun e w'=>∃G,e = .returned (.slice (some ⟨w.heap.size,0,none⟩) (n+1) G)/\Frx w w' (fun _=>False)/\w.heap.size<w'.heap.size/\w'.ownsRow 0 82 16 (.slice (some ⟨w.heap.size,0,none⟩) (n+1) G) (n+1) (xs.take (i*16)++cs++xs.drop (i*16)):=by
 obtain ⟨ys,hf,ht,hnc,hcm,hgw⟩:=m7 ho;have hxl:=pU ho;have hinfo:(prog.info? 82).map (fun i=>(i.zero,i.size,i.bytes))=some (some KA,16,184):=by kernel_rfl
 have hsz:(prog.info? 82).map (·.size)=some 16:=by kernel_rfl
 obtain ⟨i0,hi0,hz0,hzs,hzb⟩:=info_parts hinfo;obtain ⟨D,hD⟩:=qGe (xs.drop (i*16));have hDl:D.length=(n-i)*16:=by rw [<-hD,List.length_drop,hxl,Nat.sub_mul]
 obtain ⟨X,hX⟩:=qGe (xs.take (i*16));have hXl:X.length=i*16:=by rw [<-hX,List.length_take,hxl];omega
 have hold:(Builtin.firstCells i0.size i (.slice (some ⟨g,0,none⟩) i cap)).run prog w.drew = .ok X.toArray w.drew:=by
  rw [hzs];exact run_firstCells_some (w:=w.drew) 16 i ⟨g,0,none⟩ i cap X hXl (fun j v hj=>by
   rw [Addr.add_lit,Nat.zero_add];rw [<-hX,List.getElem?_take] at hj;split at hj
   ·exact pT ho hj
   ·cases hj)
 have hik:i+(n+1-i)=n+1:=by omega
 obtain ⟨G,hG⟩:∃G,G=grownCap w (n+1) cap 82:=⟨_,rfl⟩;obtain ⟨ROW,hROW⟩:∃ROW:Array Value,ROW=X.toArray++Builtin.zeroCells KA.cells (n+1-i)++Builtin.zeroCells KA.cells (G-(n+1)):=⟨_,rfl⟩;obtain ⟨W1,hW1⟩:∃W1,W1=w.drew.alloc (.cells ROW 82):=⟨_,rfl⟩;have hrz:∀ty,(Builtin.append_ #[30,3] ty #[.slice (some ⟨g,0,none⟩) i cap,.int .i64 ((n:Int)+1-(i:Int))]).run prog w = .ok (.slice (some ⟨w.heap.size,0,none⟩) (n+1) G) W1:=fun ty=>by
  have h:=Lib.run_append_grow_zeros w 30 3 ty 82 i0 _ .i64 .i64 underlying30 underlying3 hi0 hz0 (some ⟨g,0,none⟩) i cap X hold (n+1-i) (by omega) (by omega) (by omega) (by omega) (by rw [hzb];omega) (by rw [hzb,hik];exact growslice_fits hroom (by omega));rw [hik,<-hG,<-hROW,<-hW1] at h;rw [show (n:Int)+1-(i:Int)=((n+1-i:Nat):Int) by omega];exact h
 have hGn:n+1<=G:=by rw [hG];exact grownCap_ge w _ _ _
 have hGm:G<=maxLen:=by rw [hG];exact grownCap_le_maxLen w _ _ _ (by simp only [maxLen];omega)
 have hzc:∀k,(Builtin.zeroCells KA.cells k).size=k*16:=fun k=>by simp [Builtin.zeroCells,KA,Value.cells]
 have hRs:ROW.size=G*16:=by
  rw [hROW,Array.size_append,Array.size_append,hzc,hzc,List.size_toArray,hXl];omega
 obtain ⟨Z,hZ⟩:=qGe ((Builtin.zeroCells KA.cells (n+1-i)).toList);have hZl:Z.length=(n+1-i)*16:=by rw [<-hZ,Array.length_toList,hzc]
 have h1:W1.ownsRow 0 82 16 (.slice (some ⟨w.heap.size,0,none⟩) (n+1) G) (n+1) (X++Z):=by
  have h:=Oi (N:=16) (e:=82) w.drew ROW hRs hGn hGm;rw [<-hW1,hROW,Array.toList_append,Array.toList_append,hZ,List.take_left' (by rw [List.length_append,hZl];simp only [hXl];omega)] at h;exact h
 obtain ⟨W2,hW2⟩:∃W2,W2=W1.setCells w.heap.size (i*16) cs:=⟨_,rfl⟩;have h2:=yA h1 cs (j:=i*16) (by simp only [List.length_append,hXl,hZl,hcl];omega);rw [<-hW2,List.take_left' hXl] at h2;obtain ⟨R,hR⟩:=qGe ((X++Z).drop (i*16+cs.length));have hRl:R.length=(n-i)*16:=by rw [<-hR,List.length_drop,List.length_append,hXl,hZl,hcl];omega
 rw [hR] at h2;have h2d:W2.drew.ownsRow 0 82 16 (.slice (some ⟨w.heap.size,0,none⟩) (n+1) G) (n+1) (X++cs++R):=h2;obtain ⟨W3,hW3⟩:∃W3,W3=W2.drew.setCells w.heap.size ((i+1)*16) D:=⟨_,rfl⟩;have h3:=yA h2d D (j:=(i+1)*16) (by simp only [List.length_append,hXl,hRl,hDl,hcl];omega);rw [<-hW3,List.take_left' (by rw [List.length_append,hXl,hcl];omega),qDn (by simp only [List.length_append,hXl,hRl,hDl,hcl];omega),List.append_nil] at h3;have hg3:g3<w.heap.size:=(Array.getElem?_eq_some_iff.1 hb).1;have hb1:W1.heap[g3]? = some (.cells cs.toArray tb (0,0)):=by rw [hW1];exact (Below.heap_alloc w.drew _ g3 hg3).trans hb
 have hgk:W2.drew.heap[g]? = w.heap[g]?:=by
  rw [hW2];show (W1.setCells w.heap.size (i*16) cs).heap[g]? = _;rw [cf _ _ _ _ (by omega),hW1];exact Below.heap_alloc w.drew _ g hgw
 have hcpA:∀ty dc,(Builtin.copy_ #[30,30] ty #[.slice (some ⟨w.heap.size,i*16,none⟩) (n+1-i) dc,.slice (some ⟨g3,0,none⟩) 1 1]).run prog W1 = .ok (goInt (Nat.min 1 (n+1-i))) W2:=fun ty dc=>by
  rw [hW2];exact jh W1 _ ty 82 16 w.heap.size (i*16) (n+1-i) dc ⟨g3,0,none⟩ 1 1 cs underlying30 hsz (by rw [hcl];simp only [Nat.min_def];split <;> omega)
   (fun j v hj=>by
    rw [Addr.add_lit,Nat.zero_add];simp only [World.cell?,hb1];simpa using hj)
   (fun j hj=>(eG h1 (j:=i*16+j) (by omega)).1) (fun j hj=>(eG h1 (j:=i*16+j) (by omega)).2) hc1
 have hcpB:∀ty dc sc,(Builtin.copy_ #[30,30] ty #[.slice (some ⟨w.heap.size,(i+1)*16,none⟩) (n-i) dc,.slice (some ⟨g,i*16,none⟩) (n-i) sc]).run prog W2.drew = .ok (goInt (Nat.min (n-i) (n-i))) W3:=fun ty dc sc=>by
  rw [hW3];exact jh W2.drew _ ty 82 16 w.heap.size ((i+1)*16) (n-i) dc ⟨g,i*16,none⟩ (n-i) sc D underlying30 hsz (by rw [hDl];congr 1;simp only [Nat.min_def];split <;> omega)
   (fun j v hj=>by
    rw [Addr.add_lit];have h9:w.cell? ⟨g,i*16+j,none⟩=some v:=pT ho (by rw [<-hD,List.getElem?_drop] at hj;exact hj);simpa only [World.cell?,hgk] using h9)
   (fun j hj=>(eG h2d (j:=(i+1)*16+j) (by omega)).1) (fun j hj=>(eG h2d (j:=(i+1)*16+j) (by omega)).2) (fun v hv=>hone v (List.mem_of_mem_drop (hD▸hv)))
 have hEND:Hid (Frx w W3 (fun _=>False)/\w.heap.size<W3.heap.size/\W3.ownsRow 0 82 16 (.slice (some ⟨w.heap.size,0,none⟩) (n+1) G) (n+1) (X++cs++D)):=by
  refine ⟨?_,?_,h3⟩
  ·have a1:Frx w W1 fun _=>False:=by rw [hW1];exact JN w _ _
   have a2:Frx w W2 fun _=>False:=by rw [hW2];exact H5 a1 (Nat.le_refl _) _ _
   rw [hW3];exact H5 (a2.trans (Frx.drew (Frx.refl W2 _))) (Nat.le_refl _) _ _
  ·rw [hW3,cm];show _<W2.heap.size;rw [hW2,cm,hW1];simp
 have S1:=Dk underlying30 hinfo (some ⟨g,0,none⟩) n cap i (by omega) hnc;obtain ⟨S0,S1⟩:=S1;have S3:=(Dk underlying30 hinfo (some ⟨w.heap.size,0,none⟩) (n+1) G i (by omega) hGn).2;have S4:=(Dk underlying30 hinfo (some ⟨w.heap.size,0,none⟩) (n+1) G (i+1) (by omega) hGn).2;have ec:∀b c k,k<c->xM (some ⟨b,0,none⟩) c k 16=some ⟨b,k*16,none⟩:=fun b c k hk=>by unfold xM;rw [if_neg (by omega),Option.map_some,gL,Nat.zero_add]
 rw [ec _ _ i (by omega)] at S1 S3;rw [ec _ _ (i+1) (by omega)] at S4;rw [show ((i+1:Nat):Int)=(i:Int)+1 by omega] at S4;have hz2:¬((i:Int)=(n:Int)):=by omega
 have hz3:(cap:Int)<(n:Int)+1:=by omega
 have w1:=H6 hn;have w2:=H6 (k:=i) (by omega);have w3:IntKind.i64.wrap ((n:Int)+1-(i:Int))=(n:Int)+1-(i:Int):=by rw [IntKind.wrap_i64];omega
 have mixed:prog.follows .mixedOrders=true:=by kernel_rfl
 rw [hX,hD];have HC1:=Lib.hid hcpB;clear hcpB hW1 hW2 hW3 hf h1 h2 h2d h3 ho hone hb hD hDl hxl ht hsz hinfo ec hc1 hcl hold hRl hR hZl hZ hzc hRs hROW hG hX hXl hb1 hgk hi0 hz0 hzs hzb hik
 go_enter func130,ntmps130
 go_wp2_with (at_builtin;refine Lib.wpList_append_run _ rfl _ _ 30 3 rfl _ _ rfl rfl _ _ (hrz _) ?_)
 go_region_law_o (refine yB rfl _ _ 30 30 rfl (.slice (some ⟨w.heap.size,(i+1)*16,none⟩) (n-i) (G-(i+1))) (.slice (some ⟨g,i*16,none⟩) (n-i) (cap-i)) (by simp [Act.eval,Act.put]) (by simp [Act.eval,Act.put]) (HC1.out 3 (G-(i+1)) (cap-i)) ?_)
 go_wp2_with fail
 go_ret
 exact ⟨_,rfl,hEND.out⟩
end
theorem H7 (d:Nat) (l:List Pc) (i:Nat) (x:Pc) {cs0:List D} (h0:∀(w:World) (F:Nat->Prop) (ρ:Nat->Value) (vs:List Value),All2 (D.rep w F ρ) cs0 vs->(fR d).rep w F x vs) (hl:l.length<=100000) (hi:i<=l.length) {L:List Pc} (hL:l.take i++x :: l.drop i=L):FSpec prog 130 [.one (.own 1),.one (.sc (.int .i64 (i:Int))),.one (.slb 3 1)] [(1,.arr 82 (fR d) l),(3,.box 82 cs0)] [2] (.c (.own 2)) [(2,some (.arr 82 (fR d) L)),(1,none),(3,none)] :=
 AU (hb:=[(3,.box 82 cs0)]) (fun b W=>by kernel_rfl) rfl fun w F ρ vs xs ho hr hF ha hbx=>by
  match vs,ha with
  | [_,_],⟨h2,⟨g3,hg3,hv3⟩,_⟩ =>
   obtain rfl:=h2;obtain rfl:=hv3;obtain ⟨⟨g',cs,e1,hB,hA,hone⟩,hdis⟩:=hbx 3 _ rfl;rw [hg3] at e1;injection e1 with e1;injection e1 with e1;injection e1 with e1;subst e1;have hB':w.heap[g3]? = some (.cells cs.toArray 82 (0,0)):=hB;have hx:(fR d).rep w F x cs:=h0 w F _ cs hA;have hcl:cs.length=16:=(fR d).len hx;have hLl:L.length=l.length+1:=by rw [<-hL];simp;omega
   have hrep:∀(w':World) (F':Nat->Prop),(∀b,F b->F' b/\w'.heap[b]? = w.heap[b]?)->Reps (fR d) w' F' L (xs.take (i*16)++cs++xs.drop (i*16)):=fun w' F' hF'=>by
    rw [<-hL,List.append_assoc];have h9:Reps (fR d) w F (x :: l.drop i) (cs++xs.drop (i*16)):=(Reps.single hx).append (hr.drop i);exact ((hr.take i).append h9).same (fun b hb=>(hF' b hb).2) fun b hb=>(hF' b hb).1
   rcases Nat.eq_or_lt_of_le hi with he|hlt
   ·subst he;obtain ⟨A,cap,hv⟩:∃A cap,ρ 1 = .slice A l.length cap:=by
     rcases ho.2 with ⟨hv,hz⟩|⟨g,cap,cur,hv,_⟩
     ·exact ⟨none,0,by rw [hz];exact hv⟩
     ·exact ⟨_,cap,hv⟩
    rw [hv] at ho hF ⊢;have ek:kb (.slice A l.length cap)=Sn A:=by cases A <;> rfl
    rw [ek] at hF;have hxl:xs.length=l.length*16:=pU ho;refine Calls.mono (Gi w ho hcl (fun j u hj=>by simp only [World.cell?,hB'];simpa using hj) hone hl) ?_;rintro e w' ⟨v',rfl,hf,hk,ho'⟩;rw [ek];refine ⟨v',_,rfl,hf,hk,by rw [hLl];exact ho',fun F' hF'=>?_⟩;have h9:=hrep w' F' hF'
    rwa [List.take_of_length_le (by omega),qDn (by omega),List.append_nil] at h9
   ·obtain ⟨g,cap,hv⟩:∃g cap,ρ 1 = .slice (some ⟨g,0,none⟩) l.length cap:=by
     rcases ho.2 with ⟨_,hz⟩|⟨g,cap,cur,hv,_⟩
     ·omega
     ·exact ⟨g,cap,hv⟩
    rw [hv] at ho hF hdis ⊢;have hne:g3≠g:=fun e=>hdis g3 (by rw [hg3];rfl) (by rw [e];rfl);have hgl:=(m7 ho).choose_spec.2.2.2.2;rcases Nat.lt_or_ge cap (l.length+1) with hc|hc
    ·refine Calls.mono (Ed w ho hr.one hcl hB' hone hl hlt hc) ?_;rintro e w' ⟨G,rfl,hf,hk,ho'⟩;refine ⟨_,_,rfl,⟨hf.os,hf.tape,hf.output,hf.size,fun b hb _=>hf.keep b hb id⟩,fun g' hg'=>?_,by rw [hLl];exact ho',fun F' hF'=>hrep w' F' hF'⟩;injection hg' with hg';subst hg';exact ⟨hk,.inl (Nat.le_refl _)⟩
    ·refine Calls.mono (Cg w ho hr.one hcl hB' hone hne hl hlt hc) ?_;rintro e w' ⟨rfl,hf,ho'⟩;refine ⟨_,_,rfl,⟨hf.os,hf.tape,hf.output,hf.size,fun b hb hn=>hf.keep b hb fun e=>hn (by rw [e];rfl)⟩,fun g' hg'=>?_,by rw [hLl];exact ho',fun F' hF'=>hrep w' F' hF'⟩;injection hg' with hg';subst hg';exact ⟨Nat.lt_of_lt_of_le hgl hf.size,.inr rfl⟩
end
theorem IS {p:Pr}:∀{l:List Pc} {k:Nat},bM p k l<0->∀x∈l,x.proc≠p
 | y :: l,k,h,x,hx=>by
  have h:(bif decide (y.proc=p) then (k:Int) else bM p (k+1) l)<0:=h;by_cases e:y.proc=p
  ·rw [qDt e,qCt] at h;omega
  ·rw [qDf e,qCf] at h;rcases List.mem_cons.1 hx with rfl|hx
   ·exact e
   ·exact IS h x hx
def Uo (p:Pr) (cost:Int):List D:=[.sc (.int .i64 p.site),.sc (.int .i64 p.inc),.sc (.int .i64 p.num),.sc (.int .i64 cost),.sc (.slice none 0 0),.sc (.slice none 0 0),.sc (.bool false),.sc (.int .i64 0),.sc (.string ⟨#[]⟩),.sc (.int .i64 0),.sc (.int .i64 0),.sc (.slice none 0 0),.sc (.int .i64 0),.sc (.int .i64 0),.sc (.int .i64 0),.sc (.int .i64 0)]
theorem Pa (d:Nat) {p:Pr} {cost:Int} {w:World} {F:Nat->Prop} {ρ:Nat->Value} {vs:List Value} (h:All2 (D.rep w F ρ) (Uo p cost) vs):(fR d).rep w F { FI with proc:=p,cost:=cost } vs:=by
 match vs,h with
 | [_,_,_,_,_,_,_,_,_,_,_,_,_,_,_,_],⟨rfl,rfl,rfl,rfl,rfl,rfl,rfl,rfl,rfl,rfl,rfl,rfl,rfl,rfl,rfl,rfl,_⟩ =>
  exact ⟨none,0,none,0,none,0,rfl,RowsAt.nil _ _ _ _,⟨Nat.zero_le _,Nat.zero_le _⟩,RowsAt.nil _ _ _ _,⟨Nat.zero_le _,Nat.zero_le _⟩,RowsAt.nil _ _ _ _,⟨Nat.zero_le _,Nat.zero_le _⟩⟩
theorem Ri (d:Nat) (w:Wk) (p:Pr) (cost:Int) (h8:w.c.procs.length<=8) (hup:Ra p w.c.procs) {Z:Wk×Int} (hZ:iZ w p cost=Z):FSpec prog 78 [go,p.a,lw cost] (HP d w) [3,4] (.i Z.2) (HR d Z.1):=by
 refine a7 func78 ?_;unfold iZ at hZ;have kV:=io p;obtain ⟨bA,hA⟩:∃b,(jW p && decide (1<=cost) && decide (cost<=1000))=b:=⟨_,rfl⟩;rw [hA] at hZ;cases bA with
 | false =>
  obtain rfl:(w,1)=Z:=hZ;obtain ⟨v,hv⟩:=qGe (jW p);rw [hv] at kV hA;cases v with
  | false =>
   refine ao ?_
   (refine cc (qf [(3,1),(4,2)]) ?_;exact af)
  | true =>
   simp only [Bool.true_and,Bool.and_eq_false_iff,decide_eq_false_iff_not] at hA;by_cases h1:1<=cost
   ·refine ao ?_
    (refine cc (qf [(3,1),(4,2)]) ?_;exact af)
   ·refine ao ?_
    (refine cc (qf [(3,1),(4,2)]) ?_;exact af)
 | true =>
  simp only [qBa,decide_eq_true_eq] at hA;obtain ⟨⟨hv,h1⟩,h2⟩:=hA;rw [hv] at kV;rw [Bool.not_true,qCf] at hZ;obtain ⟨ix,hix⟩:=qGe (bM p 0 w.c.procs);have kI:=C4 d w.c.procs p (by omega) hix;rw [hix] at hZ;by_cases h0:0<=ix
  ·obtain rfl:(w,11)=Z:=by rw [<-hZ,qDt h0];rfl
   exact Vh
  ·rw [qDf h0,qCf] at hZ;by_cases hl:w.c.procs.length=8
   ·obtain rfl:(w,4)=Z:=by rw [<-hZ,qDt hl];rfl
    exact Vh
   ·rw [qDf hl,qCf] at hZ;have hno:=IS (by rw [hix];omega);obtain ⟨P,hP⟩:=qGe w.c.procs;obtain ⟨x,hx⟩:∃x,({ FI with proc:=p,cost:=cost }:Pc)=x:=⟨_,rfl⟩;have hxp:x.proc=p:=by rw [<-hx]
    have hZ:((⟨{ w.c with procs:=my x w.c.procs },w.ev⟩,0):Wk×Int)=Z:=by rw [<-hx];exact hZ
    have h00:∀(w:World) (F:Nat->Prop) (ρ:Nat->Value) (vs:List Value),All2 (D.rep w F ρ) (Uo p cost) vs->(fR d).rep w F x vs:=fun w F ρ vs h=>by
     rw [<-hx];exact Pa d h
    have hPl:w.c.procs.length=P.length:=by rw [hP]
    rw [hP] at h8 hl hup hno;repeat' (first|refine av ?_ ?_|(refine aa 9 rfl ?_;first|(refine cB [] kV ?_)|(refine cH (qf [(1,1)]) kI ?_))|(refine aa 21 rfl ?_;first|refine sx (aI rfl rfl) ?_|refine sx (ba rfl rfl) ?_)|refine aq ?_|exact aw|(refine ap fun hb=>?_;first|(exfalso;omega)|skip))
    clear hx hix kI kV;refine ab (fun i=>i<=P.length/\∀j (hj:j<P.length),j<i->cl P[j].proc p<0) (fun i=>bP [0,1,2,4] [(0,.v go),(2,.i cost),(4,.c (.ptr 4 0)),(7,.i i)] [(0,.box 109 (Ix w 2)),(1,.arr 82 (fR d) P),(2,.arr 68 fX w.ev),(4,.box 40 [.sc (.int .i64 p.site),.sc (.int .i64 p.inc),.sc (.int .i64 p.num)])]) (fun i=>P.length-i) 0 ⟨Nat.zero_le _,fun j _ h=>absurd h (by omega)⟩ (by rw [<-hP];exact aT) ?_;rintro i ⟨hi,hs⟩;have fin:(∀j (hj:j<P.length),i<=j->0<cl P[j].proc p)->P.take i++x :: P.drop i=my x w.c.procs:=fun h=>by
     rw [hP];exact (GH x P i hi (fun j hj hji=>by rw [hxp];have:=hs j hj hji;omega) (fun j hj hij=>by rw [hxp];exact h j hj hij)).symm
    by_cases hlt:i<P.length
    ·obtain ⟨z,hz⟩:=qGe (P[i]);have hgz:P[i]? = some z:=by rw [qGg hlt,hz]
     obtain ⟨e,he⟩:=qGe (cl z.proc p);have kC:=lc z.proc p;rw [he] at kC;by_cases h0:e<0
     ·repeat' (first
       | refine av ?_ ?_
       | refine aa 9 rfl (cB [1] kC ?_)
       | (refine aa 21 rfl ?_;first|refine sx (aI rfl rfl) ?_|refine sx (ba rfl rfl) ?_)
       | refine aq ?_
       | exact aw|(refine ap fun hb=>?_;first|(exfalso;omega)|skip))
      refine ⟨i+1,⟨by omega,fun j hj hji=>?_⟩,by omega,?_⟩
      ·by_cases e2:j=i
       ·subst e2;rw [hz,he];exact h0
       ·exact hs j hj (by omega)
      ·exact aT
     ·have hpos:0<cl P[i].proc p:=by
       have:e≠0:=fun h=>hno z (hz▸List.getElem_mem hlt) ((nR _ _).1 (by rw [he];exact h));rw [hz,he];omega
      have hf:=fin fun j hj hij=>hup i j hlt hj hij hpos;have kN:=H7 d P i x h00 (by omega) hi hf;obtain rfl:Z=(⟨{ w.c with procs:=my x w.c.procs },w.ev⟩,0):=hZ.symm;clear fin hs hup hno hf;repeat' (first|refine av ?_ ?_|(refine aa 9 rfl ?_;first|(refine cB [1] kC ?_)|(refine cH (qf [(1,1),(2,1001),(3,71)]) kN ?_))|(refine aa 21 rfl ?_;first|refine sx (aI rfl rfl) ?_|refine sx (ba rfl rfl) ?_)|refine aq ?_|exact aw|(refine ap fun hb=>?_;first|(exfalso;omega)|skip)|(refine cc (qf [(3,1001),(4,2)]) ?_;exact af))
    ·have hf:=fin fun j hj hij=>absurd hj (by omega);have kN:=H7 d P i x h00 (by omega) hi hf;obtain rfl:Z=(⟨{ w.c with procs:=my x w.c.procs },w.ev⟩,0):=hZ.symm;clear fin hs hup hno hf;repeat' (first|refine av ?_ ?_|refine aa 9 rfl (cH (qf [(1,1),(2,1001),(3,71)]) kN ?_)|(refine aa 21 rfl ?_;first|refine sx (aI rfl rfl) ?_|refine sx (ba rfl rfl) ?_)|refine aq ?_|exact aw|(refine ap fun hb=>?_;first|(exfalso;omega)|skip)|(refine cc (qf [(3,1001),(4,2)]) ?_;exact af))
def T4 (t:Tp):List Rs:=[⟨nA,1,1,t.v 4⟩,⟨nB,1,1,t.s.v 4⟩,⟨nC,1,1,t.s.s.v 4⟩,⟨nD,1,1,t.s.s.s.v 4⟩]
def T5 (t:Tp):Nat->Tp
 | 0=>t
 | n+1=>(T5 t n).s
theorem Tb (t:Tp) (h:TOk t):FSpec prog 44 [go] (HT t) [] (.c (.sl dQ (qj t).1)) (P8 (qj t).2):=by
 refine a7 func44 ?_;refine ao ?_;refine cj 3 1000 63 dQ rfl rfl rfl ?_;refine ab (fun i:Nat=>i<=4) (fun i=>bP [0,6,1000] [(0,.v go),(3,.c (.own 1000)),(4,.c (.slb 6 4)),(5,.i i)] [(0,.box 58 (P7 (T5 t i))),(6,.box 9 [.sc (.string nA),.sc (.string nB),.sc (.string nC),.sc (.string nD)]),(1000,.arr 63 dQ ((T4 t).take i))]) (fun i=>4-i) 0 (Nat.zero_le _) aT ?_;rintro i hi;have k1:=h.s;have k2:=k1.s;have k3:=k2.s;have k4:=k3.s;obtain rfl|rfl|rfl|rfl|rfl:i=0\/i=1\/i=2\/i=3\/i=4:=by omega
 ·have kN:=mm t 4 h (by omega);repeat' (first|refine av ?_ ?_|(refine aa 6 rfl ?_;refine sx (bK (i:=0) rfl rfl rfl rfl (by decide)) ?_)|(refine aa 7 rfl ?_;refine sx (eP rfl rfl) ?_)|(refine aa 8 rfl ?_;refine be (ae rfl rfl (aH rfl rfl) (aN [⟨nA,1,1,t.v 4⟩] rfl rfl rfl rfl) rfl aQ aQ) rfl rfl rfl ?_)|refine aa 9 rfl (cH (qf [(0,0)]) kN ?_)|refine aq ?_|exact aw|refine ap fun hb=>?_)
  refine ⟨1,by decide,by decide,?_⟩;exact bo (qf [(1000,22)])
 ·have kN:=mm t.s 4 k1 (by omega);repeat' (first|refine av ?_ ?_|(refine aa 6 rfl ?_;refine sx (bK (i:=1) rfl rfl rfl rfl (by decide)) ?_)|(refine aa 7 rfl ?_;refine sx (eP rfl rfl) ?_)|(refine aa 8 rfl ?_;refine be (ae rfl rfl (aH rfl rfl) (aN [⟨nB,1,1,t.s.v 4⟩] rfl rfl rfl rfl) rfl aQ aQ) rfl rfl rfl ?_)|refine aa 9 rfl (cH (qf [(0,0)]) kN ?_)|refine aq ?_|exact aw|refine ap fun hb=>?_)
  refine ⟨2,by decide,by decide,?_⟩;exact bo (qf [(1000,22)])
 ·have kN:=mm t.s.s 4 k2 (by omega);repeat' (first|refine av ?_ ?_|(refine aa 6 rfl ?_;refine sx (bK (i:=2) rfl rfl rfl rfl (by decide)) ?_)|(refine aa 7 rfl ?_;refine sx (eP rfl rfl) ?_)|(refine aa 8 rfl ?_;refine be (ae rfl rfl (aH rfl rfl) (aN [⟨nC,1,1,t.s.s.v 4⟩] rfl rfl rfl rfl) rfl aQ aQ) rfl rfl rfl ?_)|refine aa 9 rfl (cH (qf [(0,0)]) kN ?_)|refine aq ?_|exact aw|refine ap fun hb=>?_)
  refine ⟨3,by decide,by decide,?_⟩;exact bo (qf [(1000,22)])
 ·have kN:=mm t.s.s.s 4 k3 (by omega);repeat' (first|refine av ?_ ?_|(refine aa 6 rfl ?_;refine sx (bK (i:=3) rfl rfl rfl rfl (by decide)) ?_)|(refine aa 7 rfl ?_;refine sx (eP rfl rfl) ?_)|(refine aa 8 rfl ?_;refine be (ae rfl rfl (aH rfl rfl) (aN [⟨nD,1,1,t.s.s.s.v 4⟩] rfl rfl rfl rfl) rfl aQ aQ) rfl rfl rfl ?_)|refine aa 9 rfl (cH (qf [(0,0)]) kN ?_)|refine aq ?_|exact aw|refine ap fun hb=>?_)
  refine ⟨4,by decide,by decide,?_⟩;exact bo (qf [(1000,22)])
 ·unfold qj;rw [show T5 t 4=t.s.s.s.s from rfl];generalize t.s.s.s.s=u4 at *
  obtain ⟨u5,e5⟩:∃u,u4.s=u:=⟨_,rfl⟩;obtain ⟨u6,e6⟩:∃u,u5.s=u:=⟨_,rfl⟩;obtain ⟨u7,e7⟩:∃u,u6.s=u:=⟨_,rfl⟩;obtain ⟨u8,e8⟩:∃u,u7.s=u:=⟨_,rfl⟩;have k5:=k4.s;rw [e5] at k5;have k6:=k5.s;rw [e6] at k6;have k7:=k6.s;rw [e7] at k7;have kN1:=mm u4 8 k4 (by omega);have kN2:=mm u5 4 k5 (by omega);have kN3:=mm u6 3 k6 (by omega);have kN4:=mm u7 4 k7 (by omega);have b1:=u4.v_in (m:=8) (by omega);have b3:=u6.v_in (m:=3) (by omega);rw [e5,e6,e7,e8];rw [e5] at kN1;rw [e6] at kN2;rw [e7] at kN3;rw [e8] at kN4;generalize u4.v 8=v1 at *
  generalize u5.v 4=v2 at *
  generalize u6.v 3=v3 at *
  generalize u7.v 4=v4 at *
  clear e5 e6 e7 e8;repeat' (first|refine av ?_ ?_|(refine aa 7 rfl ?_;refine sx (eP rfl rfl) ?_)|(refine aa 8 rfl ?_;first|(refine be (ae rfl rfl (aH rfl rfl) (aN [⟨nQ,2,1+v3,v4⟩] rfl rfl rfl rfl) rfl aQ aQ) rfl rfl rfl ?_)|(refine be (ae rfl rfl (aH rfl rfl) (aN [⟨nP,2,1+v1,v2⟩] rfl rfl rfl rfl) rfl aQ aQ) rfl rfl rfl ?_))|(refine aa 9 rfl ?_;first|(refine cH (qf [(0,0)]) kN1 ?_)|(refine cH (qf [(0,0)]) kN2 ?_)|(refine cH (qf [(0,0)]) kN3 ?_)|(refine cH (qf [(0,0)]) kN4 ?_))|refine aq ?_|exact aw|refine ap fun hb=>?_|(refine cc (qf [(0,0)]) ?_;exact af))
theorem Nb (t:Tp) (l:List Rs) (h:TOk t) (hl:0<l.length/\l.length<=8) (hu:∀r∈l,1<=r.units/\r.units<=1000) {R:Rq×Tp} (hR:vF t l=R):FSpec prog 28 [go,.one (.sl dQ l)] (HT t) [] (.v (R.1.a 2)) (P8 R.2):=by
 refine a7 func28 ?_;unfold vF at hR;obtain ⟨v,u,e1,e2,hu1,b1,b2,kN⟩:=nx t 8 h (by omega) (by omega);rw [e1,e2] at hR;clear e1 e2;obtain ⟨v2,u2,e1,e2,hu2,c1,c2,kN2⟩:=nx u 5 hu1 (by omega) (by omega);rw [e1,e2] at hR;clear e1 e2;by_cases h1:v2=1
 ·rw [qDt h1,qCt] at hR;obtain ⟨v3,u3,e1,e2,hu3,d1,d2,kN3⟩:=nx u2 20 hu2 (by omega) (by omega);rw [e1,e2] at hR;clear e1 e2;obtain ⟨G,hG⟩:=qGe (mr u3 l);have kE:=Na u3 l hu3 hl hu hG;rw [hG] at hR;obtain rfl:R=(⟨G.1,v,1+v3⟩,G.2):=hR.symm;repeat' (first|refine av ?_ ?_|(refine aa 9 rfl ?_;first|(refine cH (qf [(0,0)]) kN ?_)|(refine cH (qf [(0,0)]) kN2 ?_)|(refine cH (qf [(0,0)]) kN3 ?_)|(refine cH (qf [(0,0)]) kE ?_))|refine aq ?_|exact aw|(refine ap fun hb=>?_;first|(exact absurd h1 hb)|skip)|(refine cc (qf [(0,0)]) ?_;exact af))
 ·rw [qDf h1,qCf] at hR;obtain ⟨G,hG⟩:=qGe (mr u2 l);have kE:=Na u2 l hu2 hl hu hG;rw [hG] at hR;obtain rfl:R=(⟨G.1,v,0⟩,G.2):=hR.symm;repeat' (first|refine av ?_ ?_|(refine aa 9 rfl ?_;first|(refine cH (qf [(0,0)]) kN ?_)|(refine cH (qf [(0,0)]) kN2 ?_)|(refine cH (qf [(0,0)]) kE ?_))|refine aq ?_|exact aw|(refine ap fun hb=>?_;first|(exact absurd hb h1)|skip)|(refine cc (qf [(0,0)]) ?_;exact af))
theorem Nc (t:Tp) (l:List Rs) (h:TOk t) (hl:0<l.length/\l.length<=8) (hu:∀r∈l,1<=r.units/\r.units<=1000) {R:Cm×Tp} (hR:vG t l=R):FSpec prog 20 [go,.one (.sl dQ l)] (HT t) [] (.v (R.1.a 2)) (P8 R.2):=by
 refine a7 func20 ?_;unfold vG at hR;dsimp only at hR;obtain ⟨n,u,e1,e2,hu1,b1,b2,kN⟩:=nx t 16 h (by omega) (by omega);rw [e1,e2] at hR;clear e1 e2;obtain ⟨v2,u2,e1,e2,hu2,c1,c2,kN2⟩:=nx u 6 hu1 (by omega) (by omega);rw [e1,e2] at hR;clear e1 e2;have kP:=j9 v2;obtain ⟨p,hp⟩:=qGe (ce v2);rw [hp] at kP hR;by_cases h0:n=0
 ·subst h0;obtain ⟨v3,u3,e1,e2,hu3,d1,d2,kN3⟩:=nx u2 9 hu2 (by omega) (by omega);obtain rfl:R=(⟨1,p,Rq.zero,⟨#[]⟩,1+v3⟩,u3):=by rw [<-hR,<-e1,<-e2];rfl
  clear e1 e2;repeat' (first|refine av ?_ ?_|(refine aa 9 rfl ?_;first|(refine cH (qf [(0,0)]) kN ?_)|(refine cH (qf [(0,0)]) kN2 ?_)|(refine cH (qf [(0,0)]) kN3 ?_)|(refine cB [] kP ?_))|refine aq ?_|exact aw|(refine ap fun hb=>?_;first|(exact absurd rfl hb)|skip)|(refine cc (qf [(0,0)]) ?_;exact af))
 rw [qDf h0,qCf] at hR;by_cases h9:n<9
 ·rw [qDt h9,qCt] at hR;obtain ⟨G,hG⟩:=qGe (vF u2 l);have kQ:=Nb u2 l hu2 hl hu hG;rw [hG] at hR;obtain rfl:R=(⟨2,p,G.1,⟨#[]⟩,0⟩,G.2):=hR.symm;repeat' (first|refine av ?_ ?_|(refine aa 9 rfl ?_;first|(refine cH (qf [(0,0)]) kN ?_)|(refine cH (qf [(0,0)]) kN2 ?_)|(refine cB [] kP ?_)|(refine cH (qf [(0,0)]) kQ ?_))|refine aq ?_|exact aw|(refine ap fun hb=>?_;first|(exact absurd hb h0)|skip)|(refine cc (qf [(0,0)]) ?_;exact af))
 rw [qDf h9,qCf] at hR;by_cases e9:n=9
 ·subst e9;obtain rfl:R=(⟨3,p,Rq.zero,⟨#[]⟩,0⟩,u2):=hR.symm;exact U3
 rw [qDf e9,qCf] at hR;by_cases e10:n=10
 ·subst e10;obtain ⟨v3,u3,e1,e2,hu3,d1,d2,kN3⟩:=nx u2 l.length hu2 (by omega) (by omega);obtain ⟨r,hr⟩:∃r,l[v3.toNat]? = some r:=⟨_,qGg (by omega)⟩;obtain rfl:R=(⟨4,p,Rq.zero,r.name,0⟩,u3):=by
   rw [<-hR,<-e2];have e3:l.getD (u2.v l.length).toNat ⟨⟨#[]⟩,0,0,0⟩=r:=by rw [e1,List.getD_eq_getElem?_getD,hr];rfl
   simp only [decide_true,qCt,e3]
  exact UW
 rw [qDf e10,qCf] at hR;by_cases e11:n=11
 ·subst e11;obtain ⟨v3,u3,e1,e2,hu3,d1,d2,kN3⟩:=nx u2 4 hu2 (by omega) (by omega);obtain rfl:R=(⟨5,p,Rq.zero,⟨#[]⟩,1+v3⟩,u3):=by rw [<-hR,<-e1,<-e2];rfl
  exact UW
 rw [qDf e11,qCf] at hR;by_cases e12:n=12
 ·subst e12;obtain ⟨v3,u3,e1,e2,hu3,d1,d2,kN3⟩:=nx u2 5 hu2 (by omega) (by omega);obtain rfl:R=(⟨6,p,Rq.zero,⟨#[]⟩,v3⟩,u3):=by rw [<-hR,<-e1,<-e2];rfl
  exact UW
 rw [qDf e12,qCf] at hR;by_cases e13:n=13
 ·subst e13;obtain rfl:R=(⟨7,p,Rq.zero,⟨#[]⟩,0⟩,u2):=hR.symm;exact U3
 rw [qDf e13,qCf] at hR;by_cases e14:n=14
 ·subst e14;obtain rfl:R=(⟨8,p,Rq.zero,⟨#[]⟩,0⟩,u2):=hR.symm;exact U3
 rw [qDf e14,qCf] at hR;obtain ⟨v3,u3,e1,e2,hu3,d1,d2,kN3⟩:=nx u2 12 hu2 (by omega) (by omega);obtain rfl:R=(⟨9,p,Rq.zero,⟨#[]⟩,v3⟩,u3):=by rw [<-hR,<-e1,<-e2]
 clear e1 e2;repeat' (first|refine av ?_ ?_|(refine aa 9 rfl ?_;first|(refine cH (qf [(0,0)]) kN ?_)|(refine cH (qf [(0,0)]) kN2 ?_)|(refine cH (qf [(0,0)]) kN3 ?_)|(refine cB [] kP ?_))|refine aq ?_|exact aw|(refine ap fun hb=>?_;first|(exact absurd hb e9)|(exact absurd hb e10)|(exact absurd hb e11)|(exact absurd hb e12)|(exact absurd hb e13)|(exact absurd hb e14)|skip)|(refine cc (qf [(0,0)]) ?_;exact af))
def Pk (d:Nat):El Cm where
 n:=13
 pos:=by decide
 rep:=fun w S k cs=>∃A c,cs=[.int .i64 k.kind,.int .i64 k.proc.site,.int .i64 k.proc.inc,.int .i64 k.proc.num,.int .i64 k.req.expr.k,.string k.req.expr.atom.name,.int .i64 k.req.expr.atom.am.mode,.int .i64 k.req.expr.atom.am.units,.slice A k.req.expr.kids.length c,.int .i64 k.req.prio,.int .i64 k.req.limit,.string k.name,.int .i64 k.n]/\
  RowsAt (pA d) w S A k.req.expr.kids/\(k.req.expr.kids.length<=c/\c<=maxLen)
 len:=fun h=>by obtain ⟨A,c,rfl,_⟩:=h;rfl
 one:=fun h=>by obtain ⟨A,c,rfl,_⟩:=h;intro u hu;simp at hu;rcases hu with rfl|rfl|rfl|rfl|rfl|rfl|rfl|rfl|rfl|rfl|rfl|rfl|rfl <;> rfl
 same:=fun h hk hS=>by
  obtain ⟨A,c,e,h1,h2⟩:=h;exact ⟨A,c,e,h1.same hk hS,h2⟩
instance (d:Nat):Dp (Pk d) where
 deep:=Cm.d d
 get:=by
  rintro w F ρ x cs ⟨A,c,rfl,h1,h2⟩;exact ⟨rfl,rfl,rfl,rfl,rfl,rfl,rfl,rfl,⟨A,c,rfl,h2,h1⟩,rfl,rfl,rfl,rfl,trivial⟩
 put:=by
  intro w F ρ x cs h
  match cs,h with
  | [_,_,_,_,_,_,_,_,_,_,_,_,_],⟨rfl,rfl,rfl,rfl,rfl,rfl,rfl,rfl,⟨A,c,rfl,h2,h1⟩,rfl,rfl,rfl,rfl,_⟩=>exact ⟨A,c,rfl,h1,h2⟩
 nok:=fun _ _=>rfl
instance (d:Nat):ST prog (Pk d) 26 51 136:=⟨ElTB.mk' underlying26 (.agg #[.int .i64 0,.int .i64 0,.int .i64 0,.int .i64 0,.int .i64 0,.string ⟨#[]⟩,.int .i64 0,.int .i64 0,.slice none 0 0,.int .i64 0,.int .i64 0,.string ⟨#[]⟩,.int .i64 0]) 13 136 (by kernel_rfl) rfl rfl⟩
theorem IZ {l:List Rs} {t:Tp} (h:(qj t).1=l):l.length=6/\∀r∈l,1<=r.units/\r.units<=1000:=by
 subst h;refine ⟨rfl,fun r hr=>?_⟩;have h1:=t.s.s.s.s.v_in (m:=8) (by omega);have h2:=t.s.s.s.s.s.s.v_in (m:=3) (by omega);simp only [qj,List.mem_cons,List.not_mem_nil,or_false] at hr;rcases hr with rfl|rfl|rfl|rfl|rfl|rfl <;> dsimp only <;> omega
theorem Nf (t:Tp):Adv t (qj t).2:=by
 have h:=(Adv.s t).ss.ss.ss.ss.ss.ss.ss;unfold qj;dsimp only;exact h
def Us (a b c d e:Tp):Nat->Tp
 | 0=>a
 | 1=>b
 | 2=>c
 | 3=>d
 | _=>e
def G5 (p0 p1 p2 p3:Pr) (v0 v1 v2 v3:Int):List Cm:=[⟨1,p0,Rq.zero,⟨#[]⟩,1+v0⟩,⟨1,p1,Rq.zero,⟨#[]⟩,1+v1⟩,⟨1,p2,Rq.zero,⟨#[]⟩,1+v2⟩,⟨1,p3,Rq.zero,⟨#[]⟩,1+v3⟩]
theorem zp (cat:List Rs) (n:Nat) (t:Tp):qk cat (n+1) t=bif decide (t.at_<t.l.length) then (vG t cat).1 :: qk cat n (vG t cat).2 else []:=rfl
theorem Fw (l:List Int) (hl:l.length<=300) {R:List Rs×List Cm} (hR:fb l=R):FSpec prog 12 [.one (.sl km l)] [] [] (.tup [.one (.sl dQ R.1),.one (.sl (Pk 2) R.2)]) []:=by
 refine a7 func12 ?_;unfold fb at hR;dsimp only at hR;have h0:TOk ⟨l,0⟩:=⟨Nat.zero_le _,by show l.length<=_;omega⟩;have kC:=Tb ⟨l,0⟩ h0;have hadv:=Nf ⟨l,0⟩;obtain ⟨C,hC⟩:=qGe ((qj ⟨l,0⟩).1);obtain ⟨u0,hu0⟩:∃u,(qj ⟨l,0⟩).2=u:=⟨_,rfl⟩;obtain ⟨hc6,hcu⟩:=IZ hC;rw [hC,hu0] at hR kC;rw [hu0] at hadv;have t0:=h0.adv hadv;have hul:u0.l=l:=hadv.l;clear hC hu0 hadv;repeat' (first|refine av ?_ ?_|refine aa 9 rfl (cH (qf [(0,10)]) kC ?_)|refine aq ?_|exact aw|refine ap fun hb=>?_)
 refine cj 6 1000 51 (Pk 2) rfl rfl rfl ?_;obtain ⟨v0,u1,a1,a2,t1,a3,a4,n0⟩:=nx u0 9 t0 (by omega) (by omega);obtain ⟨v1,u2,b1,b2,t2,b3,b4,n1⟩:=nx u1 9 t1 (by omega) (by omega);obtain ⟨v2,u3,c1,c2,t3,c3,c4,n2⟩:=nx u2 9 t2 (by omega) (by omega);obtain ⟨v3,u4,d1,d2,t4,d3,d4,n3⟩:=nx u3 9 t3 (by omega) (by omega);obtain ⟨p0,q0⟩:∃p,ce 0=p:=⟨_,rfl⟩;obtain ⟨p1,q1⟩:∃p,ce 1=p:=⟨_,rfl⟩;obtain ⟨p2,q2⟩:∃p,ce 2=p:=⟨_,rfl⟩;obtain ⟨p3,q3⟩:∃p,ce 3=p:=⟨_,rfl⟩;have m0:=j9 0;have m1:=j9 1;have m2:=j9 2;have m3:=j9 3;rw [q0] at m0;rw [q1] at m1;rw [q2] at m2;rw [q3] at m3;have hul4:u4.l=l:=by rw [<-d2,Tp.s_l,<-c2,Tp.s_l,<-b2,Tp.s_l,<-a2,Tp.s_l,hul]
 have hR:(C,G5 p0 p1 p2 p3 v0 v1 v2 v3++qk C l.length u4)=R:=by
  rw [<-hR];unfold EI G5;rw [a1,a2,b1,b2,c1,c2,d1,d2,q0,q1,q2,q3]
 clear a1 a2 b1 b2 c1 c2 d1 d2 q0 q1 q2 q3;refine ab (fun i:Nat=>i<=4) (fun i=>bP [10,1000] [(4,.c (.ptr 10 0)),(5,.c (.sl dQ C)),(6,.c (.own 1000)),(7,.i i)] [(10,.box 58 (P7 (Us u0 u1 u2 u3 u4 i))),(1000,.arr 51 (Pk 2) ((G5 p0 p1 p2 p3 v0 v1 v2 v3).take i))]) (fun i=>4-i) 0 (Nat.zero_le _) aT ?_;rintro i hi;obtain rfl|rfl|rfl|rfl|rfl:i=0\/i=1\/i=2\/i=3\/i=4:=by omega
 ·repeat' (first
   | refine av ?_ ?_
   | (refine aa 8 rfl ?_;refine sx (ae rfl rfl (aH rfl rfl) (AV [⟨1,p0,Rq.zero,⟨#[]⟩,1+v0⟩] rfl rfl rfl) rfl aQ aQ) ?_)
   | (refine aa 9 rfl ?_;first|(refine cH (qf [(0,10)]) n0 ?_)|(refine cB [] m0 ?_))
   | refine aq ?_
   | exact aw|refine ap fun hb=>?_)
  refine ⟨1,by decide,by decide,?_⟩;exact bo (qf [(1000,25)])
 ·repeat' (first
   | refine av ?_ ?_
   | (refine aa 8 rfl ?_;refine sx (ae rfl rfl (aH rfl rfl) (AV [⟨1,p1,Rq.zero,⟨#[]⟩,1+v1⟩] rfl rfl rfl) rfl aQ aQ) ?_)
   | (refine aa 9 rfl ?_;first|(refine cH (qf [(0,10)]) n1 ?_)|(refine cB [] m1 ?_))
   | refine aq ?_
   | exact aw|refine ap fun hb=>?_)
  refine ⟨2,by decide,by decide,?_⟩;exact bo (qf [(1000,25)])
 ·repeat' (first
   | refine av ?_ ?_
   | (refine aa 8 rfl ?_;refine sx (ae rfl rfl (aH rfl rfl) (AV [⟨1,p2,Rq.zero,⟨#[]⟩,1+v2⟩] rfl rfl rfl) rfl aQ aQ) ?_)
   | (refine aa 9 rfl ?_;first|(refine cH (qf [(0,10)]) n2 ?_)|(refine cB [] m2 ?_))
   | refine aq ?_
   | exact aw|refine ap fun hb=>?_)
  refine ⟨3,by decide,by decide,?_⟩;exact bo (qf [(1000,25)])
 ·repeat' (first
   | refine av ?_ ?_
   | (refine aa 8 rfl ?_;refine sx (ae rfl rfl (aH rfl rfl) (AV [⟨1,p3,Rq.zero,⟨#[]⟩,1+v3⟩] rfl rfl rfl) rfl aQ aQ) ?_)
   | (refine aa 9 rfl ?_;first|(refine cH (qf [(0,10)]) n3 ?_)|(refine cB [] m3 ?_))
   | refine aq ?_
   | exact aw|refine ap fun hb=>?_)
  refine ⟨4,by decide,by decide,?_⟩;exact bo (qf [(1000,25)])
 ·rw [show Us u0 u1 u2 u3 u4 4=u4 from rfl,show (G5 p0 p1 p2 p3 v0 v1 v2 v3).take 4=G5 p0 p1 p2 p3 v0 v1 v2 v3 from rfl];have hol:(G5 p0 p1 p2 p3 v0 v1 v2 v3).length=4:=rfl;generalize G5 p0 p1 p2 p3 v0 v1 v2 v3=O at *
  clear n0 n1 n2 n3 m0 m1 m2 m3;refine ao ?_;refine ab (fun y:Nat×Tp×List Cm=>TOk y.2.1/\y.2.1.l=l/\l.length<=y.1+y.2.1.at_/\y.2.2.length+y.1<=304/\(C,y.2.2++qk C y.1 y.2.1)=R) (fun y=>bP [10,1000] [(4,.c (.ptr 10 0)),(5,.c (.sl dQ C)),(6,.c (.own 1000))] [(10,.box 58 (P7 y.2.1)),(1000,.arr 51 (Pk 2) y.2.2)]) (fun y=>y.2.1.l.length-y.2.1.at_) (l.length,u4,O) ⟨t4,hul4,by dsimp only;omega,by dsimp only;omega,hR⟩ aT ?_;clear hR hol O t4 hul4;rintro ⟨n,u,acc⟩ ⟨hu,hul,hn,hal,hs⟩;dsimp only at *
  have kM:=M9 u hu;by_cases hlt:u.at_<u.l.length
  ·rw [qDt hlt] at kM;obtain ⟨m,rfl⟩:∃m,n=m+1:=⟨n-1,by rw [hul] at hlt;omega⟩;rw [zp,qDt hlt,qCt] at hs;obtain ⟨G,hG⟩:=qGe (vG u C);have kG:=Nc u C hu (by omega) hcu hG;have ha:=EJ u C;have hs1:=u.s_lt hlt;rw [hG] at ha hs;have hw:=hu.s.adv ha;have hle:=ha.le;have hl2:G.2.l=l:=by rw [ha.l,u.s_l,hul]
   repeat' (first|refine av ?_ ?_|(refine aa 8 rfl ?_;refine be (ae rfl rfl (aH rfl rfl) (aN [G.1] rfl rfl rfl rfl) rfl aQ aQ) rfl rfl rfl ?_)|(refine aa 9 rfl ?_;first|(refine cH (qf [(0,10)]) kM ?_)|(refine cH (qf [(0,10)]) kG ?_))|refine aq ?_|exact aw|refine ap fun hb=>?_)
   refine ⟨(m,G.2,acc++[G.1]),⟨hw,hl2,by dsimp only;omega,by simp;omega,?_⟩,by dsimp only;rw [hl2,hul];rw [hul] at hlt;omega,?_⟩
   ·dsimp only;rw [<-hs];simp
   ·exact bo (qf [(1000,33)])
  ·rw [qDf hlt] at kM;have hm:qk C n u=[]:=by
    cases n with
    | zero=>rfl
    | succ n=>rw [zp,qDf hlt];rfl
   rw [hm,List.append_nil] at hs;obtain rfl:R=(C,acc):=hs.symm;repeat' (first|refine av ?_ ?_|refine aa 9 rfl (cH (qf [(0,10)]) kM ?_)|refine aq ?_|exact aw|refine ap fun hb=>?_|(refine fE (qf []) ?_;exact af))
end Go.Proofs.YthpgjkjgkhjjlaaGreatDoor
