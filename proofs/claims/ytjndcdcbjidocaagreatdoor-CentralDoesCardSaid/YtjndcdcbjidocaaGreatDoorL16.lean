/- Part 16 of 33 of the proof of centralDoes_holds (no condition). -/
import Derived.Test.YtjndcdcbjidocaaGreatDoorL15
import Derived.Lib.Overlaps
import Derived.Lib.AppendZeros
import Derived.Laws.Externs
set_option linter.unusedVariables false
set_option linter.unusedSimpArgs false
set_option maxRecDepth 100000
set_option maxHeartbeats 64000000
namespace Go.Proofs.YtjndcdcbjidocaaGreatDoor
open Go.RowKit Go.Proofs.Tryz
section
open Go.Lib
def Ca:Value:=.agg #[.int .i64 0,.int .i64 0,.int .i64 0,.int .i64 0,.slice none 0 0,.slice none 0 0,.bool false,.int .i64 0,.string ⟨#[]⟩,.int .i64 0,.int .i64 0,.slice none 0 0,.int .i64 0,.int .i64 0,.int .i64 0,.int .i64 0]
theorem yY {n cap i g:Nat} {xs:List Value} (w:World) (ho:w.ownsRow 0 63 16 (.slice (some ⟨g,0,none⟩) n cap) n xs) (hone:∀u∈xs,u.oneCell'=true) (hi:i<n) (hn:n≤100000) :
  Calls prog 162 #[.slice (some ⟨g,0,none⟩) n cap,.int .i64 i,.int .i64 ((i+1:Nat):Int)] w fun e w'=>e = .returned (.slice (some ⟨g,0,none⟩) (n-1) cap)∧Frx w w' (fun b=>b=g)∧w'.ownsRow 0 63 16 (.slice (some ⟨g,0,none⟩) (n-1) cap) (n-1) (xs.take (i*16)++xs.drop ((i+1)*16)):=by
 obtain ⟨_,_,_,hnc,hcm,hgw⟩:=lF ho;have hinfo:(prog.info? 63).map (fun i=>(i.zero,i.size,i.bytes))=some (some Ca,16,184):=by kernel_rfl
 have hxl:=n7 ho;obtain ⟨news,hnews⟩:∃news,news=xs.drop ((i+1)*16):=⟨_,rfl⟩;have hlen:news.length=(n-(i+1))*16:=by rw [hnews,List.length_drop,hxl,Nat.sub_mul]
 obtain ⟨A,hA,hsrc⟩:∃A:Addr,(if cap=i+1 then some (⟨g,0,none⟩:Addr) else some ⟨g,(i+1)*16,none⟩)=some A∧Hid (∀t u,news[t]? = some u→w.drew.cell? (A.add t)=some u):=by
  by_cases h:cap=i+1
  ·refine ⟨⟨g,0,none⟩,by simp [h],fun t u hu=>?_⟩;have h0:news.length=0:=by rw [hlen];omega
   rw [List.length_eq_zero_iff.1 h0] at hu;simp at hu
  ·refine ⟨⟨g,(i+1)*16,none⟩,by simp [h],fun t u hu=>?_⟩;rw [hnews,List.getElem?_drop] at hu;rw [Addr.add_lit];exact n5 ho hu
 have s1:Hid (news.length=(n-(i+1))*16):=hlen;have s2:Hid (∀u∈news,u.oneCell'=true):=fun u hu=>hone u (List.mem_of_mem_drop (hnews▸hu));have s3:Hid (∀t,t<news.length→(w.drew.cell? ⟨g,0+i*16+t,none⟩).isSome=true∧w.drew.frozen? ⟨g,0+i*16+t,none⟩=false):=by
  intro t ht;rw [hlen] at ht;rw [Nat.zero_add];exact dF ho (j:=i*16+t) (by omega)
 obtain ⟨W1,hW1⟩:∃W1,W1=w.drew.setCells g (0+i*16) news:=⟨_,rfl⟩;have hod:w.drew.ownsRow 0 63 16 (.slice (some ⟨g,0,none⟩) n cap) n xs:=ho;have hW1':W1.ownsRow 0 63 16 (.slice (some ⟨g,0,none⟩) n cap) n (xs.take (i*16)++news++xs.drop (i*16+news.length)):=by
  rw [hW1,Nat.zero_add];exact rJ hod news (by rw [hlen,hxl];omega)
 have hW1c:W1.ownsRow 0 63 16 (.slice (some ⟨g,0,none⟩) (n-1) cap) (n-1) (xs.take (i*16)++news):=by
  have h:=pM hW1' (m:=n-1) (by omega) (by omega);rw [List.take_left' (by rw [List.length_append,List.length_take,hlen,hxl];omega)] at h;exact h
 obtain ⟨vs,hcl⟩:=jU (P:=prog) W1 24 63 Ca underlying24 (fun w=>by kernel_rfl) (by intro u hu;simp [Value.cells,Ca] at hu;rcases hu with rfl|rfl|rfl|rfl|rfl|rfl|rfl|rfl|rfl|rfl|rfl|rfl|rfl|rfl|rfl|rfl <;> rfl) (by decide) g ((i+(n-(i+1)))*16) (n-(i+(n-(i+1)))) (cap-(i+(n-(i+1)))) (by omega) (fun j hj=>by
  have hj':j<(n-(i+(n-(i+1))))*16:=hj;exact dF hW1' (by omega))
 have hfin:Hid (Frx w (W1.setCells g ((i+(n-(i+1)))*16) vs) (fun b=>b=g)∧(W1.setCells g ((i+(n-(i+1)))*16) vs).ownsRow 0 63 16 (.slice (some ⟨g,0,none⟩) (n-1) cap) (n-1) (xs.take (i*16)++news)):=by
  refine ⟨?_,ko vs _ W1 _ hW1c (by rw [List.length_append,List.length_take,hlen,hxl];omega)⟩;have h1:Frx w W1 fun b=>b=g:=by rw [hW1];exact (Frx.trans (Frx.drew (Frx.refl w _)) (gV w.drew g _ news))
  exact h1.trans (gV W1 g _ vs)
 obtain ⟨i0,hi0,hz0,hz1,hz2⟩:=info_parts hinfo;have hW:Hid (W1=w.drew.setCells g (0+i*16) news):=hW1;have hic:i≤cap:=by omega
 have hjc:i+1≤cap:=by omega
 have mixed:prog.follows .mixedOrders=true:=by kernel_rfl
 have hb1:(0:Int)≤(i:Int)+1:=by omega
 have hb2:(i:Int)+1≤(n:Int):=by omega
 rw [←hnews];clear hW1 hW1' hW1c hod ho hone hnews hlen hxl
 go_enter func162,ntmps162
 go_wp2_with fail
 go_region_law_o (refine step_append_room rfl (.tmp 22) (.tmp 25) 24 rfl 63 i0 16 underlying24 hi0 hz1 g 0 i cap (by simp [Act.eval,Act.put]) A (n-(i+1)) (cap-(i+1)) news (by simp [Act.eval,Act.put]) s1.out hsrc.out s2.out (by omega) s3.out ?_;rw [←hW.out])
 go_wp2
 go_ret
 exact ⟨by rw [show n-1=i+(n-(i+1)) by omega];rfl,hfin.out⟩
theorem Gs (d:Nat) (l:List Pc) (i:Nat) (hl:l.length≤100000) (hi:i<l.length) {L:List Pc} (hL:l.eraseIdx i=L):FSpec prog 162 [.one (.own 1),.one (.sc (.int .i64 (i:Int))),.one (.sc (.int .i64 ((i:Int)+1)))] [(1,.arr 63 (eI d) l)] [2] (.c (.own 2)) [(2,some (.arr 63 (eI d) L)),(1,none)] :=
 t7 (hb:=[]) (fun b W=>by kernel_rfl) rfl fun w F ρ vs xs ho hr hF ha _=>by
  match vs,ha with
  | [_,_],⟨h2,h3,_⟩ =>
   obtain rfl:=h2;obtain rfl:=h3;obtain ⟨g,cap,hv⟩:∃g cap,ρ 1 = .slice (some ⟨g,0,none⟩) l.length cap:=by
    rcases ho.2 with ⟨_,hz⟩|⟨g,cap,cur,hv,_⟩
    ·omega
    ·exact ⟨g,cap,hv⟩
   rw [hv] at ho hF ⊢;have hlt:=(lF ho).choose_spec.2.2.2.2;refine Calls.mono (yY w ho hr.one hi hl) ?_;rintro e w' ⟨rfl,hf,ho'⟩;have hLl:L.length=l.length-1:=by rw [←hL,List.length_eraseIdx,if_pos hi]
   refine ⟨_,_,rfl,⟨hf.os,hf.tape,hf.output,hf.size,fun b hb hn=>hf.keep b hb fun e=>hn (by rw [e];rfl)⟩,fun g' hg'=>?_,by rw [hLl];exact ho',fun F' hF'=>?_⟩
   ·injection hg' with hg';subst hg';exact ⟨Nat.lt_of_lt_of_le hlt hf.size,.inr rfl⟩
   ·rw [←hL,List.eraseIdx_eq_take_drop_succ];exact ((hr.take i).append (hr.drop (i+1))).same (fun b hb=>(hF' b hb).2) fun b hb=>(hF' b hb).1
end
section
open Go.Lib
theorem rK {P:Program} {ops:Array Oper} {o:Oper} {a:Act} {w:World} {K:Act→World→Prop} {Q:Exit→Act→World→Prop} {E:Prop}
  (hg:o.guard=none) (d x:Operand) (dT sT:TypeId) (hop:o.op=Op.call { callee:=Callee.builtin Builtin.copy,args:=#[d,x],argTypes:=#[dT,sT] })
  (v u:Value) (hd:a.eval d=v) (hx:a.eval x=u) {v':Value} {w':World} (hr:(Builtin.copy_ #[dT,sT] o.type #[v,u]).run P w = .ok v' w') (hK:K (a.put o.dst v') w') :
  if Region.wanted o (yielded ops a.tmps)=true then Oper.wp P o a w K Q else E:=by
 have hw:Region.wanted o (yielded ops a.tmps)=true:=by simp [Region.wanted,hg]
 rw [if_pos hw];unfold Oper.wp;simp [execOp,hop,resolve,invoke,builtin,hd,hx,hr,Result.andThen];exact hK
section
variable {w:World} {e:TypeId} {N n cap:Nat}
theorem Gt (w:World) (ROW:Array Value) (hcs:ROW.size=cap*N) (hnc:n≤cap) (hcm:cap≤maxLen):(w.alloc (.cells ROW e)).ownsRow 0 e N (.slice (some ⟨w.heap.size,0,none⟩) n cap) n (ROW.toList.take (n*N)):=by
 refine ⟨?_,.inr ⟨_,_,ROW,rfl,Nat.zero_le _,?_,hnc,hcm,hcs,rfl⟩⟩
 ·rw [List.length_take,Array.length_toList,hcs];exact Nat.min_eq_left (Nat.mul_le_mul_right _ hnc)
 ·exact heap_alloc_new w _
theorem BJ (w:World) (o:Obj) (M:Nat→Prop):Frx w (w.drew.alloc o) M:=(Frx.drew (Frx.refl w M)).trans (Frx.alloc w.drew o M)
theorem Ae {w w1:World} {M:Nat→Prop} {g:Nat} (h:Frx w w1 M) (hg:w.heap.size≤g) (j:Nat) (vs:List Value):Frx w (w1.setCells g j vs) M :=
 ⟨(gi vs j w1).1.trans h.os,(gi vs j w1).2.1.trans h.tape,(gi vs j w1).2.2.trans h.output,by rw [bO];exact h.size,fun b hb hn=>(bM vs j w1 b (by omega)).trans (h.keep b hb hn)⟩
end
def Kd (A:Option Addr):Option Nat:=A.map (·.block)
theorem yZ {n cap g3:Nat} {A:Option Addr} {xs cs:List Value} (w:World) (ho:w.ownsRow 0 63 16 (.slice A n cap) n xs) (hcl:cs.length=16) (hsrc:∀j u,cs[j]? = some u→w.cell? ⟨g3,j,none⟩=some u) (hc1:∀u∈cs,u.oneCell'=true) (hn:n≤100000) :
  Calls prog 149 #[.slice A n cap,.int .i64 n,.slice (some ⟨g3,0,none⟩) 1 1] w fun e w'=>∃v',e = .returned v'∧Frx w w' (fun b=>Kd A=some b)∧(∀g',kb v'=some g'→g'<w'.heap.size∧(w.heap.size≤g'∨Kd A=some g'))∧w'.ownsRow 0 63 16 v' (n+1) (xs++cs):=by
 have hinfo:(prog.info? 63).map (fun i=>(i.zero,i.size,i.bytes))=some (some Ca,16,184):=by kernel_rfl
 obtain ⟨ti,hi1,hi2,hi3,hi5⟩:=info_parts hinfo;obtain ⟨v',w',hrun,ho1,hgr,_,hob⟩:=run_append_own_at (P:=prog) w 0 24 24 63 ti Ca 16 184 underlying24 hi1 hi2 hi3 hi5 (by decide) (by decide) (.slice A n cap) n xs ho ⟨g3,0,none⟩ 1 1 cs (by omega) (fun j u hj=>by rw [cZ,Nat.zero_add];exact hsrc j u hj) hc1 (by simp only [maxLen];omega) (by omega) (Nat.zero_le _);have hEND:Hid (Frx w w' (fun b=>Kd A=some b)∧(∀g',kb v'=some g'→g'<w'.heap.size∧(w.heap.size≤g'∨Kd A=some g'))∧w'.ownsRow 0 63 16 v' (n+1) (xs++cs)):=by
  have hv:∃A' n' c',v' = .slice A' n' c':=by
   rcases ho1.2 with ⟨hv,_⟩|⟨g',cap',cur',hv,_⟩ <;> exact ⟨_,_,_,hv⟩
  refine ⟨⟨hgr.os,hgr.tape,hgr.output,hgr.size,fun b hb hn=>hgr.block b hb fun e=>hn ?_⟩,fun g' hg'=>?_,ho1⟩
  ·cases A with
   | none=>cases e
   | some a=>exact e.symm
  ·rcases ho1.2 with ⟨hv,_⟩|⟨g0,cap',cur',hv,_,hh,_⟩
   ·omega
   ·subst hv;injection hg' with hg';subst hg';refine ⟨(Array.getElem?_eq_some_iff.1 hh).1,?_⟩;rcases hob with h|h
    ·right
     cases A with
     | none=>cases h
     | some a=>exact h.symm
    ·injection h with h;exact .inl (Nat.le_of_eq h.symm)
 have HR:=Lib.hid hrun;clear hrun ho1 hgr hob hsrc ho hi1 hi2 hi3 hi5 hinfo
 go_enter func149,ntmps149
 go_wp2_with (at_builtin;refine Lib.wpList_append_run _ rfl _ _ 24 24 rfl _ _ rfl rfl _ _ HR.out ?_)
 all_goals (go_ret;exact ⟨_,rfl,hEND.out⟩)
theorem BK {ys xs cs:List Value} {a b c:Nat} (hx:ys.take c=xs) (hac:a≤c) (hcl:cs.length=b) (hc:c+b≤ys.length) :
  ((ys.take (a+b)++xs.drop a++ys.drop (a+b+(xs.drop a).length)).take a++cs++(ys.take (a+b)++xs.drop a++ys.drop (a+b+(xs.drop a).length)).drop (a+cs.length)).take (c+b)=xs.take a++cs++xs.drop a:=by
 have hxl:xs.length=c:=by rw [←hx,List.length_take];omega
 have hyl:(ys.take (a+b)).length=a+b:=by rw [List.length_take];omega
 generalize hR:ys.drop (a+b+(xs.drop a).length)=R;have e1:(ys.take (a+b)++xs.drop a++R).take a=xs.take a:=by
  rw [List.append_assoc,List.take_append_of_le_length (by omega),List.take_take,←hx,List.take_take];congr 1
  omega
 have e2:(ys.take (a+b)++xs.drop a++R).drop (a+cs.length)=xs.drop a++R:=by
  rw [List.append_assoc,hcl];exact List.drop_left' hyl
 rw [e1,e2,←List.append_assoc];exact List.take_left' (by simp only [List.length_append,List.length_take,List.length_drop];omega)
section
variable {n cap i g g3:Nat} {xs cs:List Value}
theorem Af {k:Nat} (h:k≤100000):IntKind.i64.wrap ((k:Int)+1)=(k:Int)+1:=by rw [IntKind.wrap_i64];omega
theorem vv {tb:TypeId} (w:World) (ho:w.ownsRow 0 63 16 (.slice (some ⟨g,0,none⟩) n cap) n xs) (hone:∀u∈xs,u.oneCell'=true) (hcl:cs.length=16) (hb:w.heap[g3]? = some (.cells cs.toArray tb (0,0))) (hc1:∀u∈cs,u.oneCell'=true) (hne:g3≠g) (hn:n≤100000) (hi:i<n) (hroom:n+1≤cap) :
  Calls prog 149 #[.slice (some ⟨g,0,none⟩) n cap,.int .i64 i,.slice (some ⟨g3,0,none⟩) 1 1] w fun e w'=>e = .returned (.slice (some ⟨g,0,none⟩) (n+1) cap)∧Frx w w' (fun b=>b=g)∧w'.ownsRow 0 63 16 (.slice (some ⟨g,0,none⟩) (n+1) cap) (n+1) (xs.take (i*16)++cs++xs.drop (i*16)):=by
 obtain ⟨ys,hf,ht,hnc,hcm,hgw⟩:=lF ho;have hxl:=n7 ho;have hyl:=n7 hf;have hinfo:(prog.info? 63).map (fun i=>(i.zero,i.size,i.bytes))=some (some Ca,16,184):=by kernel_rfl
 have hsz:(prog.info? 63).map (·.size)=some 16:=by kernel_rfl
 obtain ⟨D,hD⟩:∃D,xs.drop (i*16)=D:=⟨_,rfl⟩;have hDl:D.length=(n-i)*16:=by rw [←hD,List.length_drop,hxl,Nat.sub_mul]
 have hfd:w.drew.ownsRow 0 63 16 (.slice (some ⟨g,0,none⟩) cap cap) cap ys:=hf;obtain ⟨W1,hW1⟩:∃W1,W1=w.drew.setCells g ((i+1)*16) D:=⟨_,rfl⟩;have hf1:W1.ownsRow 0 63 16 (.slice (some ⟨g,0,none⟩) cap cap) cap (ys.take ((i+1)*16)++D++ys.drop ((i+1)*16+D.length)):=by
  rw [hW1];exact rJ hfd D (by rw [hDl,hyl];omega)
 have hf2:=rJ hf1 cs (j:=i*16) (by simp only [List.length_append,List.length_take,List.length_drop,hDl,hyl,hcl];omega);have hf3:=pM hf2 (m:=n+1) hroom (by omega);have hic:=BK (a:=i*16) (b:=16) (c:=n*16) ht (by omega) hcl (by rw [hyl];omega);rw [hD] at hic;rw [show (i+1)*16=i*16+16 by omega,show (n+1)*16=n*16+16 by omega,hic] at hf3;have hcp1:∀ty dc sc,(Builtin.copy_ #[24,24] ty #[.slice (some ⟨g,(i+1)*16,none⟩) (n-i) dc,.slice (some ⟨g,i*16,none⟩) (n+1-i) sc]).run prog w.drew = .ok (goInt (Nat.min (n+1-i) (n-i))) (w.drew.setCells g ((i+1)*16) D):=fun ty dc sc =>
  gY w.drew _ ty 63 16 g ((i+1)*16) (n-i) dc ⟨g,i*16,none⟩ (n+1-i) sc D underlying24 hsz (by rw [hDl];congr 1;simp only [Nat.min_def];split <;> omega)
   (fun j v hj=>by rw [Addr.add_lit];exact n5 ho (by rw [←hD,List.getElem?_drop] at hj;exact hj))
   (fun j hj=>(dF hfd (j:=(i+1)*16+j) (by omega)).1) (fun j hj=>(dF hfd (j:=(i+1)*16+j) (by omega)).2) (fun v hv=>hone v (List.mem_of_mem_drop (hD▸hv)))
 have hcp2:∀ty dc,(Builtin.copy_ #[24,24] ty #[.slice (some ⟨g,i*16,none⟩) (n+1-i) dc,.slice (some ⟨g3,0,none⟩) 1 1]).run prog W1 = .ok (goInt (Nat.min 1 (n+1-i))) (W1.setCells g (i*16) cs):=fun ty dc =>
  gY W1 _ ty 63 16 g (i*16) (n+1-i) dc ⟨g3,0,none⟩ 1 1 cs underlying24 hsz (by rw [hcl];simp only [Nat.min_def];split <;> omega)
   (fun j v hj=>by
    rw [Addr.add_lit,Nat.zero_add,hW1];have:(w.drew.setCells g ((i+1)*16) D).heap[g3]? = some (.cells cs.toArray tb (0,0)):=(bM D _ w.drew g3 hne).trans hb;simp only [World.cell?,this];simpa using hj)
   (fun j hj=>(dF hf1 (j:=i*16+j) (by omega)).1) (fun j hj=>(dF hf1 (j:=i*16+j) (by omega)).2) hc1
 have hov:∀lb cb,(callFunc 215 #[.slice (some ⟨g3,0,none⟩) 1 1,.slice (some ⟨g,(i+1)*16,none⟩) lb cb]).run prog w = .ok (.value (.bool false)) w:=fun lb cb=>by
  obtain ⟨cur,hh,hcs⟩:∃cur,w.heap[g]? = some (.cells cur 63 (0,0))∧cur.size=cap*16:=by
   rcases ho.2 with ⟨hv,_⟩|⟨g',cap',cur,hv,_,hh,_,_,hcs,_⟩
   ·cases hv
   ·injection hv with e1 _ e3;injection e1 with e1;injection e1 with e1;subst e1;subst e3;exact ⟨cur,hh,hcs⟩
  rw [run_callFunc_extern func215 (by kernel_rfl) (by kernel_rfl) (by kernel_rfl) (e:=Extern.SlicesOverlaps.overlaps #[24,24] #[4]) (by kernel_rfl),
   Lib.run_overlaps_apart w 24 4 63 underlying24 16 sizeOf63 ⟨g3,0,none⟩ ⟨g,(i+1)*16,none⟩ 1 1 lb cb hne tb 63 16 (cap*16) (by simp [World.shape?,hb,hcl]) (by simp [World.shape?,hh,hcs]) (by omega) (by simp [World.frozen?,hb]) (by simp [World.frozen?,hb])]
  rfl
 have hEND:Hid (Frx w (W1.setCells g (i*16) cs) (fun b=>b=g)∧(W1.setCells g (i*16) cs).ownsRow 0 63 16 (.slice (some ⟨g,0,none⟩) (n+1) cap) (n+1) (xs.take (i*16)++cs++D)):=by
  refine ⟨?_,hf3⟩;have h1:Frx w W1 fun b=>b=g:=by rw [hW1];exact (Frx.trans (Frx.drew (Frx.refl w _)) (gV w.drew g _ D))
  exact h1.trans (gV W1 g _ cs)
 have S1:=(vX underlying24 hinfo (some ⟨g,0,none⟩) n cap i (by omega) hnc).2;have S2:∀w,(Instr.sliceAt 24 (.slice (some ⟨g,0,none⟩) n cap) none (some (.int .i64 ((n:Int)+1))) none).run prog w = .ok (.slice (some ⟨g,0,none⟩) (n+1) cap) w:=fun w=>by
  obtain ⟨i0,hi0,_⟩:=info_parts hinfo;have he:prog.elem 24=63:=by simp [Program.elem,underlying24]
  rw [run_sliceAt_slice w _ _ _ _ _ (by rw [he];exact underlying24)];exact vW underlying24 hi0 (some ⟨g,0,none⟩) n cap (n+1) hroom w
 have S3:=(vX underlying24 hinfo (some ⟨g,0,none⟩) (n+1) cap i (by omega) hroom).2;have S4:=(vX underlying24 hinfo (some ⟨g,0,none⟩) (n+1) cap (i+1) (by omega) hroom).2;have ec:∀k,k<cap→qn (some ⟨g,0,none⟩) cap k 16=some ⟨g,k*16,none⟩:=fun k hk=>by unfold qn;rw [if_neg (by omega),Option.map_some,ew,Nat.zero_add]
 rw [ec i (by omega)] at S1 S3;rw [ec (i+1) (by omega)] at S4;rw [show ((i+1:Nat):Int)=(i:Int)+1 by omega] at S4;have hz2:¬((i:Int)=(n:Int)):=by omega
 have hz3:¬((cap:Int)<(n:Int)+1):=by omega
 have w1:=Af hn;have w2:=Af (k:=i) (by omega);rw [←hW1] at hcp1;rw [hD];have HC1:=Lib.hid hcp1;have HC2:=hcp2;clear hcp1 hcp2 hW1 hf hfd hf1 hf2 hf3 hic ho hone hb hD hDl hxl hyl ht hsz hinfo ec hc1 hcl
 go_enter func149,ntmps149
 have mixed:prog.follows .mixedOrders=true:=by kernel_rfl
 go_wp2_with (simp only [hov])
 go_region_law_o (refine rK rfl _ _ 24 24 rfl (.slice (some ⟨g,(i+1)*16,none⟩) (n-i) (cap-(i+1))) (.slice (some ⟨g,i*16,none⟩) (n+1-i) (cap-i)) (by simp [Act.eval,Act.put]) (by simp [Act.eval,Act.put]) (HC1.out 3 (cap-(i+1)) (cap-i)) ?_)
 go_wp2_with fail
 go_ret
 exact ⟨rfl,hEND.out⟩
theorem xH {tb:TypeId} (w:World) (ho:w.ownsRow 0 63 16 (.slice (some ⟨g,0,none⟩) n cap) n xs) (hone:∀u∈xs,u.oneCell'=true) (hcl:cs.length=16) (hb:w.heap[g3]? = some (.cells cs.toArray tb (0,0))) (hc1:∀u∈cs,u.oneCell'=true) (hn:n≤100000) (hi:i<n) (hroom:cap<n+1) :
  Calls prog 149 #[.slice (some ⟨g,0,none⟩) n cap,.int .i64 i,.slice (some ⟨g3,0,none⟩) 1 1] w fun e w'=>∃G,e = .returned (.slice (some ⟨w.heap.size,0,none⟩) (n+1) G)∧Frx w w' (fun _=>False)∧w.heap.size<w'.heap.size∧w'.ownsRow 0 63 16 (.slice (some ⟨w.heap.size,0,none⟩) (n+1) G) (n+1) (xs.take (i*16)++cs++xs.drop (i*16)):=by
 obtain ⟨ys,hf,ht,hnc,hcm,hgw⟩:=lF ho;have hxl:=n7 ho;have hinfo:(prog.info? 63).map (fun i=>(i.zero,i.size,i.bytes))=some (some Ca,16,184):=by kernel_rfl
 have hsz:(prog.info? 63).map (·.size)=some 16:=by kernel_rfl
 obtain ⟨i0,hi0,hz0,hzs,hzb⟩:=info_parts hinfo;obtain ⟨D,hD⟩:∃D,xs.drop (i*16)=D:=⟨_,rfl⟩;have hDl:D.length=(n-i)*16:=by rw [←hD,List.length_drop,hxl,Nat.sub_mul]
 obtain ⟨X,hX⟩:∃X,xs.take (i*16)=X:=⟨_,rfl⟩;have hXl:X.length=i*16:=by rw [←hX,List.length_take,hxl];omega
 have hold:(Builtin.firstCells i0.size i (.slice (some ⟨g,0,none⟩) i cap)).run prog w.drew = .ok X.toArray w.drew:=by
  rw [hzs];exact run_firstCells_some (w:=w.drew) 16 i ⟨g,0,none⟩ i cap X hXl (fun j v hj=>by
   rw [Addr.add_lit,Nat.zero_add];rw [←hX,List.getElem?_take] at hj;split at hj
   ·exact n5 ho hj
   ·cases hj)
 have hik:i+(n+1-i)=n+1:=by omega
 obtain ⟨G,hG⟩:∃G,G=grownCap w (n+1) cap 63:=⟨_,rfl⟩;obtain ⟨ROW,hROW⟩:∃ROW:Array Value,ROW=X.toArray++Builtin.zeroCells Ca.cells (n+1-i)++Builtin.zeroCells Ca.cells (G-(n+1)):=⟨_,rfl⟩;obtain ⟨W1,hW1⟩:∃W1,W1=w.drew.alloc (.cells ROW 63):=⟨_,rfl⟩;have hrz:∀ty,(Builtin.append_ #[24,3] ty #[.slice (some ⟨g,0,none⟩) i cap,.int .i64 ((n:Int)+1-(i:Int))]).run prog w = .ok (.slice (some ⟨w.heap.size,0,none⟩) (n+1) G) W1:=fun ty=>by
  have h:=Lib.run_append_grow_zeros w 24 3 ty 63 i0 _ .i64 .i64 underlying24 underlying3 hi0 hz0 (some ⟨g,0,none⟩) i cap X hold (n+1-i) (by omega) (by omega) (by omega) (by omega) (by rw [hzb];omega) (by rw [hzb,hik];exact growslice_fits hroom (by omega));rw [hik,←hG,←hROW,←hW1] at h;rw [show (n:Int)+1-(i:Int)=((n+1-i:Nat):Int) by omega];exact h
 have hGn:n+1≤G:=by rw [hG];exact grownCap_ge w _ _ _
 have hGm:G≤maxLen:=by rw [hG];exact grownCap_le_maxLen w _ _ _ (by simp only [maxLen];omega)
 have hzc:∀k,(Builtin.zeroCells Ca.cells k).size=k*16:=fun k=>by simp [Builtin.zeroCells,Ca,Value.cells]
 have hRs:ROW.size=G*16:=by
  rw [hROW,Array.size_append,Array.size_append,hzc,hzc,List.size_toArray,hXl];omega
 obtain ⟨Z,hZ⟩:∃Z,(Builtin.zeroCells Ca.cells (n+1-i)).toList=Z:=⟨_,rfl⟩;have hZl:Z.length=(n+1-i)*16:=by rw [←hZ,Array.length_toList,hzc]
 have h1:W1.ownsRow 0 63 16 (.slice (some ⟨w.heap.size,0,none⟩) (n+1) G) (n+1) (X++Z):=by
  have h:=Gt (N:=16) (e:=63) w.drew ROW hRs hGn hGm;rw [←hW1,hROW,Array.toList_append,Array.toList_append,hZ,List.take_left' (by rw [List.length_append,hZl];simp only [hXl];omega)] at h;exact h
 obtain ⟨W2,hW2⟩:∃W2,W2=W1.setCells w.heap.size (i*16) cs:=⟨_,rfl⟩;have h2:=rJ h1 cs (j:=i*16) (by simp only [List.length_append,hXl,hZl,hcl];omega);rw [←hW2,List.take_left' hXl] at h2;obtain ⟨R,hR⟩:∃R,(X++Z).drop (i*16+cs.length)=R:=⟨_,rfl⟩;have hRl:R.length=(n-i)*16:=by rw [←hR,List.length_drop,List.length_append,hXl,hZl,hcl];omega
 rw [hR] at h2;have h2d:W2.drew.ownsRow 0 63 16 (.slice (some ⟨w.heap.size,0,none⟩) (n+1) G) (n+1) (X++cs++R):=h2;obtain ⟨W3,hW3⟩:∃W3,W3=W2.drew.setCells w.heap.size ((i+1)*16) D:=⟨_,rfl⟩;have h3:=rJ h2d D (j:=(i+1)*16) (by simp only [List.length_append,hXl,hRl,hDl,hcl];omega);rw [←hW3,List.take_left' (by rw [List.length_append,hXl,hcl];omega),List.drop_eq_nil_of_le (by simp only [List.length_append,hXl,hRl,hDl,hcl];omega),List.append_nil] at h3;have hg3:g3<w.heap.size:=(Array.getElem?_eq_some_iff.1 hb).1;have hb1:W1.heap[g3]? = some (.cells cs.toArray tb (0,0)):=by rw [hW1];exact (Below.heap_alloc w.drew _ g3 hg3).trans hb
 have hgk:W2.drew.heap[g]? = w.heap[g]?:=by
  rw [hW2];show (W1.setCells w.heap.size (i*16) cs).heap[g]? = _;rw [bM _ _ _ _ (by omega),hW1];exact Below.heap_alloc w.drew _ g hgw
 have hcpA:∀ty dc,(Builtin.copy_ #[24,24] ty #[.slice (some ⟨w.heap.size,i*16,none⟩) (n+1-i) dc,.slice (some ⟨g3,0,none⟩) 1 1]).run prog W1 = .ok (goInt (Nat.min 1 (n+1-i))) W2:=fun ty dc=>by
  rw [hW2];exact gY W1 _ ty 63 16 w.heap.size (i*16) (n+1-i) dc ⟨g3,0,none⟩ 1 1 cs underlying24 hsz (by rw [hcl];simp only [Nat.min_def];split <;> omega)
   (fun j v hj=>by
    rw [Addr.add_lit,Nat.zero_add];simp only [World.cell?,hb1];simpa using hj)
   (fun j hj=>(dF h1 (j:=i*16+j) (by omega)).1) (fun j hj=>(dF h1 (j:=i*16+j) (by omega)).2) hc1
 have hcpB:∀ty dc sc,(Builtin.copy_ #[24,24] ty #[.slice (some ⟨w.heap.size,(i+1)*16,none⟩) (n-i) dc,.slice (some ⟨g,i*16,none⟩) (n-i) sc]).run prog W2.drew = .ok (goInt (Nat.min (n-i) (n-i))) W3:=fun ty dc sc=>by
  rw [hW3];exact gY W2.drew _ ty 63 16 w.heap.size ((i+1)*16) (n-i) dc ⟨g,i*16,none⟩ (n-i) sc D underlying24 hsz (by rw [hDl];congr 1;simp only [Nat.min_def];split <;> omega)
   (fun j v hj=>by
    rw [Addr.add_lit];have h9:w.cell? ⟨g,i*16+j,none⟩=some v:=n5 ho (by rw [←hD,List.getElem?_drop] at hj;exact hj);simpa only [World.cell?,hgk] using h9)
   (fun j hj=>(dF h2d (j:=(i+1)*16+j) (by omega)).1) (fun j hj=>(dF h2d (j:=(i+1)*16+j) (by omega)).2) (fun v hv=>hone v (List.mem_of_mem_drop (hD▸hv)))
 have hEND:Hid (Frx w W3 (fun _=>False)∧w.heap.size<W3.heap.size∧W3.ownsRow 0 63 16 (.slice (some ⟨w.heap.size,0,none⟩) (n+1) G) (n+1) (X++cs++D)):=by
  refine ⟨?_,?_,h3⟩
  ·have a1:Frx w W1 fun _=>False:=by rw [hW1];exact BJ w _ _
   have a2:Frx w W2 fun _=>False:=by rw [hW2];exact Ae a1 (Nat.le_refl _) _ _
   rw [hW3];exact Ae (a2.trans (Frx.drew (Frx.refl W2 _))) (Nat.le_refl _) _ _
  ·rw [hW3,bO];show _<W2.heap.size;rw [hW2,bO,hW1];simp
 have S1:=vX underlying24 hinfo (some ⟨g,0,none⟩) n cap i (by omega) hnc;obtain ⟨S0,S1⟩:=S1;have S3:=(vX underlying24 hinfo (some ⟨w.heap.size,0,none⟩) (n+1) G i (by omega) hGn).2;have S4:=(vX underlying24 hinfo (some ⟨w.heap.size,0,none⟩) (n+1) G (i+1) (by omega) hGn).2;have ec:∀b c k,k<c→qn (some ⟨b,0,none⟩) c k 16=some ⟨b,k*16,none⟩:=fun b c k hk=>by unfold qn;rw [if_neg (by omega),Option.map_some,ew,Nat.zero_add]
 rw [ec _ _ i (by omega)] at S1 S3;rw [ec _ _ (i+1) (by omega)] at S4;rw [show ((i+1:Nat):Int)=(i:Int)+1 by omega] at S4;have hz2:¬((i:Int)=(n:Int)):=by omega
 have hz3:(cap:Int)<(n:Int)+1:=by omega
 have w1:=Af hn;have w2:=Af (k:=i) (by omega);have w3:IntKind.i64.wrap ((n:Int)+1-(i:Int))=(n:Int)+1-(i:Int):=by rw [IntKind.wrap_i64];omega
 have mixed:prog.follows .mixedOrders=true:=by kernel_rfl
 rw [hX,hD];have HC1:=Lib.hid hcpB;clear hcpB hW1 hW2 hW3 hf h1 h2 h2d h3 ho hone hb hD hDl hxl ht hsz hinfo ec hc1 hcl hold hRl hR hZl hZ hzc hRs hROW hG hX hXl hb1 hgk hi0 hz0 hzs hzb hik
 go_enter func149,ntmps149
 go_wp2_with (at_builtin;refine Lib.wpList_append_run _ rfl _ _ 24 3 rfl _ _ rfl rfl _ _ (hrz _) ?_)
 go_region_law_o (refine rK rfl _ _ 24 24 rfl (.slice (some ⟨w.heap.size,(i+1)*16,none⟩) (n-i) (G-(i+1))) (.slice (some ⟨g,i*16,none⟩) (n-i) (cap-i)) (by simp [Act.eval,Act.put]) (by simp [Act.eval,Act.put]) (HC1.out 3 (G-(i+1)) (cap-i)) ?_)
 go_wp2_with fail
 go_ret
 exact ⟨_,rfl,hEND.out⟩
end
theorem Ag (d:Nat) (l:List Pc) (i:Nat) (x:Pc) {cs0:List D} (h0:∀(w:World) (F:Nat→Prop) (ρ:Nat→Value) (vs:List Value),All2 (D.rep w F ρ) cs0 vs→(eI d).rep w F x vs) (hl:l.length≤100000) (hi:i≤l.length) {L:List Pc} (hL:l.take i++x :: l.drop i=L):FSpec prog 149 [.one (.own 1),.one (.sc (.int .i64 (i:Int))),.one (.slb 3 1)] [(1,.arr 63 (eI d) l),(3,.box 63 cs0)] [2] (.c (.own 2)) [(2,some (.arr 63 (eI d) L)),(1,none),(3,none)] :=
 t7 (hb:=[(3,.box 63 cs0)]) (fun b W=>by kernel_rfl) rfl fun w F ρ vs xs ho hr hF ha hbx=>by
  match vs,ha with
  | [_,_],⟨h2,⟨g3,hg3,hv3⟩,_⟩ =>
   obtain rfl:=h2;obtain rfl:=hv3;obtain ⟨⟨g',cs,e1,hB,hA,hone⟩,hdis⟩:=hbx 3 _ rfl;rw [hg3] at e1;injection e1 with e1;injection e1 with e1;injection e1 with e1;subst e1;have hB':w.heap[g3]? = some (.cells cs.toArray 63 (0,0)):=hB;have hx:(eI d).rep w F x cs:=h0 w F _ cs hA;have hcl:cs.length=16:=(eI d).len hx;have hLl:L.length=l.length+1:=by rw [←hL];simp;omega
   have hrep:∀(w':World) (F':Nat→Prop),(∀b,F b→F' b∧w'.heap[b]? = w.heap[b]?)→Reps (eI d) w' F' L (xs.take (i*16)++cs++xs.drop (i*16)):=fun w' F' hF'=>by
    rw [←hL,List.append_assoc];have h9:Reps (eI d) w F (x :: l.drop i) (cs++xs.drop (i*16)):=(Reps.single hx).append (hr.drop i);exact ((hr.take i).append h9).same (fun b hb=>(hF' b hb).2) fun b hb=>(hF' b hb).1
   rcases Nat.eq_or_lt_of_le hi with he|hlt
   ·subst he;obtain ⟨A,cap,hv⟩:∃A cap,ρ 1 = .slice A l.length cap:=by
     rcases ho.2 with ⟨hv,hz⟩|⟨g,cap,cur,hv,_⟩
     ·exact ⟨none,0,by rw [hz];exact hv⟩
     ·exact ⟨_,cap,hv⟩
    rw [hv] at ho hF ⊢;have ek:kb (.slice A l.length cap)=Kd A:=by cases A <;> rfl
    rw [ek] at hF;have hxl:xs.length=l.length*16:=n7 ho;refine Calls.mono (yZ w ho hcl (fun j u hj=>by simp only [World.cell?,hB'];simpa using hj) hone hl) ?_;rintro e w' ⟨v',rfl,hf,hk,ho'⟩;rw [ek];refine ⟨v',_,rfl,hf,hk,by rw [hLl];exact ho',fun F' hF'=>?_⟩;have h9:=hrep w' F' hF'
    rwa [List.take_of_length_le (by omega),List.drop_eq_nil_of_le (by omega),List.append_nil] at h9
   ·obtain ⟨g,cap,hv⟩:∃g cap,ρ 1 = .slice (some ⟨g,0,none⟩) l.length cap:=by
     rcases ho.2 with ⟨_,hz⟩|⟨g,cap,cur,hv,_⟩
     ·omega
     ·exact ⟨g,cap,hv⟩
    rw [hv] at ho hF hdis ⊢;have hne:g3≠g:=fun e=>hdis g3 (by rw [hg3];rfl) (by rw [e];rfl);have hgl:=(lF ho).choose_spec.2.2.2.2;rcases Nat.lt_or_ge cap (l.length+1) with hc|hc
    ·refine Calls.mono (xH w ho hr.one hcl hB' hone hl hlt hc) ?_;rintro e w' ⟨G,rfl,hf,hk,ho'⟩;refine ⟨_,_,rfl,⟨hf.os,hf.tape,hf.output,hf.size,fun b hb _=>hf.keep b hb id⟩,fun g' hg'=>?_,by rw [hLl];exact ho',fun F' hF'=>hrep w' F' hF'⟩;injection hg' with hg';subst hg';exact ⟨hk,.inl (Nat.le_refl _)⟩
    ·refine Calls.mono (vv w ho hr.one hcl hB' hone hne hl hlt hc) ?_;rintro e w' ⟨rfl,hf,ho'⟩;refine ⟨_,_,rfl,⟨hf.os,hf.tape,hf.output,hf.size,fun b hb hn=>hf.keep b hb fun e=>hn (by rw [e];rfl)⟩,fun g' hg'=>?_,by rw [hLl];exact ho',fun F' hF'=>hrep w' F' hF'⟩;injection hg' with hg';subst hg';exact ⟨Nat.lt_of_lt_of_le hgl hf.size,.inr rfl⟩
end
theorem Ah (m:Int):FSpec prog 115 [iV m] [] [] (.b (bY m)) []:=by
 unfold bY;refine aP func115 ?_;repeat' (first|refine af ?_ ?_|refine ae ?_|exact ah|refine ab fun hb=>?_)
 all_goals (refine d7 ?_;simp [*])
theorem n8 (a b:Int):FSpec prog 181 [iV a,iV b] [] [] (.b (dw a b)) [] :=
 cz (fun b W=>by kernel_rfl) rfl fun w S ρ vs _ h=>by
  match vs,h with
  | [_,_],⟨rfl,rfl,_⟩=>exact (qi a b w).mono fun _ _=>gT
theorem qa (r:Rs):FSpec prog 114 [r.a] [] [] (.b (bc r)) []:=by
 unfold bc;refine aP func114 ?_;repeat' (first|refine af ?_ ?_|refine ae ?_|exact ah|refine ab fun hb=>?_)
 all_goals (refine d7 ?_;first|(simp [*];done)|(simp [*];omega)|(simp [*] <;> rfl))
theorem eo (r:Rs) (x:Am):FSpec prog 52 [r.a,x.a] [] [] (.b (aF r x)) []:=by
 unfold aF;refine aP func52 ?_;repeat' (first|refine af ?_ ?_|(refine aa 9 rfl ?_;first|(refine cB [] (qa r) ?_)|(refine cB [] (Ah x.mode) ?_))|refine ae ?_|exact ah|refine ab fun hb=>?_)
 all_goals (refine d7 ?_;simp [*] <;> rfl)
theorem gM (x:Am):FSpec prog 180 [x.a] [] [] (.b (aH x)) []:=by
 refine aP func180 ?_;repeat' (first|refine af ?_ ?_|refine ae ?_|exact ah|refine ab fun hb=>?_)
 exact d7 rfl
theorem Ai (r:Rs) (x:Am):FSpec prog 179 [r.a,x.a] [] [] (.b (bj r x)) []:=by
 unfold bj;refine aP func179 ?_;repeat' (first|refine af ?_ ?_|(refine aa 9 rfl ?_;first|(refine cB [] (qa r) ?_)|(refine cB [] (gM x) ?_)|(refine cB [] (eo r x) ?_))|refine ae ?_|exact ah|refine ab fun hb=>?_)
 all_goals (refine d7 ?_;simp [*])
theorem fS (r:Rs) (x y:Am):FSpec prog 101 [r.a,x.a,y.a] [] [] (.b (bg r x y)) []:=by
 unfold bg;refine aP func101 ?_;repeat' (first|refine af ?_ ?_|(refine aa 9 rfl ?_;first|(refine cB [] (Ai r x) ?_)|(refine cB [] (Ai r y) ?_)|(refine cB [] (gM x) ?_)|(refine cB [] (gM y) ?_)|(refine cB [] (n8 x.mode y.mode) ?_))|refine ae ?_|exact ah|refine ab fun hb=>?_)
 all_goals (refine d7 ?_;simp [*])
theorem Ke (a b:Int):FSpec prog 260 [iV a,iV b] [] [] (.i (mO a b)) []:=by
 obtain ⟨v,hv⟩:∃v,mO a b=v:=⟨_,rfl⟩;rw [hv];refine aP func260 ?_;repeat' (first|refine af ?_ ?_|refine ae ?_|exact ah|refine ab fun hb=>?_)
 refine ai (fun x:Nat×Int=>x.1≤5∧x.2+x.1=6∧Do a b x.1 x.2=v) (fun x=>bt [] [(0,.i a),(1,.i b),(5,.i x.2)] []) (fun x=>x.1) (5,1) ⟨by decide,rfl,hv⟩ aN ?_;rintro ⟨n,m⟩ ⟨h5,hm,hs⟩;dsimp only at *
 cases n with
 | zero =>
  repeat' (first|refine af ?_ ?_|refine ae ?_|exact ah|refine ab fun hb=>?_)
  exact d7 (congrArg _ hs)
 | succ n =>
  unfold Do at hs;repeat' (first|refine af ?_ ?_|(refine aa 9 rfl ?_;first|(refine cB [] (n8 m a) ?_)|(refine cB [] (n8 m b) ?_))|refine ae ?_|exact ah|refine ab fun hb=>?_)
  ·refine d7 (congrArg _ ?_);rw [←hs];simp [*]
  all_goals
   refine ⟨(n,m+1),⟨by dsimp only;omega,by dsimp only;omega,?_⟩,by dsimp only;omega,?_⟩
   ·rw [←hs];simp [*]
   ·exact aN
theorem Gu (r:Rs) (l:List Am):FSpec prog 300 [r.a,.one (.sl zt l)] [] [] (.b (ib r l)) [] :=
 pC (fun b W=>by kernel_rfl) rfl fun w S ρ vs hp hS h=>by
  match vs,h with
  | [_,_],⟨h1,⟨A,c,rfl,hc,hR⟩,_⟩=>rw [Rs.open h1];exact (qk r A w.heap.size c l w hp.1 (Nat.le_trans hc.1 hc.2) (Nat.le_refl _) (hR.lo hS)).mono fun _ _=>gT
section
variable {P:Program} {s:Mst} {o:Oper} {α:Type} {E:El α} {l:List α} {e':TypeId}
theorem Gv {t e:TypeId} {k by_:Nat} {cp:Int} {y:Operand} [T:ST P E t e by_] (ho:o.op = .makeSlice t (.const (.int .i64 0)) y) (hdk:o.dst=some k) (hy:s.ev y = .i cp) (h0:0≤cp) (hc:cp≤1000000) (hb:by_≤1024:=by decide):LOp P o s [] ⟨.c (.own k),[(k,some (.arr e E []))],[k]⟩:=by
 intro c st ρ a w hr h1 h2 h3 h4;obtain ⟨n,rfl⟩:=Int.eq_ofNat_of_zero_le h0;have hv2:a.eval y = .int .i64 (n:Int):=by have:=hr.ev y;rwa [h1 y (by simp [ho,Op.operands]),hy] at this
 have hfk:st.f k=true:=h3 k (by simp [aK]);obtain ⟨i0,z,hi,hz0,hz1,hz2,hz3⟩:=T.T.info;have hby:i0.bytes*n≤281474976710656:=Nat.le_trans (Nat.mul_le_mul (show i0.bytes≤1024 by omega) (show n≤1000000 by omega)) (by decide);have hrun:=iN (P:=P) t e i0 z T.T.under hi hz0 .i64 .i64 0 n (Nat.zero_le _) hby (by omega) w;have hsz:(madeCells z.cells (n*i0.size)).size=n*E.n:=by rw [size_madeCells,hz1]
 have ho1:=World.ownsRow_made (e:=e) (size:=E.n) (base:=0) w (madeCells z.cells (n*i0.size)) n (Nat.zero_le _) (by simp only [maxLen];omega) hsz;have hkk:∀k':Nat,aA [(k,some (Box.arr e E ([]:List α)))] k'=true→k'=k:=fun k' h=>by
  simp only [aA,Bool.or_false] at h;exact (Nat.eq_of_beq_eq_true h).symm
 refine Oper.wp_value (v:=.slice (some ⟨w.heap.size,0,none⟩) 0 n) (w':=w.alloc (.cells (madeCells z.cells (n*i0.size)) e)) ?_ ⟨upd ρ k (.slice (some ⟨w.heap.size,0,none⟩) 0 n),hr.app (e:=⟨.c (.own k),[(k,some (.arr e E []))],[k]⟩) h4 (fun k' h=>?_) (fun k' h=>?_) (fun k' h=>.inl ?_) (Frx.alloc _ _ _) (fun k' bx g' h _ hg'=>?_) (fun k1 k2 _ _ _ h h' _ _ _ _=>?_) (fun k' h=>.inl ?_) (fun k1 k2 bx h hp hx=>?_) (fun k2 bx h hp=>?_) ?_⟩
 ·unfold execOp;rw [ho];have hv1:a.eval (.const (.int .i64 0)) = .int .i64 0:=rfl;simp only [hv1,hv2,Sem.run_bind,show (Instr.makeSlice t (.int .i64 0) (.int .i64 (n:Int))).run P w=_ from hrun,Result.andThen_ok,Sem.run_pure]
 ·have:k'=k:=by simp [aK] at h;exact h.symm
  subst this;exact ⟨hfk,by simp [aA]⟩
 ·exact df (by simpa [aK] using h)
 ·rw [hkk k' h];simp [aK]
 ·rw [hkk k' h,aI] at hg';injection hg' with hg';subst hg';exact ⟨by simp,.inl (Nat.le_refl _)⟩
 ·rw [hkk k1 h,hkk k2 h']
 ·have:k'=k:=by simp [TV.has,V0.has,D.has] at h;exact h.symm
  subst this;simp [aK]
 ·rw [hkk k2 h] at hp;simp only [hput,Nat.beq_refl,cond_true,Option.some.injEq] at hp;subst hp;simp [Box.has] at hx
 ·rw [hkk k2 h] at hp ⊢;simp only [hput,Nat.beq_refl,cond_true,Option.some.injEq] at hp;subst hp;rw [aI];exact ⟨[],ho1,rfl⟩
 ·exact (aI _ _ _).symm
theorem y4 {t e:TypeId} {x y:Operand} {row:Bool} {n k:Nat} {z:Int} (ho:o.op = .slice t x (some y) none none) (hx:s.ev x = .c (.own k)) (hk:s.h k=some (.arr e' E l)) (hy:s.ev y = .i z) (hz:0≤z) [I:SE P t e] [J:TI P e row n] (hn:E.n=n) (hj:z.toNat≤l.length) (h0:0<l.length) :
  LOp P o s [k] ⟨.c (.osl k n z.toNat l.length false),[],[]⟩ :=
 bp fun c st ρ a w hr h1 h2=>by
  obtain ⟨j,rfl⟩:=Int.eq_ofNat_of_zero_le hz;simp only [Int.toNat_natCast] at hj ⊢;have he:=h1 x (by simp [ho,Op.operands]);rw [hx] at he;have hv:=hr.ev x;rw [he] at hv;have hv2:a.eval y = .int .i64 (j:Int):=by have:=hr.ev y;rwa [h1 y (by simp [ho,Op.operands]),hy] at this
  obtain ⟨A,cap,hA,hc,hp⟩:=eC (hr.hp k _ ((h2 k (by simp [aK])).trans hk));obtain ⟨g,xs,rfl,_⟩:=hp h0;have hv:a.eval x = .slice (some ⟨g,0,none⟩) l.length cap:=Eq.trans hv hA;obtain ⟨q,hq,hqn⟩:∃q,P.info? e=some q∧q.size=n:=by
   have:=J.s;cases h:P.info? e with
   | none=>simp [h] at this
   | some q=>exact ⟨q,rfl,by simpa [h] using this⟩
  subst hqn;have h3:j≤cap:=by omega
  refine ⟨.slice (some (if cap=j then ⟨g,0,none⟩ else ⟨g,j*q.size,none⟩)) (l.length-j) (cap-j),?_,⟨g,_,_,cap-j,_,hA,⟨hj,Nat.le_refl _,by omega,by omega⟩,(fun h=>by cases h),rfl,fun h=>?_⟩,fun k' hk'=>hr.nf (x:=x) he (by simpa [TV.has,V0.has,D.has] using hk')⟩
  ·unfold execOp;rw [ho];by_cases hi0:cap=j
   ·simp [hv,hv2,Instr.sliceAt,Instr.slice,Instr.sliceBounds,Instr.sliceBound,asIntOf,run_underlying I.u,sizeOf,typeInfo,hq,hi0,hj,h3];try omega
   ·simp [hv,hv2,Instr.sliceAt,Instr.slice,Instr.sliceBounds,Instr.sliceBound,asIntOf,run_underlying I.u,sizeOf,typeInfo,hq,hi0,hj,h3,cZ,hc.1]
  ·rcases h with h|h
   ·subst h;simp
   ·rw [if_neg (by omega)]
theorem BL {t e:TypeId} {by_ n i j k:Nat} {x y:Operand} {l':List α} [T:ST P E t e by_] (ho:o.op = .call { callee:=.builtin .copy,args:=#[x,y],argTypes:=#[t,t] }) (hx:s.ev x = .c (.osl k n i l.length false)) (hy:s.ev y = .c (.osl k n j l.length false)) (hk:s.h k=some (.arr e E l))
  (hn:E.n=n) (hij:j≤i) (hi:i≤l.length) (hl':l.take i++(l.drop j).take (l.length-i)=l'):LOp P o s [k] ⟨.c .any,[(k,some (.arr e E l'))],[]⟩:=by
 intro c st ρ a w hr h1 h2 _ h4;subst hl';subst hn;have hk':=(h2 k (by simp [aK])).trans hk;have hv1:=hr.ev x;rw [h1 x (by simp [ho,Op.operands,Call.operands]),hx] at hv1;obtain ⟨g,nn,cap,c1,A1,hρ1,⟨_,b2,b3,b4⟩,b5,hv1,b6⟩:=(show (D.osl k E.n i l.length false).rep w (Fz c st.h ρ w) ρ (a.eval x) from hv1);have hv2:=hr.ev y;rw [h1 y (by simp [ho,Op.operands,Call.operands]),hy] at hv2;obtain ⟨g2,nn2,cap2,c2,A2,hρ2,⟨d1,d2,d3,d4⟩,_,hv2,d6⟩:=(show (D.osl k E.n j l.length false).rep w (Fz c st.h ρ w) ρ (a.eval y) from hv2);rw [hρ1] at hρ2;injection hρ2 with e1 e2 e3;injection e1 with e1;injection e1 with e1;subst e1;subst e2;subst e3;obtain ⟨xs,hown0,hreps⟩:=hr.hp k _ hk';have hown:=hown0;rw [hρ1] at hown;obtain rfl:nn=l.length:=by
  rcases hown.2 with ⟨hv,_⟩|⟨g',cap',cur,hv,_⟩
  ·cases hv
  ·injection hv
 have hxl:=hown.1;have hpos:=E.pos;obtain ⟨ti,z,hi1,hi2,hi3,hi4,hi5⟩:=T.T.info;obtain ⟨cs,hcs⟩:∃cs,(xs.drop (j*E.n)).take ((l.length-i)*E.n)=cs:=⟨_,rfl⟩;have hm:l.length-i≤l.length-j:=by omega
 have e5:(l.length-j)*E.n=l.length*E.n-j*E.n:=Nat.sub_mul _ _ _;have e6:(l.length-i)*E.n=l.length*E.n-i*E.n:=Nat.sub_mul _ _ _;have e7:=Nat.mul_le_mul_right E.n hm;have e8:=Nat.mul_le_mul_right E.n hi;have hcl:cs.length=(l.length-i)*E.n:=by
  rw [←hcs,List.length_take,List.length_drop,hxl,←e5];exact Nat.min_eq_left e7
 have hrc:Reps E w (Fz c st.h ρ w) ((l.drop j).take (l.length-i)) cs:=hcs▸(hreps.drop j).take (l.length-i);have hmin:Nat.min (l.length-j) (l.length-i)=l.length-i:=Nat.min_eq_right hm;have hrun:(Builtin.copy_ #[t,t] o.type #[a.eval x,a.eval y]).run P w = .ok (goInt (l.length-i:Nat)) (w.setCells g (i*E.n) cs):=by
  rw [hv1,hv2];by_cases h0:l.length-i=0
  ·have h9:cs=[]:=List.eq_nil_of_length_eq_zero (by rw [hcl,h0,Nat.zero_mul]);subst h9;have:=kq (P:=P) w t o.type e E.n (some A1) (some A2) (l.length-i) c1 (l.length-j) c2 T.T.under (by rw [hi1];simp [hi3]) (by rw [hmin];exact h0);rw [this,h0];rfl
  ·obtain rfl:A1=⟨g,i*E.n,none⟩:=b6 (.inr (by omega));obtain rfl:A2=⟨g,j*E.n,none⟩:=d6 (.inr (by omega));have:=gY (P:=P) w t o.type e E.n g (i*E.n) (l.length-i) c1 ⟨g,j*E.n,none⟩ (l.length-j) c2 cs T.T.under (by rw [hi1];simp [hi3]) (by rw [hmin];exact hcl) (fun q u hq=>by
    rw [cZ];rw [←hcs,List.getElem?_take] at hq;split at hq
    ·rw [List.getElem?_drop] at hq;have hlt:=(List.getElem?_eq_some_iff.1 hq).1;rw [World.ownsRow.cellAt hown _ (by omega)];exact hq
    ·cases hq) (fun q hq=>(fE hown (by omega)).1) (fun q hq=>(fE hown (by omega)).2) (fun v hv=>hrc.one v hv)
   rw [this,hmin]
 have hrow:=fp cs (i*E.n) w xs hown (by omega);have hkb:kb (ρ k)=some g:=by rw [hρ1];rfl
 have hsize:=bO (g:=g) cs (i*E.n) w;have hoth:∀b,b≠g→(w.setCells g (i*E.n) cs).heap[b]? = w.heap[b]?:=fun b hb=>bM cs _ w b hb;have hbel:=de (B:=0) (w:=w) (Nat.zero_le g) cs (i*E.n) w (Below.refl _ _);obtain ⟨L,hL⟩:∃L,l.take i++(l.drop j).take (l.length-i)=L:=⟨_,rfl⟩;have hLl:L.length=l.length:=by rw [←hL];simp;omega
 have hnew:Reps E w (Fz c st.h ρ w) L (xs.take (i*E.n)++cs++xs.drop (i*E.n+cs.length)):=by
  rw [show xs.drop (i*E.n+cs.length)=[] from List.drop_eq_nil_of_le (by omega),List.append_nil,←hL];exact (hreps.take i).append hrc
 rw [hL];have hkk:∀k':Nat,aA [(k,some (Box.arr e E L))] k'=true→k'=k:=fun k' h=>by
  simp only [aA,Bool.or_false] at h;exact (Nat.eq_of_beq_eq_true h).symm
 have hfz:∀b,Fz c st.h ρ w b→Fz c (hput [(k,some (Box.arr e E L))] st.h) ρ (w.setCells g (i*E.n) cs) b∧(w.setCells g (i*E.n) cs).heap[b]? = w.heap[b]?:=fun b ⟨f1,f2,f3⟩=>by
  have hbg:b≠g:=fun e=>f3 k _ hk' (by rw [hkb,e]);refine ⟨⟨f1,by rw [hsize];exact f2,fun k' bx hk2=>?_⟩,hoth b hbg⟩;simp only [hput] at hk2;cases h9:k.beq k' with
  | true=>rw [←Nat.eq_of_beq_eq_true h9,hkb];intro e;injection e with e;exact hbg e.symm
  | false=>rw [h9] at hk2;exact f3 k' bx hk2
 refine Oper.wp_value (v:=goInt (l.length-i:Nat)) (w':=w.setCells g (i*E.n) cs) ?_ ⟨ρ,hr.app (e:=⟨.c .any,[(k,some (.arr e E L))],[]⟩) h4 (fun k h=>by simp [aK] at h) (fun _ _=>rfl) (fun k' h=>.inr (by rw [hkk k' h];exact hr.nfh hk')) ⟨hbel.os,hbel.tape,hbel.output,hbel.size,fun b hlt hn=>hoth b fun e=>hn ⟨k,_,by simp [aA],hk',by rw [hkb,e]⟩⟩ ?_ ?_ (fun k h=>by simp [TV.has,V0.has,D.has] at h) ?_ ?_ trivial⟩
 ·unfold execOp;simp only [ho,resolve,invoke,builtin,Sem.run_bind,Sem.run_pure,Result.andThen_ok,List.map_toArray,List.map_cons,List.map_nil,hrun]
 ·intro k' bx g' h _ hg';rw [hkk k' h,hkb] at hg';injection hg' with hg';subst hg';exact ⟨by rw [hsize];exact hr.ltb hk' hkb,.inr ⟨k,_,by simp [aA],hk',hkb⟩⟩
 ·intro k1 k2 _ _ _ h h' _ _ _ _;rw [hkk k1 h,hkk k2 h']
 ·intro k1 k2 bx h hp hx;rw [hkk k2 h] at hp;simp only [hput,Nat.beq_refl,cond_true,Option.some.injEq] at hp;subst hp;simp [Box.has] at hx
 ·intro k2 bx h hp;rw [hkk k2 h] at hp ⊢;simp only [hput,Nat.beq_refl,cond_true,Option.some.injEq] at hp;subst hp;refine ⟨_,by rw [hLl,hρ1];exact hrow,?_⟩;exact hnew.same (fun b hb=>(hfz b hb).2) fun b hb=>(hfz b hb).1
end
theorem gj (p:Pr):FSpec prog 48 [p.a] [] [] (.b (jl p)) [] :=
 cz (fun b W=>by kernel_rfl) rfl fun w S ρ vs _ h=>by
  match vs,h with
  | [_],⟨h1,_⟩=>rw [Pr.open h1];exact (AH p w).mono fun _ _=>gT
theorem jf (p q:Pr):FSpec prog 24 [p.a,q.a] [] [] (.i (bE p q)) [] :=
 cz (fun b W=>by kernel_rfl) rfl fun w S ρ vs _ h=>by
  match vs,h with
  | [_,_],⟨h1,h2,_⟩=>rw [Pr.open h1,Pr.open h2];exact (AM p q w).mono fun _ _=>gT
theorem qb (r:Rs) (l:List Ho):FSpec prog 241 [r.a,.one (.sl fV l)] [] [] (.b (te r l)) []:=by
  obtain ⟨v,hv⟩:∃v,te r l=v:=⟨_,rfl⟩;rw [hv];unfold te at hv;refine aP func241 ?_;refine aM (fun c ρ a w hr=>bz (t:=1) hr rfl) (fun hl1=>?_);cases hs:bc r && decide (l.length≤8) with
  | false =>
    rw [hs] at hv;obtain rfl:false=v:=hv;repeat' (first|refine af ?_ ?_|refine aa 9 rfl (cB [] (qa r) ?_)|refine ae ?_|exact ah|refine ab fun hb=>?_|exact aX|fail)
    exfalso;revert hs;simp [*];omega
  | true =>
    rw [hs,Bool.true_and] at hv;obtain ⟨hs,h8⟩:bc r=true∧l.length≤8:=by simpa using hs
    repeat' (first|refine af ?_ ?_|refine aa 9 rfl (cB [] (qa r) ?_)|((fail_if_success (first|refine my 4 ?_|refine mz 4 ?_));refine ae ?_)|exact ah|(refine ab fun hb=>?_;first|(simp [hs] at hb;done)|skip))
    refine bV 5 1000 37 zt rfl rfl rfl ?_;repeat' (first|refine af ?_ ?_|refine ae ?_|exact ah|refine ab fun hb=>?_)
    refine ai (fun i=>i≤l.length∧(sF r (ql l i) (l.drop i) && ib r (iv l))=v) (fun i=>bt [2,1000] [(1,.c (.sl fV l)),(2,.c (.ptr 2 0)),(5,.c (.own 1000)),(16,.c (.sl fV l)),(17,.i l.length),(18,.i i)] [(2,.box 55 [.sc (.string r.name),.sc (.int .i64 r.kind),.sc (.int .i64 r.units),.sc (.int .i64 r.home)]),(1000,.arr 37 zt (iv (l.take i)))]) (fun i=>l.length-i) 0 ⟨Nat.zero_le _,hv⟩ aN ?_;rintro i ⟨hi,hs⟩;have hlen:(iv (l.take i)).length=i:=by simp [iv];omega
    by_cases hlt:i<l.length
    · have ea:iv (l.take (i+1))=iv (l.take i)++[l[i].am]:=by unfold iv;rw [List.take_succ_eq_append_getElem hlt,List.map_append];rfl
      rw [List.drop_eq_getElem_cons hlt,tf] at hs;rcases Nat.eq_zero_or_pos i with h0|h0
      · subst h0
        rw [qm] at hs;repeat' (first|refine af ?_ ?_|(refine aa 8 rfl ?_;refine aV (ak rfl rfl (aB rfl rfl) (aD [l[0].am] rfl rfl rfl rfl) rfl aL aL) rfl rfl rfl ?_)|(refine aa 9 rfl ?_;first|(refine cB [] (gj l[0].proc) ?_)|(refine cB [] (eo r l[0].am) ?_))|refine ae ?_|exact ah|(refine ab fun hb=>?_;first|(simp at hb;done)|skip))
        all_goals first
          | (obtain rfl:false=v:=by rw [←hs];simp [*]
             refine bP (qf []) ?_;exact aj)
          | (refine ⟨1,⟨by omega,by rw [←hs,jr hlt rfl];simp [*]⟩,by omega,?_⟩
             rw [ea];exact a8 (qf [(1000,52)]))
      · obtain ⟨m,hm⟩:∃m,l[i-1]=m:=⟨_,rfl⟩
        have hgm:l[((i:Int)-1).toNat]? = some m:=by rw [show ((i:Int)-1).toNat=i-1 by omega,List.getElem?_eq_getElem (by omega),hm]
        rw [tg h0 (by omega) hm] at hs;dsimp only at hs;repeat' (first|refine af ?_ ?_|(refine aa 8 rfl ?_;refine aV (ak rfl rfl (aB rfl rfl) (aD [l[i].am] rfl rfl rfl rfl) rfl aL aL) rfl rfl rfl ?_)|(refine aa 9 rfl ?_;first|(refine cB [] (gj l[i].proc) ?_)|(refine cB [] (eo r l[i].am) ?_)|(refine cB [] (jf m.proc l[i].proc) ?_))|refine ae ?_|exact ah|refine ab fun hb=>?_)
        all_goals first
          | (obtain rfl:false=v:=by rw [←hs];first|(simp [*];done)|(rw [decide_eq_false (p:=bE m.proc l[i].proc<0) (by omega)];simp)
             refine bP (qf []) ?_;exact aj)
          | (refine ⟨i+1,⟨by omega,by rw [←hs,jr hlt rfl,decide_eq_true (p:=bE m.proc l[i].proc<0) (by omega)];simp [*]⟩,by omega,?_⟩
             rw [ea];exact a8 (qf [(1000,52)]))
    · rw [List.drop_eq_nil_of_le (by omega)] at hs
      obtain rfl:ib r (iv l)=v:=hs;rw [List.take_of_length_le (by omega)] at hlen ⊢;repeat' (first|refine af ?_ ?_|refine aa 9 rfl (cB [1000] (Gu r (iv l)) ?_)|refine ae ?_|exact ah|refine ab fun hb=>?_|exact aX|fail)
theorem Lb (l:List Ho) (p:Pr):FSpec prog 182 [.one (.sl fV l),p.a] [] [] (.v (ao l p).a) []:=by
 obtain ⟨v,hv⟩:∃v,ao l p=v:=⟨_,rfl⟩;rw [hv];refine aP func182 ?_;refine aM (fun c ρ a w hr=>bz (t:=0) hr rfl) (fun hl0=>?_);repeat' (first|refine af ?_ ?_|refine ae ?_|exact ah|refine ab fun hb=>?_)
 refine ai (fun i=>i≤l.length∧ao (l.drop i) p=v) (fun i=>bt [3,4] [(3,.c (.ptr 3 0)),(4,.c (.ptr 4 0)),(7,.c (.sl fV l)),(8,.i l.length),(9,.i i)] [(3,.box 35 [.sc (.int .i64 p.site),.sc (.int .i64 p.inc),.sc (.int .i64 p.num)]),(4,.box 37 [.sc (.int .i64 0),.sc (.int .i64 0)])]) (fun i=>l.length-i) 0 ⟨Nat.zero_le _,hv⟩ aN ?_;rintro i ⟨hi,hs⟩;by_cases hlt:i<l.length
 ·rw [List.drop_eq_getElem_cons hlt,ao] at hs;repeat' (first|refine af ?_ ?_|refine ae ?_|exact ah|refine ab fun hb=>?_)
  ·obtain rfl:l[i].am=v:=by rw [←hs];simp [*]
   refine bP (qf []) ?_;exact aj
  ·refine ⟨i+1,⟨by omega,by rw [←hs];simp [*]⟩,by omega,?_⟩;exact aN
 ·rw [List.drop_eq_nil_of_le (by omega)] at hs;obtain rfl:=hs;repeat' (first|refine af ?_ ?_|refine ae ?_|exact ah|refine ab fun hb=>?_|exact aX|fail)
def pW (p:Pr):Nat→List Ho→Int
 | _,[]=>-1
 | k,h :: l=>bif decide (0<bE h.proc p) then (k:Int) else pW p (k+1) l
theorem y5 (p:Pr):∀(l:List Ho) (k:Nat),pW p k l = -1∨((k:Int)≤pW p k l∧pW p k l<k+l.length)
 | [],_=>.inl rfl
 | h :: l,k=>by
  unfold pW;cases decide (0<bE h.proc p) with
  | true=>exact .inr ⟨Int.le_refl _,by simp;omega⟩
  | false =>
   rcases y5 p l (k+1) with h1|⟨h1,h2⟩
   ·exact .inl h1
   ·refine .inr ⟨?_,?_⟩ <;> simp only [cond_false,List.length_cons] <;> omega
theorem xI (p:Pr) (h:Ho):∀(l:List Ho) (k:Nat),pW p k (l++[h])=if pW p k l<0 then (if 0<bE h.proc p then ((k+l.length:Nat):Int) else -1) else pW p k l
 | [],k=>by
  by_cases h1:0<bE h.proc p <;> simp [pW,h1]
 | x :: l,k=>by
  have ih:=xI p h l (k+1);rw [List.cons_append,pW,pW];cases decide (0<bE x.proc p) with
  | true=>rw [cond_true,cond_true,if_neg (by omega)]
  | false=>rw [cond_false,cond_false,ih,List.length_cons,show k+1+l.length=k+(l.length+1) by omega]
theorem xJ (x:Ho):∀(l:List Ho) (k:Nat),mn x l=l.take (if pW x.proc k l<0 then l.length else (pW x.proc k l).toNat-k)++x :: l.drop (if pW x.proc k l<0 then l.length else (pW x.proc k l).toNat-k)
 | [],_=>by simp [mn]
 | h :: l,k=>by
  rw [gX,pW];cases decide (0<bE h.proc x.proc) with
  | true=>rw [cond_true,cond_true,if_neg (by omega)];simp
  | false =>
   rw [cond_false,cond_false,xJ x l (k+1)];rcases y5 x.proc l (k+1) with h1|⟨h1,h2⟩
   ·simp [h1]
   ·rw [if_neg (by omega),if_neg (by omega),show (pW x.proc (k+1) l).toNat-k=(pW x.proc (k+1) l).toNat-(k+1)+1 by omega];rfl
theorem D8 (l:List Ho) (p:Pr) (x:Am) (hl:l.length≤100000):FSpec prog 245 [.one (.sl fV l),p.a,x.a] [] [] (.c (.sl fV (cr l p x))) []:=by
 obtain ⟨R,hR⟩:∃R,cr l p x=R:=⟨_,rfl⟩;rw [hR];unfold cr at hR;obtain ⟨F,hF⟩:∃F,eN l p=F:=⟨_,rfl⟩;rw [hF] at hR;refine aP func245 ?_;repeat' (first|refine af ?_ ?_|(refine aa 20 rfl ?_;refine sx (Gv (E:=fV) rfl rfl rfl (by omega) (by omega)) ?_)|refine ae ?_|exact ah|refine ab fun hb=>?_)
 refine ai (fun y:Nat×List Ho=>y.1≤l.length∧y.2.length≤y.1∧y.2++eN (l.drop y.1) p=F) (fun y=>bt [4,5,1000] [(4,.c (.ptr 4 0)),(5,.c (.ptr 5 0)),(7,.c (.own 1000)),(8,.i (pW p 0 y.2)),(15,.c (.sl fV l)),(16,.i l.length),(17,.i y.1)] [(4,.box 35 [.sc (.int .i64 p.site),.sc (.int .i64 p.inc),.sc (.int .i64 p.num)]),(5,.box 37 [.sc (.int .i64 x.mode),.sc (.int .i64 x.units)]),(1000,.arr 197 fV y.2)]) (fun y=>l.length-y.1) (0,[]) ⟨Nat.zero_le _,Nat.le_refl _,hF⟩ (by exact a8 (qf [(1000,14)])) ?_;rintro ⟨i,out⟩ ⟨hi,hol,hs⟩;dsimp only at *
 have hpb:=y5 p out 0;by_cases hlt:i<l.length
 ·rw [List.drop_eq_getElem_cons hlt,lN] at hs;by_cases hp:l[i].proc=p
  ·rw [decide_eq_true hp,cond_true] at hs;repeat' (first|refine af ?_ ?_|refine ae ?_|exact ah|(refine ab fun hb=>?_;first|(exact absurd hp hb)|skip))
   refine ⟨(i+1,out),⟨by dsimp only;omega,by dsimp only;omega,hs⟩,by dsimp only;omega,?_⟩;exact aN
  ·rw [decide_eq_false hp,cond_false] at hs;have hsn:=xI p l[i] out 0;rw [Nat.zero_add] at hsn;repeat' (first|refine af ?_ ?_|(refine aa 8 rfl ?_;refine aV (ak rfl rfl (aB rfl rfl) (aD [l[i]] rfl rfl rfl rfl) rfl aL aL) rfl rfl rfl ?_)|refine aa 9 rfl (cB [] (jf l[i].proc p) ?_)|refine ae ?_|exact ah|(refine ab fun hb=>?_;first|(exact absurd hb hp)|skip))
   all_goals
    refine ⟨(i+1,out++[l[i]]),⟨by dsimp only;omega,by simp;omega,by rw [←hs];simp⟩,by dsimp only;omega,?_⟩;dsimp only;rw [hsn];first|(rw [if_pos (by omega),if_pos (by omega)];exact a8 (qf [(1000,39)]))|(rw [if_pos (by omega),if_neg (by omega),show (-1:Int)=pW p 0 out by omega];exact a8 (qf [(1000,39)]))|(rw [if_neg (by omega)];exact a8 (qf [(1000,39)]))
 ·rw [List.drop_eq_nil_of_le (by omega)] at hs;obtain rfl:out=F:=by rw [←hs];simp [eN]
  cases hz:aH x with
  | true =>
   rw [hz] at hR;obtain rfl:out=R:=hR;repeat' (first|refine af ?_ ?_|refine aa 9 rfl (cB [] (gM x) ?_)|refine ae ?_|exact ah|(refine ab fun hb=>?_;first|(simp [hz] at hb;done)|skip)|exact aX|fail)
  | false =>
   rw [hz,cond_false,xJ _ out 0] at hR;obtain ⟨K,hK,hKl,hpl⟩:∃K:Nat,(if pW p 0 out<0 then out.length else (pW p 0 out).toNat-0)=K∧K≤out.length∧(pW p 0 out<0∧K=out.length∨pW p 0 out=(K:Int)):=by
    rcases hpb with h|⟨h,h'⟩
    ·exact ⟨out.length,by rw [if_pos (by omega)],Nat.le_refl _,.inl ⟨by omega,rfl⟩⟩
    ·exact ⟨(pW p 0 out).toNat,by rw [if_neg (by omega)];rfl,by omega,.inr (by omega)⟩
   dsimp only at hR;rw [hK] at hR;obtain ⟨W,hW⟩:∃W,out++[(⟨⟨0,0,0⟩,⟨0,0⟩⟩:Ho)]=W:=⟨_,rfl⟩;have hWl:W.length=out.length+1:=by rw [←hW];simp
   obtain ⟨M,hM⟩:∃M,W.take ((K:Int)+1).toNat++(W.drop (K:Int).toNat).take (W.length-((K:Int)+1).toNat)=M:=⟨_,rfl⟩;have hM2:M=W.take (K+1)++out.drop K:=by
    have h1:(W.drop K).take (out.length-K)=out.drop K:=by rw [←hW,List.drop_append_of_le_length hKl,List.take_append_of_le_length (by simp),List.take_of_length_le (by simp)]
    rw [←hM,show ((K:Int)+1).toNat=K+1 by omega,show (K:Int).toNat=K by omega,show W.length-(K+1)=out.length-K by omega,h1]
   have hMl:M.length=out.length+1:=by rw [hM2];simp [hWl];omega
   obtain ⟨u,hu⟩:∃u,M[K]? = some u:=⟨_,List.getElem?_eq_getElem (by omega)⟩;have hfin:M.set K ⟨p,x⟩=R:=by
    have h1:(W.take (K+1)).length=K+1:=by simp;omega
    rw [hM2,List.set_append_left _ _ (by omega),←hR,List.take_succ_eq_append_getElem (by omega),List.set_append_right _ _ (by simp;omega),show K-(W.take K).length=0 by simp;omega,List.set_cons_zero,←hW,List.take_append_of_le_length hKl];simp
   rcases hpl with ⟨hpl,rfl⟩|hpl
   case' inr=>rw [hpl]
   all_goals
    clear hpb hK hM2 hR;repeat' (first|refine af ?_ ?_|(refine aa 8 rfl ?_;refine aV (ak rfl rfl (aB rfl rfl) (aD [(⟨⟨0,0,0⟩,⟨0,0⟩⟩:Ho)] rfl rfl rfl rfl) hW (by simp only [List.length_cons,List.length_nil,maxLen];omega) (by simp only [List.length_cons,List.length_nil];omega)) rfl rfl rfl ?_)|(refine aa 9 rfl ?_;first|(refine sx (BL rfl rfl rfl rfl rfl (by omega) (by omega) hM) ?_)|(refine cB [] (gM x) ?_))|(refine aa 14 rfl ?_;refine sx (y4 rfl rfl rfl rfl (by omega) rfl (by omega) (by omega)) ?_)|refine ae ?_|(refine aa 4 rfl ?_;refine aR (aq (z:=⟨p,x⟩) rfl rfl rfl rfl hu rfl rfl rfl rfl (Nat.le_of_ble_eq_true rfl) rfl rfl) rfl rfl rfl ?_)|exact ah|(refine ab fun hb=>?_;first|(simp [hz] at hb;done)|skip))
    rw [hfin];refine bP (qf []) ?_;exact aj
theorem xK (r:Rs) (l:List Ho) (p:Pr) (x:Am):FSpec prog 244 [r.a,.one (.sl fV l),p.a,x.a] [] [] (.b (th r l p x)) []:=by
 unfold th;refine aP func244 ?_;repeat' (first|refine af ?_ ?_|(refine aa 9 rfl ?_;first|(refine cB [] (qb r l) ?_)|(refine cB [] (gj p) ?_)|(refine cB [] (eo r x) ?_))|refine ae ?_|exact ah|refine ab fun hb=>?_)
 all_goals (refine d7 ?_;simp [*])
theorem D9 (r:Rs) (l:List Ho) (p:Pr) (x:Am):FSpec prog 185 [r.a,.one (.sl fV l),p.a,x.a] [] [] (.b (fW r l p x)) []:=by
 unfold fW;refine aP func185 ?_;cases hh:th r l p x with
 | false =>
  repeat' (first|refine af ?_ ?_|refine aa 9 rfl (cB [] (xK r l p x) ?_)|refine ae ?_|exact ah|(refine ab fun hb=>?_;first|(simp [hh] at hb;done)|skip)|exact aX|fail)
 | true =>
  have h8:l.length≤8:=by have:=hh;simp [th,te] at this;omega
  repeat' (first|refine af ?_ ?_|(refine aa 9 rfl ?_;first|(refine cB [] (xK r l p x) ?_)|(refine cC [] (D8 l p x (by omega)) ?_)|(refine cB [] (qb r (cr l p x)) ?_))|refine ae ?_|exact ah|(refine ab fun hb=>?_;first|(simp [hh] at hb;done)|skip)|exact aX|fail)
theorem t8 (z:Array Value):∀n,(madeCells z (n*z.size)).toList=(List.replicate n z.toList).flatten
 | 0=>by simp [madeCells]
 | n+1=>by
  have ih:=t8 z n;unfold madeCells at ih ⊢;simp only [Array.toList_map,Array.toList_range] at ih ⊢;rw [Nat.succ_mul,List.range_add,List.map_append,ih,List.replicate_succ',List.flatten_append];congr 1
  simp only [List.map_map,List.flatten_cons,List.flatten_nil,List.append_nil];apply List.ext_getElem
  ·simp
  ·intro i h1 h2;simp only [List.length_map,List.length_range] at h1;simp only [List.getElem_map,List.getElem_range,Function.comp_apply,Array.getElem_toList];rw [Nat.add_comm,Nat.add_mul_mod_self_right,Nat.mod_eq_of_lt h1];exact getElem!_pos z i h1
section
variable {P:Program} {s:Mst} {o:Oper} {α:Type} {E:El α} {l:List α} {e':TypeId}
theorem vw {t e:TypeId} {k by_ n:Nat} {x y:Operand} {z:Value} (y0:α) [T:ST P E t e by_] (ho:o.op = .makeSlice t x y) (hdk:o.dst=some k) (hx:s.ev x = .i n) (hy:s.ev y = .i n) (hn:n≤1000000) (hz:(P.info? e).bind (·.zero)=some z) (hy0:∀w S,E.rep w S y0 z.cells.toList) (hb:by_≤1024):LOp P o s [] ⟨.c (.own k),[(k,some (.arr e E (List.replicate n y0)))],[k]⟩:=by
 intro c st ρ a w hr h1 h2 h3 h4;have hv1:a.eval x = .int .i64 (n:Int):=by have:=hr.ev x;rwa [h1 x (by simp [ho,Op.operands]),hx] at this
 have hv2:a.eval y = .int .i64 (n:Int):=by have:=hr.ev y;rwa [h1 y (by simp [ho,Op.operands]),hy] at this
 have hfk:st.f k=true:=h3 k (by simp [aK]);obtain ⟨i0,z',hi,hz0,hz1,hz2,hz3⟩:=T.T.info;obtain rfl:z=z':=by rw [hi] at hz;simp [hz0] at hz;exact hz.symm
 have hby:i0.bytes*n≤281474976710656:=Nat.le_trans (Nat.mul_le_mul (show i0.bytes≤1024 by omega) (show n≤1000000 by omega)) (by decide);have hrun:=iN (P:=P) t e i0 z T.T.under hi hz0 .i64 .i64 n n (Nat.le_refl _) hby (by omega) w;have hzs:z.cells.size=i0.size:=by first|exact hz3|(rw [hz1];exact hz3)|omega
 rw [←hzs] at hrun;have ho1:=World.ownsRow_lit (e:=e) (size:=E.n) (base:=0) w (madeCells z.cells (n*z.cells.size)) n (Nat.zero_le _) (by simp only [maxLen];omega) (by rw [size_madeCells,hzs,hz1]);rw [t8] at ho1;have hgen:∀(W:World) (S:Nat→Prop) (q:Nat),Reps E W S (List.replicate q y0) (List.replicate q z.cells.toList).flatten:=by
  intro W S q;induction q with
  | zero=>rfl
  | succ q ih=>exact ⟨z.cells.toList,(List.replicate q z.cells.toList).flatten,by rw [List.replicate_succ,List.flatten_cons],hy0 _ _,ih⟩
 have hkk:∀k':Nat,aA [(k,some (Box.arr e E (List.replicate n y0)))] k'=true→k'=k:=fun k' h=>by
  simp only [aA,Bool.or_false] at h;exact (Nat.eq_of_beq_eq_true h).symm
 refine Oper.wp_value (v:=.slice (some ⟨w.heap.size,0,none⟩) n n) (w':=w.alloc (.cells (madeCells z.cells (n*z.cells.size)) e)) ?_ ⟨upd ρ k (.slice (some ⟨w.heap.size,0,none⟩) n n),hr.app (e:=⟨.c (.own k),[(k,some (.arr e E (List.replicate n y0)))],[k]⟩) h4 (fun k' h=>?_) (fun k' h=>?_) (fun k' h=>.inl ?_) (Frx.alloc _ _ _) (fun k' bx g' h _ hg'=>?_) (fun k1 k2 _ _ _ h h' _ _ _ _=>?_) (fun k' h=>.inl ?_) (fun k1 k2 bx h hp hx=>?_) (fun k2 bx h hp=>?_) ?_⟩
 ·unfold execOp;rw [ho];simp only [hv1,hv2,Sem.run_bind,hrun,Result.andThen_ok,Sem.run_pure]
 ·have:k'=k:=by simp [aK] at h;exact h.symm
  subst this;exact ⟨hfk,by simp [aA]⟩
 ·exact df (by simpa [aK] using h)
 ·rw [hkk k' h];simp [aK]
 ·rw [hkk k' h,aI] at hg';injection hg' with hg';subst hg';exact ⟨by simp,.inl (Nat.le_refl _)⟩
 ·rw [hkk k1 h,hkk k2 h']
 ·have:k'=k:=by simp [TV.has,V0.has,D.has] at h;exact h.symm
  subst this;simp [aK]
 ·rw [hkk k2 h] at hp;simp only [hput,Nat.beq_refl,cond_true,Option.some.injEq] at hp;subst hp;simp [Box.has] at hx
 ·rw [hkk k2 h] at hp ⊢;simp only [hput,Nat.beq_refl,cond_true,Option.some.injEq] at hp;subst hp;rw [aI];exact ⟨_,by rw [List.length_replicate];exact ho1,hgen _ _ n⟩
 ·exact (aI _ _ _).symm
theorem ua {t e:TypeId} {by_ k:Nat} {x y:Operand} {m l':List α} {R:List Nat} [T:ST P E t e by_] (ho:o.op = .call { callee:=.builtin .copy,args:=#[x,y],argTypes:=#[t,t] }) (hx:s.ev x = .c (.own k)) (hk:s.h k=some (.arr e E l)) (hy:FH s E y m R)
  (h0:0<l.length) (hm:m.length≤l.length) (hl':m++l.drop m.length=l'):LOp P o s (k :: R) ⟨.c .any,[(k,some (.arr e E l'))],[]⟩:=by
 intro c st ρ a w hr h1 h2 _ h4;subst hl';have hk':=(h2 k (by simp [aK])).trans hk;have hv1:=hr.ev x;rw [h1 x (by simp [ho,Op.operands,Call.operands]),hx] at hv1;have hv1:a.eval x=ρ k:=hv1;obtain ⟨A2,cap2,ys,hv2,hrc,hsrc⟩:=hy c st ρ a w hr (h1 y (by simp [ho,Op.operands,Call.operands])) fun k' hk'=>h2 k' (by simp only [aK,Bool.or_eq_true];exact .inr hk');obtain ⟨xs,hown0,hreps⟩:=hr.hp k _ hk';obtain ⟨g,cap,hρ1⟩:∃g cap,ρ k = .slice (some ⟨g,0,none⟩) l.length cap:=by
  rcases hown0.2 with ⟨_,hn⟩|⟨g',cap',cur,hv,_⟩
  ·omega
  ·exact ⟨g',cap',hv⟩
 have hown:=hown0;rw [hρ1] at hown;have hxl:=hown.1;have hpos:=E.pos;obtain ⟨ti,z,hi1,hi2,hi3,hi4,hi5⟩:=T.T.info;have hcl:ys.length=m.length*E.n:=hrc.length;have e8:=Nat.mul_le_mul_right E.n hm;have hmin:Nat.min m.length l.length=m.length:=Nat.min_eq_left hm;have hrun:(Builtin.copy_ #[t,t] o.type #[a.eval x,a.eval y]).run P w = .ok (goInt m.length) (w.setCells g 0 ys):=by
  rw [hv1,hρ1,hv2];by_cases hz:m.length=0
  ·have h9:ys=[]:=List.eq_nil_of_length_eq_zero (by rw [hcl,hz,Nat.zero_mul]);subst h9;have:=kq (P:=P) w t o.type e E.n (some ⟨g,0,none⟩) A2 l.length cap m.length cap2 T.T.under (by rw [hi1];simp [hi3]) (by rw [hmin];exact hz);rw [this,hz];rfl
  ·obtain ⟨b,off,rfl,hcell⟩:=hsrc (by omega);have:=gY (P:=P) w t o.type e E.n g 0 l.length cap ⟨b,off,none⟩ m.length cap2 ys T.T.under (by rw [hi1];simp [hi3]) (by rw [hmin];exact hcl) (fun q u hq=>by
    rw [cZ];exact hcell q u hq) (fun q hq=>(fE hown (by omega)).1) (fun q hq=>(fE hown (by omega)).2) (fun v hv=>hrc.one v hv)
   rw [this,hmin]
 have hrow:=fp ys 0 w xs hown (by omega);have hkb:kb (ρ k)=some g:=by rw [hρ1];rfl
 have hsize:=bO (g:=g) ys 0 w;have hoth:∀b,b≠g→(w.setCells g 0 ys).heap[b]? = w.heap[b]?:=fun b hb=>bM ys _ w b hb;have hbel:=de (B:=0) (w:=w) (Nat.zero_le g) ys 0 w (Below.refl _ _);obtain ⟨L,hL⟩:∃L,m++l.drop m.length=L:=⟨_,rfl⟩;have hLl:L.length=l.length:=by rw [←hL];simp;omega
 have hnew:Reps E w (Fz c st.h ρ w) L (xs.take 0++ys++xs.drop (0+ys.length)):=by
  rw [←hL,Nat.zero_add,List.take_zero,List.nil_append,hcl];exact hrc.append (hreps.drop m.length)
 rw [hL];have hkk:∀k':Nat,aA [(k,some (Box.arr e E L))] k'=true→k'=k:=fun k' h=>by
  simp only [aA,Bool.or_false] at h;exact (Nat.eq_of_beq_eq_true h).symm
 have hfz:∀b,Fz c st.h ρ w b→Fz c (hput [(k,some (Box.arr e E L))] st.h) ρ (w.setCells g 0 ys) b∧(w.setCells g 0 ys).heap[b]? = w.heap[b]?:=fun b ⟨f1,f2,f3⟩=>by
  have hbg:b≠g:=fun e=>f3 k _ hk' (by rw [hkb,e]);refine ⟨⟨f1,by rw [hsize];exact f2,fun k' bx hk2=>?_⟩,hoth b hbg⟩;simp only [hput] at hk2;cases h9:k.beq k' with
  | true=>rw [←Nat.eq_of_beq_eq_true h9,hkb];intro e;injection e with e;exact hbg e.symm
  | false=>rw [h9] at hk2;exact f3 k' bx hk2
 refine Oper.wp_value (v:=goInt m.length) (w':=w.setCells g 0 ys) ?_ ⟨ρ,hr.app (e:=⟨.c .any,[(k,some (.arr e E L))],[]⟩) h4 (fun k h=>by simp [aK] at h) (fun _ _=>rfl) (fun k' h=>.inr (by rw [hkk k' h];exact hr.nfh hk')) ⟨hbel.os,hbel.tape,hbel.output,hbel.size,fun b hlt hn=>hoth b fun e=>hn ⟨k,_,by simp [aA],hk',by rw [hkb,e]⟩⟩ ?_ ?_ (fun k h=>by simp [TV.has,V0.has,D.has] at h) ?_ ?_ trivial⟩
 ·unfold execOp;simp only [ho,resolve,invoke,builtin,Sem.run_bind,Sem.run_pure,Result.andThen_ok,List.map_toArray,List.map_cons,List.map_nil,hrun]
 ·intro k' bx g' h _ hg';rw [hkk k' h,hkb] at hg';injection hg' with hg';subst hg';exact ⟨by rw [hsize];exact hr.ltb hk' hkb,.inr ⟨k,_,by simp [aA],hk',hkb⟩⟩
 ·intro k1 k2 _ _ _ h h' _ _ _ _;rw [hkk k1 h,hkk k2 h']
 ·intro k1 k2 bx h hp hx;rw [hkk k2 h] at hp;simp only [hput,Nat.beq_refl,cond_true,Option.some.injEq] at hp;subst hp;simp [Box.has] at hx
 ·intro k2 bx h hp;rw [hkk k2 h] at hp ⊢;simp only [hput,Nat.beq_refl,cond_true,Option.some.injEq] at hp;subst hp;refine ⟨_,by rw [hLl,hρ1];exact hrow,?_⟩;exact hnew.same (fun b hb=>(hfz b hb).2) fun b hb=>(hfz b hb).1
end
theorem oT (l:List Wt) (p:Pr):FSpec prog 301 [.one (.sl eM l),p.a] [] [] (.i (dG l p)) []:=by
 obtain ⟨v,hv⟩:∃v,dG l p=v:=⟨_,rfl⟩;rw [hv];refine aP func301 ?_;refine aM (fun c ρ a w hr=>bz (t:=0) hr rfl) (fun hl0=>?_);repeat' (first|refine af ?_ ?_|refine ae ?_|exact ah|refine ab fun hb=>?_)
 refine ai (fun i=>i≤l.length∧gE p i (l.drop i)=v) (fun i=>bt [3] [(3,.c (.ptr 3 0)),(7,.c (.sl eM l)),(8,.i l.length),(9,.i i)] [(3,.box 35 [.sc (.int .i64 p.site),.sc (.int .i64 p.inc),.sc (.int .i64 p.num)])]) (fun i=>l.length-i) 0 ⟨Nat.zero_le _,hv⟩ aN ?_;rintro i ⟨hi,hs⟩;by_cases hlt:i<l.length
 ·rw [List.drop_eq_getElem_cons hlt,ez] at hs;repeat' (first|refine af ?_ ?_|refine ae ?_|exact ah|refine ab fun hb=>?_)
  ·refine d7 ?_;rw [←hs];simp [*]
  ·refine ⟨i+1,⟨by omega,by rw [←hs];simp [*]⟩,by omega,?_⟩;exact aN
 ·rw [List.drop_eq_nil_of_le (by omega)] at hs;repeat' (first|refine af ?_ ?_|refine ae ?_|exact ah|refine ab fun hb=>?_)
  refine d7 ?_;rw [←hs];rfl
theorem IG (a:Am):bQ a=(aF ⟨⟨#[]⟩,1,1,0⟩ a || aF ⟨⟨#[]⟩,2,8,0⟩ a):=by
 simp [bQ,aF,bc]
theorem iq (x:Wt):FSpec prog 323 [x.a] [] [] (.b (pf x)) []:=by
 unfold pf;rw [IG];refine aP func323 ?_;repeat' (first|refine af ?_ ?_|(refine aa 9 rfl ?_;first|(refine cB [] (gj x.proc) ?_)|(refine cB [] (eo ⟨⟨#[]⟩,1,1,0⟩ x.am) ?_)|(refine cB [] (eo ⟨⟨#[]⟩,2,8,0⟩ x.am) ?_))|refine ae ?_|exact ah|refine ab fun hb=>?_)
 all_goals (refine d7 ?_;simp [*])
theorem pN (l:List Wt):FSpec prog 302 [.one (.sl eM l)] [] [] (.b (d9 l)) []:=by
  obtain ⟨v,hv⟩:∃v,d9 l=v:=⟨_,rfl⟩;rw [hv];unfold d9 at hv;refine aP func302 ?_;refine aM (fun c ρ a w hr=>bz (t:=0) hr rfl) (fun hl0=>?_);by_cases h8:8<l.length
  · rw [decide_eq_false (by omega)] at hv
    obtain rfl:false=v:=hv;repeat' (first|refine af ?_ ?_|refine ae ?_|exact ah|refine ab fun hb=>?_|exact aX|fail)
  rw [decide_eq_true (by omega),Bool.true_and] at hv;repeat' (first|refine af ?_ ?_|refine ae ?_|exact ah|refine ab fun hb=>?_)
  refine ai (fun i=>i≤l.length∧uy l i (l.drop i)=v) (fun i=>bt [] [(0,.c (.sl eM l)),(8,.c (.sl eM l)),(9,.i l.length),(10,.i i)] []) (fun i=>l.length-i) 0 ⟨Nat.zero_le _,hv⟩ aN ?_;rintro i ⟨hi,hs⟩;by_cases hlt:i<l.length
  · rw [List.drop_eq_getElem_cons hlt,lM] at hs
    repeat' (first|refine af ?_ ?_|(refine aa 9 rfl ?_;first|(refine cB [] (iq l[i]) ?_)|(refine cB [] (oT l l[i].proc) ?_))|refine ae ?_|exact ah|refine ab fun hb=>?_)
    all_goals first
      | (obtain rfl:false=v:=by rw [←hs];simp [*]
         refine bP (qf []) ?_;exact aj)
      | (refine ⟨i+1,⟨by omega,by rw [←hs];simp [*]⟩,by omega,?_⟩
         exact aN)
  · rw [List.drop_eq_nil_of_le (by omega)] at hs
    obtain rfl:true=v:=hs;repeat' (first|refine af ?_ ?_|refine ae ?_|exact ah|refine ab fun hb=>?_|exact aX|fail)
theorem n9 (l:List Wt) (p:Pr) (hl:l.length≤100000):FSpec prog 288 [.one (.sl eM l),p.a] [] [] (.tup [.one (.sl eM (bI l p)),.one (.sc (.bool (decide ((bI l p).length<l.length))))]) []:=by
 rw [show decide ((bI l p).length<l.length)=decide (((bI l p).length:Int)<(l.length:Int)) by simp];obtain ⟨R,hR⟩:∃R,bI l p=R:=⟨_,rfl⟩;rw [hR];refine aP func288 ?_;repeat' (first|refine af ?_ ?_|refine ae ?_|exact ah|refine ab fun hb=>?_)
 refine bV 6 1000 171 eM rfl rfl rfl ?_;refine ai (fun x:Nat×List Wt=>x.1≤l.length∧x.2.length≤x.1∧x.2++bI (l.drop x.1) p=R) (fun x=>bt [3,1000] [(0,.c (.sl eM l)),(3,.c (.ptr 3 0)),(6,.c (.own 1000)),(9,.c (.sl eM l)),(10,.i l.length),(11,.i x.1)] [(3,.box 35 [.sc (.int .i64 p.site),.sc (.int .i64 p.inc),.sc (.int .i64 p.num)]),(1000,.arr 171 eM x.2)]) (fun x=>l.length-x.1) (0,[]) ⟨Nat.zero_le _,Nat.le_refl _,hR⟩ aN ?_;rintro ⟨i,out⟩ ⟨hi,ho,hs⟩;dsimp only at *
 by_cases hlt:i<l.length
 ·rw [List.drop_eq_getElem_cons hlt,bI,List.filter_cons] at hs;repeat' (first|refine af ?_ ?_|(refine aa 8 rfl ?_;refine aV (ak rfl rfl (aB rfl rfl) (aD [l[i]] rfl rfl rfl rfl) rfl aL aL) rfl rfl rfl ?_)|refine ae ?_|exact ah|refine ab fun hb=>?_)
  ·refine ⟨(i+1,out++[l[i]]),⟨by dsimp only;omega,by simp;omega,by rw [←hs];simp [bI, *]⟩,by dsimp only;omega,?_⟩;exact a8 (qf [(1000,22)])
  ·refine ⟨(i+1,out),⟨by dsimp only;omega,by dsimp only;omega,by rw [←hs];simp [bI, *]⟩,by dsimp only;omega,?_⟩;exact aN
 ·rw [List.drop_eq_nil_of_le (by omega)] at hs;obtain rfl:out=R:=by rw [←hs];simp [bI]
  repeat' (first|refine af ?_ ?_|refine ae ?_|exact ah|refine ab fun hb=>?_|(refine fe (qf []) ?_;exact aj))
theorem Hh (x y:Wt):FSpec prog 324 [x.a,y.a] [] [] (.i (bif decide (y.prio<x.prio) && decide (y.passed<3) then 1 else 0)) []:=by
 obtain ⟨v,hv⟩:∃v:Int,(bif decide (y.prio<x.prio) && decide (y.passed<3) then (1:Int) else 0)=v:=⟨_,rfl⟩;rw [hv];refine aP func324 ?_;repeat' (first|refine af ?_ ?_|refine ae ?_|exact ah|refine ab fun hb=>?_)
 all_goals (refine d7 ?_;rw [←hv];simp [*])
def KC:Wt:=⟨⟨0,0,0⟩,⟨0,0⟩,0,0⟩
theorem Ea (l:List Wt) (x:Wt):FSpec prog 283 [.one (.sl eM l),x.a] [] [] (.tup [.one (.sl eM (iP l x).2),.one .any,.one (.sc (.int .i64 (iP l x).1))]) []:=by
 obtain ⟨⟨E,R⟩,hR⟩:∃R,iP l x=R:=⟨_,rfl⟩;rw [hR];unfold iP at hR;dsimp only;refine aP func283 ?_;cases h1:d9 l with
 | false =>
  rw [h1] at hR;injection hR with e1 e2;subst e1;subst e2;repeat' (first|refine af ?_ ?_|refine aa 9 rfl (cB [] (pN l) ?_)|refine ae ?_|exact ah|(refine ab fun hb=>?_;first|(simp [h1] at hb;done)|skip)|(refine cX (qf []) ?_;exact aj))
 | true =>
  rw [h1] at hR;cases h2:pf x && decide (x.passed=0) with
  | false =>
   rw [h2] at hR;injection hR with e1 e2;subst e1;subst e2;repeat' (first|refine af ?_ ?_|(refine aa 9 rfl ?_;first|(refine cB [] (pN l) ?_)|(refine cB [] (iq x) ?_))|refine ae ?_|exact ah|(refine ab fun hb=>?_;first|(simp [h1] at hb;done)|skip)|(refine cX (qf []) ?_;exact aj))
   all_goals (exfalso;revert h2;simp [*])
  | true =>
   rw [h2] at hR;obtain ⟨h2,h3⟩:pf x=true∧x.passed=0:=by simpa using h2
   by_cases h4:0≤dG l x.proc
   ·rw [decide_eq_true h4] at hR;injection hR with e1 e2;subst e1;subst e2;repeat' (first|refine af ?_ ?_|(refine aa 9 rfl ?_;first|(refine cB [] (pN l) ?_)|(refine cB [] (iq x) ?_)|(refine cB [] (oT l x.proc) ?_))|refine ae ?_|exact ah|(refine ab fun hb=>?_;first|(simp [h1] at hb;done)|(simp [h2] at hb;done)|skip)|(refine cX (qf []) ?_;exact aj))
   rw [decide_eq_false h4] at hR;have h8:l.length≤8:=by have:=h1;simp [d9] at this;exact this.1
   by_cases h5:l.length=8
   ·rw [decide_eq_true h5] at hR;injection hR with e1 e2;subst e1;subst e2;repeat' (first|refine af ?_ ?_|(refine aa 9 rfl ?_;first|(refine cB [] (pN l) ?_)|(refine cB [] (iq x) ?_)|(refine cB [] (oT l x.proc) ?_))|refine ae ?_|exact ah|(refine ab fun hb=>?_;first|(simp [h1] at hb;done)|(simp [h2] at hb;done)|skip)|(refine cX (qf []) ?_;exact aj))
   rw [decide_eq_false h5] at hR;obtain ⟨rfl,hW⟩:0=E∧iz l x=R:=by injection hR with e1 e2;exact ⟨e1,e2⟩
   clear hR;have hpas:∀i (h:i<l.length),0≤l[i].passed∧l[i].passed≤3:=fun i h=>by
    have h6:=h1;simp only [d9,Bool.and_eq_true] at h6;have h7:=vd h6.2 _ (List.getElem_mem h);simp [pf] at h7;omega
   obtain ⟨K,hK⟩:∃K,iO x l l.length=K:=⟨_,rfl⟩;unfold iz at hW;rw [hK] at hW;obtain ⟨R0,hR0⟩:∃R0,l++(List.replicate (l.length+1) KC).drop l.length=R0:=⟨_,rfl⟩;have hR0':R0=l.take l.length++KC :: (l.drop l.length).map gt:=by rw [←hR0];simp
   repeat' (first|refine af ?_ ?_|(refine aa 9 rfl ?_;first|(refine sx (ua rfl rfl rfl (qN rfl) (by simp) (by simp) hR0) ?_)|(refine cB [] (pN l) ?_)|(refine cB [] (iq x) ?_)|(refine cB [] (oT l x.proc) ?_))|(refine aa 20 rfl ?_;refine sx (vw (E:=eM) (n:=l.length+1) (z:=.agg #[.int .i64 0,.int .i64 0,.int .i64 0,.int .i64 0,.int .i64 0,.int .i64 0,.int .i64 0]) KC rfl rfl rfl rfl (by omega) (by kernel_rfl) (fun _ _=>rfl) (by decide)) ?_)|refine ae ?_|exact ah|(refine ab fun hb=>?_;first|(simp [h1] at hb;done)|(simp [h2] at hb;done)|skip))
   refine ai (fun y:Nat×Wt=>y.1≤l.length∧iO x l y.1=K) (fun y=>bt [3,1000] [(3,.c (.ptr 3 0)),(7,.c (.own 1000)),(8,.i y.1)] [(3,.box 171 [.sc (.int .i64 x.proc.site),.sc (.int .i64 x.proc.inc),.sc (.int .i64 x.proc.num),.sc (.int .i64 x.am.mode),.sc (.int .i64 x.am.units),.sc (.int .i64 x.prio),.sc (.int .i64 x.passed)]),(1000,.arr 171 eM (l.take y.1++y.2 :: (l.drop y.1).map gt))]) (fun y=>y.1) (l.length,KC) ⟨Nat.le_refl _,hK⟩ (by dsimp only;rw [←hR0'];exact a8 (qf [(1000,35)])) ?_;clear hR0 hR0' R0;rintro ⟨k,X⟩ ⟨hk,hs⟩;dsimp only at *
   obtain ⟨L,hL⟩:∃L,l.take k++X :: (l.drop k).map gt=L:=⟨_,rfl⟩;have hLl:L.length=l.length+1:=by rw [←hL];simp;omega
   have hLk:L.set k x=l.take k++x :: (l.drop k).map gt:=by
    rw [←hL,List.set_append_right _ _ (by simp;omega)];simp [Nat.min_eq_left hk]
   have hgk:L[k]? = some X:=by
    rw [←hL,List.getElem?_append_right (by simp;omega)];simp [Nat.min_eq_left hk]
   rw [hL];have fin:k=K→L.set k x=R:=fun h=>by rw [hLk,←hW,h]
   have hcase:(k=0∧k=K)∨∃m,0<k∧L[((k:Int)-1).toNat]? = some m∧(0≤m.passed∧m.passed≤3)∧(L.set k m).set k (gt m)=l.take (k-1)++m :: (l.drop (k-1)).map gt∧(m.prio<x.prio∧m.passed<3∧iO x l (k-1)=K∨¬(m.prio<x.prio∧m.passed<3)∧k=K):=by
    cases k with
    | zero=>exact .inl ⟨rfl,hs⟩
    | succ j =>
     have hj:j<l.length:=by omega
     refine .inr ⟨l[j],by omega,?_,hpas j hj,?_,?_⟩
     ·rw [show (((j+1:Nat):Int)-1).toNat=j by omega,←hL,List.getElem?_append_left (by simp;omega),List.getElem?_take,if_pos (by omega),List.getElem?_eq_getElem hj]
     ·have e1:(L.set (j+1) l[j]).set (j+1) (gt l[j])=l.take (j+1)++gt l[j] :: (l.drop (j+1)).map gt:=by
       rw [List.set_set,←hL,List.set_append_right _ _ (by simp;omega)];simp [Nat.min_eq_left hk]
      rw [e1,Nat.add_sub_cancel,List.drop_eq_getElem_cons hj,List.take_succ_eq_append_getElem hj,List.map_cons,List.append_assoc];rfl
     ·rw [iO,List.getElem?_eq_getElem (by omega)] at hs;dsimp only at hs;by_cases h6:l[j].prio<x.prio∧l[j].passed<3
      ·rw [decide_eq_true h6.1,decide_eq_true h6.2] at hs;exact .inl ⟨h6.1,h6.2,hs⟩
      ·rw [←Bool.decide_and,decide_eq_false h6] at hs;exact .inr ⟨h6,hs⟩
   rcases hcase with ⟨h0,hkK⟩|⟨m,h0,hgm,hpm,hset,⟨h6,h7,h9⟩|⟨h6,hkK⟩⟩
   ·have hf:=fin hkK;clear fin hL hLk hs;repeat' (first|refine af ?_ ?_|refine ae ?_|(refine aa 4 rfl ?_;refine aR (aq (z:=x) rfl rfl rfl rfl hgk rfl rfl rfl rfl (Nat.le_of_ble_eq_true rfl) rfl rfl) rfl rfl rfl ?_)|exact ah|(refine ab fun hb=>?_;first|(simp at hb;done)|skip)|(rw [hf];refine cX (qf []) ?_;exact aj))
   ·have kM:=Hh x m;rw [decide_eq_true h6,decide_eq_true h7] at kM;have hg2:(L.set k m)[k]? = some m:=List.getElem?_set_self (by omega);have hg3:(L.set k m).length=L.length:=List.length_set;clear fin hL hLk hs hW;repeat' (first|refine af ?_ ?_|refine aa 9 rfl (cB [1000] (kM) ?_)|refine ae ?_|(refine aa 4 rfl ?_;first|(refine aR (aq (z:=m) rfl rfl rfl rfl hgk rfl rfl rfl rfl (Nat.le_of_ble_eq_true rfl) rfl rfl) rfl rfl rfl ?_)|(refine aR (aq (z:=gt m) rfl rfl rfl rfl hg2 rfl rfl rfl rfl (Nat.le_of_ble_eq_true rfl) rfl rfl) rfl rfl rfl ?_))|exact ah|(refine ab fun hb=>?_;first|(exact absurd hb (by decide))|skip))
    refine ⟨(k-1,m),⟨by dsimp only;omega,h9⟩,by dsimp only;omega,?_⟩;dsimp only;rw [←hset];exact aN
   ·have kM:=Hh x m;rw [show (decide (m.prio<x.prio) && decide (m.passed<3))=false by rw [←Bool.decide_and,decide_eq_false h6]] at kM;have hf:=fin hkK;clear fin hL hLk hs hW;repeat' (first|refine af ?_ ?_|refine aa 9 rfl (cB [1000] (kM) ?_)|refine ae ?_|(refine aa 4 rfl ?_;refine aR (aq (z:=x) rfl rfl rfl rfl hgk rfl rfl rfl rfl (Nat.le_of_ble_eq_true rfl) rfl rfl) rfl rfl rfl ?_)|exact ah|(refine ab fun hb=>?_;first|(exact absurd hb (by decide))|skip)|(rw [hf];refine cX (qf []) ?_;exact aj))
end Go.Proofs.YtjndcdcbjidocaaGreatDoor
