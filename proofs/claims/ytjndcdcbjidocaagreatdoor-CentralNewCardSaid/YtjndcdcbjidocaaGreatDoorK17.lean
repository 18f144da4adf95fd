/- Part 17 of 35 of the proof of centralNew_holds (no condition). -/
import Derived.Test.YtjndcdcbjidocaaGreatDoorK16
import Derived.Lib.Overlaps
import Derived.Lib.AppendZeros
import Derived.Laws.Externs
set_option linter.unusedVariables false
set_option linter.unusedSimpArgs false
set_option maxRecDepth 100000
set_option maxHeartbeats 64000000
namespace Go.Proofs.YtjndcdcbjidocaaGreatDoor
open Go.RowKit Go.Proofs.Tryz
section
open Go.Lib
theorem qJ {P:Program} {ops:Array Oper} {o:Oper} {a:Act} {w:World} {K:Act→World→Prop} {Q:Exit→Act→World→Prop} {E:Prop}
  (hg:o.guard=none) (d x:Operand) (dT sT:TypeId) (hop:o.op=Op.call { callee:=Callee.builtin Builtin.copy,args:=#[d,x],argTypes:=#[dT,sT] })
  (v u:Value) (hd:a.eval d=v) (hx:a.eval x=u) {v':Value} {w':World} (hr:(Builtin.copy_ #[dT,sT] o.type #[v,u]).run P w = .ok v' w') (hK:K (a.put o.dst v') w') :
  if Region.wanted o (yielded ops a.tmps)=true then Oper.wp P o a w K Q else E:=by
 have hw:Region.wanted o (yielded ops a.tmps)=true:=by simp [Region.wanted,hg]
 rw [if_pos hw]
 unfold Oper.wp
 simp [execOp,hop,resolve,invoke,builtin,hd,hx,hr,Result.andThen]
 exact hK
section
variable {w:World} {e:TypeId} {N n cap:Nat}
theorem Fq (w:World) (ROW:Array Value) (hcs:ROW.size=cap*N) (hnc:n≤cap) (hcm:cap≤maxLen):(w.alloc (.cells ROW e)).ownsRow 0 e N (.slice (some ⟨w.heap.size,0,none⟩) n cap) n (ROW.toList.take (n*N)):=by
 refine ⟨?_,.inr ⟨_,_,ROW,rfl,Nat.zero_le _,?_,hnc,hcm,hcs,rfl⟩⟩
 ·rw [List.length_take,Array.length_toList,hcs]
  exact Nat.min_eq_left (Nat.mul_le_mul_right _ hnc)
 ·exact heap_alloc_new w _
theorem AP (w:World) (o:Obj) (M:Nat→Prop):Frx w (w.drew.alloc o) M:=(Frx.drew (Frx.refl w M)).trans (Frx.alloc w.drew o M)
theorem ze {w w1:World} {M:Nat→Prop} {g:Nat} (h:Frx w w1 M) (hg:w.heap.size≤g) (j:Nat) (vs:List Value):Frx w (w1.setCells g j vs) M :=
 ⟨(fI vs j w1).1.trans h.os,(fI vs j w1).2.1.trans h.tape,(fI vs j w1).2.2.trans h.output,by rw [bG];exact h.size,fun b hb hn=>(bz vs j w1 b (by omega)).trans (h.keep b hb hn)⟩
end
def I4 (A:Option Addr):Option Nat:=A.map (·.block)
theorem x9 {n cap g3:Nat} {A:Option Addr} {xs cs:List Value} (w:World) (ho:w.ownsRow 0 63 16 (.slice A n cap) n xs) (hcl:cs.length=16) (hsrc:∀j u,cs[j]? = some u→w.cell? ⟨g3,j,none⟩=some u) (hc1:∀u∈cs,u.oneCell'=true) (hn:n≤100000) :
  Calls prog 149 #[.slice A n cap,.int .i64 n,.slice (some ⟨g3,0,none⟩) 1 1] w fun e w'=>∃v',e = .returned v'∧Frx w w' (fun b=>I4 A=some b)∧(∀g',kb v'=some g'→g'<w'.heap.size∧(w.heap.size≤g'∨I4 A=some g'))∧w'.ownsRow 0 63 16 v' (n+1) (xs++cs):=by
 have hinfo:(prog.info? 63).map (fun i=>(i.zero,i.size,i.bytes))=some (some Bm,16,184):=by kernel_rfl
 obtain ⟨ti,hi1,hi2,hi3,hi5⟩:=info_parts hinfo
 obtain ⟨v',w',hrun,ho1,hgr,_,hob⟩:=run_append_own_at (P:=prog) w 0 24 24 63 ti Bm 16 184 underlying24 hi1 hi2 hi3 hi5 (by decide) (by decide) (.slice A n cap) n xs ho ⟨g3,0,none⟩ 1 1 cs (by omega) (fun j u hj=>by rw [fB,Nat.zero_add];exact hsrc j u hj) hc1 (by simp only [maxLen];omega) (by omega) (Nat.zero_le _)
 have hEND:Hid (Frx w w' (fun b=>I4 A=some b)∧(∀g',kb v'=some g'→g'<w'.heap.size∧(w.heap.size≤g'∨I4 A=some g'))∧w'.ownsRow 0 63 16 v' (n+1) (xs++cs)):=by
  have hv:∃A' n' c',v' = .slice A' n' c':=by
   rcases ho1.2 with ⟨hv,_⟩|⟨g',cap',cur',hv,_⟩ <;> exact ⟨_,_,_,hv⟩
  refine ⟨⟨hgr.os,hgr.tape,hgr.output,hgr.size,fun b hb hn=>hgr.block b hb fun e=>hn ?_⟩,fun g' hg'=>?_,ho1⟩
  ·cases A with
   | none=>cases e
   | some a=>exact e.symm
  ·rcases ho1.2 with ⟨hv,_⟩|⟨g0,cap',cur',hv,_,hh,_⟩
   ·omega
   ·subst hv
    injection hg' with hg'
    subst hg'
    refine ⟨(Array.getElem?_eq_some_iff.1 hh).1,?_⟩
    rcases hob with h|h
    ·right
     cases A with
     | none=>cases h
     | some a=>exact h.symm
    ·injection h with h
     exact .inl (Nat.le_of_eq h.symm)
 have HR:=Lib.hid hrun
 clear hrun ho1 hgr hob hsrc ho hi1 hi2 hi3 hi5 hinfo
 go_enter func149,ntmps149
 go_wp2_with (at_builtin;refine Lib.wpList_append_run _ rfl _ _ 24 24 rfl _ _ rfl rfl _ _ HR.out ?_)
 all_goals (go_ret;exact ⟨_,rfl,hEND.out⟩)
theorem AQ {ys xs cs:List Value} {a b c:Nat} (hx:ys.take c=xs) (hac:a≤c) (hcl:cs.length=b) (hc:c+b≤ys.length) :
  ((ys.take (a+b)++xs.drop a++ys.drop (a+b+(xs.drop a).length)).take a++cs++(ys.take (a+b)++xs.drop a++ys.drop (a+b+(xs.drop a).length)).drop (a+cs.length)).take (c+b)=xs.take a++cs++xs.drop a:=by
 have hxl:xs.length=c:=by rw [←hx,List.length_take];omega
 have hyl:(ys.take (a+b)).length=a+b:=by rw [List.length_take];omega
 generalize hR:ys.drop (a+b+(xs.drop a).length)=R
 have e1:(ys.take (a+b)++xs.drop a++R).take a=xs.take a:=by
  rw [List.append_assoc,List.take_append_of_le_length (by omega),List.take_take,←hx,List.take_take]
  congr 1
  omega
 have e2:(ys.take (a+b)++xs.drop a++R).drop (a+cs.length)=xs.drop a++R:=by
  rw [List.append_assoc,hcl]
  exact List.drop_left' hyl
 rw [e1,e2,←List.append_assoc]
 exact List.take_left' (by simp only [List.length_append,List.length_take,List.length_drop];omega)
section
variable {n cap i g g3:Nat} {xs cs:List Value}
theorem zf {k:Nat} (h:k≤100000):IntKind.i64.wrap ((k:Int)+1)=(k:Int)+1:=by rw [IntKind.wrap_i64];omega
theorem ui {tb:TypeId} (w:World) (ho:w.ownsRow 0 63 16 (.slice (some ⟨g,0,none⟩) n cap) n xs) (hone:∀u∈xs,u.oneCell'=true) (hcl:cs.length=16) (hb:w.heap[g3]? = some (.cells cs.toArray tb (0,0))) (hc1:∀u∈cs,u.oneCell'=true) (hne:g3≠g) (hn:n≤100000) (hi:i<n) (hroom:n+1≤cap) :
  Calls prog 149 #[.slice (some ⟨g,0,none⟩) n cap,.int .i64 i,.slice (some ⟨g3,0,none⟩) 1 1] w fun e w'=>e = .returned (.slice (some ⟨g,0,none⟩) (n+1) cap)∧Frx w w' (fun b=>b=g)∧w'.ownsRow 0 63 16 (.slice (some ⟨g,0,none⟩) (n+1) cap) (n+1) (xs.take (i*16)++cs++xs.drop (i*16)):=by
 obtain ⟨ys,hf,ht,hnc,hcm,hgw⟩:=jV ho
 have hxl:=mR ho
 have hyl:=mR hf
 have hinfo:(prog.info? 63).map (fun i=>(i.zero,i.size,i.bytes))=some (some Bm,16,184):=by kernel_rfl
 have hsz:(prog.info? 63).map (·.size)=some 16:=by kernel_rfl
 obtain ⟨D,hD⟩:∃D,xs.drop (i*16)=D:=⟨_,rfl⟩
 have hDl:D.length=(n-i)*16:=by rw [←hD,List.length_drop,hxl,Nat.sub_mul]
 have hfd:w.drew.ownsRow 0 63 16 (.slice (some ⟨g,0,none⟩) cap cap) cap ys:=hf
 obtain ⟨W1,hW1⟩:∃W1,W1=w.drew.setCells g ((i+1)*16) D:=⟨_,rfl⟩
 have hf1:W1.ownsRow 0 63 16 (.slice (some ⟨g,0,none⟩) cap cap) cap (ys.take ((i+1)*16)++D++ys.drop ((i+1)*16+D.length)):=by
  rw [hW1]
  exact qI hfd D (by rw [hDl,hyl];omega)
 have hf2:=qI hf1 cs (j:=i*16) (by simp only [List.length_append,List.length_take,List.length_drop,hDl,hyl,hcl];omega)
 have hf3:=oE hf2 (m:=n+1) hroom (by omega)
 have hic:=AQ (a:=i*16) (b:=16) (c:=n*16) ht (by omega) hcl (by rw [hyl];omega)
 rw [hD] at hic
 rw [show (i+1)*16=i*16+16 by omega,show (n+1)*16=n*16+16 by omega,hic] at hf3
 have hcp1:∀ty dc sc,(Builtin.copy_ #[24,24] ty #[.slice (some ⟨g,(i+1)*16,none⟩) (n-i) dc,.slice (some ⟨g,i*16,none⟩) (n+1-i) sc]).run prog w.drew = .ok (goInt (Nat.min (n+1-i) (n-i))) (w.drew.setCells g ((i+1)*16) D):=fun ty dc sc =>
  gv w.drew _ ty 63 16 g ((i+1)*16) (n-i) dc ⟨g,i*16,none⟩ (n+1-i) sc D underlying24 hsz (by rw [hDl];congr 1;simp only [Nat.min_def];split <;> omega)
   (fun j v hj=>by rw [Addr.add_lit];exact mQ ho (by rw [←hD,List.getElem?_drop] at hj;exact hj))
   (fun j hj=>(da hfd (j:=(i+1)*16+j) (by omega)).1) (fun j hj=>(da hfd (j:=(i+1)*16+j) (by omega)).2) (fun v hv=>hone v (List.mem_of_mem_drop (hD▸hv)))
 have hcp2:∀ty dc,(Builtin.copy_ #[24,24] ty #[.slice (some ⟨g,i*16,none⟩) (n+1-i) dc,.slice (some ⟨g3,0,none⟩) 1 1]).run prog W1 = .ok (goInt (Nat.min 1 (n+1-i))) (W1.setCells g (i*16) cs):=fun ty dc =>
  gv W1 _ ty 63 16 g (i*16) (n+1-i) dc ⟨g3,0,none⟩ 1 1 cs underlying24 hsz (by rw [hcl];simp only [Nat.min_def];split <;> omega)
   (fun j v hj=>by
    rw [Addr.add_lit,Nat.zero_add,hW1]
    have:(w.drew.setCells g ((i+1)*16) D).heap[g3]? = some (.cells cs.toArray tb (0,0)):=(bz D _ w.drew g3 hne).trans hb
    simp only [World.cell?,this]
    simpa using hj)
   (fun j hj=>(da hf1 (j:=i*16+j) (by omega)).1) (fun j hj=>(da hf1 (j:=i*16+j) (by omega)).2) hc1
 have hov:∀lb cb,(callFunc 215 #[.slice (some ⟨g3,0,none⟩) 1 1,.slice (some ⟨g,(i+1)*16,none⟩) lb cb]).run prog w = .ok (.value (.bool false)) w:=fun lb cb=>by
  obtain ⟨cur,hh,hcs⟩:∃cur,w.heap[g]? = some (.cells cur 63 (0,0))∧cur.size=cap*16:=by
   rcases ho.2 with ⟨hv,_⟩|⟨g',cap',cur,hv,_,hh,_,_,hcs,_⟩
   ·cases hv
   ·injection hv with e1 _ e3
    injection e1 with e1
    injection e1 with e1
    subst e1
    subst e3
    exact ⟨cur,hh,hcs⟩
  rw [run_callFunc_extern func215 (by kernel_rfl) (by kernel_rfl) (by kernel_rfl) (e:=Extern.SlicesOverlaps.overlaps #[24,24] #[4]) (by kernel_rfl),
   Lib.run_overlaps_apart w 24 4 63 underlying24 16 sizeOf63 ⟨g3,0,none⟩ ⟨g,(i+1)*16,none⟩ 1 1 lb cb hne tb 63 16 (cap*16) (by simp [World.shape?,hb,hcl]) (by simp [World.shape?,hh,hcs]) (by omega) (by simp [World.frozen?,hb]) (by simp [World.frozen?,hb])]
  rfl
 have hEND:Hid (Frx w (W1.setCells g (i*16) cs) (fun b=>b=g)∧(W1.setCells g (i*16) cs).ownsRow 0 63 16 (.slice (some ⟨g,0,none⟩) (n+1) cap) (n+1) (xs.take (i*16)++cs++D)):=by
  refine ⟨?_,hf3⟩
  have h1:Frx w W1 fun b=>b=g:=by rw [hW1];exact (Frx.trans (Frx.drew (Frx.refl w _)) (gq w.drew g _ D))
  exact h1.trans (gq W1 g _ cs)
 have S1:=(vg underlying24 hinfo (some ⟨g,0,none⟩) n cap i (by omega) hnc).2
 have S2:∀w,(Instr.sliceAt 24 (.slice (some ⟨g,0,none⟩) n cap) none (some (.int .i64 ((n:Int)+1))) none).run prog w = .ok (.slice (some ⟨g,0,none⟩) (n+1) cap) w:=fun w=>by
  obtain ⟨i0,hi0,_⟩:=info_parts hinfo
  have he:prog.elem 24=63:=by simp [Program.elem,underlying24]
  rw [run_sliceAt_slice w _ _ _ _ _ (by rw [he];exact underlying24)]
  exact vf underlying24 hi0 (some ⟨g,0,none⟩) n cap (n+1) hroom w
 have S3:=(vg underlying24 hinfo (some ⟨g,0,none⟩) (n+1) cap i (by omega) hroom).2
 have S4:=(vg underlying24 hinfo (some ⟨g,0,none⟩) (n+1) cap (i+1) (by omega) hroom).2
 have ec:∀k,k<cap→m8 (some ⟨g,0,none⟩) cap k 16=some ⟨g,k*16,none⟩:=fun k hk=>by unfold m8;rw [if_neg (by omega),Option.map_some,cL,Nat.zero_add]
 rw [ec i (by omega)] at S1 S3
 rw [ec (i+1) (by omega)] at S4
 rw [show ((i+1:Nat):Int)=(i:Int)+1 by omega] at S4
 have hz2:¬((i:Int)=(n:Int)):=by omega
 have hz3:¬((cap:Int)<(n:Int)+1):=by omega
 have w1:=zf hn
 have w2:=zf (k:=i) (by omega)
 rw [←hW1] at hcp1
 rw [hD]
 have HC1:=Lib.hid hcp1
 have HC2:=hcp2
 clear hcp1 hcp2 hW1 hf hfd hf1 hf2 hf3 hic ho hone hb hD hDl hxl hyl ht hsz hinfo ec hc1 hcl
 go_enter func149,ntmps149
 have mixed:prog.follows .mixedOrders=true:=by kernel_rfl
 go_wp2_with (simp only [hov])
 go_region_law_o (refine qJ rfl _ _ 24 24 rfl (.slice (some ⟨g,(i+1)*16,none⟩) (n-i) (cap-(i+1))) (.slice (some ⟨g,i*16,none⟩) (n+1-i) (cap-i)) (by simp [Act.eval,Act.put]) (by simp [Act.eval,Act.put]) (HC1.out 3 (cap-(i+1)) (cap-i)) ?_)
 go_wp2_with fail
 go_ret
 exact ⟨rfl,hEND.out⟩
theorem wD {tb:TypeId} (w:World) (ho:w.ownsRow 0 63 16 (.slice (some ⟨g,0,none⟩) n cap) n xs) (hone:∀u∈xs,u.oneCell'=true) (hcl:cs.length=16) (hb:w.heap[g3]? = some (.cells cs.toArray tb (0,0))) (hc1:∀u∈cs,u.oneCell'=true) (hn:n≤100000) (hi:i<n) (hroom:cap<n+1) :
  Calls prog 149 #[.slice (some ⟨g,0,none⟩) n cap,.int .i64 i,.slice (some ⟨g3,0,none⟩) 1 1] w fun e w'=>∃G,e = .returned (.slice (some ⟨w.heap.size,0,none⟩) (n+1) G)∧Frx w w' (fun _=>False)∧w.heap.size<w'.heap.size∧w'.ownsRow 0 63 16 (.slice (some ⟨w.heap.size,0,none⟩) (n+1) G) (n+1) (xs.take (i*16)++cs++xs.drop (i*16)):=by
 obtain ⟨ys,hf,ht,hnc,hcm,hgw⟩:=jV ho
 have hxl:=mR ho
 have hinfo:(prog.info? 63).map (fun i=>(i.zero,i.size,i.bytes))=some (some Bm,16,184):=by kernel_rfl
 have hsz:(prog.info? 63).map (·.size)=some 16:=by kernel_rfl
 obtain ⟨i0,hi0,hz0,hzs,hzb⟩:=info_parts hinfo
 obtain ⟨D,hD⟩:∃D,xs.drop (i*16)=D:=⟨_,rfl⟩
 have hDl:D.length=(n-i)*16:=by rw [←hD,List.length_drop,hxl,Nat.sub_mul]
 obtain ⟨X,hX⟩:∃X,xs.take (i*16)=X:=⟨_,rfl⟩
 have hXl:X.length=i*16:=by rw [←hX,List.length_take,hxl];omega
 have hold:(Builtin.firstCells i0.size i (.slice (some ⟨g,0,none⟩) i cap)).run prog w.drew = .ok X.toArray w.drew:=by
  rw [hzs]
  exact run_firstCells_some (w:=w.drew) 16 i ⟨g,0,none⟩ i cap X hXl (fun j v hj=>by
   rw [Addr.add_lit,Nat.zero_add]
   rw [←hX,List.getElem?_take] at hj
   split at hj
   ·exact mQ ho hj
   ·cases hj)
 have hik:i+(n+1-i)=n+1:=by omega
 obtain ⟨G,hG⟩:∃G,G=grownCap w (n+1) cap 63:=⟨_,rfl⟩
 obtain ⟨ROW,hROW⟩:∃ROW:Array Value,ROW=X.toArray++Builtin.zeroCells Bm.cells (n+1-i)++Builtin.zeroCells Bm.cells (G-(n+1)):=⟨_,rfl⟩
 obtain ⟨W1,hW1⟩:∃W1,W1=w.drew.alloc (.cells ROW 63):=⟨_,rfl⟩
 have hrz:∀ty,(Builtin.append_ #[24,3] ty #[.slice (some ⟨g,0,none⟩) i cap,.int .i64 ((n:Int)+1-(i:Int))]).run prog w = .ok (.slice (some ⟨w.heap.size,0,none⟩) (n+1) G) W1:=fun ty=>by
  have h:=Lib.run_append_grow_zeros w 24 3 ty 63 i0 _ .i64 .i64 underlying24 underlying3 hi0 hz0 (some ⟨g,0,none⟩) i cap X hold (n+1-i) (by omega) (by omega) (by omega) (by omega) (by rw [hzb];omega) (by rw [hzb,hik];exact growslice_fits hroom (by omega))
  rw [hik,←hG,←hROW,←hW1] at h
  rw [show (n:Int)+1-(i:Int)=((n+1-i:Nat):Int) by omega]
  exact h
 have hGn:n+1≤G:=by rw [hG];exact grownCap_ge w _ _ _
 have hGm:G≤maxLen:=by rw [hG];exact grownCap_le_maxLen w _ _ _ (by simp only [maxLen];omega)
 have hzc:∀k,(Builtin.zeroCells Bm.cells k).size=k*16:=fun k=>by simp [Builtin.zeroCells,Bm,Value.cells]
 have hRs:ROW.size=G*16:=by
  rw [hROW,Array.size_append,Array.size_append,hzc,hzc,List.size_toArray,hXl]
  omega
 obtain ⟨Z,hZ⟩:∃Z,(Builtin.zeroCells Bm.cells (n+1-i)).toList=Z:=⟨_,rfl⟩
 have hZl:Z.length=(n+1-i)*16:=by rw [←hZ,Array.length_toList,hzc]
 have h1:W1.ownsRow 0 63 16 (.slice (some ⟨w.heap.size,0,none⟩) (n+1) G) (n+1) (X++Z):=by
  have h:=Fq (N:=16) (e:=63) w.drew ROW hRs hGn hGm
  rw [←hW1,hROW,Array.toList_append,Array.toList_append,hZ,List.take_left' (by rw [List.length_append,hZl];simp only [hXl];omega)] at h
  exact h
 obtain ⟨W2,hW2⟩:∃W2,W2=W1.setCells w.heap.size (i*16) cs:=⟨_,rfl⟩
 have h2:=qI h1 cs (j:=i*16) (by simp only [List.length_append,hXl,hZl,hcl];omega)
 rw [←hW2,List.take_left' hXl] at h2
 obtain ⟨R,hR⟩:∃R,(X++Z).drop (i*16+cs.length)=R:=⟨_,rfl⟩
 have hRl:R.length=(n-i)*16:=by rw [←hR,List.length_drop,List.length_append,hXl,hZl,hcl];omega
 rw [hR] at h2
 have h2d:W2.drew.ownsRow 0 63 16 (.slice (some ⟨w.heap.size,0,none⟩) (n+1) G) (n+1) (X++cs++R):=h2
 obtain ⟨W3,hW3⟩:∃W3,W3=W2.drew.setCells w.heap.size ((i+1)*16) D:=⟨_,rfl⟩
 have h3:=qI h2d D (j:=(i+1)*16) (by simp only [List.length_append,hXl,hRl,hDl,hcl];omega)
 rw [←hW3,List.take_left' (by rw [List.length_append,hXl,hcl];omega),List.drop_eq_nil_of_le (by simp only [List.length_append,hXl,hRl,hDl,hcl];omega),List.append_nil] at h3
 have hg3:g3<w.heap.size:=(Array.getElem?_eq_some_iff.1 hb).1
 have hb1:W1.heap[g3]? = some (.cells cs.toArray tb (0,0)):=by rw [hW1];exact (Below.heap_alloc w.drew _ g3 hg3).trans hb
 have hgk:W2.drew.heap[g]? = w.heap[g]?:=by
  rw [hW2]
  show (W1.setCells w.heap.size (i*16) cs).heap[g]? = _
  rw [bz _ _ _ _ (by omega),hW1]
  exact Below.heap_alloc w.drew _ g hgw
 have hcpA:∀ty dc,(Builtin.copy_ #[24,24] ty #[.slice (some ⟨w.heap.size,i*16,none⟩) (n+1-i) dc,.slice (some ⟨g3,0,none⟩) 1 1]).run prog W1 = .ok (goInt (Nat.min 1 (n+1-i))) W2:=fun ty dc=>by
  rw [hW2]
  exact gv W1 _ ty 63 16 w.heap.size (i*16) (n+1-i) dc ⟨g3,0,none⟩ 1 1 cs underlying24 hsz (by rw [hcl];simp only [Nat.min_def];split <;> omega)
   (fun j v hj=>by
    rw [Addr.add_lit,Nat.zero_add]
    simp only [World.cell?,hb1]
    simpa using hj)
   (fun j hj=>(da h1 (j:=i*16+j) (by omega)).1) (fun j hj=>(da h1 (j:=i*16+j) (by omega)).2) hc1
 have hcpB:∀ty dc sc,(Builtin.copy_ #[24,24] ty #[.slice (some ⟨w.heap.size,(i+1)*16,none⟩) (n-i) dc,.slice (some ⟨g,i*16,none⟩) (n-i) sc]).run prog W2.drew = .ok (goInt (Nat.min (n-i) (n-i))) W3:=fun ty dc sc=>by
  rw [hW3]
  exact gv W2.drew _ ty 63 16 w.heap.size ((i+1)*16) (n-i) dc ⟨g,i*16,none⟩ (n-i) sc D underlying24 hsz (by rw [hDl];congr 1;simp only [Nat.min_def];split <;> omega)
   (fun j v hj=>by
    rw [Addr.add_lit]
    have h9:w.cell? ⟨g,i*16+j,none⟩=some v:=mQ ho (by rw [←hD,List.getElem?_drop] at hj;exact hj)
    simpa only [World.cell?,hgk] using h9)
   (fun j hj=>(da h2d (j:=(i+1)*16+j) (by omega)).1) (fun j hj=>(da h2d (j:=(i+1)*16+j) (by omega)).2) (fun v hv=>hone v (List.mem_of_mem_drop (hD▸hv)))
 have hEND:Hid (Frx w W3 (fun _=>False)∧w.heap.size<W3.heap.size∧W3.ownsRow 0 63 16 (.slice (some ⟨w.heap.size,0,none⟩) (n+1) G) (n+1) (X++cs++D)):=by
  refine ⟨?_,?_,h3⟩
  ·have a1:Frx w W1 fun _=>False:=by rw [hW1];exact AP w _ _
   have a2:Frx w W2 fun _=>False:=by rw [hW2];exact ze a1 (Nat.le_refl _) _ _
   rw [hW3]
   exact ze (a2.trans (Frx.drew (Frx.refl W2 _))) (Nat.le_refl _) _ _
  ·rw [hW3,bG]
   show _<W2.heap.size
   rw [hW2,bG,hW1]
   simp
 have S1:=vg underlying24 hinfo (some ⟨g,0,none⟩) n cap i (by omega) hnc
 obtain ⟨S0,S1⟩:=S1
 have S3:=(vg underlying24 hinfo (some ⟨w.heap.size,0,none⟩) (n+1) G i (by omega) hGn).2
 have S4:=(vg underlying24 hinfo (some ⟨w.heap.size,0,none⟩) (n+1) G (i+1) (by omega) hGn).2
 have ec:∀b c k,k<c→m8 (some ⟨b,0,none⟩) c k 16=some ⟨b,k*16,none⟩:=fun b c k hk=>by unfold m8;rw [if_neg (by omega),Option.map_some,cL,Nat.zero_add]
 rw [ec _ _ i (by omega)] at S1 S3
 rw [ec _ _ (i+1) (by omega)] at S4
 rw [show ((i+1:Nat):Int)=(i:Int)+1 by omega] at S4
 have hz2:¬((i:Int)=(n:Int)):=by omega
 have hz3:(cap:Int)<(n:Int)+1:=by omega
 have w1:=zf hn
 have w2:=zf (k:=i) (by omega)
 have w3:IntKind.i64.wrap ((n:Int)+1-(i:Int))=(n:Int)+1-(i:Int):=by rw [IntKind.wrap_i64];omega
 have mixed:prog.follows .mixedOrders=true:=by kernel_rfl
 rw [hX,hD]
 have HC1:=Lib.hid hcpB
 clear hcpB hW1 hW2 hW3 hf h1 h2 h2d h3 ho hone hb hD hDl hxl ht hsz hinfo ec hc1 hcl hold hRl hR hZl hZ hzc hRs hROW hG hX hXl hb1 hgk hi0 hz0 hzs hzb hik
 go_enter func149,ntmps149
 go_wp2_with (at_builtin;refine Lib.wpList_append_run _ rfl _ _ 24 3 rfl _ _ rfl rfl _ _ (hrz _) ?_)
 go_region_law_o (refine qJ rfl _ _ 24 24 rfl (.slice (some ⟨w.heap.size,(i+1)*16,none⟩) (n-i) (G-(i+1))) (.slice (some ⟨g,i*16,none⟩) (n-i) (cap-i)) (by simp [Act.eval,Act.put]) (by simp [Act.eval,Act.put]) (HC1.out 3 (G-(i+1)) (cap-i)) ?_)
 go_wp2_with fail
 go_ret
 exact ⟨_,rfl,hEND.out⟩
end
theorem zg (d:Nat) (l:List Pc) (i:Nat) (x:Pc) {cs0:List D} (h0:∀(w:World) (F:Nat→Prop) (ρ:Nat→Value) (vs:List Value),All2 (D.rep w F ρ) cs0 vs→(fh d).rep w F x vs) (hl:l.length≤100000) (hi:i≤l.length) {L:List Pc} (hL:l.take i++x :: l.drop i=L):FSpec prog 149 [.one (.own 1),.one (.sc (.int .i64 (i:Int))),.one (.slb 3 1)] [(1,.arr 63 (fh d) l),(3,.box 63 cs0)] [2] (.c (.own 2)) [(2,some (.arr 63 (fh d) L)),(1,none),(3,none)] :=
 sS (hb:=[(3,.box 63 cs0)]) (fun b W=>by kernel_rfl) rfl fun w F ρ vs xs ho hr hF ha hbx=>by
  match vs,ha with
  | [_,_],⟨h2,⟨g3,hg3,hv3⟩,_⟩ =>
   obtain rfl:=h2
   obtain rfl:=hv3
   obtain ⟨⟨g',cs,e1,hB,hA,hone⟩,hdis⟩:=hbx 3 _ rfl
   rw [hg3] at e1
   injection e1 with e1
   injection e1 with e1
   injection e1 with e1
   subst e1
   have hB':w.heap[g3]? = some (.cells cs.toArray 63 (0,0)):=hB
   have hx:(fh d).rep w F x cs:=h0 w F _ cs hA
   have hcl:cs.length=16:=(fh d).len hx
   have hLl:L.length=l.length+1:=by rw [←hL];simp;omega
   have hrep:∀(w':World) (F':Nat→Prop),(∀b,F b→F' b∧w'.heap[b]? = w.heap[b]?)→Reps (fh d) w' F' L (xs.take (i*16)++cs++xs.drop (i*16)):=fun w' F' hF'=>by
    rw [←hL,List.append_assoc]
    have h9:Reps (fh d) w F (x :: l.drop i) (cs++xs.drop (i*16)):=(Reps.single hx).append (hr.drop i)
    exact ((hr.take i).append h9).same (fun b hb=>(hF' b hb).2) fun b hb=>(hF' b hb).1
   rcases Nat.eq_or_lt_of_le hi with he|hlt
   ·subst he
    obtain ⟨A,cap,hv⟩:∃A cap,ρ 1 = .slice A l.length cap:=by
     rcases ho.2 with ⟨hv,hz⟩|⟨g,cap,cur,hv,_⟩
     ·exact ⟨none,0,by rw [hz];exact hv⟩
     ·exact ⟨_,cap,hv⟩
    rw [hv] at ho hF ⊢
    have ek:kb (.slice A l.length cap)=I4 A:=by cases A <;> rfl
    rw [ek] at hF
    have hxl:xs.length=l.length*16:=mR ho
    refine Calls.mono (x9 w ho hcl (fun j u hj=>by simp only [World.cell?,hB'];simpa using hj) hone hl) ?_
    rintro e w' ⟨v',rfl,hf,hk,ho'⟩
    rw [ek]
    refine ⟨v',_,rfl,hf,hk,by rw [hLl];exact ho',fun F' hF'=>?_⟩
    have h9:=hrep w' F' hF'
    rwa [List.take_of_length_le (by omega),List.drop_eq_nil_of_le (by omega),List.append_nil] at h9
   ·obtain ⟨g,cap,hv⟩:∃g cap,ρ 1 = .slice (some ⟨g,0,none⟩) l.length cap:=by
     rcases ho.2 with ⟨_,hz⟩|⟨g,cap,cur,hv,_⟩
     ·omega
     ·exact ⟨g,cap,hv⟩
    rw [hv] at ho hF hdis ⊢
    have hne:g3≠g:=fun e=>hdis g3 (by rw [hg3];rfl) (by rw [e];rfl)
    have hgl:=(jV ho).choose_spec.2.2.2.2
    rcases Nat.lt_or_ge cap (l.length+1) with hc|hc
    ·refine Calls.mono (wD w ho hr.one hcl hB' hone hl hlt hc) ?_
     rintro e w' ⟨G,rfl,hf,hk,ho'⟩
     refine ⟨_,_,rfl,⟨hf.os,hf.tape,hf.output,hf.size,fun b hb _=>hf.keep b hb id⟩,fun g' hg'=>?_,by rw [hLl];exact ho',fun F' hF'=>hrep w' F' hF'⟩
     injection hg' with hg'
     subst hg'
     exact ⟨hk,.inl (Nat.le_refl _)⟩
    ·refine Calls.mono (ui w ho hr.one hcl hB' hone hne hl hlt hc) ?_
     rintro e w' ⟨rfl,hf,ho'⟩
     refine ⟨_,_,rfl,⟨hf.os,hf.tape,hf.output,hf.size,fun b hb hn=>hf.keep b hb fun e=>hn (by rw [e];rfl)⟩,fun g' hg'=>?_,by rw [hLl];exact ho',fun F' hF'=>hrep w' F' hF'⟩
     injection hg' with hg'
     subst hg'
     exact ⟨Nat.lt_of_lt_of_le hgl hf.size,.inr rfl⟩
end
theorem zh (m:Int):FSpec prog 115 [iV m] [] [] (.b (bQ m)) []:=by
 unfold bQ
 refine aS func115 ?_
 repeat' (first
  | refine ah ?_ ?_
  | refine af ?_
  | exact ai|refine ae fun hb=>?_)
 all_goals (refine dD ?_;simp [*])
theorem mS (a b:Int):FSpec prog 181 [iV a,iV b] [] [] (.b (cZ a b)) [] :=
 bY (fun b W=>by kernel_rfl) rfl fun w S ρ vs _ h=>by
  match vs,h with
  | [_,_],⟨rfl,rfl,_⟩=>exact (pd a b w).mono fun _ _=>fK
theorem oV (r:Rs):FSpec prog 114 [r.a] [] [] (.b (a7 r)) []:=by
 unfold a7
 refine aS func114 ?_
 repeat' (first
  | refine ah ?_ ?_
  | refine af ?_
  | exact ai|refine ae fun hb=>?_)
 all_goals (refine dD ?_;first|(simp [*];done)|(simp [*];omega)|(simp [*] <;> rfl))
theorem dK (r:Rs) (x:Am):FSpec prog 52 [r.a,x.a] [] [] (.b (aD r x)) []:=by
 unfold aD
 refine aS func52 ?_
 repeat' (first
  | refine ah ?_ ?_
  | (refine aa 9 rfl ?_;first
   | (refine cB [] (oV r) ?_)
   | (refine cB [] (zh x.mode) ?_))
  | refine af ?_
  | exact ai|refine ae fun hb=>?_)
 all_goals (refine dD ?_;simp [*] <;> rfl)
theorem gg (x:Am):FSpec prog 180 [x.a] [] [] (.b (aG x)) []:=by
 refine aS func180 ?_
 repeat' (first
  | refine ah ?_ ?_
  | refine af ?_
  | exact ai|refine ae fun hb=>?_)
 exact dD rfl
theorem zi (r:Rs) (x:Am):FSpec prog 179 [r.a,x.a] [] [] (.b (be r x)) []:=by
 unfold be
 refine aS func179 ?_
 repeat' (first
  | refine ah ?_ ?_
  | (refine aa 9 rfl ?_;first
   | (refine cB [] (oV r) ?_)
   | (refine cB [] (gg x) ?_)
   | (refine cB [] (dK r x) ?_))
  | refine af ?_
  | exact ai|refine ae fun hb=>?_)
 all_goals (refine dD ?_;simp [*])
theorem fp (r:Rs) (x y:Am):FSpec prog 101 [r.a,x.a,y.a] [] [] (.b (bb r x y)) []:=by
 unfold bb
 refine aS func101 ?_
 repeat' (first
  | refine ah ?_ ?_
  | (refine aa 9 rfl ?_;first
   | (refine cB [] (zi r x) ?_)
   | (refine cB [] (zi r y) ?_)
   | (refine cB [] (gg x) ?_)
   | (refine cB [] (gg y) ?_)
   | (refine cB [] (mS x.mode y.mode) ?_))
  | refine af ?_
  | exact ai|refine ae fun hb=>?_)
 all_goals (refine dD ?_;simp [*])
theorem I5 (a b:Int):FSpec prog 260 [iV a,iV b] [] [] (.i (lO a b)) []:=by
 obtain ⟨v,hv⟩:∃v,lO a b=v:=⟨_,rfl⟩
 rw [hv]
 refine aS func260 ?_
 repeat' (first
  | refine ah ?_ ?_
  | refine af ?_
  | exact ai|refine ae fun hb=>?_)
 refine aj (fun x:Nat×Int=>x.1≤5∧x.2+x.1=6∧Cn a b x.1 x.2=v) (fun x=>bH [] [(0,.i a),(1,.i b),(5,.i x.2)] []) (fun x=>x.1) (5,1) ⟨by decide,rfl,hv⟩ (by exact ao (qf [])) ?_
 rintro ⟨n,m⟩ ⟨h5,hm,hs⟩
 dsimp only at *
 cases n with
 | zero =>
  repeat' (first
   | refine ah ?_ ?_
   | refine af ?_
   | exact ai|refine ae fun hb=>?_)
  exact dD (congrArg _ hs)
 | succ n =>
  unfold Cn at hs
  repeat' (first
   | refine ah ?_ ?_
   | (refine aa 9 rfl ?_;first
    | (refine cB [] (mS m a) ?_)
    | (refine cB [] (mS m b) ?_))
   | refine af ?_
   | exact ai|refine ae fun hb=>?_)
  ·refine dD (congrArg _ ?_)
   rw [←hs];simp [*]
  all_goals
   refine ⟨(n,m+1),⟨by dsimp only;omega,by dsimp only;omega,?_⟩,by dsimp only;omega,?_⟩
   ·rw [←hs];simp [*]
   ·exact ao (qf [])
theorem Fr (r:Rs) (l:List Am):FSpec prog 300 [r.a,.one (.sl zK l)] [] [] (.b (gA r l)) [] :=
 ol (fun b W=>by kernel_rfl) rfl fun w S ρ vs hp hS h=>by
  match vs,h with
  | [_,_],⟨h1,⟨A,c,rfl,hc,hR⟩,_⟩=>rw [Rs.open h1];exact (pf r A w.heap.size c l w hp.1 (Nat.le_trans hc.1 hc.2) (Nat.le_refl _) (hR.lo hS)).mono fun _ _=>fK
section
variable {P:Program} {s:Mst} {o:Oper} {α:Type} {E:El α} {l:List α} {e':TypeId}
theorem Fs {t e:TypeId} {k by_:Nat} {cp:Int} {y:Operand} [T:ST P E t e by_] (ho:o.op = .makeSlice t (.const (.int .i64 0)) y) (hdk:o.dst=some k) (hy:s.ev y = .i cp) (h0:0≤cp) (hc:cp≤1000000) (hb:by_≤1024:=by decide):LOp P o s [] ⟨.c (.own k),[(k,some (.arr e E []))],[k]⟩:=by
 intro c st ρ a w hr h1 h2 h3 h4
 obtain ⟨n,rfl⟩:=Int.eq_ofNat_of_zero_le h0
 have hv2:a.eval y = .int .i64 (n:Int):=by have:=hr.ev y;rwa [h1 y (by simp [ho,Op.operands]),hy] at this
 have hfk:st.f k=true:=h3 k (by simp [aI])
 obtain ⟨i0,z,hi,hz0,hz1,hz2,hz3⟩:=T.T.info
 have hby:i0.bytes*n≤281474976710656:=Nat.le_trans (Nat.mul_le_mul (show i0.bytes≤1024 by omega) (show n≤1000000 by omega)) (by decide)
 have hrun:=g7 (P:=P) t e i0 z T.T.under hi hz0 .i64 .i64 0 n (Nat.zero_le _) hby (by omega) w
 have hsz:(madeCells z.cells (n*i0.size)).size=n*E.n:=by rw [size_madeCells,hz1]
 have ho1:=World.ownsRow_made (e:=e) (size:=E.n) (base:=0) w (madeCells z.cells (n*i0.size)) n (Nat.zero_le _) (by simp only [maxLen];omega) hsz
 have hkk:∀k':Nat,aA [(k,some (Box.arr e E ([]:List α)))] k'=true→k'=k:=fun k' h=>by
  simp only [aA,Bool.or_false] at h
  exact (Nat.eq_of_beq_eq_true h).symm
 refine Oper.wp_value (v:=.slice (some ⟨w.heap.size,0,none⟩) 0 n) (w':=w.alloc (.cells (madeCells z.cells (n*i0.size)) e)) ?_ ⟨upd ρ k (.slice (some ⟨w.heap.size,0,none⟩) 0 n),hr.app (e:=⟨.c (.own k),[(k,some (.arr e E []))],[k]⟩) h4 (fun k' h=>?_) (fun k' h=>?_) (fun k' h=>.inl ?_) (Frx.alloc _ _ _) (fun k' bx g' h _ hg'=>?_) (fun k1 k2 _ _ _ h h' _ _ _ _=>?_) (fun k' h=>.inl ?_) (fun k1 k2 bx h hp hx=>?_) (fun k2 bx h hp=>?_) ?_⟩
 ·unfold execOp
  rw [ho]
  have hv1:a.eval (.const (.int .i64 0)) = .int .i64 0:=rfl
  simp only [hv1,hv2,Sem.run_bind,show (Instr.makeSlice t (.int .i64 0) (.int .i64 (n:Int))).run P w=_ from hrun,Result.andThen_ok,Sem.run_pure]
 ·have:k'=k:=by simp [aI] at h;exact h.symm
  subst this
  exact ⟨hfk,by simp [aA]⟩
 ·exact dx (by simpa [aI] using h)
 ·rw [hkk k' h];simp [aI]
 ·rw [hkk k' h,aM] at hg'
  injection hg' with hg'
  subst hg'
  exact ⟨by simp,.inl (Nat.le_refl _)⟩
 ·rw [hkk k1 h,hkk k2 h']
 ·have:k'=k:=by simp [TV.has,V0.has,D.has] at h;exact h.symm
  subst this;simp [aI]
 ·rw [hkk k2 h] at hp
  simp only [hput,Nat.beq_refl,cond_true,Option.some.injEq] at hp
  subst hp
  simp [Box.has] at hx
 ·rw [hkk k2 h] at hp ⊢
  simp only [hput,Nat.beq_refl,cond_true,Option.some.injEq] at hp
  subst hp
  rw [aM]
  exact ⟨[],ho1,rfl⟩
 ·exact (aM _ _ _).symm
theorem ya {t e:TypeId} {x y:Operand} {row:Bool} {n k:Nat} {z:Int} (ho:o.op = .slice t x (some y) none none) (hx:s.ev x = .c (.own k)) (hk:s.h k=some (.arr e' E l)) (hy:s.ev y = .i z) (hz:0≤z) [I:SE P t e] [J:TI P e row n] (hn:E.n=n) (hj:z.toNat≤l.length) (h0:0<l.length) :
  LOp P o s [k] ⟨.c (.osl k n z.toNat l.length false),[],[]⟩ :=
 bj fun c st ρ a w hr h1 h2=>by
  obtain ⟨j,rfl⟩:=Int.eq_ofNat_of_zero_le hz
  simp only [Int.toNat_natCast] at hj ⊢
  have he:=h1 x (by simp [ho,Op.operands])
  rw [hx] at he
  have hv:=hr.ev x
  rw [he] at hv
  have hv2:a.eval y = .int .i64 (j:Int):=by have:=hr.ev y;rwa [h1 y (by simp [ho,Op.operands]),hy] at this
  obtain ⟨A,cap,hA,hc,hp⟩:=dS (hr.hp k _ ((h2 k (by simp [aI])).trans hk))
  obtain ⟨g,xs,rfl,_⟩:=hp h0
  have hv:a.eval x = .slice (some ⟨g,0,none⟩) l.length cap:=Eq.trans hv hA
  obtain ⟨q,hq,hqn⟩:∃q,P.info? e=some q∧q.size=n:=by
   have:=J.s
   cases h:P.info? e with
   | none=>simp [h] at this
   | some q=>exact ⟨q,rfl,by simpa [h] using this⟩
  subst hqn
  have h3:j≤cap:=by omega
  refine ⟨.slice (some (if cap=j then ⟨g,0,none⟩ else ⟨g,j*q.size,none⟩)) (l.length-j) (cap-j),?_,⟨g,_,_,cap-j,_,hA,⟨hj,Nat.le_refl _,by omega,by omega⟩,(fun h=>by cases h),rfl,fun h=>?_⟩,fun k' hk'=>hr.nf (x:=x) he (by simpa [TV.has,V0.has,D.has] using hk')⟩
  ·unfold execOp
   rw [ho]
   by_cases hi0:cap=j
   ·simp [hv,hv2,Instr.sliceAt,Instr.slice,Instr.sliceBounds,Instr.sliceBound,asIntOf,run_underlying I.u,sizeOf,typeInfo,hq,hi0,hj,h3]
    try omega
   ·simp [hv,hv2,Instr.sliceAt,Instr.slice,Instr.sliceBounds,Instr.sliceBound,asIntOf,run_underlying I.u,sizeOf,typeInfo,hq,hi0,hj,h3,fB,hc.1]
  ·rcases h with h|h
   ·subst h;simp
   ·rw [if_neg (by omega)]
theorem AS {t e:TypeId} {by_ n i j k:Nat} {x y:Operand} {l':List α} [T:ST P E t e by_] (ho:o.op = .call { callee:=.builtin .copy,args:=#[x,y],argTypes:=#[t,t] }) (hx:s.ev x = .c (.osl k n i l.length false)) (hy:s.ev y = .c (.osl k n j l.length false)) (hk:s.h k=some (.arr e E l))
  (hn:E.n=n) (hij:j≤i) (hi:i≤l.length) (hl':l.take i++(l.drop j).take (l.length-i)=l'):LOp P o s [k] ⟨.c .any,[(k,some (.arr e E l'))],[]⟩:=by
 intro c st ρ a w hr h1 h2 _ h4
 subst hl'
 subst hn
 have hk':=(h2 k (by simp [aI])).trans hk
 have hv1:=hr.ev x
 rw [h1 x (by simp [ho,Op.operands,Call.operands]),hx] at hv1
 obtain ⟨g,nn,cap,c1,A1,hρ1,⟨_,b2,b3,b4⟩,b5,hv1,b6⟩:=(show (D.osl k E.n i l.length false).rep w (Fz c st.h ρ w) ρ (a.eval x) from hv1)
 have hv2:=hr.ev y
 rw [h1 y (by simp [ho,Op.operands,Call.operands]),hy] at hv2
 obtain ⟨g2,nn2,cap2,c2,A2,hρ2,⟨d1,d2,d3,d4⟩,_,hv2,d6⟩:=(show (D.osl k E.n j l.length false).rep w (Fz c st.h ρ w) ρ (a.eval y) from hv2)
 rw [hρ1] at hρ2
 injection hρ2 with e1 e2 e3
 injection e1 with e1
 injection e1 with e1
 subst e1
 subst e2
 subst e3
 obtain ⟨xs,hown0,hreps⟩:=hr.hp k _ hk'
 have hown:=hown0
 rw [hρ1] at hown
 obtain rfl:nn=l.length:=by
  rcases hown.2 with ⟨hv,_⟩|⟨g',cap',cur,hv,_⟩
  ·cases hv
  ·injection hv
 have hxl:=hown.1
 have hpos:=E.pos
 obtain ⟨ti,z,hi1,hi2,hi3,hi4,hi5⟩:=T.T.info
 obtain ⟨cs,hcs⟩:∃cs,(xs.drop (j*E.n)).take ((l.length-i)*E.n)=cs:=⟨_,rfl⟩
 have hm:l.length-i≤l.length-j:=by omega
 have e5:(l.length-j)*E.n=l.length*E.n-j*E.n:=Nat.sub_mul _ _ _
 have e6:(l.length-i)*E.n=l.length*E.n-i*E.n:=Nat.sub_mul _ _ _
 have e7:=Nat.mul_le_mul_right E.n hm
 have e8:=Nat.mul_le_mul_right E.n hi
 have hcl:cs.length=(l.length-i)*E.n:=by
  rw [←hcs,List.length_take,List.length_drop,hxl,←e5]
  exact Nat.min_eq_left e7
 have hrc:Reps E w (Fz c st.h ρ w) ((l.drop j).take (l.length-i)) cs:=hcs▸(hreps.drop j).take (l.length-i)
 have hmin:Nat.min (l.length-j) (l.length-i)=l.length-i:=Nat.min_eq_right hm
 have hrun:(Builtin.copy_ #[t,t] o.type #[a.eval x,a.eval y]).run P w = .ok (goInt (l.length-i:Nat)) (w.setCells g (i*E.n) cs):=by
  rw [hv1,hv2]
  by_cases h0:l.length-i=0
  ·have h9:cs=[]:=List.eq_nil_of_length_eq_zero (by rw [hcl,h0,Nat.zero_mul])
   subst h9
   have:=jA (P:=P) w t o.type e E.n (some A1) (some A2) (l.length-i) c1 (l.length-j) c2 T.T.under (by rw [hi1];simp [hi3]) (by rw [hmin];exact h0)
   rw [this,h0]
   rfl
  ·obtain rfl:A1=⟨g,i*E.n,none⟩:=b6 (.inr (by omega))
   obtain rfl:A2=⟨g,j*E.n,none⟩:=d6 (.inr (by omega))
   have:=gv (P:=P) w t o.type e E.n g (i*E.n) (l.length-i) c1 ⟨g,j*E.n,none⟩ (l.length-j) c2 cs T.T.under (by rw [hi1];simp [hi3]) (by rw [hmin];exact hcl) (fun q u hq=>by
    rw [fB]
    rw [←hcs,List.getElem?_take] at hq
    split at hq
    ·rw [List.getElem?_drop] at hq
     have hlt:=(List.getElem?_eq_some_iff.1 hq).1
     rw [World.ownsRow.cellAt hown _ (by omega)]
     exact hq
    ·cases hq) (fun q hq=>(eV hown (by omega)).1) (fun q hq=>(eV hown (by omega)).2) (fun v hv=>hrc.one v hv)
   rw [this,hmin]
 have hrow:=eL cs (i*E.n) w xs hown (by omega)
 have hkb:kb (ρ k)=some g:=by rw [hρ1];rfl
 have hsize:=bG (g:=g) cs (i*E.n) w
 have hoth:∀b,b≠g→(w.setCells g (i*E.n) cs).heap[b]? = w.heap[b]?:=fun b hb=>bz cs _ w b hb
 have hbel:=cN (B:=0) (w:=w) (Nat.zero_le g) cs (i*E.n) w (Below.refl _ _)
 obtain ⟨L,hL⟩:∃L,l.take i++(l.drop j).take (l.length-i)=L:=⟨_,rfl⟩
 have hLl:L.length=l.length:=by rw [←hL];simp;omega
 have hnew:Reps E w (Fz c st.h ρ w) L (xs.take (i*E.n)++cs++xs.drop (i*E.n+cs.length)):=by
  rw [show xs.drop (i*E.n+cs.length)=[] from List.drop_eq_nil_of_le (by omega),List.append_nil,←hL]
  exact (hreps.take i).append hrc
 rw [hL]
 have hkk:∀k':Nat,aA [(k,some (Box.arr e E L))] k'=true→k'=k:=fun k' h=>by
  simp only [aA,Bool.or_false] at h
  exact (Nat.eq_of_beq_eq_true h).symm
 have hfz:∀b,Fz c st.h ρ w b→Fz c (hput [(k,some (Box.arr e E L))] st.h) ρ (w.setCells g (i*E.n) cs) b∧(w.setCells g (i*E.n) cs).heap[b]? = w.heap[b]?:=fun b ⟨f1,f2,f3⟩=>by
  have hbg:b≠g:=fun e=>f3 k _ hk' (by rw [hkb,e])
  refine ⟨⟨f1,by rw [hsize];exact f2,fun k' bx hk2=>?_⟩,hoth b hbg⟩
  simp only [hput] at hk2
  cases h9:k.beq k' with
  | true=>rw [←Nat.eq_of_beq_eq_true h9,hkb];intro e;injection e with e;exact hbg e.symm
  | false=>rw [h9] at hk2;exact f3 k' bx hk2
 refine Oper.wp_value (v:=goInt (l.length-i:Nat)) (w':=w.setCells g (i*E.n) cs) ?_ ⟨ρ,hr.app (e:=⟨.c .any,[(k,some (.arr e E L))],[]⟩) h4 (fun k h=>by simp [aI] at h) (fun _ _=>rfl) (fun k' h=>.inr (by rw [hkk k' h];exact hr.nfh hk')) ⟨hbel.os,hbel.tape,hbel.output,hbel.size,fun b hlt hn=>hoth b fun e=>hn ⟨k,_,by simp [aA],hk',by rw [hkb,e]⟩⟩ ?_ ?_ (fun k h=>by simp [TV.has,V0.has,D.has] at h) ?_ ?_ trivial⟩
 ·unfold execOp
  simp only [ho,resolve,invoke,builtin,Sem.run_bind,Sem.run_pure,Result.andThen_ok,List.map_toArray,List.map_cons,List.map_nil,hrun]
 ·intro k' bx g' h _ hg'
  rw [hkk k' h,hkb] at hg'
  injection hg' with hg'
  subst hg'
  exact ⟨by rw [hsize];exact hr.ltb hk' hkb,.inr ⟨k,_,by simp [aA],hk',hkb⟩⟩
 ·intro k1 k2 _ _ _ h h' _ _ _ _
  rw [hkk k1 h,hkk k2 h']
 ·intro k1 k2 bx h hp hx
  rw [hkk k2 h] at hp
  simp only [hput,Nat.beq_refl,cond_true,Option.some.injEq] at hp
  subst hp
  simp [Box.has] at hx
 ·intro k2 bx h hp
  rw [hkk k2 h] at hp ⊢
  simp only [hput,Nat.beq_refl,cond_true,Option.some.injEq] at hp
  subst hp
  refine ⟨_,by rw [hLl,hρ1];exact hrow,?_⟩
  exact hnew.same (fun b hb=>(hfz b hb).2) fun b hb=>(hfz b hb).1
end
theorem fJ (p:Pr):FSpec prog 48 [p.a] [] [] (.b (js p)) [] :=
 bY (fun b W=>by kernel_rfl) rfl fun w S ρ vs _ h=>by
  match vs,h with
  | [_],⟨h1,_⟩=>rw [Pr.open h1];exact (zJ p w).mono fun _ _=>fK
theorem iF (p q:Pr):FSpec prog 24 [p.a,q.a] [] [] (.i (bt p q)) [] :=
 bY (fun b W=>by kernel_rfl) rfl fun w S ρ vs _ h=>by
  match vs,h with
  | [_,_],⟨h1,h2,_⟩=>rw [Pr.open h1,Pr.open h2];exact (zQ p q w).mono fun _ _=>fK
theorem oW (r:Rs) (l:List Ho):FSpec prog 241 [r.a,.one (.sl ga l)] [] [] (.b (rT r l)) []:=by
  obtain ⟨v,hv⟩:∃v,rT r l=v:=⟨_,rfl⟩
  rw [hv]
  unfold rT at hv
  refine aS func241 ?_
  refine aH (fun c ρ a w hr=>bh (t:=1) hr rfl) (fun hl1=>?_)
  cases hs:a7 r && decide (l.length≤8) with
  | false =>
    rw [hs] at hv
    obtain rfl:false=v:=hv
    repeat' (first
      | refine ah ?_ ?_
      | refine aa 9 rfl (cB [] (oV r) ?_)
      | refine af ?_
      | exact ai|refine ae fun hb=>?_
      | (refine aE (qf []) ?_;exact ab))
    exfalso;revert hs;simp [*];omega
  | true =>
    rw [hs,Bool.true_and] at hv
    obtain ⟨hs,h8⟩:a7 r=true∧l.length≤8:=by simpa using hs
    repeat' (first
      | refine ah ?_ ?_
      | refine aa 9 rfl (cB [] (oV r) ?_)
      | ((fail_if_success (first|refine mC 4 ?_|refine mD 4 ?_));refine af ?_)
      | exact ai|(refine ae fun hb=>?_;first|(simp [hs] at hb;done)|skip))
    refine b8 5 1000 37 zK rfl rfl rfl ?_
    repeat' (first
      | refine ah ?_ ?_
      | refine af ?_
      | exact ai|refine ae fun hb=>?_)
    refine aj (fun i=>i≤l.length∧(rd r (pg l i) (l.drop i) && gA r (gO l))=v) (fun i=>bH [2,1000] [(1,.c (.sl ga l)),(2,.c (.ptr 2 0)),(5,.c (.own 1000)),(16,.c (.sl ga l)),(17,.i l.length),(18,.i i)] [(2,.box 55 [.sc (.string r.name),.sc (.int .i64 r.kind),.sc (.int .i64 r.units),.sc (.int .i64 r.home)]),(1000,.arr 37 zK (gO (l.take i)))]) (fun i=>l.length-i) 0 ⟨Nat.zero_le _,hv⟩ (by exact ao (qf [])) ?_
    rintro i ⟨hi,hs⟩
    have hlen:(gO (l.take i)).length=i:=by simp [gO];omega
    by_cases hlt:i<l.length
    · have ea:gO (l.take (i+1))=gO (l.take i)++[l[i].am]:=by unfold gO;rw [List.take_succ_eq_append_getElem hlt,List.map_append];rfl
      rw [List.drop_eq_getElem_cons hlt,rU] at hs
      rcases Nat.eq_zero_or_pos i with h0|h0
      · subst h0
        rw [ph] at hs
        repeat' (first
          | refine ah ?_ ?_
          | (refine aa 8 rfl ?_;refine bg (aw rfl rfl (aL rfl rfl) (aP [l[0].am] rfl rfl rfl rfl) rfl aR aR) rfl rfl rfl ?_)
          | (refine aa 9 rfl ?_;first
            | (refine cB [] (fJ l[0].proc) ?_)
            | (refine cB [] (dK r l[0].am) ?_))
          | refine af ?_
          | exact ai|(refine ae fun hb=>?_;first|(simp at hb;done)|skip))
        all_goals first
          | (obtain rfl:false=v:=by rw [←hs];simp [*]
             refine aE (qf []) ?_;exact ab)
          | (refine ⟨1,⟨by omega,by rw [←hs,iP hlt rfl];simp [*]⟩,by omega,?_⟩
             rw [ea]
             exact ao (qf [(1000,52)]))
      · obtain ⟨m,hm⟩:∃m,l[i-1]=m:=⟨_,rfl⟩
        have hgm:l[((i:Int)-1).toNat]? = some m:=by rw [show ((i:Int)-1).toNat=i-1 by omega,List.getElem?_eq_getElem (by omega),hm]
        rw [rV h0 (by omega) hm] at hs
        dsimp only at hs
        repeat' (first
          | refine ah ?_ ?_
          | (refine aa 8 rfl ?_;refine bg (aw rfl rfl (aL rfl rfl) (aP [l[i].am] rfl rfl rfl rfl) rfl aR aR) rfl rfl rfl ?_)
          | (refine aa 9 rfl ?_;first
            | (refine cB [] (fJ l[i].proc) ?_)
            | (refine cB [] (dK r l[i].am) ?_)
            | (refine cB [] (iF m.proc l[i].proc) ?_))
          | refine af ?_
          | exact ai|refine ae fun hb=>?_)
        all_goals first
          | (obtain rfl:false=v:=by rw [←hs];first|(simp [*];done)|(rw [decide_eq_false (p:=bt m.proc l[i].proc<0) (by omega)];simp)
             refine aE (qf []) ?_;exact ab)
          | (refine ⟨i+1,⟨by omega,by rw [←hs,iP hlt rfl,decide_eq_true (p:=bt m.proc l[i].proc<0) (by omega)];simp [*]⟩,by omega,?_⟩
             rw [ea]
             exact ao (qf [(1000,52)]))
    · rw [List.drop_eq_nil_of_le (by omega)] at hs
      obtain rfl:gA r (gO l)=v:=hs
      rw [List.take_of_length_le (by omega)] at hlen ⊢
      repeat' (first
        | refine ah ?_ ?_
        | refine aa 9 rfl (cB [1000] (Fr r (gO l)) ?_)
        | refine af ?_
        | exact ai|refine ae fun hb=>?_
        | (refine aE (qf []) ?_;exact ab))
theorem J3 (l:List Ho) (p:Pr):FSpec prog 182 [.one (.sl ga l),p.a] [] [] (.v (aq l p).a) []:=by
 obtain ⟨v,hv⟩:∃v,aq l p=v:=⟨_,rfl⟩
 rw [hv]
 refine aS func182 ?_
 refine aH (fun c ρ a w hr=>bh (t:=0) hr rfl) (fun hl0=>?_)
 repeat' (first
  | refine ah ?_ ?_
  | refine af ?_
  | exact ai|refine ae fun hb=>?_)
 refine aj (fun i=>i≤l.length∧aq (l.drop i) p=v) (fun i=>bH [3,4] [(3,.c (.ptr 3 0)),(4,.c (.ptr 4 0)),(7,.c (.sl ga l)),(8,.i l.length),(9,.i i)] [(3,.box 35 [.sc (.int .i64 p.site),.sc (.int .i64 p.inc),.sc (.int .i64 p.num)]),(4,.box 37 [.sc (.int .i64 0),.sc (.int .i64 0)])]) (fun i=>l.length-i) 0 ⟨Nat.zero_le _,hv⟩ (by exact ao (qf [])) ?_
 rintro i ⟨hi,hs⟩
 by_cases hlt:i<l.length
 ·rw [List.drop_eq_getElem_cons hlt,aq] at hs
  repeat' (first
   | refine ah ?_ ?_
   | refine af ?_
   | exact ai|refine ae fun hb=>?_)
  ·obtain rfl:l[i].am=v:=by rw [←hs];simp [*]
   refine aE (qf []) ?_;exact ab
  ·refine ⟨i+1,⟨by omega,by rw [←hs];simp [*]⟩,by omega,?_⟩
   exact ao (qf [])
 ·rw [List.drop_eq_nil_of_le (by omega)] at hs
  obtain rfl:=hs
  repeat' (first
   | refine ah ?_ ?_
   | refine af ?_
   | exact ai|refine ae fun hb=>?_
   | (refine aE (qf []) ?_;exact ab))
def oP (p:Pr):Nat→List Ho→Int
 | _,[]=>-1
 | k,h :: l=>bif decide (0<bt h.proc p) then (k:Int) else oP p (k+1) l
theorem yb (p:Pr):∀(l:List Ho) (k:Nat),oP p k l = -1∨((k:Int)≤oP p k l∧oP p k l<k+l.length)
 | [],_=>.inl rfl
 | h :: l,k=>by
  unfold oP
  cases decide (0<bt h.proc p) with
  | true=>exact .inr ⟨Int.le_refl _,by simp;omega⟩
  | false =>
   rcases yb p l (k+1) with h1|⟨h1,h2⟩
   ·exact .inl h1
   ·refine .inr ⟨?_,?_⟩ <;> simp only [cond_false,List.length_cons] <;> omega
theorem wE (p:Pr) (h:Ho):∀(l:List Ho) (k:Nat),oP p k (l++[h])=if oP p k l<0 then (if 0<bt h.proc p then ((k+l.length:Nat):Int) else -1) else oP p k l
 | [],k=>by
  by_cases h1:0<bt h.proc p <;> simp [oP,h1]
 | x :: l,k=>by
  have ih:=wE p h l (k+1)
  rw [List.cons_append,oP,oP]
  cases decide (0<bt x.proc p) with
  | true=>rw [cond_true,cond_true,if_neg (by omega)]
  | false=>rw [cond_false,cond_false,ih,List.length_cons,show k+1+l.length=k+(l.length+1) by omega]
theorem wF (x:Ho):∀(l:List Ho) (k:Nat),ld x l=l.take (if oP x.proc k l<0 then l.length else (oP x.proc k l).toNat-k)++x :: l.drop (if oP x.proc k l<0 then l.length else (oP x.proc k l).toNat-k)
 | [],_=>by simp [ld]
 | h :: l,k=>by
  rw [gu,oP]
  cases decide (0<bt h.proc x.proc) with
  | true=>rw [cond_true,cond_true,if_neg (by omega)];simp
  | false =>
   rw [cond_false,cond_false,wF x l (k+1)]
   rcases yb x.proc l (k+1) with h1|⟨h1,h2⟩
   ·simp [h1]
   ·rw [if_neg (by omega),if_neg (by omega),show (oP x.proc (k+1) l).toNat-k=(oP x.proc (k+1) l).toNat-(k+1)+1 by omega]
    rfl
theorem Dd (l:List Ho) (p:Pr) (x:Am) (hl:l.length≤100000):FSpec prog 245 [.one (.sl ga l),p.a,x.a] [] [] (.c (.sl ga (b9 l p x))) []:=by
 obtain ⟨R,hR⟩:∃R,b9 l p x=R:=⟨_,rfl⟩
 rw [hR]
 unfold b9 at hR
 obtain ⟨F,hF⟩:∃F,d9 l p=F:=⟨_,rfl⟩
 rw [hF] at hR
 refine aS func245 ?_
 repeat' (first
  | refine ah ?_ ?_
  | (refine aa 20 rfl ?_;refine sx (Fs (E:=ga) rfl rfl rfl (by omega) (by omega)) ?_)
  | refine af ?_
  | exact ai|refine ae fun hb=>?_)
 refine aj (fun y:Nat×List Ho=>y.1≤l.length∧y.2.length≤y.1∧y.2++d9 (l.drop y.1) p=F) (fun y=>bH [4,5,1000] [(4,.c (.ptr 4 0)),(5,.c (.ptr 5 0)),(7,.c (.own 1000)),(8,.i (oP p 0 y.2)),(15,.c (.sl ga l)),(16,.i l.length),(17,.i y.1)] [(4,.box 35 [.sc (.int .i64 p.site),.sc (.int .i64 p.inc),.sc (.int .i64 p.num)]),(5,.box 37 [.sc (.int .i64 x.mode),.sc (.int .i64 x.units)]),(1000,.arr 197 ga y.2)]) (fun y=>l.length-y.1) (0,[]) ⟨Nat.zero_le _,Nat.le_refl _,hF⟩ (by exact ao (qf [(1000,14)])) ?_
 rintro ⟨i,out⟩ ⟨hi,hol,hs⟩
 dsimp only at *
 have hpb:=yb p out 0
 by_cases hlt:i<l.length
 ·rw [List.drop_eq_getElem_cons hlt,j7] at hs
  by_cases hp:l[i].proc=p
  ·rw [decide_eq_true hp,cond_true] at hs
   repeat' (first
    | refine ah ?_ ?_
    | refine af ?_
    | exact ai|(refine ae fun hb=>?_;first|(exact absurd hp hb)|skip))
   refine ⟨(i+1,out),⟨by dsimp only;omega,by dsimp only;omega,hs⟩,by dsimp only;omega,?_⟩
   exact ao (qf [])
  ·rw [decide_eq_false hp,cond_false] at hs
   have hsn:=wE p l[i] out 0
   rw [Nat.zero_add] at hsn
   repeat' (first
    | refine ah ?_ ?_
    | (refine aa 8 rfl ?_;refine bg (aw rfl rfl (aL rfl rfl) (aP [l[i]] rfl rfl rfl rfl) rfl aR aR) rfl rfl rfl ?_)
    | refine aa 9 rfl (cB [] (iF l[i].proc p) ?_)
    | refine af ?_
    | exact ai|(refine ae fun hb=>?_;first|(exact absurd hb hp)|skip))
   all_goals
    refine ⟨(i+1,out++[l[i]]),⟨by dsimp only;omega,by simp;omega,by rw [←hs];simp⟩,by dsimp only;omega,?_⟩
    dsimp only
    rw [hsn]
    first
     | (rw [if_pos (by omega),if_pos (by omega)];exact ao (qf [(1000,39)]))
     | (rw [if_pos (by omega),if_neg (by omega),show (-1:Int)=oP p 0 out by omega];exact ao (qf [(1000,39)]))
     | (rw [if_neg (by omega)];exact ao (qf [(1000,39)]))
 ·rw [List.drop_eq_nil_of_le (by omega)] at hs
  obtain rfl:out=F:=by rw [←hs];simp [d9]
  cases hz:aG x with
  | true =>
   rw [hz] at hR
   obtain rfl:out=R:=hR
   repeat' (first
    | refine ah ?_ ?_
    | refine aa 9 rfl (cB [] (gg x) ?_)
    | refine af ?_
    | exact ai|(refine ae fun hb=>?_;first|(simp [hz] at hb;done)|skip)
    | (refine aE (qf []) ?_;exact ab))
  | false =>
   rw [hz,cond_false,wF _ out 0] at hR
   obtain ⟨K,hK,hKl,hpl⟩:∃K:Nat,(if oP p 0 out<0 then out.length else (oP p 0 out).toNat-0)=K∧K≤out.length∧(oP p 0 out<0∧K=out.length∨oP p 0 out=(K:Int)):=by
    rcases hpb with h|⟨h,h'⟩
    ·exact ⟨out.length,by rw [if_pos (by omega)],Nat.le_refl _,.inl ⟨by omega,rfl⟩⟩
    ·exact ⟨(oP p 0 out).toNat,by rw [if_neg (by omega)];rfl,by omega,.inr (by omega)⟩
   dsimp only at hR
   rw [hK] at hR
   obtain ⟨W,hW⟩:∃W,out++[(⟨⟨0,0,0⟩,⟨0,0⟩⟩:Ho)]=W:=⟨_,rfl⟩
   have hWl:W.length=out.length+1:=by rw [←hW];simp
   obtain ⟨M,hM⟩:∃M,W.take ((K:Int)+1).toNat++(W.drop (K:Int).toNat).take (W.length-((K:Int)+1).toNat)=M:=⟨_,rfl⟩
   have hM2:M=W.take (K+1)++out.drop K:=by
    have h1:(W.drop K).take (out.length-K)=out.drop K:=by rw [←hW,List.drop_append_of_le_length hKl,List.take_append_of_le_length (by simp),List.take_of_length_le (by simp)]
    rw [←hM,show ((K:Int)+1).toNat=K+1 by omega,show (K:Int).toNat=K by omega,show W.length-(K+1)=out.length-K by omega,h1]
   have hMl:M.length=out.length+1:=by rw [hM2];simp [hWl];omega
   obtain ⟨u,hu⟩:∃u,M[K]? = some u:=⟨_,List.getElem?_eq_getElem (by omega)⟩
   have hfin:M.set K ⟨p,x⟩=R:=by
    have h1:(W.take (K+1)).length=K+1:=by simp;omega
    rw [hM2,List.set_append_left _ _ (by omega),←hR,List.take_succ_eq_append_getElem (by omega),List.set_append_right _ _ (by simp;omega),show K-(W.take K).length=0 by simp;omega,List.set_cons_zero,←hW,List.take_append_of_le_length hKl]
    simp
   rcases hpl with ⟨hpl,rfl⟩|hpl
   case' inr=>rw [hpl]
   all_goals
    clear hpb hK hM2 hR
    repeat' (first
     | refine ah ?_ ?_
     | (refine aa 8 rfl ?_;refine bg (aw rfl rfl (aL rfl rfl) (aP [(⟨⟨0,0,0⟩,⟨0,0⟩⟩:Ho)] rfl rfl rfl rfl) hW (by simp only [List.length_cons,List.length_nil,maxLen];omega) (by simp only [List.length_cons,List.length_nil];omega)) rfl rfl rfl ?_)
     | (refine aa 9 rfl ?_;first
      | (refine sx (AS rfl rfl rfl rfl rfl (by omega) (by omega) hM) ?_)
      | (refine cB [] (gg x) ?_))
     | (refine aa 14 rfl ?_;refine sx (ya rfl rfl rfl rfl (by omega) rfl (by omega) (by omega)) ?_)
     | refine af ?_
     | (refine aa 4 rfl ?_;refine bc (aB (z:=⟨p,x⟩) rfl rfl rfl rfl hu rfl rfl rfl rfl (Nat.le_of_ble_eq_true rfl) rfl rfl) rfl rfl rfl ?_)
     | exact ai|(refine ae fun hb=>?_;first|(simp [hz] at hb;done)|skip))
    rw [hfin]
    refine aE (qf []) ?_;exact ab
theorem wG (r:Rs) (l:List Ho) (p:Pr) (x:Am):FSpec prog 244 [r.a,.one (.sl ga l),p.a,x.a] [] [] (.b (rW r l p x)) []:=by
 unfold rW
 refine aS func244 ?_
 repeat' (first
  | refine ah ?_ ?_
  | (refine aa 9 rfl ?_;first
   | (refine cB [] (oW r l) ?_)
   | (refine cB [] (fJ p) ?_)
   | (refine cB [] (dK r x) ?_))
  | refine af ?_
  | exact ai|refine ae fun hb=>?_)
 all_goals (refine dD ?_;simp [*])
theorem De (r:Rs) (l:List Ho) (p:Pr) (x:Am):FSpec prog 185 [r.a,.one (.sl ga l),p.a,x.a] [] [] (.b (fv r l p x)) []:=by
 unfold fv
 refine aS func185 ?_
 cases hh:rW r l p x with
 | false =>
  repeat' (first
   | refine ah ?_ ?_
   | refine aa 9 rfl (cB [] (wG r l p x) ?_)
   | refine af ?_
   | exact ai|(refine ae fun hb=>?_;first|(simp [hh] at hb;done)|skip)
   | (refine aE (qf []) ?_;exact ab))
 | true =>
  have h8:l.length≤8:=by have:=hh;simp [rW,rT] at this;omega
  repeat' (first
   | refine ah ?_ ?_
   | (refine aa 9 rfl ?_;first
    | (refine cB [] (wG r l p x) ?_)
    | (refine cC [] (Dd l p x (by omega)) ?_)
    | (refine cB [] (oW r (b9 l p x)) ?_))
   | refine af ?_
   | exact ai|(refine ae fun hb=>?_;first|(simp [hh] at hb;done)|skip)
   | (refine aE (qf []) ?_;exact ab))
theorem sU (z:Array Value):∀n,(madeCells z (n*z.size)).toList=(List.replicate n z.toList).flatten
 | 0=>by simp [madeCells]
 | n+1=>by
  have ih:=sU z n
  unfold madeCells at ih ⊢
  simp only [Array.toList_map,Array.toList_range] at ih ⊢
  rw [Nat.succ_mul,List.range_add,List.map_append,ih,List.replicate_succ',List.flatten_append]
  congr 1
  simp only [List.map_map,List.flatten_cons,List.flatten_nil,List.append_nil]
  apply List.ext_getElem
  ·simp
  ·intro i h1 h2
   simp only [List.length_map,List.length_range] at h1
   simp only [List.getElem_map,List.getElem_range,Function.comp_apply,Array.getElem_toList]
   rw [Nat.add_comm,Nat.add_mul_mod_self_right,Nat.mod_eq_of_lt h1]
   exact getElem!_pos z i h1
section
variable {P:Program} {s:Mst} {o:Oper} {α:Type} {E:El α} {l:List α} {e':TypeId}
theorem uj {t e:TypeId} {k by_ n:Nat} {x y:Operand} {z:Value} (y0:α) [T:ST P E t e by_] (ho:o.op = .makeSlice t x y) (hdk:o.dst=some k) (hx:s.ev x = .i n) (hy:s.ev y = .i n) (hn:n≤1000000) (hz:(P.info? e).bind (·.zero)=some z) (hy0:∀w S,E.rep w S y0 z.cells.toList) (hb:by_≤1024):LOp P o s [] ⟨.c (.own k),[(k,some (.arr e E (List.replicate n y0)))],[k]⟩:=by
 intro c st ρ a w hr h1 h2 h3 h4
 have hv1:a.eval x = .int .i64 (n:Int):=by have:=hr.ev x;rwa [h1 x (by simp [ho,Op.operands]),hx] at this
 have hv2:a.eval y = .int .i64 (n:Int):=by have:=hr.ev y;rwa [h1 y (by simp [ho,Op.operands]),hy] at this
 have hfk:st.f k=true:=h3 k (by simp [aI])
 obtain ⟨i0,z',hi,hz0,hz1,hz2,hz3⟩:=T.T.info
 obtain rfl:z=z':=by rw [hi] at hz;simp [hz0] at hz;exact hz.symm
 have hby:i0.bytes*n≤281474976710656:=Nat.le_trans (Nat.mul_le_mul (show i0.bytes≤1024 by omega) (show n≤1000000 by omega)) (by decide)
 have hrun:=g7 (P:=P) t e i0 z T.T.under hi hz0 .i64 .i64 n n (Nat.le_refl _) hby (by omega) w
 have hzs:z.cells.size=i0.size:=by first|exact hz3|(rw [hz1];exact hz3)|omega
 rw [←hzs] at hrun
 have ho1:=World.ownsRow_lit (e:=e) (size:=E.n) (base:=0) w (madeCells z.cells (n*z.cells.size)) n (Nat.zero_le _) (by simp only [maxLen];omega) (by rw [size_madeCells,hzs,hz1])
 rw [sU] at ho1
 have hgen:∀(W:World) (S:Nat→Prop) (q:Nat),Reps E W S (List.replicate q y0) (List.replicate q z.cells.toList).flatten:=by
  intro W S q
  induction q with
  | zero=>rfl
  | succ q ih=>exact ⟨z.cells.toList,(List.replicate q z.cells.toList).flatten,by rw [List.replicate_succ,List.flatten_cons],hy0 _ _,ih⟩
 have hkk:∀k':Nat,aA [(k,some (Box.arr e E (List.replicate n y0)))] k'=true→k'=k:=fun k' h=>by
  simp only [aA,Bool.or_false] at h
  exact (Nat.eq_of_beq_eq_true h).symm
 refine Oper.wp_value (v:=.slice (some ⟨w.heap.size,0,none⟩) n n) (w':=w.alloc (.cells (madeCells z.cells (n*z.cells.size)) e)) ?_ ⟨upd ρ k (.slice (some ⟨w.heap.size,0,none⟩) n n),hr.app (e:=⟨.c (.own k),[(k,some (.arr e E (List.replicate n y0)))],[k]⟩) h4 (fun k' h=>?_) (fun k' h=>?_) (fun k' h=>.inl ?_) (Frx.alloc _ _ _) (fun k' bx g' h _ hg'=>?_) (fun k1 k2 _ _ _ h h' _ _ _ _=>?_) (fun k' h=>.inl ?_) (fun k1 k2 bx h hp hx=>?_) (fun k2 bx h hp=>?_) ?_⟩
 ·unfold execOp
  rw [ho]
  simp only [hv1,hv2,Sem.run_bind,hrun,Result.andThen_ok,Sem.run_pure]
 ·have:k'=k:=by simp [aI] at h;exact h.symm
  subst this
  exact ⟨hfk,by simp [aA]⟩
 ·exact dx (by simpa [aI] using h)
 ·rw [hkk k' h];simp [aI]
 ·rw [hkk k' h,aM] at hg'
  injection hg' with hg'
  subst hg'
  exact ⟨by simp,.inl (Nat.le_refl _)⟩
 ·rw [hkk k1 h,hkk k2 h']
 ·have:k'=k:=by simp [TV.has,V0.has,D.has] at h;exact h.symm
  subst this;simp [aI]
 ·rw [hkk k2 h] at hp
  simp only [hput,Nat.beq_refl,cond_true,Option.some.injEq] at hp
  subst hp
  simp [Box.has] at hx
 ·rw [hkk k2 h] at hp ⊢
  simp only [hput,Nat.beq_refl,cond_true,Option.some.injEq] at hp
  subst hp
  rw [aM]
  exact ⟨_,by rw [List.length_replicate];exact ho1,hgen _ _ n⟩
 ·exact (aM _ _ _).symm
theorem sV {t e:TypeId} {by_ k:Nat} {x y:Operand} {m l':List α} {R:List Nat} [T:ST P E t e by_] (ho:o.op = .call { callee:=.builtin .copy,args:=#[x,y],argTypes:=#[t,t] }) (hx:s.ev x = .c (.own k)) (hk:s.h k=some (.arr e E l)) (hy:F5 s E y m R)
  (h0:0<l.length) (hm:m.length≤l.length) (hl':m++l.drop m.length=l'):LOp P o s (k :: R) ⟨.c .any,[(k,some (.arr e E l'))],[]⟩:=by
 intro c st ρ a w hr h1 h2 _ h4
 subst hl'
 have hk':=(h2 k (by simp [aI])).trans hk
 have hv1:=hr.ev x
 rw [h1 x (by simp [ho,Op.operands,Call.operands]),hx] at hv1
 have hv1:a.eval x=ρ k:=hv1
 obtain ⟨A2,cap2,ys,hv2,hrc,hsrc⟩:=hy c st ρ a w hr (h1 y (by simp [ho,Op.operands,Call.operands])) fun k' hk'=>h2 k' (by simp only [aI,Bool.or_eq_true];exact .inr hk')
 obtain ⟨xs,hown0,hreps⟩:=hr.hp k _ hk'
 obtain ⟨g,cap,hρ1⟩:∃g cap,ρ k = .slice (some ⟨g,0,none⟩) l.length cap:=by
  rcases hown0.2 with ⟨_,hn⟩|⟨g',cap',cur,hv,_⟩
  ·omega
  ·exact ⟨g',cap',hv⟩
 have hown:=hown0
 rw [hρ1] at hown
 have hxl:=hown.1
 have hpos:=E.pos
 obtain ⟨ti,z,hi1,hi2,hi3,hi4,hi5⟩:=T.T.info
 have hcl:ys.length=m.length*E.n:=hrc.length
 have e8:=Nat.mul_le_mul_right E.n hm
 have hmin:Nat.min m.length l.length=m.length:=Nat.min_eq_left hm
 have hrun:(Builtin.copy_ #[t,t] o.type #[a.eval x,a.eval y]).run P w = .ok (goInt m.length) (w.setCells g 0 ys):=by
  rw [hv1,hρ1,hv2]
  by_cases hz:m.length=0
  ·have h9:ys=[]:=List.eq_nil_of_length_eq_zero (by rw [hcl,hz,Nat.zero_mul])
   subst h9
   have:=jA (P:=P) w t o.type e E.n (some ⟨g,0,none⟩) A2 l.length cap m.length cap2 T.T.under (by rw [hi1];simp [hi3]) (by rw [hmin];exact hz)
   rw [this,hz]
   rfl
  ·obtain ⟨b,off,rfl,hcell⟩:=hsrc (by omega)
   have:=gv (P:=P) w t o.type e E.n g 0 l.length cap ⟨b,off,none⟩ m.length cap2 ys T.T.under (by rw [hi1];simp [hi3]) (by rw [hmin];exact hcl) (fun q u hq=>by
    rw [fB]
    exact hcell q u hq) (fun q hq=>(eV hown (by omega)).1) (fun q hq=>(eV hown (by omega)).2) (fun v hv=>hrc.one v hv)
   rw [this,hmin]
 have hrow:=eL ys 0 w xs hown (by omega)
 have hkb:kb (ρ k)=some g:=by rw [hρ1];rfl
 have hsize:=bG (g:=g) ys 0 w
 have hoth:∀b,b≠g→(w.setCells g 0 ys).heap[b]? = w.heap[b]?:=fun b hb=>bz ys _ w b hb
 have hbel:=cN (B:=0) (w:=w) (Nat.zero_le g) ys 0 w (Below.refl _ _)
 obtain ⟨L,hL⟩:∃L,m++l.drop m.length=L:=⟨_,rfl⟩
 have hLl:L.length=l.length:=by rw [←hL];simp;omega
 have hnew:Reps E w (Fz c st.h ρ w) L (xs.take 0++ys++xs.drop (0+ys.length)):=by
  rw [←hL,Nat.zero_add,List.take_zero,List.nil_append,hcl]
  exact hrc.append (hreps.drop m.length)
 rw [hL]
 have hkk:∀k':Nat,aA [(k,some (Box.arr e E L))] k'=true→k'=k:=fun k' h=>by
  simp only [aA,Bool.or_false] at h
  exact (Nat.eq_of_beq_eq_true h).symm
 have hfz:∀b,Fz c st.h ρ w b→Fz c (hput [(k,some (Box.arr e E L))] st.h) ρ (w.setCells g 0 ys) b∧(w.setCells g 0 ys).heap[b]? = w.heap[b]?:=fun b ⟨f1,f2,f3⟩=>by
  have hbg:b≠g:=fun e=>f3 k _ hk' (by rw [hkb,e])
  refine ⟨⟨f1,by rw [hsize];exact f2,fun k' bx hk2=>?_⟩,hoth b hbg⟩
  simp only [hput] at hk2
  cases h9:k.beq k' with
  | true=>rw [←Nat.eq_of_beq_eq_true h9,hkb];intro e;injection e with e;exact hbg e.symm
  | false=>rw [h9] at hk2;exact f3 k' bx hk2
 refine Oper.wp_value (v:=goInt m.length) (w':=w.setCells g 0 ys) ?_ ⟨ρ,hr.app (e:=⟨.c .any,[(k,some (.arr e E L))],[]⟩) h4 (fun k h=>by simp [aI] at h) (fun _ _=>rfl) (fun k' h=>.inr (by rw [hkk k' h];exact hr.nfh hk')) ⟨hbel.os,hbel.tape,hbel.output,hbel.size,fun b hlt hn=>hoth b fun e=>hn ⟨k,_,by simp [aA],hk',by rw [hkb,e]⟩⟩ ?_ ?_ (fun k h=>by simp [TV.has,V0.has,D.has] at h) ?_ ?_ trivial⟩
 ·unfold execOp
  simp only [ho,resolve,invoke,builtin,Sem.run_bind,Sem.run_pure,Result.andThen_ok,List.map_toArray,List.map_cons,List.map_nil,hrun]
 ·intro k' bx g' h _ hg'
  rw [hkk k' h,hkb] at hg'
  injection hg' with hg'
  subst hg'
  exact ⟨by rw [hsize];exact hr.ltb hk' hkb,.inr ⟨k,_,by simp [aA],hk',hkb⟩⟩
 ·intro k1 k2 _ _ _ h h' _ _ _ _
  rw [hkk k1 h,hkk k2 h']
 ·intro k1 k2 bx h hp hx
  rw [hkk k2 h] at hp
  simp only [hput,Nat.beq_refl,cond_true,Option.some.injEq] at hp
  subst hp
  simp [Box.has] at hx
 ·intro k2 bx h hp
  rw [hkk k2 h] at hp ⊢
  simp only [hput,Nat.beq_refl,cond_true,Option.some.injEq] at hp
  subst hp
  refine ⟨_,by rw [hLl,hρ1];exact hrow,?_⟩
  exact hnew.same (fun b hb=>(hfz b hb).2) fun b hb=>(hfz b hb).1
end
end Go.Proofs.YtjndcdcbjidocaaGreatDoor
