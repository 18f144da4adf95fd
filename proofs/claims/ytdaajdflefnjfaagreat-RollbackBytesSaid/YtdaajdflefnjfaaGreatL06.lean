/- Part 6 of 24 of the proof of rollbackBytes_holds (no condition). -/
import Derived.Test.YtdaajdflefnjfaaGreatL05
set_option linter.unusedVariables false
set_option linter.unusedSimpArgs false
set_option maxRecDepth 100000
set_option maxHeartbeats 64000000
namespace Go.Proofs.YtdaajdflefnjfaaGreat
open Go.RowKit Go.Proofs.Tryz
def mr (pl:Nat→Option (Nat×Nat)):List D→List (Nat×TV)→Option (List D)
 | cs,[]=>some cs
 | cs,(i,d) :: r =>
  match pl i,d.cells with
  | some (off,size),some ds=>bif Nat.beq ds.length size && Nat.ble (off+size) cs.length then mr pl (cs.take off++ds++cs.drop (off+size)) r else none
  | _,_=>none
class SP (P:Program) (t:TypeId) (zs:outParam (List Value)) (pl:outParam (List (Nat×Nat))):Prop where
 z:∃i v,P.info? t=some i∧i.zero=some v∧v.cells=zs.toArray
 p:∃fs,P.underlying t=some (.struct fs)∧∀(w:World),((fs.mapM fun f=>do pure (f.offset,←sizeOf f.type)):Sem (Array (Nat×Nat))).run P w = .ok pl.toArray w
section
variable {P:Program} {o:Oper} {s:Mst}
theorem rG (off:Nat):∀(vs old pre post:List Value) (k:Nat),pre.length=off+k→old.length=vs.length→(vs.zipIdx k).foldl (fun (l:List Value) (x:Value×Nat)=>l.set (off+x.2) x.1) (pre++old++post)=pre++vs++post
 | [],old,pre,post,k,_,h=>by
  obtain rfl:old=[]:=List.eq_nil_of_length_eq_zero h
  rfl
 | v :: vs,[],pre,post,k,_,h=>by simp at h
 | v :: vs,u :: old,pre,post,k,hp,h=>by
  rw [List.zipIdx_cons,List.foldl_cons]
  have h1:(pre++u :: old++post).set (off+k) v=(pre++[v])++old++post:=by
   rw [←hp,List.append_assoc,List.set_append_right _ _ (Nat.le_refl _),Nat.sub_self]
   simp
  rw [h1,rG off vs old (pre++[v]) post (k+1) (by simp;omega) (by simpa using h)]
  simp
theorem BZ (vs:List Value) (cs:Array Value) (off:Nat) (h:off+vs.length≤cs.size):(vs.zipIdx.foldl (fun (cs:Array Value) (x:Value×Nat)=>cs.setIfInBounds (off+x.2) x.1) cs).toList=cs.toList.take off++vs++cs.toList.drop (off+vs.length):=by
 have h1:∀(l:List (Value×Nat)) (cs:Array Value),(l.foldl (fun (cs:Array Value) (x:Value×Nat)=>cs.setIfInBounds (off+x.2) x.1) cs).toList=l.foldl (fun (l:List Value) (x:Value×Nat)=>l.set (off+x.2) x.1) cs.toList:=by
  intro l
  induction l with
  | nil=>intro cs;rfl
  | cons x l ih=>intro cs;rw [List.foldl_cons,ih,Array.toList_setIfInBounds,List.foldl_cons]
 rw [h1]
 have h2:cs.toList=cs.toList.take off++(cs.toList.drop off).take vs.length++cs.toList.drop (off+vs.length):=by
  rw [List.append_assoc,←List.drop_drop,List.take_append_drop,List.take_append_drop]
 have hs:cs.toList.length=cs.size:=Array.length_toList
 generalize cs.toList=l at *
 have h3:=rG off vs ((l.drop off).take vs.length) (l.take off) (l.drop (off+vs.length)) 0 (by rw [List.length_take];omega) (by rw [List.length_take,List.length_drop];omega)
 rw [←h2] at h3
 exact h3
theorem nL {w:World} {F:Nat→Prop} {ρ:Nat→Value} (pl:Nat→Option (Nat×Nat)):∀(ts:List (Nat×TV)) (ps:List (Nat×Value)) (cs ds:List D) (vs:List Value),All2 (fun t p=>t.1=p.1∧t.2.rep w F ρ p.2) ts ps→All2 (D.rep w F ρ) cs vs→mr pl cs ts=some ds→
  (∀t∈ts,∀l,t.2.cells=some l→∀x∈l,∀u,x.rep w F ρ u→u.oneCell'=true)→∃us:List Value,Instr.fill pl vs.toArray ps=some us.toArray∧All2 (D.rep w F ρ) ds us
 | [],[],cs,ds,vs,_,h,e,_=>by simp only [mr,Option.some.injEq] at e;subst e;exact ⟨vs,rfl,h⟩
 | (i,d) :: ts,(j,v) :: ps,cs,ds,vs,hp,h,e,hok=>by
  obtain ⟨⟨rfl,hd⟩,hp⟩:=hp
  simp only [mr] at e
  split at e
  ·rename_i off size l h1 h2
   cases hb:Nat.beq l.length size && Nat.ble (off+size) cs.length with
   | false=>rw [hb] at e;cases e
   | true =>
    rw [hb] at e
    simp only [Bool.and_eq_true] at hb
    have hb1:=Nat.eq_of_beq_eq_true hb.1
    have hb2:=Nat.le_of_ble_eq_true hb.2
    obtain ⟨hc1,hc2⟩:=TV.cells_rep hd h2 (hok (i,d) (by simp) l h2)
    have hl1:=hc1.length
    have hl2:=h.length
    simp only [Array.length_toList] at hl1
    obtain ⟨us,h3,h4⟩:=nL pl ts ps _ ds (vs.take off++v.cells.toList++vs.drop (off+size)) hp (((h.take off).append hc1).append (h.drop (off+size))) e fun t ht=>hok t (by simp [ht])
    refine ⟨us,?_,h4⟩
    simp only [Instr.fill,h1]
    rw [if_neg (by simp;omega),←h3]
    congr 1
    apply Array.toList_inj.1
    have:=BZ v.cells.toList vs.toArray off (by simp;omega)
    simp only [Array.length_toList,←hl1,hb1] at this
    rw [←Array.foldl_toList,Array.toList_zipIdx,this]
  ·cases e
 | [],_ :: _,_,_,_,h,_,_,_=>h.elim
 | _ :: _,[],_,_,_,h,_,_,_=>h.elim
def dC (s:Mst) (ps:Array (Nat×Operand)):List (Nat×TV):=ps.toList.map fun x=>(x.1,s.ev x.2)
theorem ph {c:Ctx} {st:Mst} {ρ:Nat→Value} {a:Act} {w:World} (hr:Rp c st ρ a w) {ps:Array (Nat×Operand)} (h:∀x∈ps.toList,st.ev x.2=s.ev x.2) :
  All2 (fun t p=>t.1=p.1∧t.2.rep w (Fz c st.h ρ w) ρ p.2) (dC s ps) (ps.map fun x=>(x.1,a.eval x.2)).toList:=by
 rw [Array.toList_map]
 unfold dC
 generalize ps.toList=l at *
 induction l with
 | nil=>trivial
 | cons x l ih=>exact ⟨⟨rfl,by have:=hr.ev x.2;rwa [h x (by simp)] at this⟩,ih fun y hy=>h y (by simp [hy])⟩
def cellsOf:List (Nat×TV)→List D
 | []=>[]
 | (_,d) :: r=>(match d.cells with|some l=>l|none=>[])++cellsOf r
theorem p9:∀{ts:List (Nat×TV)} {t:Nat×TV} {l:List D} {x:D},t∈ts→t.2.cells=some l→x∈l→x∈cellsOf ts
 | (i,d) :: ts,t,l,x,ht,hl,hx=>by
  simp only [cellsOf,List.mem_append]
  rcases List.mem_cons.1 ht with rfl|ht
  ·simp only at hl
   rw [hl]
   exact .inl hx
  ·exact .inr (p9 ht hl hx)
theorem i5 (pl:Nat→Option (Nat×Nat)):∀{ts:List (Nat×TV)} {cs ds:List D} {x:D},mr pl cs ts=some ds→x∈ds→x∈cs∨x∈cellsOf ts
 | [],cs,ds,x,e,hx=>by simp only [mr,Option.some.injEq] at e;subst e;exact .inl hx
 | (i,d) :: ts,cs,ds,x,e,hx=>by
  simp only [mr] at e
  split at e
  ·rename_i off size l h1 h2
   cases hb:Nat.beq l.length size && Nat.ble (off+size) cs.length with
   | false=>rw [hb] at e;cases e
   | true =>
    rw [hb] at e
    simp only [cellsOf,List.mem_append,h2]
    rcases i5 pl e hx with h|h
    ·simp only [List.mem_append] at h
     rcases h with (h|h)|h
     ·exact .inl (List.mem_of_mem_take h)
     ·exact .inr (.inl h)
     ·exact .inl (List.mem_of_mem_drop h)
    ·exact .inr (.inr h)
  ·cases e
theorem rH {c:Ctx} {st:Mst} {ρ:Nat→Value} {a:Act} {w:World} (hr:Rp c st ρ a w) {ps:Array (Nat×Operand)} (h:∀x∈ps.toList,st.ev x.2=s.ev x.2) (hok:(cellsOf (dC s ps)).all (okD s.h)=true) (h2:∀k,aF (fQ (cellsOf (dC s ps))) k=true→st.h k=s.h k) :
  (∀t∈dC s ps,∀l,t.2.cells=some l→∀x∈l,∀u,x.rep w (Fz c st.h ρ w) ρ u→u.oneCell'=true)∧∀x∈cellsOf (dC s ps),∀k,x.has k=true→st.f k=false:=by
 constructor
 ·intro t ht l hl x hx u hu
  have hm:=p9 ht hl hx
  exact hr.okD (gP (List.all_eq_true.1 hok x hm) fun j hj=>h2 j (by subst hj;exact eV hm)) hu
 ·intro x hx k hk
  unfold dC at hx
  generalize ps.toList=l at *
  induction l with
  | nil=>simp [cellsOf] at hx
  | cons y l ih =>
   simp only [List.map_cons,cellsOf,List.mem_append] at hx
   rcases hx with hx|hx
   ·refine hr.nf (x:=y.2) (h y (by simp)) ?_
    generalize s.ev y.2=d at *
    unfold TV.cells at hx
    cases d with
    | tup m=>simp at hx
    | v d =>
     cases d with
     | one d=>simp at hx;subst hx;exact hk
     | ag m=>simp only [TV.has,V0.has];exact List.any_eq_true.2 ⟨x,hx,hk⟩
   ·exact ih (fun z hz=>h z (by simp [hz])) hx
def LN (pl:List (Nat×Nat)) (i:Nat):Option (Nat×Nat):=pl[i]?
theorem B0 {t:TypeId} {ps:Array (Nat×Operand)} {zs:List Value} {pl:List (Nat×Nat)} {ds:List D} [I:SP P t zs pl] (ho:o.op = .build t ps) (hok:(cellsOf (dC s ps)).all (okD s.h)=true) (hd:mr (LN pl) (zs.map D.sc) (dC s ps)=some ds) :
  LOp P o s (fQ (cellsOf (dC s ps))) ⟨.v (.ag ds),[],[]⟩ :=
 bc fun c st ρ a w hr h1 h2=>by
  have he:∀x∈ps.toList,st.ev x.2=s.ev x.2:=fun x hx=>h1 x.2 (by rw [ho];simp only [Op.operands];simpa using ⟨x.1,by simpa using hx⟩)
  obtain ⟨p1,p2⟩:=rH hr he hok h2
  obtain ⟨us,hf,hA⟩:=nL (LN pl) (dC s ps) _ _ ds zs (ph hr he) (All2.scs zs) hd p1
  obtain ⟨i,v,z1,z2,z3⟩:=I.z
  obtain ⟨fs,q1,q2⟩:=I.p
  refine ⟨.agg us.toArray,?_,⟨us,rfl,hA⟩,fun k hk=>?_⟩
  ·unfold execOp
   rw [ho]
   rw [show LN pl=fun x=>pl[x]? from rfl,Array.toList_map] at hf
   have hq:=q2 w
   simp [Instr.build,zeroValue,typeInfo,z1,z2,run_underlying q1,z3] at hq ⊢
   simp [hq,hf]
  ·obtain ⟨x,hx,hk⟩:=List.any_eq_true.1 (show ds.any (D.has k)=true from hk)
   rcases i5 _ hd hx with h|h
   ·obtain ⟨v,_,rfl⟩:=List.mem_map.1 h
    cases hk
   ·exact p2 x h k hk
theorem DM (zs:List Value) (m:Nat):((Array.range (m*zs.length)).map fun x=>zs.toArray[x % zs.toArray.size]!).toList=(List.replicate m zs).flatten:=by
 rw [Array.toList_map,Array.toList_range]
 induction m with
 | zero=>simp
 | succ m ih =>
  rw [Nat.add_mul,Nat.one_mul,List.range_add,List.map_append,ih,List.replicate_succ',List.flatten_append,List.map_map]
  congr 1
  simp only [List.flatten_cons,List.flatten_nil,List.append_nil]
  apply List.ext_getElem
  ·simp
  ·intro i h1 h2
   simp only [List.getElem_map,List.getElem_range,Function.comp_apply,List.size_toArray]
   rw [Nat.mul_comm m,Nat.mul_add_mod,Nat.mod_eq_of_lt h2]
   simp [h2]
theorem rI {R:D→Value→Prop}:∀{l:List D} {us:List Value},All2 R l us→(∀d∈l,∀u,R d u→u.oneCell'=true)→∀u∈us,u.oneCell'=true
 | [],[],_,_,u,hu=>by cases hu
 | d :: l,v :: us,h,f,u,hu=>by
  rcases List.mem_cons.1 hu with rfl|hu
  ·exact f d (by simp) _ h.1
  ·exact rI h.2 (fun x hx=>f x (by simp [hx])) u hu
 | [],_ :: _,h,_,_,_=>h.elim
 | _ :: _,[],h,_,_,_=>h.elim
theorem rJ {t e:TypeId} {n k sz:Nat} {row:Bool} {ps:Array (Nat×Operand)} {zs:List Value} {ds:List D} [I:SE P t e] [J:TI P e row sz] [Z:TZ P e zs] (ho:o.op = .buildSlice t n ps) (hdk:o.dst=some k) (hok:(cellsOf (dC s ps)).all (okD s.h)=true) (hn:n*sz≤4096)
  (hd:mr (fun i=>some (i*sz,sz)) ((List.replicate n zs).flatten.map D.sc) (dC s ps)=some ds):LOp P o s (fQ (cellsOf (dC s ps))) ⟨.c (.slb k n),[(k,some (.box e ds))],[k]⟩:=by
 intro c st ρ a w hr h1 h2 h3 h4
 have he:∀x∈ps.toList,st.ev x.2=s.ev x.2:=fun x hx=>h1 x.2 (by rw [ho];simp only [Op.operands];simpa using ⟨x.1,by simpa using hx⟩)
 obtain ⟨p1,p2⟩:=rH hr he hok h2
 obtain ⟨us,hf,hA⟩:=nL _ (dC s ps) _ _ ds _ (ph hr he) (All2.scs (List.replicate n zs).flatten) hd p1
 obtain ⟨i,v,z1,z2,z3⟩:=Z.z
 have hi:i.size=sz:=by have:=J.s;rw [z1] at this;simpa using this
 have hone:∀u∈us,u.oneCell'=true:=rI hA fun d hd1 u hu=>by
  rcases i5 _ hd hd1 with h|h
  ·obtain ⟨v,hv,rfl⟩:=List.mem_map.1 h
   obtain ⟨l,hl,hv⟩:=List.mem_flatten.1 hv
   rw [show u=v from hu]
   rw [List.eq_of_mem_replicate hl] at hv
   exact Z.o v hv
  ·exact hr.okD (gP (List.all_eq_true.1 hok d h) fun j hj=>h2 j (by subst hj;exact eV h)) hu
 obtain ⟨ρ',h⟩:=hr.newBox (k:=k) (t:=e) (cs:=ds) (vs:=us) (d:=.c (.slb k n)) (v:=.slice (some ⟨w.heap.size,0,none⟩) n n) h4 (h3 k (by simp [aF])) hA hone
  (fun k' hh=>by
   obtain ⟨x,hx,hk⟩:=List.any_eq_true.1 hh
   rcases i5 _ hd hx with h|h
   ·obtain ⟨v,_,rfl⟩:=List.mem_map.1 h
    cases hk
   ·exact p2 x h k' hk) (fun k' hh=>by simp [TV.has,V0.has,D.has] at hh;exact hh.symm) (fun F ρ' hρ=>⟨_,hρ,rfl⟩)
 refine Oper.wp_value ?_ ⟨ρ',h⟩
 have hzl:zs.length=sz:=by
  have h1:=Z.n
  rw [z1] at h1
  simp only [Option.map_some,Option.some.injEq] at h1
  omega
 have hc:=DM zs n
 have hca:(Array.range (n*sz)).map (fun x=>zs.toArray[x % zs.toArray.size]!)=(List.replicate n zs).flatten.toArray:=by
  apply Array.toList_inj.1
  rw [←hzl,hc]
 unfold execOp
 rw [ho]
 rw [Array.toList_map] at hf
 have hbig:¬(16777216<n*sz):=by omega
 by_cases h0:n*sz=0
 ·have hf0:(List.replicate n zs).flatten=[]:=by
   apply List.eq_nil_of_length_eq_zero
   simp [hzl,h0]
  rw [hf0] at hf
  simp [Instr.buildSlice,run_underlying I.u,sizeOf,typeInfo,z1,hi,h0,newRow]
  rw [show Array.map (fun _=>(default:Value)) (Array.range 0) = #[] by simp,hf]
  simp
 ·simp [Instr.buildSlice,run_underlying I.u,sizeOf,typeInfo,z1,hi,h0,zeroValue,z2,z3,newRow,hbig]
  simp at hca
  rw [hca,hf]
  simp
theorem rK {t e:TypeId} {row:Bool} {n b off len cap lo hi:Nat} [I:SE P t e] [J:TI P e row n] (w:World) (l h m:Option Value) (A:Option Addr) (hA:0<len→A=some ⟨b,off,none⟩)
  (hl:l=some (.int .i64 (lo:Int))∨l=none∧lo=0) (hh:h=some (.int .i64 (hi:Int))∨h=none∧hi=len∧m=none) (hm:m=some (.int .i64 (hi:Int))∨m=none) (h1:lo≤hi) (h2:hi≤len) (h3:len≤cap) (hlo:lo<hi∨True) :
  ∃A',(Instr.sliceAt t (.slice A len cap) l h m).run P w = .ok (.slice A' (hi-lo) ((if m=none then cap else hi)-lo)) w∧(lo<hi→A'=some ⟨b,off+lo*n,none⟩):=by
 obtain ⟨j,hj,hn⟩:∃j,P.info? e=some j∧j.size=n:=by
  have:=J.s
  cases h:P.info? e with
  | none=>simp [h] at this
  | some j=>exact ⟨j,rfl,by simpa [h] using this⟩
 subst hn
 refine ⟨if (if m=none then cap else hi)=lo then A else A.map (·.add (lo*j.size)),?_,fun hlt=>?_⟩
 ·rcases hl with rfl|⟨rfl,rfl⟩ <;> rcases hh with rfl|⟨rfl,rfl,rfl⟩ <;> rcases hm with hm|hm <;> (first|cases hm|subst hm) <;>
   simp [Instr.sliceAt,Instr.slice,Instr.sliceBounds,Instr.sliceBound,asIntOf,run_underlying I.u,sizeOf,typeInfo,hj,h1,h2,h3,Nat.le_trans h2 h3,Nat.le_trans h1 h2]
 ·rw [hA (by omega)]
  have:¬(if m=none then cap else hi)=lo:=by split <;> omega
  rw [if_neg this]
  simp [dx]
theorem xf {w:World} {F:Nat→Prop} {α:Type} {E:El α} {A A':Option Addr} {l:List α} {lo hi:Nat} (h:RowsAt E w F A l) (hlh:lo≤hi) (hh:hi≤l.length) (hA:lo<hi→∀b off,A=some ⟨b,off,none⟩→A'=some ⟨b,off+lo*E.n,none⟩):RowsAt E w F A' ((l.take hi).drop lo):=by
 by_cases hlt:lo<hi
 ·obtain ⟨xs,h1,h2⟩:=h.take hi
  obtain ⟨b,off,rfl,_,_⟩:=h2 (by simp;omega)
  rw [hA hlt b off rfl]
  exact (h.take hi).drop lo
 ·have:(l.take hi).drop lo=[]:=by
   apply List.eq_nil_of_length_eq_zero
   simp
   omega
  rw [this]
  exact RowsAt.nil _ _ _ _
theorem lG {t e:TypeId} {row:Bool} {n lo hi:Nat} {x:Operand} {l h:Option Operand} {α:Type} {E:El α} {L L':List α} [I:SE P t e] [J:TI P e row n] (ho:o.op = .slice t x l h none) (hx:s.ev x = .c (.sl E L)) (hn:E.n=n)
  (hl:(∃y,l=some y∧s.ev y = .i lo)∨l=none∧lo=0) (hh:(∃y,h=some y∧s.ev y = .i hi)∨h=none∧hi=L.length) (h1:lo≤hi) (h2:hi≤L.length) (hL:(L.take hi).drop lo=L'):LOp P o s [] ⟨.c (.sl E L'),[],[]⟩ :=
 bc fun c st ρ a w hr hc _=>by
  subst hL
  subst hn
  have he:=hc x (by simp [ho,Op.operands])
  rw [hx] at he
  have hv:=hr.ev x
  rw [he] at hv
  obtain ⟨A,cap,hv,hcap,hR⟩:=hv
  have hl':l.map a.eval=some (.int .i64 (lo:Int))∨l.map a.eval=none∧lo=0:=by
   rcases hl with ⟨y,rfl,hy⟩|⟨rfl,h⟩
   ·have:=hr.ev y
    rw [hc y (by simp [ho,Op.operands]),hy] at this
    exact .inl (congrArg some this)
   ·exact .inr ⟨rfl,h⟩
  have hh':h.map a.eval=some (.int .i64 (hi:Int))∨h.map a.eval=none∧hi=L.length∧(none:Option Value)=none:=by
   rcases hh with ⟨y,rfl,hy⟩|⟨rfl,h⟩
   ·have:=hr.ev y
    rw [hc y (by simp [ho,Op.operands]),hy] at this
    exact .inl (congrArg some this)
   ·exact .inr ⟨rfl,h,rfl⟩
  obtain ⟨b,off,hb⟩:∃b off,0<L.length→A=some ⟨b,off,none⟩:=by
   rcases Nat.eq_zero_or_pos L.length with h0|h0
   ·exact ⟨0,0,fun h=>by omega⟩
   ·obtain ⟨xs,_,h4⟩:=hR
    obtain ⟨b,off,h5,_⟩:=h4 h0
    exact ⟨b,off,fun _=>h5⟩
  obtain ⟨A',hrun,hA'⟩:=rK (P:=P) (t:=t) (b:=b) (off:=off) w (l.map a.eval) (h.map a.eval) none A hb hl' hh' (.inr rfl) h1 h2 hcap.1 (.inr trivial)
  have hlen:((L.take hi).drop lo).length=hi-lo:=by simp;omega
  refine ⟨.slice A' (hi-lo) (cap-lo),?_,⟨A',cap-lo,by rw [hlen],by rw [hlen];have:=hcap.2;omega,xf hR h1 h2 fun hlt b' off' e=>?_⟩,fun k hk=>by simp [TV.has,V0.has,D.has] at hk⟩
  ·unfold execOp
   rw [ho]
   simp only [hv,Option.map_none,Sem.run_bind,hrun,Result.andThen_ok,Sem.run_pure,if_true]
  ·rw [hb (by omega)] at e
   injection e with e
   injection e with e1 e2
   subst e1
   subst e2
   exact hA' hlt
theorem rL {t e:TypeId} {row:Bool} {n lo hi:Nat} {x y z:Operand} {l:Option Operand} {α:Type} {E:El α} {L L':List α} [I:SE P t e] [J:TI P e row n] (ho:o.op = .slice t x l (some y) (some z)) (hx:s.ev x = .c (.sl E L)) (hn:E.n=n)
  (hl:(∃y,l=some y∧s.ev y = .i lo)∨l=none∧lo=0) (hy:s.ev y = .i hi) (hz:s.ev z = .i hi) (h1:lo≤hi) (h2:hi≤L.length) (hL:(L.take hi).drop lo=L'):LOp P o s [] ⟨.c (.full E L'),[],[]⟩ :=
 bc fun c st ρ a w hr hc _=>by
  subst hL
  subst hn
  have he:=hc x (by simp [ho,Op.operands])
  rw [hx] at he
  have hv:=hr.ev x
  rw [he] at hv
  obtain ⟨A,cap,hv,hcap,hR⟩:=hv
  have hl':l.map a.eval=some (.int .i64 (lo:Int))∨l.map a.eval=none∧lo=0:=by
   rcases hl with ⟨y,rfl,hy⟩|⟨rfl,h⟩
   ·have:=hr.ev y
    rw [hc y (by simp [ho,Op.operands]),hy] at this
    exact .inl (congrArg some this)
   ·exact .inr ⟨rfl,h⟩
  have hy':a.eval y = .int .i64 (hi:Int):=by have:=hr.ev y;rwa [hc y (by simp [ho,Op.operands]),hy] at this
  have hz':a.eval z = .int .i64 (hi:Int):=by have:=hr.ev z;rwa [hc z (by simp [ho,Op.operands]),hz] at this
  obtain ⟨b,off,hb⟩:∃b off,0<L.length→A=some ⟨b,off,none⟩:=by
   rcases Nat.eq_zero_or_pos L.length with h0|h0
   ·exact ⟨0,0,fun h=>by omega⟩
   ·obtain ⟨xs,_,h4⟩:=hR
    obtain ⟨b,off,h5,_⟩:=h4 h0
    exact ⟨b,off,fun _=>h5⟩
  obtain ⟨A',hrun,hA'⟩:=rK (P:=P) (t:=t) (b:=b) (off:=off) w (l.map a.eval) (some (.int .i64 (hi:Int))) (some (.int .i64 (hi:Int))) A hb hl' (.inl rfl) (.inl rfl) h1 h2 hcap.1 (.inr trivial)
  have hlen:((L.take hi).drop lo).length=hi-lo:=by simp;omega
  refine ⟨.slice A' (hi-lo) (hi-lo),?_,⟨A',by rw [hlen],by rw [hlen];have:=hcap.2;omega,xf hR h1 h2 fun hlt b' off' e=>?_⟩,fun k hk=>by simp [TV.has,V0.has,D.has] at hk⟩
  ·unfold execOp
   rw [ho]
   simp only [hv,Option.map_some,hy',hz',Sem.run_bind,hrun,Result.andThen_ok,Sem.run_pure]
   rfl
  ·rw [hb (by omega)] at e
   injection e with e
   injection e with e1 e2
   subst e1
   subst e2
   exact hA' hlt
end
section
variable {P:Program} {o:Oper} {s:Mst}
theorem B5 {x:Operand} {k off:Nat} (ho:o.op = .nilCheck x) (hx:s.ev x = .c (.ptr k off)):LOp P o s [] ⟨.c (.ptr k off),[],[]⟩ :=
 bc fun c st ρ a w hr h1 _=>by
  have he:=h1 x (by simp [ho,Op.operands])
  rw [hx] at he
  have hv:=hr.ev x
  rw [he] at hv
  obtain ⟨g,hg,hv⟩:=hv
  exact ⟨_,by unfold execOp;rw [ho];simp only [hv];rfl,⟨g,hg,rfl⟩,fun k' hk=>hr.nf (x:=x) he hk⟩
theorem lH {w:World} {e:TypeId} {n g len cap:Nat} {xs:List Value} (h:w.ownsRow 0 e n (.slice (some ⟨g,0,none⟩) len cap) len xs) {j:Nat} (hj:j<xs.length):(w.cell? ⟨g,j,none⟩).isSome=true∧w.frozen? ⟨g,j,none⟩=false:=by
 rcases h.2 with ⟨hv,_⟩|⟨g',cap',cur,hv,_,hh,hnc,hcm,hcs,ht⟩
 ·cases hv
 ·injection hv with e1 _ e2
  injection e1 with e1
  injection e1 with e1
  subst e1
  subst e2
  have hl:j<cur.size:=by
   have:=congrArg List.length ht
   simp only [List.length_take,Array.length_toList] at this
   omega
  rw [cell_of_row w g j cur e (0,0) hh]
  exact ⟨by simp [hl],by simp [World.frozen?,hh]⟩
theorem aI {t e:TypeId} {x y:Operand} {row:Bool} {n m i k off:Nat} {α:Type} {E:El α} {l l':List α} {u z:α} {ds:List D} [I:TI P t row n] [J:Dp E] (ho:o.op = .store t x y) (hx:s.ev x = .c (.optr k m i off)) (hk:s.h k=some (.arr e E l)) (hm:E.n=m) (hu:l[i]? = some u)
  (hd:(s.ev y).cells=some ds) (hok:ds.all (okD s.h)=true) (hno:fQ ds=[]) (hn:ds.length=n) (hl:off+n≤m) (hz:(J.deep u).take off++ds++(J.deep u).drop (off+n)=J.deep z) (hl':l.set i z=l'):LOp P o s [k] ⟨.c .any,[(k,some (.arr e E l'))],[]⟩:=by
 intro c st ρ a w hr h1 h2 _ h4
 subst hl'
 subst hm
 have he:=h1 x (by simp [ho,Op.operands])
 have he2:=h1 y (by simp [ho,Op.operands])
 rw [hx] at he
 rw [←he2] at hd
 have hv:=hr.ev x
 rw [he] at hv
 obtain ⟨g,len,cap,hg,hv⟩:=hv
 have hk':=(h2 k (by simp [aF])).trans hk
 have hil:i<l.length:=(List.getElem?_eq_some_iff.1 hu).1
 have hui:l[i]=u:=by rw [List.getElem?_eq_getElem hil] at hu;exact Option.some.inj hu
 obtain ⟨xs,hown,hreps⟩:=hr.hp k _ hk'
 have hown0:=hown
 rw [hg] at hown
 obtain rfl:len=l.length:=by
  rcases hown.2 with ⟨hv,_⟩|⟨g',cap',cur,hv,_⟩
  ·cases hv
  ·injection hv
 obtain ⟨hc1,hc2⟩:=TV.cells_rep (hr.ev y) hd fun q hq u hu=>hr.okD (gP (List.all_eq_true.1 hok q hq) fun j hj=>by have:=eV (hj▸hq);rw [hno] at this;simp [aF] at this) hu
 generalize hvs:(a.eval y).cells.toList=vs at *
 have hsz:vs.length=n:=by rw [←hc1.length,hn]
 have hxl:=hown.1
 have hin:i*E.n+E.n≤l.length*E.n:=by have:=Nat.mul_le_mul_right E.n (show i+1≤l.length from hil);rwa [Nat.add_mul,Nat.one_mul] at this
 have hst:=run_storeCells_cells (P:=P) g (i*E.n+off) vs 0 w (fun j hj=>by have:=(lH hown (j:=i*E.n+off+j) (by omega)).1;simpa using this) (fun j hj=>by have:=(lH hown (j:=i*E.n+off+j) (by omega)).2;simpa using this) hc2
 simp only [Nat.add_zero] at hst
 obtain ⟨cs,hcs1,hcs2⟩:=hreps.get i hil
 have hcl:=E.len hcs1
 rw [hui] at hcs1
 have hcs:cs=(xs.drop (i*E.n)).take E.n:=by
  apply List.ext_getElem?
  intro j
  rw [List.getElem?_take]
  by_cases hj:j<E.n
  ·rw [if_pos hj,List.getElem?_drop,hcs2 j hj]
  ·rw [if_neg hj,List.getElem?_eq_none (by omega)]
 have hz':E.rep w (Fz c st.h ρ w) z (cs.take off++vs++cs.drop (off+n)):=J.put (ρ:=ρ) (by rw [←hz];exact (((J.get hcs1).take off).append hc1).append ((J.get hcs1).drop (off+n)))
 have hrow:=jl vs (i*E.n+off) w xs hown (by omega)
 rw [rE (n:=E.n) (by omega) hcs (by omega),hsz] at hrow
 have hkb:kb (ρ k)=some g:=by rw [hg];rfl
 have hsize:=dM (g:=g) vs (i*E.n+off) w
 have hoth:∀b,b≠g→(w.setCells g (i*E.n+off) vs).heap[b]? = w.heap[b]?:=fun b hb=>dW vs _ w b hb
 have hbel:=gY (B:=0) (w:=w) (Nat.zero_le g) vs (i*E.n+off) w (Below.refl _ _)
 have hkk:∀k':Nat,aA [(k,some (Box.arr e E (l.set i z)))] k'=true→k'=k:=fun k' h=>by
  simp only [aA,Bool.or_false] at h
  exact (Nat.eq_of_beq_eq_true h).symm
 have hfz:∀b,Fz c st.h ρ w b→Fz c (hput [(k,some (Box.arr e E (l.set i z)))] st.h) ρ (w.setCells g (i*E.n+off) vs) b∧(w.setCells g (i*E.n+off) vs).heap[b]? = w.heap[b]?:=fun b ⟨f1,f2,f3⟩=>by
  have hbg:b≠g:=fun e=>f3 k _ hk' (by rw [hkb,e])
  refine ⟨⟨f1,by rw [hsize];exact f2,fun k' bx hk2=>?_⟩,hoth b hbg⟩
  simp only [hput] at hk2
  cases h9:k.beq k' with
  | true=>rw [←Nat.eq_of_beq_eq_true h9,hkb];intro e;injection e with e;exact hbg e.symm
  | false=>rw [h9] at hk2;exact f3 k' bx hk2
 refine Oper.wp_skip (w':=w.setCells g (i*E.n+off) vs) ?_ ⟨ρ,hr.app (e:=⟨.c .any,[(k,some (.arr e E (l.set i z)))],[]⟩) h4 (fun k h=>by simp [aF] at h) (fun _ _=>rfl) (fun k' h=>.inr (by rw [hkk k' h];exact hr.nfh hk')) ⟨hbel.os,hbel.tape,hbel.output,hbel.size,fun b hlt hn=>hoth b fun e=>hn ⟨k,_,by simp [aA],hk',by rw [hkb,e]⟩⟩ ?_ ?_ (fun k h=>by simp [TV.has,V0.has,D.has] at h) ?_ ?_ trivial⟩
 ·unfold execOp
  rw [ho]
  have hi:=I.s
  cases hq:P.info? t with
  | none=>simp [hq] at hi
  | some ti =>
   have hs:(a.eval y).cells.size=ti.size:=by
    simp [hq] at hi
    rw [←Array.length_toList,hvs]
    omega
   simp only [hv,Instr.storeAt,Instr.sureAddr,Sem.run_bind,Sem.run_pure,Result.andThen_ok]
   have h3:(storeVar t ⟨g,i*E.n+off,none⟩ (a.eval y)).run P w = .ok () (w.setCells g (i*E.n+off) vs):=by
    simp [storeVar,sizeOf,typeInfo,hq,hs,hvs,hst]
   rw [h3]
   rfl
 ·intro k' bx g' h _ hg'
  rw [hkk k' h,hkb] at hg'
  injection hg' with hg'
  subst hg'
  exact ⟨by rw [hsize];exact hr.ltb hk' hkb,.inr ⟨k,_,by simp [aA],hk',hkb⟩⟩
 ·intro k1 k2 _ _ _ h h' _ _ _ _
  rw [hkk k1 h,hkk k2 h']
 ·intro k1 k2 bx h hp hx
  rw [hkk k2 h] at hp
  simp only [hput,Nat.beq_refl,cond_true,Option.some.injEq] at hp
  subst hp
  simp [Box.has] at hx
 ·intro k2 bx h hp
  rw [hkk k2 h] at hp ⊢
  simp only [hput,Nat.beq_refl,cond_true,Option.some.injEq] at hp
  subst hp
  refine ⟨_,by rw [List.length_set,hg];exact hrow,?_⟩
  exact (Reps.set hreps hz' hil).same (fun b hb=>(hfz b hb).2) fun b hb=>(hfz b hb).1
end
section
variable {P:Program} {nt:Nat} {Ks:List Nat} {Q:Exit→Mst→Prop} {s:Mst} {K:Mst→Prop} {ops:Array Oper}
def DA (P:Program) (ops:Array Oper) (draw:Bool) (l:List Oper) (acc:List (List Nat×List Nat)) (s:Mst) (K:Mst→Prop):Prop :=
 ∃fps,DW P ops l fps s K∧(draw=true→nF ops (acc.reverse++fps) ops.size 0 (Array.replicate ops.size false)=true)
theorem I4 {acc:List (List Nat×List Nat)} (h:K s):DA P ops false [] acc s K:=⟨[],h,fun h=>by cases h⟩
theorem GM {acc:List (List Nat×List Nat)} (hB:nF ops acc.reverse ops.size 0 (Array.replicate ops.size false)=true) (h:K s):DA P ops true [] acc s K:=⟨[],h,fun _=>by simpa using hB⟩
theorem DN {draw:Bool} {o:Oper} {l:List Oper} {acc:List (List Nat×List Nat)} {R:List Nat} {e:Mef} (he:LOp P o s R e) (hg:s.gd ops o=some true) (hf:e.us.all s.f=true) (h:DA P ops draw l ((R,av e.hs) :: acc) (s.app o.dst e) K):DA P ops draw (o :: l) acc s K:=by
 obtain ⟨fps,h1,h2⟩:=h
 refine ⟨(R,av e.hs) :: fps,⟨R,av e.hs,fps,rfl,true,hg,fun _=>⟨e,⟨he,fun k hk=>by rw [←iY];exact hk,fun k hk=>jt hf k hk⟩,h1⟩,fun h=>by cases h⟩,fun hd=>by simpa using h2 hd⟩
theorem aC {P:Prop} (h:P:=by (try simp only [List.length_cons,List.length_nil,List.length_append,List.length_take,List.length_drop,List.length_map,maxLen]);omega):P:=h
theorem aM {draw:Bool} {o:Oper} {l:List Oper} {acc:List (List Nat×List Nat)} {R us:List Nat} {t:Nat} {d:TV} {hs:List (Nat×Option Box)} (he:LOp P o s R ⟨d,hs,us⟩) (hd:o.dst=some t) (hg:s.gd ops o=some true) (hf:us.all s.f=true) (h:DA P ops draw l ((R,av hs) :: acc) (s.app (some t) ⟨d,hs,us⟩) K):DA P ops draw (o :: l) acc s K :=
 DN he hg hf (by rw [hd];exact h)
theorem bP {draw:Bool} {o:Oper} {l:List Oper} {acc:List (List Nat×List Nat)} {R us:List Nat} {d:TV} {hs:List (Nat×Option Box)} (he:LOp P o s R ⟨d,hs,us⟩) (hd:o.dst=none) (hg:s.gd ops o=some true) (hf:us.all s.f=true) (h:DA P ops draw l ((R,av hs) :: acc) (s.app none ⟨d,hs,us⟩) K):DA P ops draw (o :: l) acc s K :=
 DN he hg hf (by rw [hd];exact h)
theorem GN {draw:Bool} {o:Oper} {l:List Oper} {acc:List (List Nat×List Nat)} {t:Nat} (hd:o.dst=some t) (hg:s.gd ops o=some false) (h:DA P ops draw l (([],[]) :: acc) (s.app (some t) ⟨.c (.sc undef),[],[]⟩) K):DA P ops draw (o :: l) acc s K:=by
 obtain ⟨fps,h3,h4⟩:=h
 exact ⟨([],[]) :: fps,⟨[],[],fps,rfl,false,hg,fun h=>(by cases h),fun _=>by rw [hd];exact h3⟩,fun hd=>by simpa using h4 hd⟩
theorem Ke {id:Nat} {l:List Oper} (hnt:fp nt l=true) (h:DA P l.toArray false l [] s fun s'=>Q .normal s'):AW P nt Ks (.region id l.toArray false) Q s:=by
 obtain ⟨fps,h1,_⟩:=h
 exact BP hnt h1
theorem Ik {id:Nat} {l:List Oper} (hm:P.follows .mixedOrders=true) (hnt:fp nt l=true) (h:DA P l.toArray true l [] s fun s'=>Q .normal s'):AW P nt Ks (.region id l.toArray true) Q s:=by
 obtain ⟨fps,h1,h2⟩:=h
 exact ry hm hnt h1 (by simpa using h2 rfl)
theorem Kf {id:Nat} {l:List Oper} {y:Code} (hnt:fp nt l=true) (h:DA P l.toArray false l [] s fun s'=>AW P nt Ks y Q s'):AW P nt Ks (.seq (.region id l.toArray false) y) Q s:=vy (Ke hnt h)
theorem I5 {id:Nat} {l:List Oper} {y:Code} (hm:P.follows .mixedOrders=true) (hnt:fp nt l=true) (h:DA P l.toArray true l [] s fun s'=>AW P nt Ks y Q s'):AW P nt Ks (.seq (.region id l.toArray true) y) Q s:=vy (Ik hm hnt h)
theorem LP {i:Nat} (h:Q .normal s):fv i Q (.exit i) s:=by simpa [fv] using h
theorem LQ {i j:Nat} (hj:j.beq i=false) (h:Q (.exit j) s):fv i Q (.exit j) s:=by simpa [fv,hj] using h
theorem LR {fn:Func} {t:Nat} {x:V0} {res:TV} {e:Exit} (he:e = .normal∨e = .ret) (hr:fn.results.toList=[.tmp t]) (hx:s.t t = .v x) (h:TVLe s (qf []) (fun j=>∀k:Nat,hput [] (fun _=>none) k≠none→qf [] k≠j) (.v x) res):p7 P fn [] res [] e s :=
 rD he [x] (qf []) (by rw [hr];exact ⟨.tmp hx,trivial⟩) rfl rfl trivial h
theorem I6 {fn:Func} {hin:List (Nat×Box)} {r1:ResultVar} {x1:V0} {res:TV} {hout:List (Nat×Option Box)} {e:Exit} (q:Nat→Nat) (he:e = .normal∨e = .ret) (hr:fn.results.toList=[r1]) (h1:RV P s r1 x1) (hq:(av hin).all (fun k=>(q k).beq k)=true) (hn:eW ((av (hout.filter fun x=>x.2.isSome)).map q)=true) (hh:qK s q (fun j=>∀k,hput hout (fun _=>none) k≠none→q k≠j) hout)
  (h:TVLe s q (fun j=>∀k,hput hout (fun _=>none) k≠none→q k≠j) (.v x1) res):p7 P fn hin res hout e s:=rD he [x1] q (by rw [hr];exact ⟨h1,trivial⟩) hq hn hh h
theorem I7 {fn:Func} {hin:List (Nat×Box)} {r1 r2:ResultVar} {x1 x2:V0} {res:TV} {hout:List (Nat×Option Box)} {e:Exit} (q:Nat→Nat) (he:e = .normal∨e = .ret) (hr:fn.results.toList=[r1,r2]) (h1:RV P s r1 x1) (h2:RV P s r2 x2) (hq:(av hin).all (fun k=>(q k).beq k)=true) (hn:eW ((av (hout.filter fun x=>x.2.isSome)).map q)=true) (hh:qK s q (fun j=>∀k,hput hout (fun _=>none) k≠none→q k≠j) hout)
  (h:TVLe s q (fun j=>∀k,hput hout (fun _=>none) k≠none→q k≠j) (.tup [x1,x2]) res):p7 P fn hin res hout e s:=rD he [x1,x2] q (by rw [hr];exact ⟨h1,h2,trivial⟩) hq hn hh h
theorem I8 {fn:Func} {hin:List (Nat×Box)} {r1 r2 r3:ResultVar} {x1 x2 x3:V0} {res:TV} {hout:List (Nat×Option Box)} {e:Exit} (q:Nat→Nat) (he:e = .normal∨e = .ret) (hr:fn.results.toList=[r1,r2,r3]) (h1:RV P s r1 x1) (h2:RV P s r2 x2) (h3:RV P s r3 x3) (hq:(av hin).all (fun k=>(q k).beq k)=true) (hn:eW ((av (hout.filter fun x=>x.2.isSome)).map q)=true) (hh:qK s q (fun j=>∀k,hput hout (fun _=>none) k≠none→q k≠j) hout)
  (h:TVLe s q (fun j=>∀k,hput hout (fun _=>none) k≠none→q k≠j) (.tup [x1,x2,x3]) res):p7 P fn hin res hout e s:=rD he [x1,x2,x3] q (by rw [hr];exact ⟨h1,h2,h3,trivial⟩) hq hn hh h
theorem I9 {fn:Func} {hin:List (Nat×Box)} {hout:List (Nat×Option Box)} {e:Exit} (q:Nat→Nat) (he:e = .normal∨e = .ret) (hr:fn.results.toList=[]) (hq:(av hin).all (fun k=>(q k).beq k)=true) (hn:eW ((av (hout.filter fun x=>x.2.isSome)).map q)=true) (hh:qK s q (fun j=>∀k,hput hout (fun _=>none) k≠none→q k≠j) hout):p7 P fn hin (.tup []) hout e s:=rD he [] q (by rw [hr];trivial) hq hn hh (.tup trivial)
theorem zn {fn:Func} {t:Nat} {v v':Value} {e:Exit} (he:e = .normal∨e = .ret) (hr:fn.results.toList=[.tmp t]) (hx:s.t t = .c (.sc v)) (h:v=v'):p7 P fn [] (.c (.sc v')) [] e s :=
 LR he hr hx (by subst h;exact .v (.one (.ren (.sc v))))
theorem Ja {q:Nat→Nat} {g:Nat→Prop}:∀(l:List D),All2 (DLe s q g) (l.map (D.ren q)) l
 | []=>trivial
 | d :: l=>⟨.ren d,Ja l⟩
theorem Il {q:Nat→Nat} {g:Nat→Prop} (d:V0):V0Le s q g (d.ren q) d:=by
 cases d with
 | one d=>exact .one (.ren d)
 | ag l=>exact .ag (Ja l)
theorem Kg {q:Nat→Nat} {g:Nat→Prop} (d:TV):TVLe s q g (d.ren q) d:=by
 cases d with
 | v d=>exact .v (Il d)
 | tup l =>
  refine .tup ?_
  induction l with
  | nil=>trivial
  | cons d l ih=>exact ⟨Il d,ih⟩
theorem Jb {q:Nat→Nat} {g:Nat→Prop} (b:Box):BoxLe s q g (b.ren q) b:=by
 cases b with
 | box t l=>exact .box t (Ja l)
 | arr e E l=>exact .arr e E l
 | mp l=>exact .mp l
 | it k n l=>exact .it k n l
theorem eI {q:Nat→Nat} {g:Nat→Prop} {d0 d:D} (h:d0=d.ren q):DLe s q g d0 d:=h▸.ren d
theorem eJ {hout:List (Nat×Option Box)} {q:Nat→Nat} {j:Nat} (h:aF ((av (hout.filter fun x=>x.2.isSome)).map q) j=false):∀k,hput hout (fun _=>none) k≠none→q k≠j:=fun k hk e=>by
 cases h9:hput hout (fun _=>none) k with
 | none=>exact hk h9
 | some b =>
  have:aF ((av (hout.filter fun x=>x.2.isSome)).map q) j=true:=by rw [bM,←e];exact List.mem_map.2 ⟨k,bM.1 (by rw [bM];exact List.mem_map.2 ⟨(k,some b),List.mem_filter.2 ⟨nJ h9,rfl⟩,rfl⟩),rfl⟩
  rw [this] at h
  cases h
theorem gh {q:Nat→Nat} {g:Nat→Prop} {b0 b:Box} (h:b0=b.ren q):BoxLe s q g b0 b:=h▸Jb b
theorem jw {q:Nat→Nat} {g:Nat→Prop} {d0 d:TV} (h:d0=d.ren q):TVLe s q g d0 d:=h▸Kg d
theorem DO {w:World} {F:Nat→Prop} {ρ:Nat→Value} {d:D} {v:Value} (h:d.rep w F ρ v) {α:Type} {E:El α} {l:List α} (hd:d = .sl E l):l.length≤9223372036854775807:=by
 subst hd
 obtain ⟨A,cap,_,h1,_⟩:=h
 have:=h1.2
 simp only [maxLen] at this
 omega
theorem cu {c:Ctx} {ρ:Nat→Value} {a:Act} {w:World} (hr:Rp c s ρ a w) {t:Nat} {α:Type} {E:El α} {l:List α} (h:s.t t = .c (.sl E l)):l.length≤9223372036854775807:=by
 have h1:=hr.tmp t
 rw [h] at h1
 have h1:(D.sl E l).rep w (Fz c s.h ρ w) ρ (a.tmps.getD t undef):=h1
 exact DO h1 rfl
theorem dQ {c:Ctx} {ρ:Nat→Value} {a:Act} {w:World} (hr:Rp c s ρ a w) {t i:Nat} {cs:List D} {α:Type} {E:El α} {l:List α} (h:s.t t = .v (.ag cs)) (hi:cs[i]? = some (.sl E l)):l.length≤9223372036854775807:=by
 have:=hr.tmp t
 rw [h] at this
 obtain ⟨vs,_,h2⟩:=this
 obtain ⟨v,_,h3⟩:=h2.get hi
 exact DO h3 rfl
end
section
variable {P:Program}
def Mo (P:Program) (t:TypeId):Option (Bool×Nat) :=
 match P.underlying t,P.info? t with
 | some d,some i=>some ((match d with | .struct _ | .array _ _=>true|_=>false),i.size)
 | _,_=>none
theorem TI.of {t n:Nat} {row:Bool} (h:Mo P t=some (row,n)):TI P t row n:=by
 unfold Mo at h
 split at h
 ·rename_i d i h1 h2
  injection h with h
  injection h with e1 e2
  exact ⟨⟨d,h1,e1⟩,by rw [h2];simp [e2]⟩
 ·cases h
def Mp (P:Program) (t:TypeId) (f:Nat):Option (Nat×Nat×Bool) :=
 match P.underlying t with
 | some (.struct fs)=>match fs[f]? with
  | some x=>match P.info? x.type with
   | some i=>some (x.offset,x.type,Nat.beq i.size 0)
   | none=>none
  | none=>none
 | _=>none
theorem FO.of {t f off ft:Nat} (h:Mp P t f=some (off,ft,false)):FO P t f off ft:=by
 unfold Mp at h
 split at h
 ·rename_i fs h1
  split at h
  ·rename_i x h2
   split at h
   ·rename_i i h3
    injection h with h
    injection h with e1 h
    injection h with e2 e3
    subst e1
    subst e2
    refine ⟨⟨fs,x,i,h1,h2,rfl,rfl,h3,fun e=>?_⟩⟩
    rw [e] at e3
    cases e3
   ·cases h
  ·cases h
 ·cases h
def LE (P:Program) (t:TypeId):Option (List Value×Nat) :=
 match P.info? t with
 | some i=>match i.zero with
  | some v=>some (v.cells.toList,i.size)
  | none=>none
 | none=>none
theorem TZ.of {t:Nat} {zs:List Value} (h:LE P t=some (zs,zs.length)) (ho:zs.all (·.oneCell')=true):TZ P t zs:=by
 unfold LE at h
 split at h
 ·rename_i i h1
  split at h
  ·rename_i v h2
   injection h with h
   injection h with e1 e2
   exact ⟨⟨i,v,h1,h2,by rw [←e1]⟩,fun u hu=>List.all_eq_true.1 ho u hu,by rw [h1];simp [e2]⟩
  ·cases h
 ·cases h
def Mq (P:Program) (t:TypeId):Option (List (Nat×Option Nat)) :=
 match P.underlying t with
 | some (.struct fs)=>some (fs.toList.map fun f=>(f.offset,(P.info? f.type).map (·.size)))
 | _=>none
theorem SP.of {t:Nat} {zs:List Value} {pl:List (Nat×Nat)} (hz:LE P t=some (zs,zs.length)) (h:Mq P t=some (pl.map fun x=>(x.1,some x.2))):SP P t zs pl:=by
 unfold LE at hz
 split at hz
 ·rename_i i h1
  split at hz
  ·rename_i v h2
   injection hz with hz
   injection hz with e1 e2
   refine ⟨⟨i,v,h1,h2,by rw [←e1]⟩,?_⟩
   unfold Mq at h
   split at h
   ·rename_i fs h3
    have h:=Option.some.inj h
    refine ⟨fs,h3,fun w=>?_⟩
    rw [Array.mapM_eq_mapM_toList,map_eq_pure_bind]
    have key:∀(l:List Field) (pl:List (Nat×Nat)),l.map (fun f=>(f.offset,(P.info? f.type).map (·.size)))=pl.map (fun x=>(x.1,some x.2))→((l.mapM fun f=>do pure (f.offset,←sizeOf f.type)):Sem (List (Nat×Nat))).run P w = .ok pl w:=by
     intro l
     induction l with
     | nil=>intro pl h;cases pl with
      | nil=>rfl
      | cons=>simp at h
     | cons f l ih =>
      intro pl h
      cases pl with
      | nil=>simp at h
      | cons x pl =>
       simp only [List.map_cons,List.cons.injEq,Prod.mk.injEq] at h
       obtain ⟨⟨e3,e4⟩,e5⟩:=h
       cases hq:P.info? f.type with
       | none=>rw [hq] at e4;cases e4
       | some j =>
        rw [hq] at e4
        simp only [Option.map_some,Option.some.injEq] at e4
        have:=ih pl e5
        simp [List.mapM_cons,sizeOf,typeInfo,hq,e4,e3] at this ⊢
        simp [this]
    simp only [Sem.run_bind,key _ _ h,Result.andThen_ok,Sem.run_pure]
   ·cases h
  ·cases hz
 ·cases hz
theorem ST.of {α:Type} {E:El α} {t e by_ n:Nat} {z:Value} (hu:P.underlying t=some (.slice e)) (hi:(P.info? e).map (fun i=>(i.zero,i.size,i.bytes))=some (some z,n,by_)) (hn:n=E.n) (hz:z.cells.size=n):ST P E t e by_:=⟨ElTB.mk' hu z n by_ hi hn hz⟩
theorem GO {o:Oper} {s:Mst} {t:TypeId} {k:Nat} {x:Operand} {ds:List D} (ho:o.op = .box t x) (hdk:o.dst=some k) (hd:(s.ev x).cells=some ds) (hok:ds.all (okD s.h)=true):LOp P o s (fQ ds) ⟨.c (.ptr k 0),[(k,some (.box t ds))],[k]⟩:=by
 intro c st ρ a w hr h1 h2 h3 h4
 have he:=h1 x (by simp [ho,Op.operands])
 rw [←he] at hd
 obtain ⟨hc1,hc2⟩:=TV.cells_rep (hr.ev x) hd fun z hz u hu=>hr.okD (gP (List.all_eq_true.1 hok z hz) fun j hj=>h2 j (by subst hj;exact eV hz)) hu
 obtain ⟨ρ',h⟩:=hr.newBox (k:=k) (t:=t) (cs:=ds) (vs:=(a.eval x).cells.toList) (d:=.c (.ptr k 0)) (v:=.pointer (some ⟨w.heap.size,0,none⟩)) h4 (h3 k (by simp [aF])) hc1 hc2
  (fun k' hh=>by
   obtain ⟨z,hz,hk⟩:=List.any_eq_true.1 hh
   refine hr.nf (x:=x) rfl ?_
   generalize st.ev x=q at *
   unfold TV.cells at hd
   split at hd
   ·injection hd with hd;subst hd;simp at hz;subst hz;exact hk
   ·injection hd with hd;subst hd;simp only [TV.has,V0.has];exact List.any_eq_true.2 ⟨z,hz,hk⟩
   ·cases hd) (fun k' hh=>by simp [TV.has,V0.has,D.has] at hh;exact hh.symm) (fun F ρ' hρ=>⟨_,hρ,rfl⟩)
 exact Oper.wp_value (by unfold execOp;rw [ho];simp [Instr.box,newVar,newRow,run_newObj_alloc]) ⟨ρ',h⟩
end
instance:TI prog 3 false 1:=.of (by kernel_rfl)
instance:TZ prog 3 [.int .i64 0]:=.of (by kernel_rfl) rfl
instance:TI prog 4 false 1:=.of (by kernel_rfl)
instance:TZ prog 4 [.bool false]:=.of (by kernel_rfl) rfl
instance:TI prog 5 false 1:=.of (by kernel_rfl)
instance:TZ prog 5 [.int .u8 0]:=.of (by kernel_rfl) rfl
instance:TI prog 9 false 1:=.of (by kernel_rfl)
instance:TZ prog 9 [.string { data:=#[] }]:=.of (by kernel_rfl) rfl
instance:TI prog 23 true 3:=.of (by kernel_rfl)
instance:TZ prog 23 [.int .i64 0,.int .i64 0,.int .i64 0]:=.of (by kernel_rfl) rfl
instance:SP prog 23 [.int .i64 0,.int .i64 0,.int .i64 0] [(0,1),(1,1),(2,1)]:=.of (by kernel_rfl) (by kernel_rfl)
instance:FO prog 23 0 0 3:=.of (by kernel_rfl)
instance:FO prog 23 1 1 3:=.of (by kernel_rfl)
instance:FO prog 23 2 2 3:=.of (by kernel_rfl)
instance:TI prog 24 false 1:=.of (by kernel_rfl)
instance:SE prog 24 112:=⟨underlying24⟩
instance:TZ prog 24 [.slice none 0 0]:=.of (by kernel_rfl) rfl
instance:TI prog 25 false 1:=.of (by kernel_rfl)
instance:SE prog 25 80:=⟨underlying25⟩
instance:TZ prog 25 [.slice none 0 0]:=.of (by kernel_rfl) rfl
instance:TI prog 27 true 2:=.of (by kernel_rfl)
instance:TZ prog 27 [.slice none 0 0,.slice none 0 0]:=.of (by kernel_rfl) rfl
instance:SP prog 27 [.slice none 0 0,.slice none 0 0] [(0,1),(1,1)]:=.of (by kernel_rfl) (by kernel_rfl)
instance:FO prog 27 0 0 24:=.of (by kernel_rfl)
instance:FO prog 27 1 1 25:=.of (by kernel_rfl)
instance:TI prog 29 true 2:=.of (by kernel_rfl)
instance:TZ prog 29 [.int .i64 0,.int .i64 0]:=.of (by kernel_rfl) rfl
instance:SP prog 29 [.int .i64 0,.int .i64 0] [(0,1),(1,1)]:=.of (by kernel_rfl) (by kernel_rfl)
instance:FO prog 29 0 0 3:=.of (by kernel_rfl)
instance:FO prog 29 1 1 3:=.of (by kernel_rfl)
instance:TI prog 31 true 3:=.of (by kernel_rfl)
instance:TZ prog 31 [.string { data:=#[] },.int .i64 0,.int .i64 0]:=.of (by kernel_rfl) rfl
instance:SP prog 31 [.string { data:=#[] },.int .i64 0,.int .i64 0] [(0,1),(1,2)]:=.of (by kernel_rfl) (by kernel_rfl)
instance:FO prog 31 0 0 9:=.of (by kernel_rfl)
instance:FO prog 31 1 1 29:=.of (by kernel_rfl)
instance:TI prog 32 false 1:=.of (by kernel_rfl)
instance:SE prog 32 34:=⟨underlying32⟩
instance:TZ prog 32 [.slice none 0 0]:=.of (by kernel_rfl) rfl
instance:TI prog 34 true 5:=.of (by kernel_rfl)
instance:TZ prog 34 [.int .i64 0,.string { data:=#[] },.int .i64 0,.int .i64 0,.slice none 0 0]:=.of (by kernel_rfl) rfl
instance:SP prog 34 [.int .i64 0,.string { data:=#[] },.int .i64 0,.int .i64 0,.slice none 0 0] [(0,1),(1,3),(4,1)]:=.of (by kernel_rfl) (by kernel_rfl)
instance:FO prog 34 0 0 3:=.of (by kernel_rfl)
instance:FO prog 34 1 1 31:=.of (by kernel_rfl)
instance:FO prog 34 2 4 32:=.of (by kernel_rfl)
instance:TI prog 36 true 7:=.of (by kernel_rfl)
instance:TZ prog 36 [.int .i64 0,.string { data:=#[] },.int .i64 0,.int .i64 0,.slice none 0 0,.int .i64 0,.int .i64 0]:=.of (by kernel_rfl) rfl
instance:SP prog 36 [.int .i64 0,.string { data:=#[] },.int .i64 0,.int .i64 0,.slice none 0 0,.int .i64 0,.int .i64 0] [(0,5),(5,1),(6,1)]:=.of (by kernel_rfl) (by kernel_rfl)
instance:FO prog 36 0 0 34:=.of (by kernel_rfl)
instance:FO prog 36 1 5 3:=.of (by kernel_rfl)
instance:FO prog 36 2 6 3:=.of (by kernel_rfl)
instance:TI prog 38 true 16:=.of (by kernel_rfl)
instance:TZ prog 38 [.int .i64 0,.int .i64 0,.int .i64 0,.int .i64 0,.slice none 0 0,.slice none 0 0,.bool false,.int .i64 0,.string { data:=#[] },.int .i64 0,.int .i64 0,.slice none 0 0,.int .i64 0,.int .i64 0,.int .i64 0,.int .i64 0]:=.of (by kernel_rfl) rfl
instance:SP prog 38 [.int .i64 0,.int .i64 0,.int .i64 0,.int .i64 0,.slice none 0 0,.slice none 0 0,.bool false,.int .i64 0,.string { data:=#[] },.int .i64 0,.int .i64 0,.slice none 0 0,.int .i64 0,.int .i64 0,.int .i64 0,.int .i64 0] [(0,3),(3,1),(4,2),(6,1),(7,7),(14,1),(15,1)]:=.of (by kernel_rfl) (by kernel_rfl)
instance:FO prog 38 0 0 23:=.of (by kernel_rfl)
instance:FO prog 38 1 3 3:=.of (by kernel_rfl)
instance:FO prog 38 2 4 27:=.of (by kernel_rfl)
instance:FO prog 38 3 6 4:=.of (by kernel_rfl)
instance:FO prog 38 4 7 36:=.of (by kernel_rfl)
instance:FO prog 38 5 14 3:=.of (by kernel_rfl)
instance:FO prog 38 6 15 3:=.of (by kernel_rfl)
instance:TI prog 39 false 1:=.of (by kernel_rfl)
instance:SE prog 39 31:=⟨underlying39⟩
instance:TZ prog 39 [.slice none 0 0]:=.of (by kernel_rfl) rfl
instance:TI prog 41 true 6:=.of (by kernel_rfl)
instance:TZ prog 41 [.int .i64 0,.int .i64 0,.int .i64 0,.int .i64 0,.int .i64 0,.slice none 0 0]:=.of (by kernel_rfl) rfl
instance:SP prog 41 [.int .i64 0,.int .i64 0,.int .i64 0,.int .i64 0,.int .i64 0,.slice none 0 0] [(0,3),(3,1),(4,1),(5,1)]:=.of (by kernel_rfl) (by kernel_rfl)
instance:FO prog 41 0 0 23:=.of (by kernel_rfl)
instance:FO prog 41 1 3 3:=.of (by kernel_rfl)
instance:FO prog 41 2 4 3:=.of (by kernel_rfl)
instance:FO prog 41 3 5 39:=.of (by kernel_rfl)
instance:TI prog 42 false 1:=.of (by kernel_rfl)
instance:SE prog 42 3:=⟨underlying42⟩
instance:TZ prog 42 [.slice none 0 0]:=.of (by kernel_rfl) rfl
instance:TI prog 46 false 1:=.of (by kernel_rfl)
instance:SE prog 46 38:=⟨underlying46⟩
instance:TZ prog 46 [.slice none 0 0]:=.of (by kernel_rfl) rfl
instance:TI prog 47 false 1:=.of (by kernel_rfl)
instance:SE prog 47 165:=⟨underlying47⟩
instance:TZ prog 47 [.slice none 0 0]:=.of (by kernel_rfl) rfl
instance:TI prog 49 true 3:=.of (by kernel_rfl)
instance:TZ prog 49 [.int .i64 0,.slice none 0 0,.slice none 0 0]:=.of (by kernel_rfl) rfl
instance:SP prog 49 [.int .i64 0,.slice none 0 0,.slice none 0 0] [(0,1),(1,1),(2,1)]:=.of (by kernel_rfl) (by kernel_rfl)
instance:FO prog 49 0 0 3:=.of (by kernel_rfl)
instance:FO prog 49 1 1 47:=.of (by kernel_rfl)
instance:FO prog 49 2 2 46:=.of (by kernel_rfl)
instance:TI prog 51 false 1:=.of (by kernel_rfl)
instance:SE prog 51 41:=⟨underlying51⟩
instance:TZ prog 51 [.slice none 0 0]:=.of (by kernel_rfl) rfl
instance:TI prog 56 false 1:=.of (by kernel_rfl)
instance:SE prog 56 5:=⟨underlying56⟩
instance:TZ prog 56 [.slice none 0 0]:=.of (by kernel_rfl) rfl
instance:TI prog 59 false 1:=.of (by kernel_rfl)
instance:TZ prog 59 [.int .i64 0]:=.of (by kernel_rfl) rfl
instance:TI prog 65 false 1:=.of (by kernel_rfl)
instance:SE prog 65 159:=⟨underlying65⟩
instance:TZ prog 65 [.slice none 0 0]:=.of (by kernel_rfl) rfl
instance:TI prog 66 false 1:=.of (by kernel_rfl)
instance:SE prog 66 119:=⟨underlying66⟩
instance:TZ prog 66 [.slice none 0 0]:=.of (by kernel_rfl) rfl
instance:TI prog 80 true 2:=.of (by kernel_rfl)
instance:TZ prog 80 [.int .i64 0,.int .i64 0]:=.of (by kernel_rfl) rfl
instance:SP prog 80 [.int .i64 0,.int .i64 0] [(0,1),(1,1)]:=.of (by kernel_rfl) (by kernel_rfl)
instance:FO prog 80 0 0 3:=.of (by kernel_rfl)
instance:FO prog 80 1 1 3:=.of (by kernel_rfl)
instance:TI prog 87 false 1:=.of (by kernel_rfl)
instance:SE prog 87 23:=⟨underlying87⟩
instance:TZ prog 87 [.slice none 0 0]:=.of (by kernel_rfl) rfl
instance:TI prog 90 false 1:=.of (by kernel_rfl)
instance:SE prog 90 148:=⟨underlying90⟩
instance:TZ prog 90 [.slice none 0 0]:=.of (by kernel_rfl) rfl
instance:TI prog 92 true 2:=.of (by kernel_rfl)
instance:TZ prog 92 [.slice none 0 0,.slice none 0 0]:=.of (by kernel_rfl) rfl
instance:SP prog 92 [.slice none 0 0,.slice none 0 0] [(0,1),(1,1)]:=.of (by kernel_rfl) (by kernel_rfl)
instance:FO prog 92 0 0 47:=.of (by kernel_rfl)
instance:FO prog 92 1 1 90:=.of (by kernel_rfl)
instance:TI prog 101 true 3:=.of (by kernel_rfl)
instance:TZ prog 101 [.slice none 0 0,.int .i64 0,.int .i64 0]:=.of (by kernel_rfl) rfl
instance:SP prog 101 [.slice none 0 0,.int .i64 0,.int .i64 0] [(0,1),(1,1),(2,1)]:=.of (by kernel_rfl) (by kernel_rfl)
instance:FO prog 101 0 0 56:=.of (by kernel_rfl)
instance:FO prog 101 1 1 3:=.of (by kernel_rfl)
instance:FO prog 101 2 2 59:=.of (by kernel_rfl)
instance:TI prog 108 true 3:=.of (by kernel_rfl)
instance:TZ prog 108 [.slice none 0 0,.int .i64 0,.int .i64 0]:=.of (by kernel_rfl) rfl
instance:SP prog 108 [.slice none 0 0,.int .i64 0,.int .i64 0] [(0,1),(1,1),(2,1)]:=.of (by kernel_rfl) (by kernel_rfl)
instance:FO prog 108 0 0 56:=.of (by kernel_rfl)
instance:FO prog 108 1 1 3:=.of (by kernel_rfl)
instance:FO prog 108 2 2 59:=.of (by kernel_rfl)
instance:TI prog 112 true 5:=.of (by kernel_rfl)
instance:TZ prog 112 [.string { data:=#[] },.int .i64 0,.int .i64 0,.int .i64 0,.int .i64 0]:=.of (by kernel_rfl) rfl
instance:SP prog 112 [.string { data:=#[] },.int .i64 0,.int .i64 0,.int .i64 0,.int .i64 0] [(0,1),(1,2),(3,2)]:=.of (by kernel_rfl) (by kernel_rfl)
instance:FO prog 112 0 0 9:=.of (by kernel_rfl)
instance:FO prog 112 1 1 29:=.of (by kernel_rfl)
instance:FO prog 112 2 3 29:=.of (by kernel_rfl)
instance:TI prog 115 true 2:=.of (by kernel_rfl)
instance:TZ prog 115 [.slice none 0 0,.int .i64 0]:=.of (by kernel_rfl) rfl
instance:SP prog 115 [.slice none 0 0,.int .i64 0] [(0,1),(1,1)]:=.of (by kernel_rfl) (by kernel_rfl)
instance:FO prog 115 0 0 42:=.of (by kernel_rfl)
instance:FO prog 115 1 1 3:=.of (by kernel_rfl)
instance:TI prog 119 true 13:=.of (by kernel_rfl)
instance:TZ prog 119 [.int .i64 0,.int .i64 0,.int .i64 0,.int .i64 0,.int .i64 0,.string { data:=#[] },.int .i64 0,.int .i64 0,.slice none 0 0,.int .i64 0,.int .i64 0,.string { data:=#[] },.int .i64 0]:=.of (by kernel_rfl) rfl
instance:SP prog 119 [.int .i64 0,.int .i64 0,.int .i64 0,.int .i64 0,.int .i64 0,.string { data:=#[] },.int .i64 0,.int .i64 0,.slice none 0 0,.int .i64 0,.int .i64 0,.string { data:=#[] },.int .i64 0] [(0,1),(1,3),(4,7),(11,1),(12,1)]:=.of (by kernel_rfl) (by kernel_rfl)
instance:FO prog 119 0 0 3:=.of (by kernel_rfl)
instance:FO prog 119 1 1 23:=.of (by kernel_rfl)
instance:FO prog 119 2 4 36:=.of (by kernel_rfl)
instance:FO prog 119 3 11 9:=.of (by kernel_rfl)
instance:FO prog 119 4 12 3:=.of (by kernel_rfl)
instance:TI prog 123 false 1:=.of (by kernel_rfl)
instance:SE prog 123 296:=⟨underlying123⟩
instance:TZ prog 123 [.slice none 0 0]:=.of (by kernel_rfl) rfl
instance:TI prog 132 false 1:=.of (by kernel_rfl)
instance:SE prog 132 9:=⟨underlying132⟩
instance:TZ prog 132 [.slice none 0 0]:=.of (by kernel_rfl) rfl
instance:TI prog 148 true 9:=.of (by kernel_rfl)
instance:TZ prog 148 [.int .i64 0,.int .i64 0,.int .i64 0,.int .i64 0,.string { data:=#[] },.int .i64 0,.int .i64 0,.slice none 0 0,.int .i64 0]:=.of (by kernel_rfl) rfl
instance:SP prog 148 [.int .i64 0,.int .i64 0,.int .i64 0,.int .i64 0,.string { data:=#[] },.int .i64 0,.int .i64 0,.slice none 0 0,.int .i64 0] [(0,3),(3,5),(8,1)]:=.of (by kernel_rfl) (by kernel_rfl)
instance:FO prog 148 0 0 23:=.of (by kernel_rfl)
instance:FO prog 148 1 3 34:=.of (by kernel_rfl)
instance:FO prog 148 2 8 3:=.of (by kernel_rfl)
instance:TI prog 159 true 4:=.of (by kernel_rfl)
instance:TZ prog 159 [.string { data:=#[] },.int .i64 0,.int .i64 0,.int .i64 0]:=.of (by kernel_rfl) rfl
instance:SP prog 159 [.string { data:=#[] },.int .i64 0,.int .i64 0,.int .i64 0] [(0,1),(1,1),(2,1),(3,1)]:=.of (by kernel_rfl) (by kernel_rfl)
instance:FO prog 159 0 0 9:=.of (by kernel_rfl)
instance:FO prog 159 1 1 3:=.of (by kernel_rfl)
instance:FO prog 159 2 2 3:=.of (by kernel_rfl)
instance:FO prog 159 3 3 3:=.of (by kernel_rfl)
instance:TI prog 162 false 1:=.of (by kernel_rfl)
instance:SE prog 162 287:=⟨underlying162⟩
instance:TZ prog 162 [.slice none 0 0]:=.of (by kernel_rfl) rfl
instance:TI prog 163 false 1:=.of (by kernel_rfl)
instance:SE prog 163 284:=⟨underlying163⟩
instance:TZ prog 163 [.slice none 0 0]:=.of (by kernel_rfl) rfl
instance:TI prog 165 true 8:=.of (by kernel_rfl)
instance:TZ prog 165 [.string { data:=#[] },.int .i64 0,.int .i64 0,.int .i64 0,.slice none 0 0,.slice none 0 0,.slice none 0 0,.int .i64 0]:=.of (by kernel_rfl) rfl
instance:SP prog 165 [.string { data:=#[] },.int .i64 0,.int .i64 0,.int .i64 0,.slice none 0 0,.slice none 0 0,.slice none 0 0,.int .i64 0] [(0,4),(4,1),(5,1),(6,1),(7,1)]:=.of (by kernel_rfl) (by kernel_rfl)
instance:FO prog 165 0 0 159:=.of (by kernel_rfl)
instance:FO prog 165 1 4 162:=.of (by kernel_rfl)
instance:FO prog 165 2 5 163:=.of (by kernel_rfl)
instance:FO prog 165 3 6 163:=.of (by kernel_rfl)
instance:FO prog 165 4 7 3:=.of (by kernel_rfl)
instance:TI prog 169 true 4:=.of (by kernel_rfl)
instance:TZ prog 169 [.int .i64 0,.slice none 0 0,.slice none 0 0,.slice none 0 0]:=.of (by kernel_rfl) rfl
instance:SP prog 169 [.int .i64 0,.slice none 0 0,.slice none 0 0,.slice none 0 0] [(0,3),(3,1)]:=.of (by kernel_rfl) (by kernel_rfl)
instance:FO prog 169 0 0 49:=.of (by kernel_rfl)
instance:FO prog 169 1 3 123:=.of (by kernel_rfl)
instance:TI prog 231 false 1:=.of (by kernel_rfl)
instance:SE prog 231 4:=⟨underlying231⟩
instance:TZ prog 231 [.slice none 0 0]:=.of (by kernel_rfl) rfl
instance:TI prog 284 true 7:=.of (by kernel_rfl)
instance:TZ prog 284 [.int .i64 0,.int .i64 0,.int .i64 0,.int .i64 0,.int .i64 0,.int .i64 0,.int .i64 0]:=.of (by kernel_rfl) rfl
instance:SP prog 284 [.int .i64 0,.int .i64 0,.int .i64 0,.int .i64 0,.int .i64 0,.int .i64 0,.int .i64 0] [(0,3),(3,2),(5,1),(6,1)]:=.of (by kernel_rfl) (by kernel_rfl)
instance:FO prog 284 0 0 23:=.of (by kernel_rfl)
instance:FO prog 284 1 3 29:=.of (by kernel_rfl)
instance:FO prog 284 2 5 3:=.of (by kernel_rfl)
instance:FO prog 284 3 6 3:=.of (by kernel_rfl)
instance:TI prog 287 true 5:=.of (by kernel_rfl)
instance:TZ prog 287 [.int .i64 0,.int .i64 0,.int .i64 0,.int .i64 0,.int .i64 0]:=.of (by kernel_rfl) rfl
instance:SP prog 287 [.int .i64 0,.int .i64 0,.int .i64 0,.int .i64 0,.int .i64 0] [(0,3),(3,2)]:=.of (by kernel_rfl) (by kernel_rfl)
instance:FO prog 287 0 0 23:=.of (by kernel_rfl)
instance:FO prog 287 1 3 29:=.of (by kernel_rfl)
instance:TI prog 296 true 7:=.of (by kernel_rfl)
instance:TZ prog 296 [.int .i64 0,.int .i64 0,.int .i64 0,.int .i64 0,.string { data:=#[] },.int .i64 0,.int .i64 0]:=.of (by kernel_rfl) rfl
instance:SP prog 296 [.int .i64 0,.int .i64 0,.int .i64 0,.int .i64 0,.string { data:=#[] },.int .i64 0,.int .i64 0] [(0,1),(1,3),(4,1),(5,2)]:=.of (by kernel_rfl) (by kernel_rfl)
instance:FO prog 296 0 0 3:=.of (by kernel_rfl)
instance:FO prog 296 1 1 23:=.of (by kernel_rfl)
instance:FO prog 296 2 4 9:=.of (by kernel_rfl)
instance:FO prog 296 3 5 29:=.of (by kernel_rfl)
instance:TI prog 317 false 1:=.of (by kernel_rfl)
instance:SE prog 317 29:=⟨underlying317⟩
instance:TZ prog 317 [.slice none 0 0]:=.of (by kernel_rfl) rfl
theorem pi {sh:List Nat} {a:List Value} (h:a.map shp=sh):a.length=sh.length:=by rw [←h,List.length_map]
theorem GP {α:Type _} {a:List α} (h:a.length=3):∃x y z,a=[x,y,z]:=by
 match a,h with
 | [x,y,z],_=>exact ⟨x,y,z,rfl⟩
theorem Kh {α:Type _} {a:List α} (h:a.length=2):∃x y,a=[x,y]:=by
 match a,h with
 | [x,y],_=>exact ⟨x,y,rfl⟩
theorem nM {v:Value} (h:shp v=0):∃n,v = .int .i64 n:=by
 unfold shp at h
 split at h <;> first|exact ⟨_,rfl⟩|cases h
theorem Ki {v:Value} (h:shp v=1):∃n,v = .string n:=by
 unfold shp at h
 split at h <;> first|exact ⟨_,rfl⟩|cases h
instance:EQ prog 23 [0,0,0]:=⟨by kernel_rfl,fun w a b ha hb=>by
 have hS:prog.underlying 23=some (.struct (prog.fieldsOf 23)):=by kernel_rfl
 have hp:prog.stoodInHeld 23=false:=by kernel_rfl
 ·obtain ⟨a1,a2,a3,rfl⟩:=GP (pi ha)
  obtain ⟨b1,b2,b3,rfl⟩:=GP (pi hb)
  simp only [List.map_cons,List.map_nil,List.cons.injEq,and_true] at ha hb
  obtain ⟨x1,rfl⟩:=nM ha.1
  obtain ⟨x2,rfl⟩:=nM ha.2.1
  obtain ⟨x3,rfl⟩:=nM ha.2.2
  obtain ⟨y1,rfl⟩:=nM hb.1
  obtain ⟨y2,rfl⟩:=nM hb.2.1
  obtain ⟨y3,rfl⟩:=nM hb.2.2
  show (Op.equalIn 10000 23 _ _).run _ _=_
  rw [show (10000:Nat)=9999+1 from rfl,run_equalIn_agg w 9999 23 _ _ hS hp]
  have u3:=underlying3
  simp only [Program.fieldsOf,underlying23]
  go_simp
  by_cases h1:x1=y1 <;> by_cases h2:x2=y2 <;> by_cases h3:x3=y3 <;> simp [h1,h2,h3,AE,J8]⟩
instance:EQ prog 29 [0,0]:=⟨by kernel_rfl,fun w a b ha hb=>by
 have hS:prog.underlying 29=some (.struct (prog.fieldsOf 29)):=by kernel_rfl
 have hp:prog.stoodInHeld 29=false:=by kernel_rfl
 ·obtain ⟨a1,a2,rfl⟩:=Kh (pi ha)
  obtain ⟨b1,b2,rfl⟩:=Kh (pi hb)
  simp only [List.map_cons,List.map_nil,List.cons.injEq,and_true] at ha hb
  obtain ⟨x1,rfl⟩:=nM ha.1
  obtain ⟨x2,rfl⟩:=nM ha.2
  obtain ⟨y1,rfl⟩:=nM hb.1
  obtain ⟨y2,rfl⟩:=nM hb.2
  show (Op.equalIn 10000 29 _ _).run _ _=_
  rw [show (10000:Nat)=9999+1 from rfl,run_equalIn_agg w 9999 29 _ _ hS hp]
  have u3:=underlying3
  simp only [Program.fieldsOf,underlying29]
  go_simp
  by_cases h1:x1=y1 <;> by_cases h2:x2=y2 <;> simp [h1,h2,AE,J8]⟩
theorem Im (p q:Pr):AE [.int .i64 p.site,.int .i64 p.inc,.int .i64 p.num] [.int .i64 q.site,.int .i64 q.inc,.int .i64 q.num]=decide (p=q):=by
 obtain ⟨a,b,c⟩:=p
 obtain ⟨x,y,z⟩:=q
 rw [Bool.eq_iff_iff]
 simp [AE,J8]
theorem uc (p q:Am):AE [.int .i64 p.mode,.int .i64 p.units] [.int .i64 q.mode,.int .i64 q.units]=decide (p=q):=by
 obtain ⟨a,b⟩:=p
 obtain ⟨x,y⟩:=q
 rw [Bool.eq_iff_iff]
 simp [AE,J8]
end Go.Proofs.YtdaajdflefnjfaaGreat
