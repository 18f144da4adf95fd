/- Part 6 of 33 of the proof of centralDoes_holds (no condition). -/
import Derived.Test.YtjndcdcbjidocaaGreatDoorL05
set_option linter.unusedVariables false
set_option linter.unusedSimpArgs false
set_option maxRecDepth 100000
set_option maxHeartbeats 64000000
namespace Go.Proofs.YtjndcdcbjidocaaGreatDoor
open Go.RowKit Go.Proofs.Tryz
def nC (pl:Nat→Option (Nat×Nat)):List D→List (Nat×TV)→Option (List D)
 | cs,[]=>some cs
 | cs,(i,d) :: r =>
  match pl i,d.cells with
  | some (off,size),some ds=>bif Nat.beq ds.length size && Nat.ble (off+size) cs.length then nC pl (cs.take off++ds++cs.drop (off+size)) r else none
  | _,_=>none
class SP (P:Program) (t:TypeId) (zs:outParam (List Value)) (pl:outParam (List (Nat×Nat))):Prop where
 z:∃i v,P.info? t=some i∧i.zero=some v∧v.cells=zs.toArray
 p:∃fs,P.underlying t=some (.struct fs)∧∀(w:World),((fs.mapM fun f=>do pure (f.offset,←sizeOf f.type)):Sem (Array (Nat×Nat))).run P w = .ok pl.toArray w
section
variable {P:Program} {o:Oper} {s:Mst}
theorem qP (off:Nat):∀(vs old pre post:List Value) (k:Nat),pre.length=off+k→old.length=vs.length→(vs.zipIdx k).foldl (fun (l:List Value) (x:Value×Nat)=>l.set (off+x.2) x.1) (pre++old++post)=pre++vs++post
 | [],old,pre,post,k,_,h=>by
  obtain rfl:old=[]:=List.eq_nil_of_length_eq_zero h;rfl
 | v :: vs,[],pre,post,k,_,h=>by simp at h
 | v :: vs,u :: old,pre,post,k,hp,h=>by
  rw [List.zipIdx_cons,List.foldl_cons];have h1:(pre++u :: old++post).set (off+k) v=(pre++[v])++old++post:=by
   rw [←hp,List.append_assoc,List.set_append_right _ _ (Nat.le_refl _),Nat.sub_self];simp
  rw [h1,qP off vs old (pre++[v]) post (k+1) (by simp;omega) (by simpa using h)];simp
theorem Bh (vs:List Value) (cs:Array Value) (off:Nat) (h:off+vs.length≤cs.size):(vs.zipIdx.foldl (fun (cs:Array Value) (x:Value×Nat)=>cs.setIfInBounds (off+x.2) x.1) cs).toList=cs.toList.take off++vs++cs.toList.drop (off+vs.length):=by
 have h1:∀(l:List (Value×Nat)) (cs:Array Value),(l.foldl (fun (cs:Array Value) (x:Value×Nat)=>cs.setIfInBounds (off+x.2) x.1) cs).toList=l.foldl (fun (l:List Value) (x:Value×Nat)=>l.set (off+x.2) x.1) cs.toList:=by
  intro l;induction l with
  | nil=>intro cs;rfl
  | cons x l ih=>intro cs;rw [List.foldl_cons,ih,Array.toList_setIfInBounds,List.foldl_cons]
 rw [h1];have h2:cs.toList=cs.toList.take off++(cs.toList.drop off).take vs.length++cs.toList.drop (off+vs.length):=by
  rw [List.append_assoc,←List.drop_drop,List.take_append_drop,List.take_append_drop]
 have hs:cs.toList.length=cs.size:=Array.length_toList;generalize cs.toList=l at *
 have h3:=qP off vs ((l.drop off).take vs.length) (l.take off) (l.drop (off+vs.length)) 0 (by rw [List.length_take];omega) (by rw [List.length_take,List.length_drop];omega);rw [←h2] at h3;exact h3
theorem qQ {w:World} {F:Nat→Prop} {ρ:Nat→Value} (pl:Nat→Option (Nat×Nat)):∀(ts:List (Nat×TV)) (ps:List (Nat×Value)) (cs ds:List D) (vs:List Value),All2 (fun t p=>t.1=p.1∧t.2.rep w F ρ p.2) ts ps→All2 (D.rep w F ρ) cs vs→nC pl cs ts=some ds→
  (∀t∈ts,∀l,t.2.cells=some l→∀x∈l,∀u,x.rep w F ρ u→u.oneCell'=true)→∃us:List Value,Instr.fill pl vs.toArray ps=some us.toArray∧All2 (D.rep w F ρ) ds us
 | [],[],cs,ds,vs,_,h,e,_=>by simp only [nC,Option.some.injEq] at e;subst e;exact ⟨vs,rfl,h⟩
 | (i,d) :: ts,(j,v) :: ps,cs,ds,vs,hp,h,e,hok=>by
  obtain ⟨⟨rfl,hd⟩,hp⟩:=hp;simp only [nC] at e;split at e
  ·rename_i off size l h1 h2
   cases hb:Nat.beq l.length size && Nat.ble (off+size) cs.length with
   | false=>rw [hb] at e;cases e
   | true =>
    rw [hb] at e;simp only [Bool.and_eq_true] at hb;have hb1:=Nat.eq_of_beq_eq_true hb.1;have hb2:=Nat.le_of_ble_eq_true hb.2;obtain ⟨hc1,hc2⟩:=TV.cells_rep hd h2 (hok (i,d) (by simp) l h2);have hl1:=hc1.length;have hl2:=h.length;simp only [Array.length_toList] at hl1;obtain ⟨us,h3,h4⟩:=qQ pl ts ps _ ds (vs.take off++v.cells.toList++vs.drop (off+size)) hp (((h.take off).append hc1).append (h.drop (off+size))) e fun t ht=>hok t (by simp [ht]);refine ⟨us,?_,h4⟩;simp only [Instr.fill,h1];rw [if_neg (by simp;omega),←h3];congr 1
    apply Array.toList_inj.1
    have:=Bh v.cells.toList vs.toArray off (by simp;omega);simp only [Array.length_toList,←hl1,hb1] at this;rw [←Array.foldl_toList,Array.toList_zipIdx,this]
  ·cases e
 | [],_ :: _,_,_,_,h,_,_,_=>h.elim
 | _ :: _,[],_,_,_,h,_,_,_=>h.elim
def fx (s:Mst) (ps:Array (Nat×Operand)):List (Nat×TV):=ps.toList.map fun x=>(x.1,s.ev x.2)
theorem tz {c:Ctx} {st:Mst} {ρ:Nat→Value} {a:Act} {w:World} (hr:Rp c st ρ a w) {ps:Array (Nat×Operand)} (h:∀x∈ps.toList,st.ev x.2=s.ev x.2) :
  All2 (fun t p=>t.1=p.1∧t.2.rep w (Fz c st.h ρ w) ρ p.2) (fx s ps) (ps.map fun x=>(x.1,a.eval x.2)).toList:=by
 rw [Array.toList_map];unfold fx;generalize ps.toList=l at *
 induction l with
 | nil=>trivial
 | cons x l ih=>exact ⟨⟨rfl,by have:=hr.ev x.2;rwa [h x (by simp)] at this⟩,ih fun y hy=>h y (by simp [hy])⟩
def cellsOf:List (Nat×TV)→List D
 | []=>[]
 | (_,d) :: r=>(match d.cells with|some l=>l|none=>[])++cellsOf r
theorem pu:∀{ts:List (Nat×TV)} {t:Nat×TV} {l:List D} {x:D},t∈ts→t.2.cells=some l→x∈l→x∈cellsOf ts
 | (i,d) :: ts,t,l,x,ht,hl,hx=>by
  simp only [cellsOf,List.mem_append];rcases List.mem_cons.1 ht with rfl|ht
  ·simp only at hl;rw [hl];exact .inl hx
  ·exact .inr (pu ht hl hx)
theorem lR (pl:Nat→Option (Nat×Nat)):∀{ts:List (Nat×TV)} {cs ds:List D} {x:D},nC pl cs ts=some ds→x∈ds→x∈cs∨x∈cellsOf ts
 | [],cs,ds,x,e,hx=>by simp only [nC,Option.some.injEq] at e;subst e;exact .inl hx
 | (i,d) :: ts,cs,ds,x,e,hx=>by
  simp only [nC] at e;split at e
  ·rename_i off size l h1 h2
   cases hb:Nat.beq l.length size && Nat.ble (off+size) cs.length with
   | false=>rw [hb] at e;cases e
   | true =>
    rw [hb] at e;simp only [cellsOf,List.mem_append,h2];rcases lR pl e hx with h|h
    ·simp only [List.mem_append] at h;rcases h with (h|h)|h
     ·exact .inl (List.mem_of_mem_take h)
     ·exact .inr (.inl h)
     ·exact .inl (List.mem_of_mem_drop h)
    ·exact .inr (.inr h)
  ·cases e
theorem wx {c:Ctx} {st:Mst} {ρ:Nat→Value} {a:Act} {w:World} (hr:Rp c st ρ a w) {ps:Array (Nat×Operand)} (h:∀x∈ps.toList,st.ev x.2=s.ev x.2) (hok:(cellsOf (fx s ps)).all (okD s.h)=true) (h2:∀k,aK (gG (cellsOf (fx s ps))) k=true→st.h k=s.h k) :
  (∀t∈fx s ps,∀l,t.2.cells=some l→∀x∈l,∀u,x.rep w (Fz c st.h ρ w) ρ u→u.oneCell'=true)∧∀x∈cellsOf (fx s ps),∀k,x.has k=true→st.f k=false:=by
 constructor
 ·intro t ht l hl x hx u hu;have hm:=pu ht hl hx;exact hr.okD (gZ (List.all_eq_true.1 hok x hm) fun j hj=>h2 j (by subst hj;exact fv hm)) hu
 ·intro x hx k hk;unfold fx at hx;generalize ps.toList=l at *
  induction l with
  | nil=>simp [cellsOf] at hx
  | cons y l ih =>
   simp only [List.map_cons,cellsOf,List.mem_append] at hx;rcases hx with hx|hx
   ·refine hr.nf (x:=y.2) (h y (by simp)) ?_;generalize s.ev y.2=d at *
    unfold TV.cells at hx;cases d with
    | tup m=>simp at hx
    | v d =>
     cases d with
     | one d=>simp at hx;subst hx;exact hk
     | ag m=>simp only [TV.has,V0.has];exact List.any_eq_true.2 ⟨x,hx,hk⟩
   ·exact ih (fun z hz=>h z (by simp [hz])) hx
def KK (pl:List (Nat×Nat)) (i:Nat):Option (Nat×Nat):=pl[i]?
theorem Bi {t:TypeId} {ps:Array (Nat×Operand)} {zs:List Value} {pl:List (Nat×Nat)} {ds:List D} [I:SP P t zs pl] (ho:o.op = .build t ps) (hok:(cellsOf (fx s ps)).all (okD s.h)=true) (hd:nC (KK pl) (zs.map D.sc) (fx s ps)=some ds) :
  LOp P o s (gG (cellsOf (fx s ps))) ⟨.v (.ag ds),[],[]⟩ :=
 bp fun c st ρ a w hr h1 h2=>by
  have he:∀x∈ps.toList,st.ev x.2=s.ev x.2:=fun x hx=>h1 x.2 (by rw [ho];simp only [Op.operands];simpa using ⟨x.1,by simpa using hx⟩);obtain ⟨p1,p2⟩:=wx hr he hok h2;obtain ⟨us,hf,hA⟩:=qQ (KK pl) (fx s ps) _ _ ds zs (tz hr he) (All2.scs zs) hd p1;obtain ⟨i,v,z1,z2,z3⟩:=I.z;obtain ⟨fs,q1,q2⟩:=I.p;refine ⟨.agg us.toArray,?_,⟨us,rfl,hA⟩,fun k hk=>?_⟩
  ·unfold execOp;rw [ho];rw [show KK pl=fun x=>pl[x]? from rfl,Array.toList_map] at hf;have hq:=q2 w;simp [Instr.build,zeroValue,typeInfo,z1,z2,run_underlying q1,z3] at hq ⊢;simp [hq,hf]
  ·obtain ⟨x,hx,hk⟩:=List.any_eq_true.1 (show ds.any (D.has k)=true from hk);rcases lR _ hd hx with h|h
   ·obtain ⟨v,_,rfl⟩:=List.mem_map.1 h;cases hk
   ·exact p2 x h k hk
theorem CZ (zs:List Value) (m:Nat):((Array.range (m*zs.length)).map fun x=>zs.toArray[x % zs.toArray.size]!).toList=(List.replicate m zs).flatten:=by
 rw [Array.toList_map,Array.toList_range];induction m with
 | zero=>simp
 | succ m ih =>
  rw [Nat.add_mul,Nat.one_mul,List.range_add,List.map_append,ih,List.replicate_succ',List.flatten_append,List.map_map];congr 1
  simp only [List.flatten_cons,List.flatten_nil,List.append_nil];apply List.ext_getElem
  ·simp
  ·intro i h1 h2;simp only [List.getElem_map,List.getElem_range,Function.comp_apply,List.size_toArray];rw [Nat.mul_comm m,Nat.mul_add_mod,Nat.mod_eq_of_lt h2];simp [h2]
theorem qR {R:D→Value→Prop}:∀{l:List D} {us:List Value},All2 R l us→(∀d∈l,∀u,R d u→u.oneCell'=true)→∀u∈us,u.oneCell'=true
 | [],[],_,_,u,hu=>by cases hu
 | d :: l,v :: us,h,f,u,hu=>by
  rcases List.mem_cons.1 hu with rfl|hu
  ·exact f d (by simp) _ h.1
  ·exact qR h.2 (fun x hx=>f x (by simp [hx])) u hu
 | [],_ :: _,h,_,_,_=>h.elim
 | _ :: _,[],h,_,_,_=>h.elim
theorem qS {t e:TypeId} {n k sz:Nat} {row:Bool} {ps:Array (Nat×Operand)} {zs:List Value} {ds:List D} [I:SE P t e] [J:TI P e row sz] [Z:TZ P e zs] (ho:o.op = .buildSlice t n ps) (hdk:o.dst=some k) (hok:(cellsOf (fx s ps)).all (okD s.h)=true) (hn:n*sz≤4096)
  (hd:nC (fun i=>some (i*sz,sz)) ((List.replicate n zs).flatten.map D.sc) (fx s ps)=some ds):LOp P o s (gG (cellsOf (fx s ps))) ⟨.c (.slb k n),[(k,some (.box e ds))],[k]⟩:=by
 intro c st ρ a w hr h1 h2 h3 h4;have he:∀x∈ps.toList,st.ev x.2=s.ev x.2:=fun x hx=>h1 x.2 (by rw [ho];simp only [Op.operands];simpa using ⟨x.1,by simpa using hx⟩);obtain ⟨p1,p2⟩:=wx hr he hok h2;obtain ⟨us,hf,hA⟩:=qQ _ (fx s ps) _ _ ds _ (tz hr he) (All2.scs (List.replicate n zs).flatten) hd p1;obtain ⟨i,v,z1,z2,z3⟩:=Z.z;have hi:i.size=sz:=by have:=J.s;rw [z1] at this;simpa using this
 have hone:∀u∈us,u.oneCell'=true:=qR hA fun d hd1 u hu=>by
  rcases lR _ hd hd1 with h|h
  ·obtain ⟨v,hv,rfl⟩:=List.mem_map.1 h;obtain ⟨l,hl,hv⟩:=List.mem_flatten.1 hv;rw [show u=v from hu];rw [List.eq_of_mem_replicate hl] at hv;exact Z.o v hv
  ·exact hr.okD (gZ (List.all_eq_true.1 hok d h) fun j hj=>h2 j (by subst hj;exact fv h)) hu
 obtain ⟨ρ',h⟩:=hr.newBox (k:=k) (t:=e) (cs:=ds) (vs:=us) (d:=.c (.slb k n)) (v:=.slice (some ⟨w.heap.size,0,none⟩) n n) h4 (h3 k (by simp [aK])) hA hone
  (fun k' hh=>by
   obtain ⟨x,hx,hk⟩:=List.any_eq_true.1 hh;rcases lR _ hd hx with h|h
   ·obtain ⟨v,_,rfl⟩:=List.mem_map.1 h;cases hk
   ·exact p2 x h k' hk) (fun k' hh=>by simp [TV.has,V0.has,D.has] at hh;exact hh.symm) (fun F ρ' hρ=>⟨_,hρ,rfl⟩)
 refine Oper.wp_value ?_ ⟨ρ',h⟩;have hzl:zs.length=sz:=by
  have h1:=Z.n;rw [z1] at h1;simp only [Option.map_some,Option.some.injEq] at h1;omega
 have hc:=CZ zs n;have hca:(Array.range (n*sz)).map (fun x=>zs.toArray[x % zs.toArray.size]!)=(List.replicate n zs).flatten.toArray:=by
  apply Array.toList_inj.1
  rw [←hzl,hc]
 unfold execOp;rw [ho];rw [Array.toList_map] at hf;have hbig:¬(16777216<n*sz):=by omega
 by_cases h0:n*sz=0
 ·have hf0:(List.replicate n zs).flatten=[]:=by
   apply List.eq_nil_of_length_eq_zero
   simp [hzl,h0]
  rw [hf0] at hf;simp [Instr.buildSlice,run_underlying I.u,sizeOf,typeInfo,z1,hi,h0,newRow];rw [show Array.map (fun _=>(default:Value)) (Array.range 0) = #[] by simp,hf];simp
 ·simp [Instr.buildSlice,run_underlying I.u,sizeOf,typeInfo,z1,hi,h0,zeroValue,z2,z3,newRow,hbig];simp at hca;rw [hca,hf];simp
theorem qT {t e:TypeId} {row:Bool} {n b off len cap lo hi:Nat} [I:SE P t e] [J:TI P e row n] (w:World) (l h m:Option Value) (A:Option Addr) (hA:0<len→A=some ⟨b,off,none⟩)
  (hl:l=some (.int .i64 (lo:Int))∨l=none∧lo=0) (hh:h=some (.int .i64 (hi:Int))∨h=none∧hi=len∧m=none) (hm:m=some (.int .i64 (hi:Int))∨m=none) (h1:lo≤hi) (h2:hi≤len) (h3:len≤cap) (hlo:lo<hi∨True) :
  ∃A',(Instr.sliceAt t (.slice A len cap) l h m).run P w = .ok (.slice A' (hi-lo) ((if m=none then cap else hi)-lo)) w∧(lo<hi→A'=some ⟨b,off+lo*n,none⟩):=by
 obtain ⟨j,hj,hn⟩:∃j,P.info? e=some j∧j.size=n:=by
  have:=J.s;cases h:P.info? e with
  | none=>simp [h] at this
  | some j=>exact ⟨j,rfl,by simpa [h] using this⟩
 subst hn;refine ⟨if (if m=none then cap else hi)=lo then A else A.map (·.add (lo*j.size)),?_,fun hlt=>?_⟩
 ·rcases hl with rfl|⟨rfl,rfl⟩ <;> rcases hh with rfl|⟨rfl,rfl,rfl⟩ <;> rcases hm with hm|hm <;> (first|cases hm|subst hm) <;>
   simp [Instr.sliceAt,Instr.slice,Instr.sliceBounds,Instr.sliceBound,asIntOf,run_underlying I.u,sizeOf,typeInfo,hj,h1,h2,h3,Nat.le_trans h2 h3,Nat.le_trans h1 h2]
 ·rw [hA (by omega)];have:¬(if m=none then cap else hi)=lo:=by split <;> omega
  rw [if_neg this];simp [cZ]
theorem wy {w:World} {F:Nat→Prop} {α:Type} {E:El α} {A A':Option Addr} {l:List α} {lo hi:Nat} (h:RowsAt E w F A l) (hlh:lo≤hi) (hh:hi≤l.length) (hA:lo<hi→∀b off,A=some ⟨b,off,none⟩→A'=some ⟨b,off+lo*E.n,none⟩):RowsAt E w F A' ((l.take hi).drop lo):=by
 by_cases hlt:lo<hi
 ·obtain ⟨xs,h1,h2⟩:=h.take hi;obtain ⟨b,off,rfl,_,_⟩:=h2 (by simp;omega);rw [hA hlt b off rfl];exact (h.take hi).drop lo
 ·have:(l.take hi).drop lo=[]:=by
   apply List.eq_nil_of_length_eq_zero
   simp;omega
  rw [this];exact RowsAt.nil _ _ _ _
theorem tA {t e:TypeId} {row:Bool} {n lo hi:Nat} {x:Operand} {l h:Option Operand} {α:Type} {E:El α} {L L':List α} [I:SE P t e] [J:TI P e row n] (ho:o.op = .slice t x l h none) (hx:s.ev x = .c (.sl E L)) (hn:E.n=n)
  (hl:(∃y,l=some y∧s.ev y = .i lo)∨l=none∧lo=0) (hh:(∃y,h=some y∧s.ev y = .i hi)∨h=none∧hi=L.length) (h1:lo≤hi) (h2:hi≤L.length) (hL:(L.take hi).drop lo=L'):LOp P o s [] ⟨.c (.sl E L'),[],[]⟩ :=
 bp fun c st ρ a w hr hc _=>by
  subst hL;subst hn;have he:=hc x (by simp [ho,Op.operands]);rw [hx] at he;have hv:=hr.ev x;rw [he] at hv;obtain ⟨A,cap,hv,hcap,hR⟩:=hv;have hl':l.map a.eval=some (.int .i64 (lo:Int))∨l.map a.eval=none∧lo=0:=by
   rcases hl with ⟨y,rfl,hy⟩|⟨rfl,h⟩
   ·have:=hr.ev y;rw [hc y (by simp [ho,Op.operands]),hy] at this;exact .inl (congrArg some this)
   ·exact .inr ⟨rfl,h⟩
  have hh':h.map a.eval=some (.int .i64 (hi:Int))∨h.map a.eval=none∧hi=L.length∧(none:Option Value)=none:=by
   rcases hh with ⟨y,rfl,hy⟩|⟨rfl,h⟩
   ·have:=hr.ev y;rw [hc y (by simp [ho,Op.operands]),hy] at this;exact .inl (congrArg some this)
   ·exact .inr ⟨rfl,h,rfl⟩
  obtain ⟨b,off,hb⟩:∃b off,0<L.length→A=some ⟨b,off,none⟩:=by
   rcases Nat.eq_zero_or_pos L.length with h0|h0
   ·exact ⟨0,0,fun h=>by omega⟩
   ·obtain ⟨xs,_,h4⟩:=hR;obtain ⟨b,off,h5,_⟩:=h4 h0;exact ⟨b,off,fun _=>h5⟩
  obtain ⟨A',hrun,hA'⟩:=qT (P:=P) (t:=t) (b:=b) (off:=off) w (l.map a.eval) (h.map a.eval) none A hb hl' hh' (.inr rfl) h1 h2 hcap.1 (.inr trivial);have hlen:((L.take hi).drop lo).length=hi-lo:=by simp;omega
  refine ⟨.slice A' (hi-lo) (cap-lo),?_,⟨A',cap-lo,by rw [hlen],by rw [hlen];have:=hcap.2;omega,wy hR h1 h2 fun hlt b' off' e=>?_⟩,fun k hk=>by simp [TV.has,V0.has,D.has] at hk⟩
  ·unfold execOp;rw [ho];simp only [hv,Option.map_none,Sem.run_bind,hrun,Result.andThen_ok,Sem.run_pure,if_true]
  ·rw [hb (by omega)] at e;injection e with e;injection e with e1 e2;subst e1;subst e2;exact hA' hlt
theorem qU {t e:TypeId} {row:Bool} {n lo hi:Nat} {x y z:Operand} {l:Option Operand} {α:Type} {E:El α} {L L':List α} [I:SE P t e] [J:TI P e row n] (ho:o.op = .slice t x l (some y) (some z)) (hx:s.ev x = .c (.sl E L)) (hn:E.n=n)
  (hl:(∃y,l=some y∧s.ev y = .i lo)∨l=none∧lo=0) (hy:s.ev y = .i hi) (hz:s.ev z = .i hi) (h1:lo≤hi) (h2:hi≤L.length) (hL:(L.take hi).drop lo=L'):LOp P o s [] ⟨.c (.full E L'),[],[]⟩ :=
 bp fun c st ρ a w hr hc _=>by
  subst hL;subst hn;have he:=hc x (by simp [ho,Op.operands]);rw [hx] at he;have hv:=hr.ev x;rw [he] at hv;obtain ⟨A,cap,hv,hcap,hR⟩:=hv;have hl':l.map a.eval=some (.int .i64 (lo:Int))∨l.map a.eval=none∧lo=0:=by
   rcases hl with ⟨y,rfl,hy⟩|⟨rfl,h⟩
   ·have:=hr.ev y;rw [hc y (by simp [ho,Op.operands]),hy] at this;exact .inl (congrArg some this)
   ·exact .inr ⟨rfl,h⟩
  have hy':a.eval y = .int .i64 (hi:Int):=by have:=hr.ev y;rwa [hc y (by simp [ho,Op.operands]),hy] at this
  have hz':a.eval z = .int .i64 (hi:Int):=by have:=hr.ev z;rwa [hc z (by simp [ho,Op.operands]),hz] at this
  obtain ⟨b,off,hb⟩:∃b off,0<L.length→A=some ⟨b,off,none⟩:=by
   rcases Nat.eq_zero_or_pos L.length with h0|h0
   ·exact ⟨0,0,fun h=>by omega⟩
   ·obtain ⟨xs,_,h4⟩:=hR;obtain ⟨b,off,h5,_⟩:=h4 h0;exact ⟨b,off,fun _=>h5⟩
  obtain ⟨A',hrun,hA'⟩:=qT (P:=P) (t:=t) (b:=b) (off:=off) w (l.map a.eval) (some (.int .i64 (hi:Int))) (some (.int .i64 (hi:Int))) A hb hl' (.inl rfl) (.inl rfl) h1 h2 hcap.1 (.inr trivial);have hlen:((L.take hi).drop lo).length=hi-lo:=by simp;omega
  refine ⟨.slice A' (hi-lo) (hi-lo),?_,⟨A',by rw [hlen],by rw [hlen];have:=hcap.2;omega,wy hR h1 h2 fun hlt b' off' e=>?_⟩,fun k hk=>by simp [TV.has,V0.has,D.has] at hk⟩
  ·unfold execOp;rw [ho];simp only [hv,Option.map_some,hy',hz',Sem.run_bind,hrun,Result.andThen_ok,Sem.run_pure];rfl
  ·rw [hb (by omega)] at e;injection e with e;injection e with e1 e2;subst e1;subst e2;exact hA' hlt
end
section
variable {P:Program} {o:Oper} {s:Mst}
theorem aO {x:Operand} {k off:Nat} (ho:o.op = .nilCheck x) (hx:s.ev x = .c (.ptr k off)):LOp P o s [] ⟨.c (.ptr k off),[],[]⟩ :=
 bp fun c st ρ a w hr h1 _=>by
  have he:=h1 x (by simp [ho,Op.operands]);rw [hx] at he;have hv:=hr.ev x;rw [he] at hv;obtain ⟨g,hg,hv⟩:=hv;exact ⟨_,by unfold execOp;rw [ho];simp only [hv];rfl,⟨g,hg,rfl⟩,fun k' hk=>hr.nf (x:=x) he hk⟩
theorem fE {w:World} {e:TypeId} {n g len cap:Nat} {xs:List Value} (h:w.ownsRow 0 e n (.slice (some ⟨g,0,none⟩) len cap) len xs) {j:Nat} (hj:j<xs.length):(w.cell? ⟨g,j,none⟩).isSome=true∧w.frozen? ⟨g,j,none⟩=false:=by
 rcases h.2 with ⟨hv,_⟩|⟨g',cap',cur,hv,_,hh,hnc,hcm,hcs,ht⟩
 ·cases hv
 ·injection hv with e1 _ e2;injection e1 with e1;injection e1 with e1;subst e1;subst e2;have hl:j<cur.size:=by
   have:=congrArg List.length ht;simp only [List.length_take,Array.length_toList] at this;omega
  rw [cell_of_row w g j cur e (0,0) hh];exact ⟨by simp [hl],by simp [World.frozen?,hh]⟩
theorem aq {t e:TypeId} {x y:Operand} {row:Bool} {n m i k off:Nat} {α:Type} {E:El α} {l l':List α} {u z:α} {ds:List D} [I:TI P t row n] [J:Dp E] (ho:o.op = .store t x y) (hx:s.ev x = .c (.optr k m i off)) (hk:s.h k=some (.arr e E l)) (hm:E.n=m) (hu:l[i]? = some u)
  (hd:(s.ev y).cells=some ds) (hok:ds.all (okD s.h)=true) (hno:gG ds=[]) (hn:ds.length=n) (hl:off+n≤m) (hz:(J.deep u).take off++ds++(J.deep u).drop (off+n)=J.deep z) (hl':l.set i z=l'):LOp P o s [k] ⟨.c .any,[(k,some (.arr e E l'))],[]⟩:=by
 intro c st ρ a w hr h1 h2 _ h4;subst hl';subst hm;have he:=h1 x (by simp [ho,Op.operands]);have he2:=h1 y (by simp [ho,Op.operands]);rw [hx] at he;rw [←he2] at hd;have hv:=hr.ev x;rw [he] at hv;obtain ⟨g,len,cap,hg,hv⟩:=hv;have hk':=(h2 k (by simp [aK])).trans hk;have hil:i<l.length:=(List.getElem?_eq_some_iff.1 hu).1;have hui:l[i]=u:=by rw [List.getElem?_eq_getElem hil] at hu;exact Option.some.inj hu
 obtain ⟨xs,hown,hreps⟩:=hr.hp k _ hk';have hown0:=hown;rw [hg] at hown;obtain rfl:len=l.length:=by
  rcases hown.2 with ⟨hv,_⟩|⟨g',cap',cur,hv,_⟩
  ·cases hv
  ·injection hv
 obtain ⟨hc1,hc2⟩:=TV.cells_rep (hr.ev y) hd fun q hq u hu=>hr.okD (gZ (List.all_eq_true.1 hok q hq) fun j hj=>by have:=fv (hj▸hq);rw [hno] at this;simp [aK] at this) hu;generalize hvs:(a.eval y).cells.toList=vs at *
 have hsz:vs.length=n:=by rw [←hc1.length,hn]
 have hxl:=hown.1;have hin:i*E.n+E.n≤l.length*E.n:=by have:=Nat.mul_le_mul_right E.n (show i+1≤l.length from hil);rwa [Nat.add_mul,Nat.one_mul] at this
 have hst:=run_storeCells_cells (P:=P) g (i*E.n+off) vs 0 w (fun j hj=>by have:=(fE hown (j:=i*E.n+off+j) (by omega)).1;simpa using this) (fun j hj=>by have:=(fE hown (j:=i*E.n+off+j) (by omega)).2;simpa using this) hc2;simp only [Nat.add_zero] at hst;obtain ⟨cs,hcs1,hcs2⟩:=hreps.get i hil;have hcl:=E.len hcs1;rw [hui] at hcs1;have hcs:cs=(xs.drop (i*E.n)).take E.n:=by
  apply List.ext_getElem?
  intro j;rw [List.getElem?_take];by_cases hj:j<E.n
  ·rw [if_pos hj,List.getElem?_drop,hcs2 j hj]
  ·rw [if_neg hj,List.getElem?_eq_none (by omega)]
 have hz':E.rep w (Fz c st.h ρ w) z (cs.take off++vs++cs.drop (off+n)):=J.put (ρ:=ρ) (by rw [←hz];exact (((J.get hcs1).take off).append hc1).append ((J.get hcs1).drop (off+n)));have hrow:=fp vs (i*E.n+off) w xs hown (by omega);rw [qM (n:=E.n) (by omega) hcs (by omega),hsz] at hrow;have hkb:kb (ρ k)=some g:=by rw [hg];rfl
 have hsize:=bO (g:=g) vs (i*E.n+off) w;have hoth:∀b,b≠g→(w.setCells g (i*E.n+off) vs).heap[b]? = w.heap[b]?:=fun b hb=>bM vs _ w b hb;have hbel:=de (B:=0) (w:=w) (Nat.zero_le g) vs (i*E.n+off) w (Below.refl _ _);have hkk:∀k':Nat,aA [(k,some (Box.arr e E (l.set i z)))] k'=true→k'=k:=fun k' h=>by
  simp only [aA,Bool.or_false] at h;exact (Nat.eq_of_beq_eq_true h).symm
 have hfz:∀b,Fz c st.h ρ w b→Fz c (hput [(k,some (Box.arr e E (l.set i z)))] st.h) ρ (w.setCells g (i*E.n+off) vs) b∧(w.setCells g (i*E.n+off) vs).heap[b]? = w.heap[b]?:=fun b ⟨f1,f2,f3⟩=>by
  have hbg:b≠g:=fun e=>f3 k _ hk' (by rw [hkb,e]);refine ⟨⟨f1,by rw [hsize];exact f2,fun k' bx hk2=>?_⟩,hoth b hbg⟩;simp only [hput] at hk2;cases h9:k.beq k' with
  | true=>rw [←Nat.eq_of_beq_eq_true h9,hkb];intro e;injection e with e;exact hbg e.symm
  | false=>rw [h9] at hk2;exact f3 k' bx hk2
 refine Oper.wp_skip (w':=w.setCells g (i*E.n+off) vs) ?_ ⟨ρ,hr.app (e:=⟨.c .any,[(k,some (.arr e E (l.set i z)))],[]⟩) h4 (fun k h=>by simp [aK] at h) (fun _ _=>rfl) (fun k' h=>.inr (by rw [hkk k' h];exact hr.nfh hk')) ⟨hbel.os,hbel.tape,hbel.output,hbel.size,fun b hlt hn=>hoth b fun e=>hn ⟨k,_,by simp [aA],hk',by rw [hkb,e]⟩⟩ ?_ ?_ (fun k h=>by simp [TV.has,V0.has,D.has] at h) ?_ ?_ trivial⟩
 ·unfold execOp;rw [ho];have hi:=I.s;cases hq:P.info? t with
  | none=>simp [hq] at hi
  | some ti =>
   have hs:(a.eval y).cells.size=ti.size:=by
    simp [hq] at hi;rw [←Array.length_toList,hvs];omega
   simp only [hv,Instr.storeAt,Instr.sureAddr,Sem.run_bind,Sem.run_pure,Result.andThen_ok];have h3:(storeVar t ⟨g,i*E.n+off,none⟩ (a.eval y)).run P w = .ok () (w.setCells g (i*E.n+off) vs):=by
    simp [storeVar,sizeOf,typeInfo,hq,hs,hvs,hst]
   rw [h3];rfl
 ·intro k' bx g' h _ hg';rw [hkk k' h,hkb] at hg';injection hg' with hg';subst hg';exact ⟨by rw [hsize];exact hr.ltb hk' hkb,.inr ⟨k,_,by simp [aA],hk',hkb⟩⟩
 ·intro k1 k2 _ _ _ h h' _ _ _ _;rw [hkk k1 h,hkk k2 h']
 ·intro k1 k2 bx h hp hx;rw [hkk k2 h] at hp;simp only [hput,Nat.beq_refl,cond_true,Option.some.injEq] at hp;subst hp;simp [Box.has] at hx
 ·intro k2 bx h hp;rw [hkk k2 h] at hp ⊢;simp only [hput,Nat.beq_refl,cond_true,Option.some.injEq] at hp;subst hp;refine ⟨_,by rw [List.length_set,hg];exact hrow,?_⟩;exact (Reps.set hreps hz' hil).same (fun b hb=>(hfz b hb).2) fun b hb=>(hfz b hb).1
end
section
variable {P:Program} {nt:Nat} {Ks:List Nat} {Q:Exit→Mst→Prop} {s:Mst} {K:Mst→Prop} {ops:Array Oper}
def DA (P:Program) (ops:Array Oper) (draw:Bool) (l:List Oper) (acc:List (List Nat×List Nat)) (s:Mst) (K:Mst→Prop):Prop :=
 ∃fps,DW P ops l fps s K∧(draw=true→nu ops (acc.reverse++fps) ops.size 0 (Array.replicate ops.size false)=true)
theorem Ig {acc:List (List Nat×List Nat)} (h:K s):DA P ops false [] acc s K:=⟨[],h,fun h=>by cases h⟩
theorem FJ {acc:List (List Nat×List Nat)} (hB:nu ops acc.reverse ops.size 0 (Array.replicate ops.size false)=true) (h:K s):DA P ops true [] acc s K:=⟨[],h,fun _=>by simpa using hB⟩
theorem C0 {draw:Bool} {o:Oper} {l:List Oper} {acc:List (List Nat×List Nat)} {R:List Nat} {e:Mef} (he:LOp P o s R e) (hg:s.gd ops o=some true) (hf:e.us.all s.f=true) (h:DA P ops draw l ((R,av e.hs) :: acc) (s.app o.dst e) K):DA P ops draw (o :: l) acc s K:=by
 obtain ⟨fps,h1,h2⟩:=h;refine ⟨(R,av e.hs) :: fps,⟨R,av e.hs,fps,rfl,true,hg,fun _=>⟨e,⟨he,fun k hk=>by rw [←iY];exact hk,fun k hk=>jy hf k hk⟩,h1⟩,fun h=>by cases h⟩,fun hd=>by simpa using h2 hd⟩
theorem aL {P:Prop} (h:P:=by (try simp only [List.length_cons,List.length_nil,List.length_append,List.length_take,List.length_drop,List.length_map,maxLen]);omega):P:=h
theorem aV {draw:Bool} {o:Oper} {l:List Oper} {acc:List (List Nat×List Nat)} {R us:List Nat} {t:Nat} {d:TV} {hs:List (Nat×Option Box)} (he:LOp P o s R ⟨d,hs,us⟩) (hd:o.dst=some t) (hg:s.gd ops o=some true) (hf:us.all s.f=true) (h:DA P ops draw l ((R,av hs) :: acc) (s.app (some t) ⟨d,hs,us⟩) K):DA P ops draw (o :: l) acc s K :=
 C0 he hg hf (by rw [hd];exact h)
theorem aR {draw:Bool} {o:Oper} {l:List Oper} {acc:List (List Nat×List Nat)} {R us:List Nat} {d:TV} {hs:List (Nat×Option Box)} (he:LOp P o s R ⟨d,hs,us⟩) (hd:o.dst=none) (hg:s.gd ops o=some true) (hf:us.all s.f=true) (h:DA P ops draw l ((R,av hs) :: acc) (s.app none ⟨d,hs,us⟩) K):DA P ops draw (o :: l) acc s K :=
 C0 he hg hf (by rw [hd];exact h)
theorem FK {draw:Bool} {o:Oper} {l:List Oper} {acc:List (List Nat×List Nat)} {t:Nat} (hd:o.dst=some t) (hg:s.gd ops o=some false) (h:DA P ops draw l (([],[]) :: acc) (s.app (some t) ⟨.c (.sc undef),[],[]⟩) K):DA P ops draw (o :: l) acc s K:=by
 obtain ⟨fps,h3,h4⟩:=h;exact ⟨([],[]) :: fps,⟨[],[],fps,rfl,false,hg,fun h=>(by cases h),fun _=>by rw [hd];exact h3⟩,fun hd=>by simpa using h4 hd⟩
theorem Jz {id:Nat} {l:List Oper} (hnt:ie nt l=true) (h:DA P l.toArray false l [] s fun s'=>Q .normal s'):AW P nt Ks (.region id l.toArray false) Q s:=by
 obtain ⟨fps,h1,_⟩:=h;exact A6 hnt h1
theorem G6 {id:Nat} {l:List Oper} (hm:P.follows .mixedOrders=true) (hnt:ie nt l=true) (h:DA P l.toArray true l [] s fun s'=>Q .normal s'):AW P nt Ks (.region id l.toArray true) Q s:=by
 obtain ⟨fps,h1,h2⟩:=h;exact qG hm hnt h1 (by simpa using h2 rfl)
theorem JA {id:Nat} {l:List Oper} {y:Code} (hnt:ie nt l=true) (h:DA P l.toArray false l [] s fun s'=>AW P nt Ks y Q s'):AW P nt Ks (.seq (.region id l.toArray false) y) Q s:=qJ (Jz hnt h)
theorem Ih {id:Nat} {l:List Oper} {y:Code} (hm:P.follows .mixedOrders=true) (hnt:ie nt l=true) (h:DA P l.toArray true l [] s fun s'=>AW P nt Ks y Q s'):AW P nt Ks (.seq (.region id l.toArray true) y) Q s:=qJ (G6 hm hnt h)
theorem KL {i:Nat} (h:Q .normal s):fM i Q (.exit i) s:=by simpa [fM] using h
theorem KM {i j:Nat} (hj:j.beq i=false) (h:Q (.exit j) s):fM i Q (.exit j) s:=by simpa [fM,hj] using h
theorem KP {fn:Func} {t:Nat} {x:V0} {res:TV} {e:Exit} (he:e = .normal∨e = .ret) (hr:fn.results.toList=[.tmp t]) (hx:s.t t = .v x) (h:TVLe s (qf []) (fun j=>∀k:Nat,hput [] (fun _=>none) k≠none→qf [] k≠j) (.v x) res):vN P fn [] res [] e s :=
 qL he [x] (qf []) (by rw [hr];exact ⟨.tmp hx,trivial⟩) rfl rfl trivial h
theorem Ii {fn:Func} {hin:List (Nat×Box)} {r1:ResultVar} {x1:V0} {res:TV} {hout:List (Nat×Option Box)} {e:Exit} (q:Nat→Nat) (he:e = .normal∨e = .ret) (hr:fn.results.toList=[r1]) (h1:RV P s r1 x1) (hq:(av hin).all (fun k=>(q k).beq k)=true) (hn:eD ((av (hout.filter fun x=>x.2.isSome)).map q)=true) (hh:pT s q (fun j=>∀k,hput hout (fun _=>none) k≠none→q k≠j) hout)
  (h:TVLe s q (fun j=>∀k,hput hout (fun _=>none) k≠none→q k≠j) (.v x1) res):vN P fn hin res hout e s:=qL he [x1] q (by rw [hr];exact ⟨h1,trivial⟩) hq hn hh h
theorem Ij {fn:Func} {hin:List (Nat×Box)} {r1 r2:ResultVar} {x1 x2:V0} {res:TV} {hout:List (Nat×Option Box)} {e:Exit} (q:Nat→Nat) (he:e = .normal∨e = .ret) (hr:fn.results.toList=[r1,r2]) (h1:RV P s r1 x1) (h2:RV P s r2 x2) (hq:(av hin).all (fun k=>(q k).beq k)=true) (hn:eD ((av (hout.filter fun x=>x.2.isSome)).map q)=true) (hh:pT s q (fun j=>∀k,hput hout (fun _=>none) k≠none→q k≠j) hout)
  (h:TVLe s q (fun j=>∀k,hput hout (fun _=>none) k≠none→q k≠j) (.tup [x1,x2]) res):vN P fn hin res hout e s:=qL he [x1,x2] q (by rw [hr];exact ⟨h1,h2,trivial⟩) hq hn hh h
theorem Ik {fn:Func} {hin:List (Nat×Box)} {r1 r2 r3:ResultVar} {x1 x2 x3:V0} {res:TV} {hout:List (Nat×Option Box)} {e:Exit} (q:Nat→Nat) (he:e = .normal∨e = .ret) (hr:fn.results.toList=[r1,r2,r3]) (h1:RV P s r1 x1) (h2:RV P s r2 x2) (h3:RV P s r3 x3) (hq:(av hin).all (fun k=>(q k).beq k)=true) (hn:eD ((av (hout.filter fun x=>x.2.isSome)).map q)=true) (hh:pT s q (fun j=>∀k,hput hout (fun _=>none) k≠none→q k≠j) hout)
  (h:TVLe s q (fun j=>∀k,hput hout (fun _=>none) k≠none→q k≠j) (.tup [x1,x2,x3]) res):vN P fn hin res hout e s:=qL he [x1,x2,x3] q (by rw [hr];exact ⟨h1,h2,h3,trivial⟩) hq hn hh h
theorem Il {fn:Func} {hin:List (Nat×Box)} {hout:List (Nat×Option Box)} {e:Exit} (q:Nat→Nat) (he:e = .normal∨e = .ret) (hr:fn.results.toList=[]) (hq:(av hin).all (fun k=>(q k).beq k)=true) (hn:eD ((av (hout.filter fun x=>x.2.isSome)).map q)=true) (hh:pT s q (fun j=>∀k,hput hout (fun _=>none) k≠none→q k≠j) hout):vN P fn hin (.tup []) hout e s:=qL he [] q (by rw [hr];trivial) hq hn hh (.tup trivial)
theorem yx {fn:Func} {t:Nat} {v v':Value} {e:Exit} (he:e = .normal∨e = .ret) (hr:fn.results.toList=[.tmp t]) (hx:s.t t = .c (.sc v)) (h:v=v'):vN P fn [] (.c (.sc v')) [] e s :=
 KP he hr hx (by subst h;exact .v (.one (.ren (.sc v))))
theorem Im {q:Nat→Nat} {g:Nat→Prop}:∀(l:List D),All2 (DLe s q g) (l.map (D.ren q)) l
 | []=>trivial
 | d :: l=>⟨.ren d,Im l⟩
theorem G7 {q:Nat→Nat} {g:Nat→Prop} (d:V0):V0Le s q g (d.ren q) d:=by
 cases d with
 | one d=>exact .one (.ren d)
 | ag l=>exact .ag (Im l)
theorem JB {q:Nat→Nat} {g:Nat→Prop} (d:TV):TVLe s q g (d.ren q) d:=by
 cases d with
 | v d=>exact .v (G7 d)
 | tup l =>
  refine .tup ?_;induction l with
  | nil=>trivial
  | cons d l ih=>exact ⟨G7 d,ih⟩
theorem Io {q:Nat→Nat} {g:Nat→Prop} (b:Box):BoxLe s q g (b.ren q) b:=by
 cases b with
 | box t l=>exact .box t (Im l)
 | arr e E l=>exact .arr e E l
 | mp l=>exact .mp l
 | it k n l=>exact .it k n l
theorem eZ {q:Nat→Nat} {g:Nat→Prop} {d0 d:D} (h:d0=d.ren q):DLe s q g d0 d:=h▸.ren d
theorem fa {hout:List (Nat×Option Box)} {q:Nat→Nat} {j:Nat} (h:aK ((av (hout.filter fun x=>x.2.isSome)).map q) j=false):∀k,hput hout (fun _=>none) k≠none→q k≠j:=fun k hk e=>by
 cases h9:hput hout (fun _=>none) k with
 | none=>exact hk h9
 | some b =>
  have:aK ((av (hout.filter fun x=>x.2.isSome)).map q) j=true:=by rw [bC,←e];exact List.mem_map.2 ⟨k,bC.1 (by rw [bC];exact List.mem_map.2 ⟨(k,some b),List.mem_filter.2 ⟨nz h9,rfl⟩,rfl⟩),rfl⟩
  rw [this] at h;cases h
theorem gq {q:Nat→Nat} {g:Nat→Prop} {b0 b:Box} (h:b0=b.ren q):BoxLe s q g b0 b:=h▸Io b
theorem jA {q:Nat→Nat} {g:Nat→Prop} {d0 d:TV} (h:d0=d.ren q):TVLe s q g d0 d:=h▸JB d
theorem C4 {w:World} {F:Nat→Prop} {ρ:Nat→Value} {d:D} {v:Value} (h:d.rep w F ρ v) {α:Type} {E:El α} {l:List α} (hd:d = .sl E l):l.length≤9223372036854775807:=by
 subst hd;obtain ⟨A,cap,_,h1,_⟩:=h;have:=h1.2;simp only [maxLen] at this;omega
theorem bz {c:Ctx} {ρ:Nat→Value} {a:Act} {w:World} (hr:Rp c s ρ a w) {t:Nat} {α:Type} {E:El α} {l:List α} (h:s.t t = .c (.sl E l)):l.length≤9223372036854775807:=by
 have h1:=hr.tmp t;rw [h] at h1;have h1:(D.sl E l).rep w (Fz c s.h ρ w) ρ (a.tmps.getD t undef):=h1;exact C4 h1 rfl
theorem dj {c:Ctx} {ρ:Nat→Value} {a:Act} {w:World} (hr:Rp c s ρ a w) {t i:Nat} {cs:List D} {α:Type} {E:El α} {l:List α} (h:s.t t = .v (.ag cs)) (hi:cs[i]? = some (.sl E l)):l.length≤9223372036854775807:=by
 have:=hr.tmp t;rw [h] at this;obtain ⟨vs,_,h2⟩:=this;obtain ⟨v,_,h3⟩:=h2.get hi;exact C4 h3 rfl
end
section
variable {P:Program}
def Lz (P:Program) (t:TypeId):Option (Bool×Nat) :=
 match P.underlying t,P.info? t with
 | some d,some i=>some ((match d with | .struct _ | .array _ _=>true|_=>false),i.size)
 | _,_=>none
theorem TI.of {t n:Nat} {row:Bool} (h:Lz P t=some (row,n)):TI P t row n:=by
 unfold Lz at h;split at h
 ·rename_i d i h1 h2
  injection h with h;injection h with e1 e2;exact ⟨⟨d,h1,e1⟩,by rw [h2];simp [e2]⟩
 ·cases h
def LA (P:Program) (t:TypeId) (f:Nat):Option (Nat×Nat×Bool) :=
 match P.underlying t with
 | some (.struct fs)=>match fs[f]? with
  | some x=>match P.info? x.type with
   | some i=>some (x.offset,x.type,Nat.beq i.size 0)
   | none=>none
  | none=>none
 | _=>none
theorem FO.of {t f off ft:Nat} (h:LA P t f=some (off,ft,false)):FO P t f off ft:=by
 unfold LA at h;split at h
 ·rename_i fs h1
  split at h
  ·rename_i x h2
   split at h
   ·rename_i i h3
    injection h with h;injection h with e1 h;injection h with e2 e3;subst e1;subst e2;refine ⟨⟨fs,x,i,h1,h2,rfl,rfl,h3,fun e=>?_⟩⟩;rw [e] at e3;cases e3
   ·cases h
  ·cases h
 ·cases h
def Kz (P:Program) (t:TypeId):Option (List Value×Nat) :=
 match P.info? t with
 | some i=>match i.zero with
  | some v=>some (v.cells.toList,i.size)
  | none=>none
 | none=>none
theorem TZ.of {t:Nat} {zs:List Value} (h:Kz P t=some (zs,zs.length)) (ho:zs.all (·.oneCell')=true):TZ P t zs:=by
 unfold Kz at h;split at h
 ·rename_i i h1
  split at h
  ·rename_i v h2
   injection h with h;injection h with e1 e2;exact ⟨⟨i,v,h1,h2,by rw [←e1]⟩,fun u hu=>List.all_eq_true.1 ho u hu,by rw [h1];simp [e2]⟩
  ·cases h
 ·cases h
def LB (P:Program) (t:TypeId):Option (List (Nat×Option Nat)) :=
 match P.underlying t with
 | some (.struct fs)=>some (fs.toList.map fun f=>(f.offset,(P.info? f.type).map (·.size)))
 | _=>none
theorem SP.of {t:Nat} {zs:List Value} {pl:List (Nat×Nat)} (hz:Kz P t=some (zs,zs.length)) (h:LB P t=some (pl.map fun x=>(x.1,some x.2))):SP P t zs pl:=by
 unfold Kz at hz;split at hz
 ·rename_i i h1
  split at hz
  ·rename_i v h2
   injection hz with hz;injection hz with e1 e2;refine ⟨⟨i,v,h1,h2,by rw [←e1]⟩,?_⟩;unfold LB at h;split at h
   ·rename_i fs h3
    have h:=Option.some.inj h;refine ⟨fs,h3,fun w=>?_⟩;rw [Array.mapM_eq_mapM_toList,map_eq_pure_bind];have key:∀(l:List Field) (pl:List (Nat×Nat)),l.map (fun f=>(f.offset,(P.info? f.type).map (·.size)))=pl.map (fun x=>(x.1,some x.2))→((l.mapM fun f=>do pure (f.offset,←sizeOf f.type)):Sem (List (Nat×Nat))).run P w = .ok pl w:=by
     intro l;induction l with
     | nil=>intro pl h;cases pl with
      | nil=>rfl
      | cons=>simp at h
     | cons f l ih =>
      intro pl h;cases pl with
      | nil=>simp at h
      | cons x pl =>
       simp only [List.map_cons,List.cons.injEq,Prod.mk.injEq] at h;obtain ⟨⟨e3,e4⟩,e5⟩:=h;cases hq:P.info? f.type with
       | none=>rw [hq] at e4;cases e4
       | some j =>
        rw [hq] at e4;simp only [Option.map_some,Option.some.injEq] at e4;have:=ih pl e5;simp [List.mapM_cons,sizeOf,typeInfo,hq,e4,e3] at this ⊢;simp [this]
    simp only [Sem.run_bind,key _ _ h,Result.andThen_ok,Sem.run_pure]
   ·cases h
  ·cases hz
 ·cases hz
theorem FL {o:Oper} {s:Mst} {t:TypeId} {k:Nat} {x:Operand} {ds:List D} (ho:o.op = .box t x) (hdk:o.dst=some k) (hd:(s.ev x).cells=some ds) (hok:ds.all (okD s.h)=true):LOp P o s (gG ds) ⟨.c (.ptr k 0),[(k,some (.box t ds))],[k]⟩:=by
 intro c st ρ a w hr h1 h2 h3 h4;have he:=h1 x (by simp [ho,Op.operands]);rw [←he] at hd;obtain ⟨hc1,hc2⟩:=TV.cells_rep (hr.ev x) hd fun z hz u hu=>hr.okD (gZ (List.all_eq_true.1 hok z hz) fun j hj=>h2 j (by subst hj;exact fv hz)) hu;obtain ⟨ρ',h⟩:=hr.newBox (k:=k) (t:=t) (cs:=ds) (vs:=(a.eval x).cells.toList) (d:=.c (.ptr k 0)) (v:=.pointer (some ⟨w.heap.size,0,none⟩)) h4 (h3 k (by simp [aK])) hc1 hc2
  (fun k' hh=>by
   obtain ⟨z,hz,hk⟩:=List.any_eq_true.1 hh;refine hr.nf (x:=x) rfl ?_;generalize st.ev x=q at *
   unfold TV.cells at hd;split at hd
   ·injection hd with hd;subst hd;simp at hz;subst hz;exact hk
   ·injection hd with hd;subst hd;simp only [TV.has,V0.has];exact List.any_eq_true.2 ⟨z,hz,hk⟩
   ·cases hd) (fun k' hh=>by simp [TV.has,V0.has,D.has] at hh;exact hh.symm) (fun F ρ' hρ=>⟨_,hρ,rfl⟩)
 exact Oper.wp_value (by unfold execOp;rw [ho];simp [Instr.box,newVar,newRow,run_newObj_alloc]) ⟨ρ',h⟩
end
instance:TI prog 1 false 1:=.of (by kernel_rfl)
instance:TZ prog 1 [.nilFunc]:=.of (by kernel_rfl) rfl
instance:TI prog 3 false 1:=.of (by kernel_rfl)
instance:TZ prog 3 [.int .i64 0]:=.of (by kernel_rfl) rfl
instance:TI prog 4 false 1:=.of (by kernel_rfl)
instance:TZ prog 4 [.bool false]:=.of (by kernel_rfl) rfl
instance:TI prog 9 false 1:=.of (by kernel_rfl)
instance:TZ prog 9 [.string { data:=#[] }]:=.of (by kernel_rfl) rfl
instance:TI prog 22 false 1:=.of (by kernel_rfl)
instance:SE prog 22 55:=⟨underlying22⟩
instance:TZ prog 22 [.slice none 0 0]:=.of (by kernel_rfl) rfl
instance:TI prog 23 false 1:=.of (by kernel_rfl)
instance:SE prog 23 81:=⟨underlying23⟩
instance:TZ prog 23 [.slice none 0 0]:=.of (by kernel_rfl) rfl
instance:TI prog 24 false 1:=.of (by kernel_rfl)
instance:SE prog 24 63:=⟨underlying24⟩
instance:TZ prog 24 [.slice none 0 0]:=.of (by kernel_rfl) rfl
instance:TI prog 26 true 3:=.of (by kernel_rfl)
instance:TZ prog 26 [.int .i64 0,.slice none 0 0,.slice none 0 0]:=.of (by kernel_rfl) rfl
instance:SP prog 26 [.int .i64 0,.slice none 0 0,.slice none 0 0] [(0,1),(1,1),(2,1)]:=.of (by kernel_rfl) (by kernel_rfl)
instance:FO prog 26 0 0 3:=.of (by kernel_rfl)
instance:FO prog 26 1 1 23:=.of (by kernel_rfl)
instance:FO prog 26 2 2 24:=.of (by kernel_rfl)
instance:TI prog 35 true 3:=.of (by kernel_rfl)
instance:TZ prog 35 [.int .i64 0,.int .i64 0,.int .i64 0]:=.of (by kernel_rfl) rfl
instance:SP prog 35 [.int .i64 0,.int .i64 0,.int .i64 0] [(0,1),(1,1),(2,1)]:=.of (by kernel_rfl) (by kernel_rfl)
instance:FO prog 35 0 0 3:=.of (by kernel_rfl)
instance:FO prog 35 1 1 3:=.of (by kernel_rfl)
instance:FO prog 35 2 2 3:=.of (by kernel_rfl)
instance:TI prog 37 true 2:=.of (by kernel_rfl)
instance:TZ prog 37 [.int .i64 0,.int .i64 0]:=.of (by kernel_rfl) rfl
instance:SP prog 37 [.int .i64 0,.int .i64 0] [(0,1),(1,1)]:=.of (by kernel_rfl) (by kernel_rfl)
instance:FO prog 37 0 0 3:=.of (by kernel_rfl)
instance:FO prog 37 1 1 3:=.of (by kernel_rfl)
instance:TI prog 39 true 3:=.of (by kernel_rfl)
instance:TZ prog 39 [.string { data:=#[] },.int .i64 0,.int .i64 0]:=.of (by kernel_rfl) rfl
instance:SP prog 39 [.string { data:=#[] },.int .i64 0,.int .i64 0] [(0,1),(1,2)]:=.of (by kernel_rfl) (by kernel_rfl)
instance:FO prog 39 0 0 9:=.of (by kernel_rfl)
instance:FO prog 39 1 1 37:=.of (by kernel_rfl)
instance:TI prog 40 false 1:=.of (by kernel_rfl)
instance:SE prog 40 42:=⟨underlying40⟩
instance:TZ prog 40 [.slice none 0 0]:=.of (by kernel_rfl) rfl
instance:TI prog 42 true 5:=.of (by kernel_rfl)
instance:TZ prog 42 [.int .i64 0,.string { data:=#[] },.int .i64 0,.int .i64 0,.slice none 0 0]:=.of (by kernel_rfl) rfl
instance:SP prog 42 [.int .i64 0,.string { data:=#[] },.int .i64 0,.int .i64 0,.slice none 0 0] [(0,1),(1,3),(4,1)]:=.of (by kernel_rfl) (by kernel_rfl)
instance:FO prog 42 0 0 3:=.of (by kernel_rfl)
instance:FO prog 42 1 1 39:=.of (by kernel_rfl)
instance:FO prog 42 2 4 40:=.of (by kernel_rfl)
instance:TI prog 44 true 7:=.of (by kernel_rfl)
instance:TZ prog 44 [.int .i64 0,.string { data:=#[] },.int .i64 0,.int .i64 0,.slice none 0 0,.int .i64 0,.int .i64 0]:=.of (by kernel_rfl) rfl
instance:SP prog 44 [.int .i64 0,.string { data:=#[] },.int .i64 0,.int .i64 0,.slice none 0 0,.int .i64 0,.int .i64 0] [(0,5),(5,1),(6,1)]:=.of (by kernel_rfl) (by kernel_rfl)
instance:FO prog 44 0 0 42:=.of (by kernel_rfl)
instance:FO prog 44 1 5 3:=.of (by kernel_rfl)
instance:FO prog 44 2 6 3:=.of (by kernel_rfl)
instance:TI prog 46 true 13:=.of (by kernel_rfl)
instance:TZ prog 46 [.int .i64 0,.int .i64 0,.int .i64 0,.int .i64 0,.int .i64 0,.string { data:=#[] },.int .i64 0,.int .i64 0,.slice none 0 0,.int .i64 0,.int .i64 0,.string { data:=#[] },.int .i64 0]:=.of (by kernel_rfl) rfl
instance:SP prog 46 [.int .i64 0,.int .i64 0,.int .i64 0,.int .i64 0,.int .i64 0,.string { data:=#[] },.int .i64 0,.int .i64 0,.slice none 0 0,.int .i64 0,.int .i64 0,.string { data:=#[] },.int .i64 0] [(0,1),(1,3),(4,7),(11,1),(12,1)]:=.of (by kernel_rfl) (by kernel_rfl)
instance:FO prog 46 0 0 3:=.of (by kernel_rfl)
instance:FO prog 46 1 1 35:=.of (by kernel_rfl)
instance:FO prog 46 2 4 44:=.of (by kernel_rfl)
instance:FO prog 46 3 11 9:=.of (by kernel_rfl)
instance:FO prog 46 4 12 3:=.of (by kernel_rfl)
instance:TI prog 47 false 1:=.of (by kernel_rfl)
instance:SE prog 47 67:=⟨underlying47⟩
instance:TZ prog 47 [.slice none 0 0]:=.of (by kernel_rfl) rfl
instance:TI prog 55 true 4:=.of (by kernel_rfl)
instance:TZ prog 55 [.string { data:=#[] },.int .i64 0,.int .i64 0,.int .i64 0]:=.of (by kernel_rfl) rfl
instance:SP prog 55 [.string { data:=#[] },.int .i64 0,.int .i64 0,.int .i64 0] [(0,1),(1,1),(2,1),(3,1)]:=.of (by kernel_rfl) (by kernel_rfl)
instance:FO prog 55 0 0 9:=.of (by kernel_rfl)
instance:FO prog 55 1 1 3:=.of (by kernel_rfl)
instance:FO prog 55 2 2 3:=.of (by kernel_rfl)
instance:FO prog 55 3 3 3:=.of (by kernel_rfl)
instance:TI prog 58 false 1:=.of (by kernel_rfl)
instance:SE prog 58 141:=⟨underlying58⟩
instance:TZ prog 58 [.slice none 0 0]:=.of (by kernel_rfl) rfl
instance:TI prog 59 false 1:=.of (by kernel_rfl)
instance:SE prog 59 143:=⟨underlying59⟩
instance:TZ prog 59 [.slice none 0 0]:=.of (by kernel_rfl) rfl
instance:TI prog 61 true 2:=.of (by kernel_rfl)
instance:TZ prog 61 [.slice none 0 0,.slice none 0 0]:=.of (by kernel_rfl) rfl
instance:SP prog 61 [.slice none 0 0,.slice none 0 0] [(0,1),(1,1)]:=.of (by kernel_rfl) (by kernel_rfl)
instance:FO prog 61 0 0 58:=.of (by kernel_rfl)
instance:FO prog 61 1 1 59:=.of (by kernel_rfl)
instance:TI prog 63 true 16:=.of (by kernel_rfl)
instance:TZ prog 63 [.int .i64 0,.int .i64 0,.int .i64 0,.int .i64 0,.slice none 0 0,.slice none 0 0,.bool false,.int .i64 0,.string { data:=#[] },.int .i64 0,.int .i64 0,.slice none 0 0,.int .i64 0,.int .i64 0,.int .i64 0,.int .i64 0]:=.of (by kernel_rfl) rfl
instance:SP prog 63 [.int .i64 0,.int .i64 0,.int .i64 0,.int .i64 0,.slice none 0 0,.slice none 0 0,.bool false,.int .i64 0,.string { data:=#[] },.int .i64 0,.int .i64 0,.slice none 0 0,.int .i64 0,.int .i64 0,.int .i64 0,.int .i64 0] [(0,3),(3,1),(4,2),(6,1),(7,7),(14,1),(15,1)]:=.of (by kernel_rfl) (by kernel_rfl)
instance:FO prog 63 0 0 35:=.of (by kernel_rfl)
instance:FO prog 63 1 3 3:=.of (by kernel_rfl)
instance:FO prog 63 2 4 61:=.of (by kernel_rfl)
instance:FO prog 63 3 6 4:=.of (by kernel_rfl)
instance:FO prog 63 4 7 44:=.of (by kernel_rfl)
instance:FO prog 63 5 14 3:=.of (by kernel_rfl)
instance:FO prog 63 6 15 3:=.of (by kernel_rfl)
instance:TI prog 67 true 7:=.of (by kernel_rfl)
instance:TZ prog 67 [.int .i64 0,.int .i64 0,.int .i64 0,.int .i64 0,.string { data:=#[] },.int .i64 0,.int .i64 0]:=.of (by kernel_rfl) rfl
instance:SP prog 67 [.int .i64 0,.int .i64 0,.int .i64 0,.int .i64 0,.string { data:=#[] },.int .i64 0,.int .i64 0] [(0,1),(1,3),(4,1),(5,2)]:=.of (by kernel_rfl) (by kernel_rfl)
instance:FO prog 67 0 0 3:=.of (by kernel_rfl)
instance:FO prog 67 1 1 35:=.of (by kernel_rfl)
instance:FO prog 67 2 4 9:=.of (by kernel_rfl)
instance:FO prog 67 3 5 37:=.of (by kernel_rfl)
instance:TI prog 68 false 1:=.of (by kernel_rfl)
instance:SE prog 68 4:=⟨underlying68⟩
instance:TZ prog 68 [.slice none 0 0]:=.of (by kernel_rfl) rfl
instance:TI prog 75 false 1:=.of (by kernel_rfl)
instance:SE prog 75 35:=⟨underlying75⟩
instance:TZ prog 75 [.slice none 0 0]:=.of (by kernel_rfl) rfl
instance:TI prog 78 false 1:=.of (by kernel_rfl)
instance:SE prog 78 197:=⟨underlying78⟩
instance:TZ prog 78 [.slice none 0 0]:=.of (by kernel_rfl) rfl
instance:TI prog 79 false 1:=.of (by kernel_rfl)
instance:SE prog 79 171:=⟨underlying79⟩
instance:TZ prog 79 [.slice none 0 0]:=.of (by kernel_rfl) rfl
instance:TI prog 81 true 8:=.of (by kernel_rfl)
instance:TZ prog 81 [.string { data:=#[] },.int .i64 0,.int .i64 0,.int .i64 0,.slice none 0 0,.slice none 0 0,.slice none 0 0,.int .i64 0]:=.of (by kernel_rfl) rfl
instance:SP prog 81 [.string { data:=#[] },.int .i64 0,.int .i64 0,.int .i64 0,.slice none 0 0,.slice none 0 0,.slice none 0 0,.int .i64 0] [(0,4),(4,1),(5,1),(6,1),(7,1)]:=.of (by kernel_rfl) (by kernel_rfl)
instance:FO prog 81 0 0 55:=.of (by kernel_rfl)
instance:FO prog 81 1 4 78:=.of (by kernel_rfl)
instance:FO prog 81 2 5 79:=.of (by kernel_rfl)
instance:FO prog 81 3 6 79:=.of (by kernel_rfl)
instance:FO prog 81 4 7 3:=.of (by kernel_rfl)
instance:TI prog 82 false 1:=.of (by kernel_rfl)
instance:TZ prog 82 [.pointer none]:=.of (by kernel_rfl) rfl
instance:TI prog 85 true 4:=.of (by kernel_rfl)
instance:TZ prog 85 [.int .i64 0,.slice none 0 0,.slice none 0 0,.slice none 0 0]:=.of (by kernel_rfl) rfl
instance:SP prog 85 [.int .i64 0,.slice none 0 0,.slice none 0 0,.slice none 0 0] [(0,3),(3,1)]:=.of (by kernel_rfl) (by kernel_rfl)
instance:FO prog 85 0 0 26:=.of (by kernel_rfl)
instance:FO prog 85 1 3 47:=.of (by kernel_rfl)
instance:TI prog 89 true 4:=.of (by kernel_rfl)
instance:TZ prog 89 [.int .i64 0,.slice none 0 0,.slice none 0 0,.slice none 0 0]:=.of (by kernel_rfl) rfl
instance:SP prog 89 [.int .i64 0,.slice none 0 0,.slice none 0 0,.slice none 0 0] [(0,3),(3,1)]:=.of (by kernel_rfl) (by kernel_rfl)
instance:FO prog 89 0 0 26:=.of (by kernel_rfl)
instance:FO prog 89 1 3 47:=.of (by kernel_rfl)
instance:TI prog 103 false 1:=.of (by kernel_rfl)
instance:SE prog 103 39:=⟨underlying103⟩
instance:TZ prog 103 [.slice none 0 0]:=.of (by kernel_rfl) rfl
instance:TI prog 141 true 5:=.of (by kernel_rfl)
instance:TZ prog 141 [.string { data:=#[] },.int .i64 0,.int .i64 0,.int .i64 0,.int .i64 0]:=.of (by kernel_rfl) rfl
instance:SP prog 141 [.string { data:=#[] },.int .i64 0,.int .i64 0,.int .i64 0,.int .i64 0] [(0,1),(1,2),(3,2)]:=.of (by kernel_rfl) (by kernel_rfl)
instance:FO prog 141 0 0 9:=.of (by kernel_rfl)
instance:FO prog 141 1 1 37:=.of (by kernel_rfl)
instance:FO prog 141 2 3 37:=.of (by kernel_rfl)
instance:TI prog 143 true 2:=.of (by kernel_rfl)
instance:TZ prog 143 [.int .i64 0,.int .i64 0]:=.of (by kernel_rfl) rfl
instance:SP prog 143 [.int .i64 0,.int .i64 0] [(0,1),(1,1)]:=.of (by kernel_rfl) (by kernel_rfl)
instance:FO prog 143 0 0 3:=.of (by kernel_rfl)
instance:FO prog 143 1 1 3:=.of (by kernel_rfl)
instance:TI prog 158 false 1:=.of (by kernel_rfl)
instance:SE prog 158 9:=⟨underlying158⟩
instance:TZ prog 158 [.slice none 0 0]:=.of (by kernel_rfl) rfl
instance:TI prog 171 true 7:=.of (by kernel_rfl)
instance:TZ prog 171 [.int .i64 0,.int .i64 0,.int .i64 0,.int .i64 0,.int .i64 0,.int .i64 0,.int .i64 0]:=.of (by kernel_rfl) rfl
instance:SP prog 171 [.int .i64 0,.int .i64 0,.int .i64 0,.int .i64 0,.int .i64 0,.int .i64 0,.int .i64 0] [(0,3),(3,2),(5,1),(6,1)]:=.of (by kernel_rfl) (by kernel_rfl)
instance:FO prog 171 0 0 35:=.of (by kernel_rfl)
instance:FO prog 171 1 3 37:=.of (by kernel_rfl)
instance:FO prog 171 2 5 3:=.of (by kernel_rfl)
instance:FO prog 171 3 6 3:=.of (by kernel_rfl)
instance:TI prog 197 true 5:=.of (by kernel_rfl)
instance:TZ prog 197 [.int .i64 0,.int .i64 0,.int .i64 0,.int .i64 0,.int .i64 0]:=.of (by kernel_rfl) rfl
instance:SP prog 197 [.int .i64 0,.int .i64 0,.int .i64 0,.int .i64 0,.int .i64 0] [(0,3),(3,2)]:=.of (by kernel_rfl) (by kernel_rfl)
instance:FO prog 197 0 0 35:=.of (by kernel_rfl)
instance:FO prog 197 1 3 37:=.of (by kernel_rfl)
instance:TI prog 275 false 1:=.of (by kernel_rfl)
instance:SE prog 275 37:=⟨underlying275⟩
instance:TZ prog 275 [.slice none 0 0]:=.of (by kernel_rfl) rfl
instance:TI prog 283 false 1:=.of (by kernel_rfl)
instance:SE prog 283 79:=⟨underlying283⟩
instance:TZ prog 283 [.slice none 0 0]:=.of (by kernel_rfl) rfl
instance:TI prog 291 false 1:=.of (by kernel_rfl)
instance:SE prog 291 1:=⟨underlying291⟩
instance:TZ prog 291 [.slice none 0 0]:=.of (by kernel_rfl) rfl
theorem oA {sh:List Nat} {a:List Value} (h:a.map shp=sh):a.length=sh.length:=by rw [←h,List.length_map]
theorem FM {α:Type _} {a:List α} (h:a.length=3):∃x y z,a=[x,y,z]:=by
 match a,h with
 | [x,y,z],_=>exact ⟨x,y,z,rfl⟩
theorem JC {α:Type _} {a:List α} (h:a.length=2):∃x y,a=[x,y]:=by
 match a,h with
 | [x,y],_=>exact ⟨x,y,rfl⟩
theorem dN {v:Value} (h:shp v=0):∃n,v = .int .i64 n:=by
 unfold shp at h;split at h <;> first|exact ⟨_,rfl⟩|cases h
theorem C5 {v:Value} (h:shp v=1):∃n,v = .string n:=by
 unfold shp at h;split at h <;> first|exact ⟨_,rfl⟩|cases h
instance:EQ prog 35 [0,0,0]:=⟨by kernel_rfl,fun w a b ha hb=>by
 have hS:prog.underlying 35=some (.struct (prog.fieldsOf 35)):=by kernel_rfl
 have hp:prog.stoodInHeld 35=false:=by kernel_rfl
 ·obtain ⟨a1,a2,a3,rfl⟩:=FM (oA ha);obtain ⟨b1,b2,b3,rfl⟩:=FM (oA hb);simp only [List.map_cons,List.map_nil,List.cons.injEq,and_true] at ha hb;obtain ⟨x1,rfl⟩:=dN ha.1;obtain ⟨x2,rfl⟩:=dN ha.2.1;obtain ⟨x3,rfl⟩:=dN ha.2.2;obtain ⟨y1,rfl⟩:=dN hb.1;obtain ⟨y2,rfl⟩:=dN hb.2.1;obtain ⟨y3,rfl⟩:=dN hb.2.2;show (Op.equalIn 10000 35 _ _).run _ _=_;rw [show (10000:Nat)=9999+1 from rfl,run_equalIn_agg w 9999 35 _ _ hS hp];have u3:=underlying3;simp only [Program.fieldsOf,underlying35];go_simp
  by_cases h1:x1=y1 <;> by_cases h2:x2=y2 <;> by_cases h3:x3=y3 <;> simp [h1,h2,h3,zC,Jp]⟩
instance:EQ prog 37 [0,0]:=⟨by kernel_rfl,fun w a b ha hb=>by
 have hS:prog.underlying 37=some (.struct (prog.fieldsOf 37)):=by kernel_rfl
 have hp:prog.stoodInHeld 37=false:=by kernel_rfl
 ·obtain ⟨a1,a2,rfl⟩:=JC (oA ha);obtain ⟨b1,b2,rfl⟩:=JC (oA hb);simp only [List.map_cons,List.map_nil,List.cons.injEq,and_true] at ha hb;obtain ⟨x1,rfl⟩:=dN ha.1;obtain ⟨x2,rfl⟩:=dN ha.2;obtain ⟨y1,rfl⟩:=dN hb.1;obtain ⟨y2,rfl⟩:=dN hb.2;show (Op.equalIn 10000 37 _ _).run _ _=_;rw [show (10000:Nat)=9999+1 from rfl,run_equalIn_agg w 9999 37 _ _ hS hp];have u3:=underlying3;simp only [Program.fieldsOf,underlying37];go_simp
  by_cases h1:x1=y1 <;> by_cases h2:x2=y2 <;> simp [h1,h2,zC,Jp]⟩
theorem G8 (p q:Pr):zC [.int .i64 p.site,.int .i64 p.inc,.int .i64 p.num] [.int .i64 q.site,.int .i64 q.inc,.int .i64 q.num]=decide (p=q):=by
 obtain ⟨a,b,c⟩:=p;obtain ⟨x,y,z⟩:=q;rw [Bool.eq_iff_iff];simp [zC,Jp]
theorem tB (p q:Am):zC [.int .i64 p.mode,.int .i64 p.units] [.int .i64 q.mode,.int .i64 q.units]=decide (p=q):=by
 obtain ⟨a,b⟩:=p;obtain ⟨x,y⟩:=q;rw [Bool.eq_iff_iff];simp [zC,Jp]
def EZ (p:Option Pr) (x:Pr):Bool:=match p with|none=>true|some y=>decide (bE y x<0)
theorem yy (r:Rs) (p:Option Pr) (x:Ho) (l:List Ho):sF r p (x :: l)=(jl x.proc && aF r x.am && EZ p x.proc && sF r (some x.proc) l):=by cases p <;> rfl
theorem zD {p:Option Pr} {x:Pr}:EZ p x=true↔∀q,p=some q→fT q x:=by
 cases p with
 | none=>simp [EZ]
 | some q=>simp [EZ,gO]
theorem wz (r:Rs):∀(l:List Ho) (p:Option Pr),sF r p l=true↔(∀x∈l,jl x.proc=true∧aF r x.am=true)∧(cQ l).Pairwise fT∧∀q,p=some q→∀x∈l,fT q x.proc
 | [],p=>by simp [sF,cQ]
 | x :: l,p=>by
  rw [yy];simp only [Bool.and_eq_true,wz r l,zD];constructor
  ·rintro ⟨⟨⟨h1,h2⟩,h3⟩,h4,h5,h6⟩;refine ⟨?_,?_,?_⟩
   ·intro y hy;rcases List.mem_cons.1 hy with rfl|hy
    ·exact ⟨h1,h2⟩
    ·exact h4 y hy
   ·show (x.proc :: cQ l).Pairwise fT;refine List.pairwise_cons.2 ⟨?_,h5⟩;intro y hy;obtain ⟨z,hz,rfl⟩:=List.mem_map.1 hy;exact h6 _ rfl z hz
   ·intro q hq y hy;rcases List.mem_cons.1 hy with rfl|hy
    ·exact h3 q hq
    ·exact cL (h3 q hq) (h6 _ rfl y hy)
  ·rintro ⟨h1,h2,h3⟩;have h2':(x.proc :: cQ l).Pairwise fT:=h2;obtain ⟨h4,h5⟩:=List.pairwise_cons.1 h2';refine ⟨⟨h1 x (by simp),fun q hq=>h3 q hq x (by simp)⟩,fun y hy=>h1 y (by simp [hy]),h5,?_⟩;intro q hq y hy;injection hq with hq;subst hq;exact h4 _ (List.mem_map.2 ⟨y,hy,rfl⟩)
def mK:List Am→Int
 | []=>0
 | a :: l=>a.units+mK l
def C6 (a b:Am):Bool:=aH a || aH b || ke a.mode b.mode
theorem C7 (a b:Am):C6 a b=C6 b a:=by
 unfold C6;rw [iU,Bool.or_comm (aH a)]
theorem mL {r:Rs} {a:Am} (h:bj r a=true) (hk:r.kind=2):0≤a.units:=(kn h (by omega)).2.1
theorem pw {r:Rs} (hk:r.kind=2):∀{l:List Am},(∀a∈l,bj r a=true)→0≤mK l
 | [],_=>Int.le_refl _
 | a :: l,h=>by
  have h1:=mL (h a (by simp)) hk;have h2:=pw hk (l:=l) fun b hb=>h b (by simp [hb]);show 0≤a.units+mK l;omega
theorem Bj (a:Am) (l:List Am):jT a l=false↔∀b∈l,C6 b a=true:=by
 unfold jT C6;rw [List.any_eq_false];constructor
 ·intro h b hb;have:=h b hb;have e:=iU b.mode a.mode;cases h1:aH a <;> cases h2:aH b <;> simp_all
 ·intro h b hb;have:=h b hb;have e:=iU b.mode a.mode;cases h1:aH a <;> cases h2:aH b <;> simp_all
theorem mM {r:Rs}:∀(l:List Am) (s:Int) (pre:List Am),eB r s pre l=true↔(∀a∈l,bj r a=true)∧(r.kind=2→l≠[]→s+mK l≤r.units)∧(r.kind≠2→l.Pairwise (fun a b=>C6 a b=true)∧∀a∈l,∀b∈pre,C6 b a=true)
 | [],s,pre=>by simp [eB]
 | a :: l,s,pre=>by
  rw [km,Bool.and_eq_true];by_cases hk:r.kind=2
  ·rw [if_pos hk,Bool.and_eq_true,decide_eq_true_eq,mM l];constructor
   ·rintro ⟨h1,h2,h3,h4,_⟩;refine ⟨?_,?_,fun h=>absurd hk h⟩
    ·intro b hb;rcases List.mem_cons.1 hb with rfl|hb
     ·exact h1
     ·exact h3 b hb
    ·intro _ _;show s+(a.units+mK l)≤r.units;cases l with
     | nil=>show s+(a.units+0)≤r.units;omega
     | cons b m=>have:=h4 hk (by simp);omega
   ·rintro ⟨h1,h2,_⟩;have h3:s+(a.units+mK l)≤r.units:=h2 hk (by simp);have h4:=pw hk (l:=l) fun b hb=>h1 b (by simp [hb]);exact ⟨h1 a (by simp),by omega,fun b hb=>h1 b (by simp [hb]),fun _ _=>by omega,fun h=>absurd hk h⟩
  ·rw [if_neg hk,Bool.and_eq_true,mM l,Bool.not_eq_true',Bj];constructor
   ·rintro ⟨h1,h2,h3,_,h5⟩;obtain ⟨h6,h7⟩:=h5 hk;refine ⟨?_,fun h=>absurd h hk,fun _=>⟨List.pairwise_cons.2 ⟨fun b hb=>h7 b hb a (by simp),h6⟩,?_⟩⟩
    ·intro b hb;rcases List.mem_cons.1 hb with rfl|hb
     ·exact h1
     ·exact h3 b hb
    ·intro b hb c hc;rcases List.mem_cons.1 hb with rfl|hb
     ·exact h2 c hc
     ·exact h7 b hb c (by simp [hc])
   ·rintro ⟨h1,_,h3⟩;obtain ⟨h4,h5⟩:=h3 hk;obtain ⟨h6,h7⟩:=List.pairwise_cons.1 h4;refine ⟨h1 a (by simp),h5 a (by simp),fun b hb=>h1 b (by simp [hb]),fun h=>absurd h hk,fun _=>⟨h7,?_⟩⟩;intro b hb c hc;rcases List.mem_append.1 hc with hc|hc
    ·exact h5 b (by simp [hb]) c hc
    ·rw [List.mem_singleton] at hc;subst hc;exact h6 b hb
structure Comp (r:Rs) (l:List Am):Prop where
 shp:bc r=true
 prm:∀a∈l,bj r a=true
 sum:r.kind=2→mK l≤r.units
 ok:r.kind≠2→l.Pairwise (fun a b=>C6 a b=true)
theorem Bk {r:Rs} {l:List Am}:ib r l=true↔Comp r l:=by
 unfold ib;rw [Bool.and_eq_true,mM];constructor
 ·rintro ⟨h0,h1,h2,h3⟩;refine ⟨h0,h1,fun hk=>?_,fun hk=>(h3 hk).1⟩;cases l with
  | nil =>
   have:=cj h0;show (0:Int)≤r.units;omega
  | cons a m=>have:=h2 hk (by simp);omega
 ·rintro ⟨h0,h1,h2,h3⟩;exact ⟨h0,h1,fun hk _=>by have:=h2 hk;omega,fun hk=>⟨h3 hk,fun _ _ _ hb=>absurd hb (by simp)⟩⟩
theorem Bl {l l':List Am} (h:l.Perm l'):mK l=mK l':=by
 induction h with
 | nil=>rfl
 | cons a _ ih=>show a.units+_=a.units+_;rw [ih]
 | swap a b l=>show b.units+(a.units+mK l)=a.units+(b.units+mK l);omega
 | trans _ _ h1 h2=>exact h1.trans h2
theorem Comp.perm {r:Rs} {l l':List Am} (h:Comp r l) (p:l.Perm l'):Comp r l' :=
 ⟨h.shp,fun a ha=>h.prm a (p.mem_iff.2 ha),fun hk=>by rw [←Bl p];exact h.sum hk,fun hk=>(p.pairwise_iff (fun {a b} hab=>by rw [C7];exact hab)).1 (h.ok hk)⟩
theorem Comp.tail {r:Rs} {a:Am} {l:List Am} (h:Comp r (a :: l)):Comp r l :=
 ⟨h.shp,fun b hb=>h.prm b (by simp [hb]),fun hk=>by
  have h1:a.units+mK l≤r.units:=h.sum hk;have h2:=mL (h.prm a (by simp)) hk;omega,fun hk=>(List.pairwise_cons.1 (h.ok hk)).2⟩
theorem Bm {r:Rs} {a b c:Am} (hk:r.kind=1) (h:bg r a b=true) (ho:C6 a c=true):C6 b c=true:=by
 unfold bg at h;simp only [hk,if_true,Bool.and_eq_true,Bool.or_eq_true,Bool.not_eq_true'] at h;unfold C6 at ho ⊢;simp only [Bool.or_eq_true] at ho ⊢;rcases h.2 with h1|⟨h1,h2⟩
 ·exact .inl (.inl h1)
 ·rcases ho with (h3|h3)|h3
  ·rw [h1] at h3;cases h3
  ·exact .inl (.inr h3)
  ·refine .inr ?_;unfold dw at h2;unfold ke at h3 ⊢;simp only [Bool.and_eq_true,Bool.or_eq_true,Bool.not_eq_true',decide_eq_true_eq,decide_eq_false_iff_not] at h2 h3 ⊢;obtain ⟨⟨h4,h5⟩,h6⟩:=h2;obtain ⟨⟨⟨⟨h7,h8⟩,h9⟩,h10⟩,h11⟩:=h3;unfold bY at *
   simp only [Bool.and_eq_true,decide_eq_true_eq] at *
   refine ⟨⟨⟨⟨h5,h8⟩,?_⟩,h10⟩,?_⟩ <;> omega
theorem Comp.lower {r:Rs} {a b:Am} {l:List Am} (h:Comp r (a :: l)) (hc:bg r a b=true):Comp r (b :: l):=by
 have hp:bj r b=true:=by unfold bg at hc;simp only [Bool.and_eq_true] at hc;exact hc.1.2
 refine ⟨h.shp,?_,fun hk=>?_,fun hk=>?_⟩
 ·intro x hx;rcases List.mem_cons.1 hx with rfl|hx
  ·exact hp
  ·exact h.prm x (by simp [hx])
 ·have h1:a.units+mK l≤r.units:=h.sum hk;have h2:=mL (h.prm a (by simp)) hk;show b.units+mK l≤r.units;unfold bg at hc;rw [if_neg (show ¬r.kind=1 by omega)] at hc;simp only [Bool.and_eq_true,Bool.or_eq_true,decide_eq_true_eq] at hc;rcases hc.2 with h3|h3
  ·unfold aH at h3;have h4:=of_decide_eq_true h3;rw [h4];show 0+mK l≤r.units;omega
  ·omega
 ·have hk1:r.kind=1:=by have:=cj h.shp;omega
  obtain ⟨h1,h2⟩:=List.pairwise_cons.1 (h.ok hk);exact List.pairwise_cons.2 ⟨fun c hc2=>Bm hk1 hc (h1 c hc2),h2⟩
theorem qV (l:List Ho) (p q:Pr):ao (eN l p) q=if q=p then ⟨0,0⟩ else ao l q:=by
 induction l with
 | nil=>simp [eN,ao]
 | cons x l ih =>
  rw [lN];by_cases hx:x.proc=p
  ·rw [decide_eq_true hx,cond_true,ih];by_cases hq:q=p
   ·rw [if_pos hq,if_pos hq]
   ·rw [if_neg hq,if_neg hq];show _=bif decide (x.proc=q) then _ else _;rw [decide_eq_false (fun e=>hq (e.symm.trans hx)),cond_false]
  ·rw [decide_eq_false hx,cond_false];show (bif decide (x.proc=q) then x.am else ao (eN l p) q)=_;rw [ih];by_cases hq:q=p
   ·rw [if_pos hq,if_pos hq,decide_eq_false (fun e=>hx (e.trans hq)),cond_false]
   ·rw [if_neg hq,if_neg hq];rfl
theorem wA (x:Ho) (q:Pr):∀l:List Ho,(∀y∈l,y.proc≠x.proc)→ao (mn x l) q=if q=x.proc then x.am else ao l q
 | [],_=>by
  show (bif decide (x.proc=q) then x.am else ⟨0,0⟩)=_;by_cases h:q=x.proc
  ·rw [if_pos h,decide_eq_true h.symm];rfl
  ·rw [if_neg h,decide_eq_false (fun e=>h e.symm)];rfl
 | y :: l,hl=>by
  have hy:=hl y (by simp);rw [gX];cases decide (0<bE y.proc x.proc) with
  | true =>
   show (bif decide (x.proc=q) then x.am else ao (y :: l) q)=_;by_cases h:q=x.proc
   ·rw [if_pos h,decide_eq_true h.symm];rfl
   ·rw [if_neg h,decide_eq_false (fun e=>h e.symm)];rfl
  | false =>
   show (bif decide (y.proc=q) then y.am else ao (mn x l) q)=_;rw [wA x q l fun z hz=>hl z (by simp [hz])];by_cases h:q=x.proc
   ·rw [if_pos h,if_pos h,decide_eq_false (fun e=>hy (e.trans h)),cond_false]
   ·rw [if_neg h,if_neg h];rfl
theorem zE {l:List Ho} {p:Pr}:∀y∈eN l p,y.proc≠p:=by
 intro y hy;have:=(List.mem_filter.1 hy).2;simpa using this
theorem fb (l:List Ho) (p:Pr) (a:Am) (q:Pr):ao (cr l p a) q=if q=p then a else ao l q:=by
 unfold cr;cases hz:aH a with
 | true =>
  rw [cond_true,qV];have:a=⟨0,0⟩:=of_decide_eq_true hz;rw [this]
 | false =>
  rw [cond_false,wA ⟨p,a⟩ q _ zE];show (if q=p then a else ao (eN l p) q)=_;by_cases h:q=p
  ·rw [if_pos h,if_pos h]
  ·rw [if_neg h,if_neg h,qV,if_neg h]
theorem lS (x:Ho):∀l:List Ho,(mn x l).Perm (x :: l)
 | []=>List.Perm.refl _
 | y :: l=>by
  rw [gX];cases decide (0<bE y.proc x.proc) with
  | true=>exact List.Perm.refl _
  | false=>exact ((lS x l).cons y).trans (List.Perm.swap x y l)
theorem wB {x:Ho}:∀{l:List Ho},(cQ l).Pairwise fT→(∀y∈l,y.proc≠x.proc)→(cQ (mn x l)).Pairwise fT
 | [],_,_=>by simp [mn,cQ]
 | y :: l,h,hn=>by
  have h':(y.proc :: cQ l).Pairwise fT:=h;obtain ⟨h1,h2⟩:=List.pairwise_cons.1 h';rw [gX];have hyx:=hn y (by simp);cases hc:decide (0<bE y.proc x.proc) with
  | true =>
   have hlt:fT x.proc y.proc:=by
    rcases gN x.proc y.proc with h3|h3|h3
    ·exact h3
    ·exact absurd h3.symm hyx
    ·have:=(gO _ _).2 h3;have:=of_decide_eq_true hc;omega
   refine List.pairwise_cons.2 ⟨?_,h⟩;intro z hz;rcases List.mem_cons.1 (show z∈y.proc :: cQ l from hz) with rfl|hz
   ·exact hlt
   ·exact cL hlt (h1 z hz)
  | false =>
   have hlt:fT y.proc x.proc:=by
    rcases gN x.proc y.proc with h3|h3|h3
    ·have h4:0<bE y.proc x.proc:=by
      rcases dd y.proc x.proc with ⟨h5,_⟩|⟨h5,_⟩|⟨_,h6⟩
      ·exact absurd h3 (lJ h5)
      ·exact absurd h5 hyx
      ·omega
     rw [decide_eq_true h4] at hc;cases hc
    ·exact absurd h3.symm hyx
    ·exact h3
   show (y.proc :: cQ (mn x l)).Pairwise fT;refine List.pairwise_cons.2 ⟨?_,wB h2 fun z hz=>hn z (by simp [hz])⟩;intro z hz;obtain ⟨u,hu,rfl⟩:=List.mem_map.1 hz;rcases List.mem_cons.1 ((lS x l).mem_iff.1 hu) with rfl|hu
   ·exact hlt
   ·exact h1 _ (List.mem_map.2 ⟨u,hu,rfl⟩)
theorem lc {l:List Ho} {p:Pr} (h:ao l p≠⟨0,0⟩):∃x∈l,x.proc=p∧x.am=ao l p:=by
 induction l with
 | nil=>exact absurd rfl h
 | cons x l ih =>
  by_cases hx:x.proc=p
  ·refine ⟨x,by simp,hx,?_⟩;show x.am=bif decide (x.proc=p) then x.am else ao l p;rw [decide_eq_true hx];rfl
  ·have e:ao (x :: l) p=ao l p:=by
    show (bif decide (x.proc=p) then x.am else ao l p)=_;rw [decide_eq_false hx];rfl
   rw [e] at h ⊢;obtain ⟨y,h1,h2⟩:=ih h;exact ⟨y,by simp [h1],h2⟩
structure Hv (r:Rs) (l:List Ho):Prop where
 shp:bc r=true
 len:l.length≤8
 fit:∀x∈l,jl x.proc=true∧aF r x.am=true
 asc:(cQ l).Pairwise fT
 cmp:Comp r (iv l)
theorem zF {r:Rs} {l:List Ho}:te r l=true↔Hv r l:=by
 unfold te;simp only [Bool.and_eq_true,decide_eq_true_eq,wz,Bk];constructor
 ·rintro ⟨⟨⟨h1,h2⟩,h3,h4,_⟩,h5⟩;exact ⟨h1,h2,h3,h4,h5⟩
 ·rintro ⟨h1,h2,h3,h4,h5⟩;exact ⟨⟨⟨h1,h2⟩,h3,h4,fun q hq=>by cases hq⟩,h5⟩
theorem oB {l:List Ho} {x:Ho} (ha:(cQ l).Pairwise fT) (hx:x∈l):l.Perm (x :: eN l x.proc):=by
 induction l with
 | nil=>cases hx
 | cons y l ih =>
  have ha':(y.proc :: cQ l).Pairwise fT:=ha;obtain ⟨h1,h2⟩:=List.pairwise_cons.1 ha';rw [lN];rcases List.mem_cons.1 hx with rfl|hx
  ·rw [decide_eq_true rfl,cond_true];have:eN l x.proc=l:=by
    unfold eN;rw [List.filter_eq_self];intro z hz;have h3:=h1 z.proc (List.mem_map.2 ⟨z,hz,rfl⟩);have h4:z.proc≠x.proc:=fun e=>bH _ (e▸h3);simpa using h4
   rw [this]
  ·have h3:=h1 x.proc (List.mem_map.2 ⟨x,hx,rfl⟩);have h4:y.proc≠x.proc:=fun e=>bH _ (e▸h3);rw [decide_eq_false h4,cond_false];exact ((ih h2 hx).cons y).trans (List.Perm.swap x y _)
theorem wC {l:List Ho} (p:Pr) (h:(cQ l).Pairwise fT):(cQ (eN l p)).Pairwise fT:=by
 unfold cQ eN;exact h.sublist ((List.filter_sublist).map _)
theorem C8 {l:List Ho} {p:Pr} (h:∀x∈l,x.proc≠p):eN l p=l:=by
 unfold eN;rw [List.filter_eq_self];intro x hx;simpa using h x hx
theorem Hv.fil {r:Rs} {l:List Ho} (h:Hv r l) (p:Pr):Hv r (eN l p):=by
 refine ⟨h.shp,Nat.le_trans (nk l p) h.len,fun x hx=>h.fit x (List.mem_filter.1 hx).1,wC p h.asc,?_⟩;by_cases hp:∃x∈l,x.proc=p
 ·obtain ⟨x,hx,rfl⟩:=hp;exact (h.cmp.perm ((oB h.asc hx).map _)).tail
 ·rw [C8 fun x hx e=>hp ⟨x,hx,e⟩];exact h.cmp
theorem Hv.lower {r:Rs} {l:List Ho} (h:Hv r l) {p:Pr} {a:Am} (hc:bg r (ao l p) a=true) (h0:ao l p≠⟨0,0⟩):Hv r (cr l p a)∧(cr l p a).length≤l.length:=by
 unfold cr;cases hz:aH a with
 | true=>exact ⟨h.fil p,nk l p⟩
 | false =>
  obtain ⟨x,hx,hp,ham⟩:=lc h0;subst hp;rw [←ham] at hc;have hs:=oB h.asc hx;have hl:(eN l x.proc).length+1=l.length:=by rw [hs.length_eq];rfl
  have hlen:(mn ⟨x.proc,a⟩ (eN l x.proc)).length=l.length:=by rw [nl,hl]
  rw [cond_false];refine ⟨⟨h.shp,by rw [hlen];exact h.len,?_,wB (wC _ h.asc) zE,?_⟩,Nat.le_of_eq hlen⟩
  ·intro y hy;rcases List.mem_cons.1 ((lS _ _).mem_iff.1 hy) with rfl|hy
   ·refine ⟨(h.fit x hx).1,?_⟩;unfold bg bj at hc;simp only [Bool.and_eq_true,Bool.or_eq_true] at hc;rcases hc.1.2.2 with h1|h1
    ·rw [hz] at h1;cases h1
    ·exact h1
   ·exact h.fit y (List.mem_filter.1 hy).1
  ·have h1:Comp r (x.am :: iv (eN l x.proc)):=h.cmp.perm (hs.map _);have h2:=h1.lower hc;exact h2.perm (by have:=(lS ⟨x.proc,a⟩ (eN l x.proc)).symm.map Ho.am;exact this)
end Go.Proofs.YtjndcdcbjidocaaGreatDoor
