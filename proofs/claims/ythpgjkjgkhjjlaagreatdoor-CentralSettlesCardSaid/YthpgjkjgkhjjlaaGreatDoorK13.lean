/- Part K13 of a proof of statements of chapter 15 (no condition). -/
import Derived.Test.YthpgjkjgkhjjlaaGreatDoorK10
import Derived.Test.YthpgjkjgkhjjlaaGreatDoorK12
import Derived.Test.YthpgjkjgkhjjlaaGreatDoorK11
set_option linter.unusedVariables false
set_option linter.unusedSimpArgs false
set_option maxRecDepth 100000
set_option maxHeartbeats 64000000
namespace Go.Proofs.YthpgjkjgkhjjlaaGreatDoor
open Go.RowKit Go.Proofs.Tryz
def cE:List Tm->List Bool->Tm->Bool
 | [],_,_=>false
 | b :: L,set,a=>bif decide (b=a) then set.headD false else cE L set.tail a
theorem lI (b:Tm) (L:List Tm) (set:List Bool) (a:Tm):cE (b :: L) set a=bif decide (b=a) then set.headD false else cE L set.tail a:=rfl
mutual
def oJ (h:Tm->Bool):Ex->Bool
 | .mk k a l=>bif l.isEmpty then h a else decide (k<=(FX h l:Int))
def FX (h:Tm->Bool):List Ex->Nat
 | []=>0
 | x :: l=>(bif oJ h x then 1 else 0)+FX h l
end
theorem FY (h:Tm->Bool) (k:Int) (a:Tm) (l:List Ex):oJ h (.mk k a l)=bif l.isEmpty then h a else decide (k<=(FX h l:Int)):=rfl
theorem pB (h:Tm->Bool) (x:Ex) (l:List Ex):FX h (x :: l)=(bif oJ h x then 1 else 0)+FX h l:=rfl
theorem NJ {w:World} {S:Nat->Prop} {A:Option Addr} {l:List Bool} {i:Nat} {x:Bool} (h:RowsAt cJ w S A l) (hi:i<l.length) (hx:l[i]=x) :
  ∃b off,A=some ⟨b,off,none⟩/\S b/\w.cell? ⟨b,off+i,none⟩=some (.bool x):=by
 obtain ⟨b,off,cs,hA,hS,hc,hd⟩:=h.getx hi hx;have hc':cs=[.bool x]:=hc;subst hc';have:=hd 0 (show 0<1 by decide);exact ⟨b,off,hA,hS,by simpa [show cJ.n=1 from rfl] using this⟩
theorem NK:∀(x:Ex) (acc:List Tm),C9 x=true->0<(fV x acc).length:=by
 refine Ex.ind (fun k a l ih=>?_);intro acc h;rw [lG];rw [r8] at h;cases l with
 | nil =>
  unfold iU;cases hh:lF a acc with
  | true =>
   have:=(mO a acc).1 hh;exact List.length_pos_of_mem this
  | false=>simp
 | cons y m =>
  rw [mP] at h;simp at h;have h1:=ih y (by simp) acc h.2.1;obtain ⟨t,ht⟩:=sb m (fV y acc);show 0<(ia m (fV y acc)).length;rw [ht,List.length_append];omega
theorem oK {x:Ex} (h:kv x=true):C9 x=true/\bJ x=fV x []/\(bJ x).length<=8/\0<(bJ x).length/\sa (bJ x):=by
 have h2:bJ x=fV x []:=by unfold bJ;rw [h];rfl
 unfold kv at h;simp at h;rw [h2];exact ⟨h.2.1,rfl,h.2.2.1,NK x [] h.2.1,h.2.2⟩
theorem sd {x:Ex} (h:kv x=false):bJ x=[]:=by unfold bJ;rw [h];rfl
def cM (x:Ex) (set:List Bool):Bool:=kv x && oJ (cE (bJ x) set) x
theorem jX {P:Program} (t e:TypeId) (i:TypeInfo) (z:Value) (ht:P.underlying t=some (.slice e)) (hi:P.info? e=some i) (hz:i.zero=some z)
  (kl kc:IntKind) (n c:Nat) (hnc:n<=c) (hbytes:i.bytes*c<=281474976710656) (h63:c<=9223372036854775807) (w:World) :
  (Instr.makeSlice t (.int kl (n:Int)) (.int kc (c:Int))).run P w = .ok (.slice (some ⟨w.heap.size,0,none⟩) n c) (w.alloc (.cells (madeCells z.cells (c*i.size)) e)):=by
 have hb:(i.bytes:Int)*(c:Int)<=281474976710656:=by
  have h:((i.bytes*c:Nat):Int)<=281474976710656:=by omega
  rwa [Int.natCast_mul] at h
 have hr:=run_make (P:=P) w t e i z ht hi hz kl kc n c (by omega) (by omega) hb (by omega);simp only [Int.toNat_natCast] at hr;exact hr
theorem Qr {P:Program} (t e:TypeId) (z:Value) (by_:Nat) (ht:P.underlying t=some (.slice e)) (hi:(P.info? e).map (fun i=>(i.zero,i.size,i.bytes))=some (some z,1,by_)) (hz:z.cells = #[z]) (hb:by_<=64) (n:Nat) (hn:n<=1000000) (w:World) :
  (Instr.makeSlice t (.int .i64 (n:Int)) (.int .i64 (n:Int))).run P w = .ok (.slice (some ⟨w.heap.size,0,none⟩) n n) (w.alloc (.cells (madeCells #[z] n) e)):=by
 obtain ⟨i0,hi,hz0,hz1,hz2⟩:=info_parts hi;have hle:i0.bytes*n<=64*1000000:=Nat.mul_le_mul (by omega) hn;rw [jX t e i0 z ht hi hz0 _ _ n n (Nat.le_refl _) (by omega) (by omega),hz1,Nat.mul_one,hz]
section
variable {P:Program} {o:Oper} {s:Mst}
theorem ba {x:Operand} {k off:Nat} (ho:o.op = .nilCheck x) (hx:s.ev x = .c (.ptr k off)):LOp P o s [] ⟨.c (.ptr k off),[],[]⟩ :=
 bY fun c st ρ a w hr h1 _=>by
  have he:=h1 x (by simp [ho,Op.operands]);rw [hx] at he;have hv:=hr.ev x;rw [he] at hv;obtain ⟨g,hg,hv⟩:=hv;exact ⟨_,by unfold execOp;rw [ho];simp only [hv];rfl,⟨g,hg,rfl⟩,fun k' hk=>hr.nf (x:=x) he hk⟩
theorem fg {w:World} {e:TypeId} {n g len cap:Nat} {xs:List Value} (h:w.ownsRow 0 e n (.slice (some ⟨g,0,none⟩) len cap) len xs) {j:Nat} (hj:j<xs.length):(w.cell? ⟨g,j,none⟩).isSome=true/\w.frozen? ⟨g,j,none⟩=false:=by
 rcases h.2 with ⟨hv,_⟩|⟨g',cap',cur,hv,_,hh,hnc,hcm,hcs,ht⟩
 ·cases hv
 ·injection hv with e1 _ e2;injection e1 with e1;injection e1 with e1;subst e1;subst e2;have hl:j<cur.size:=by
   have:=congrArg List.length ht;simp only [List.length_take,Array.length_toList] at this;omega
  rw [cell_of_row w g j cur e (0,0) hh];exact ⟨by simp [hl],by simp [World.frozen?,hh]⟩
theorem ak {t e:TypeId} {x y:Operand} {row:Bool} {n m i k off:Nat} {α:Type} {E:El α} {l l':List α} {u z:α} {ds:List D} [I:TI P t row n] [J:Dp E] (ho:o.op = .store t x y) (hx:s.ev x = .c (.optr k m i off)) (hk:s.h k=some (.arr e E l)) (hm:E.n=m) (hu:l[i]? = some u)
  (hd:(s.ev y).cells=some ds) (hok:ds.all (okD s.h)=true) (hno:iW ds=[]) (hn:ds.length=n) (hl:off+n<=m) (hz:(J.deep u).take off++ds++(J.deep u).drop (off+n)=J.deep z) (hl':l.set i z=l'):LOp P o s [k] ⟨.c .any,[(k,some (.arr e E l'))],[]⟩:=by
 intro c st ρ a w hr h1 h2 _ h4;subst hl';subst hm;have he:=h1 x (by simp [ho,Op.operands]);have he2:=h1 y (by simp [ho,Op.operands]);rw [hx] at he;rw [<-he2] at hd;have hv:=hr.ev x;rw [he] at hv;obtain ⟨g,len,cap,hg,hv⟩:=hv;have hk':=(h2 k (by simp [aX])).trans hk;have hil:i<l.length:=(List.getElem?_eq_some_iff.1 hu).1;have hui:l[i]=u:=by rw [qGg hil] at hu;exact Option.some.inj hu
 obtain ⟨xs,hown,hreps⟩:=hr.hp k _ hk';have hown0:=hown;rw [hg] at hown;obtain rfl:len=l.length:=by
  rcases hown.2 with ⟨hv,_⟩|⟨g',cap',cur,hv,_⟩
  ·cases hv
  ·injection hv
 obtain ⟨hc1,hc2⟩:=TV.cells_rep (hr.ev y) hd fun q hq u hu=>hr.okD (ji (List.all_eq_true.1 hok q hq) fun j hj=>by have:=gv (hj▸hq);rw [hno] at this;simp [aX] at this) hu;generalize hvs:(a.eval y).cells.toList=vs at *
 have hsz:vs.length=n:=by rw [<-hc1.length,hn]
 have hxl:=hown.1;have hin:i*E.n+E.n<=l.length*E.n:=by have:=Nat.mul_le_mul_right E.n (show i+1<=l.length from hil);rwa [Nat.add_mul,Nat.one_mul] at this
 have hst:=run_storeCells_cells (P:=P) g (i*E.n+off) vs 0 w (fun j hj=>by have:=(fg hown (j:=i*E.n+off+j) (by omega)).1;simpa using this) (fun j hj=>by have:=(fg hown (j:=i*E.n+off+j) (by omega)).2;simpa using this) hc2;simp only [Nat.add_zero] at hst;obtain ⟨cs,hcs1,hcs2⟩:=hreps.get i hil;have hcl:=E.len hcs1;rw [hui] at hcs1;have hcs:cs=(xs.drop (i*E.n)).take E.n:=by
  apply List.ext_getElem?
  intro j;rw [List.getElem?_take];by_cases hj:j<E.n
  ·rw [if_pos hj,List.getElem?_drop,hcs2 j hj]
  ·rw [if_neg hj,List.getElem?_eq_none (by omega)]
 have hz':E.rep w (Fz c st.h ρ w) z (cs.take off++vs++cs.drop (off+n)):=J.put (ρ:=ρ) (by rw [<-hz];exact (((J.get hcs1).take off).append hc1).append ((J.get hcs1).drop (off+n)));have hrow:=fy vs (i*E.n+off) w xs hown (by omega);rw [oM (n:=E.n) (by omega) hcs (by omega),hsz] at hrow;have hkb:kb (ρ k)=some g:=by rw [hg];rfl
 have hsize:=cm (g:=g) vs (i*E.n+off) w;have hoth:∀b,b≠g->(w.setCells g (i*E.n+off) vs).heap[b]? = w.heap[b]?:=fun b hb=>cf vs _ w b hb;have hbel:=dm (B:=0) (w:=w) (Nat.zero_le g) vs (i*E.n+off) w (Below.refl _ _);have hkk:∀k':Nat,aL [(k,some (Box.arr e E (l.set i z)))] k'=true->k'=k:=fun k' h=>by
  exact UM
 have hfz:∀b,Fz c st.h ρ w b->Fz c (hput [(k,some (Box.arr e E (l.set i z)))] st.h) ρ (w.setCells g (i*E.n+off) vs) b/\(w.setCells g (i*E.n+off) vs).heap[b]? = w.heap[b]?:=fun b ⟨f1,f2,f3⟩=>by
  have hbg:b≠g:=fun e=>f3 k _ hk' (by rw [hkb,e]);refine ⟨⟨f1,by rw [hsize];exact f2,fun k' bx hk2=>?_⟩,hoth b hbg⟩;simp only [hput] at hk2;cases h9:k.beq k' with
  | true=>rw [<-qNb h9,hkb];intro e;injection e with e;exact hbg e.symm
  | false=>rw [h9] at hk2;exact f3 k' bx hk2
 refine Oper.wp_skip (w':=w.setCells g (i*E.n+off) vs) ?_ ⟨ρ,hr.app (e:=⟨.c .any,[(k,some (.arr e E (l.set i z)))],[]⟩) h4 (fun k h=>by simp [aX] at h) (fun _ _=>rfl) (fun k' h=>.inr (by rw [hkk k' h];exact hr.nfh hk')) ⟨hbel.os,hbel.tape,hbel.output,hbel.size,fun b hlt hn=>hoth b fun e=>hn ⟨k,_,by simp [aL],hk',by rw [hkb,e]⟩⟩ ?_ ?_ (fun k h=>by simp [TV.has,V0.has,D.has] at h) ?_ ?_ trivial⟩
 ·unfold execOp;rw [ho];have hi:=I.s;cases hq:P.info? t with
  | none=>simp [hq] at hi
  | some ti =>
   have hs:(a.eval y).cells.size=ti.size:=by
    simp [hq] at hi;rw [<-Array.length_toList,hvs];omega
   simp only [hv,Instr.storeAt,Instr.sureAddr,Sem.run_bind,Sem.run_pure,Result.andThen_ok];have h3:(storeVar t ⟨g,i*E.n+off,none⟩ (a.eval y)).run P w = .ok () (w.setCells g (i*E.n+off) vs):=by
    simp [storeVar,sizeOf,typeInfo,hq,hs,hvs,hst]
   rw [h3];rfl
 ·intro k' bx g' h _ hg';exact U6
 ·intro k1 k2 _ _ _ h h' _ _ _ _;exact VM
 ·intro k1 k2 bx h hp hx;exact UJ
 ·intro k2 bx h hp;rw [hkk k2 h] at hp ⊢;simp only [hput,Nat.beq_refl,qCt,Option.some.injEq] at hp;subst hp;refine ⟨_,by rw [List.length_set,hg];exact hrow,?_⟩;exact (Reps.set hreps hz' hil).same (fun b hb=>(hfz b hb).2) fun b hb=>(hfz b hb).1
end
theorem so {sh:List Nat} {a:List Value} (h:a.map shp=sh):a.length=sh.length:=by rw [<-h,List.length_map]
theorem N9 {α:Type _} {a:List α} (h:a.length=3):∃x y z,a=[x,y,z]:=by
 match a,h with
 | [x,y,z],_=>exact ⟨x,y,z,rfl⟩
theorem R4 {α:Type _} {a:List α} (h:a.length=2):∃x y,a=[x,y]:=by
 match a,h with
 | [x,y],_=>exact ⟨x,y,rfl⟩
theorem eN {v:Value} (h:shp v=0):∃n,v = .int .i64 n:=by
 unfold shp at h;split at h <;> first|exact ⟨_,rfl⟩|cases h
theorem Lu {v:Value} (h:shp v=1):∃n,v = .string n:=by
 unfold shp at h;split at h <;> first|exact ⟨_,rfl⟩|cases h
instance:EQ prog 40 [0,0,0]:=⟨by kernel_rfl,fun w a b ha hb=>by
 have hS:prog.underlying 40=some (.struct (prog.fieldsOf 40)):=by kernel_rfl
 have hp:prog.stoodInHeld 40=false:=by kernel_rfl
 ·obtain ⟨a1,a2,a3,rfl⟩:=N9 (so ha);obtain ⟨b1,b2,b3,rfl⟩:=N9 (so hb);simp only [List.map_cons,List.map_nil,List.cons.injEq,and_true] at ha hb;obtain ⟨x1,rfl⟩:=eN ha.1;obtain ⟨x2,rfl⟩:=eN ha.2.1;obtain ⟨x3,rfl⟩:=eN ha.2.2;obtain ⟨y1,rfl⟩:=eN hb.1;obtain ⟨y2,rfl⟩:=eN hb.2.1;obtain ⟨y3,rfl⟩:=eN hb.2.2;show (Op.equalIn 10000 40 _ _).run _ _=_;rw [show (10000:Nat)=9999+1 from rfl,run_equalIn_agg w 9999 40 _ _ hS hp];have u3:=underlying3;simp only [Program.fieldsOf,underlying40];go_simp
  by_cases h1:x1=y1 <;> by_cases h2:x2=y2 <;> by_cases h3:x3=y3 <;> simp [h1,h2,h3,Ht,RN]⟩
instance:EQ prog 42 [0,0]:=⟨by kernel_rfl,fun w a b ha hb=>by
 have hS:prog.underlying 42=some (.struct (prog.fieldsOf 42)):=by kernel_rfl
 have hp:prog.stoodInHeld 42=false:=by kernel_rfl
 ·obtain ⟨a1,a2,rfl⟩:=R4 (so ha);obtain ⟨b1,b2,rfl⟩:=R4 (so hb);simp only [List.map_cons,List.map_nil,List.cons.injEq,and_true] at ha hb;obtain ⟨x1,rfl⟩:=eN ha.1;obtain ⟨x2,rfl⟩:=eN ha.2;obtain ⟨y1,rfl⟩:=eN hb.1;obtain ⟨y2,rfl⟩:=eN hb.2;show (Op.equalIn 10000 42 _ _).run _ _=_;rw [show (10000:Nat)=9999+1 from rfl,run_equalIn_agg w 9999 42 _ _ hS hp];have u3:=underlying3;simp only [Program.fieldsOf,underlying42];go_simp
  by_cases h1:x1=y1 <;> by_cases h2:x2=y2 <;> simp [h1,h2,Ht,RN]⟩
theorem PD (p q:Pr):Ht [.int .i64 p.site,.int .i64 p.inc,.int .i64 p.num] [.int .i64 q.site,.int .i64 q.inc,.int .i64 q.num]=decide (p=q):=by
 obtain ⟨a,b,c⟩:=p;obtain ⟨x,y,z⟩:=q;rw [Bool.eq_iff_iff];simp [Ht,RN]
theorem AI (p q:Am):Ht [.int .i64 p.mode,.int .i64 p.units] [.int .i64 q.mode,.int .i64 q.units]=decide (p=q):=by
 obtain ⟨a,b⟩:=p;obtain ⟨x,y⟩:=q;rw [Bool.eq_iff_iff];simp [Ht,RN]
structure Rq where
 expr:Ex
 prio:Int
 limit:Int
def Rq.zero:Rq:=⟨Ex.zero,0,0⟩
structure Pc where
 proc:Pr
 cost:Int
 led:Lg
 waiting:Bool
 req:Rq
 since:Int
 gen:Int
def FI:Pc:=⟨⟨0,0,0⟩,0,Lg.zero,false,Rq.zero,0,0⟩
structure Cs where
 now:Int
 queues:List Qu
 procs:List Pc
def LA:Cs:=⟨0,[],[]⟩
structure Cm where
 kind:Int
 proc:Pr
 req:Rq
 name:ByteArray
 n:Int
def bd (t:List Qu) (n:ByteArray):Bool:=decide (0<=bG n 0 t)
def bf (t:List Qu) (n:ByteArray):Qu:=t.getD (gR t n) jj
def bk (t:List Qu) (p:Pr) (x:Ex):List Bool:=(bJ x).map fun a=>bd t a.name && bq (bf t a.name).res (ah (bf t a.name).holds p) a.am
def gg (t:List Qu):List Tm->Int
 | []=>0
 | a :: l=>bif !bd t a.name then 10 else bif !aS (bf t a.name).res a.am then 12 else gg t l
def fW (t:List Qu) (x:Ex):Int:=bif !kv x then 1 else gg t (bJ x)
def m6 (r:Rq):Bool:=kv r.expr && decide (0<=r.prio) && decide (r.prio<=7) && decide (0<=r.limit) && decide (r.limit<=1000)
def Nv (x:Ex):Bool:=decide (x.k=0) && decide (x.atom=jK) && x.kids.isEmpty
def Nw (r:Rq):Bool:=Nv r.expr && decide (r.prio=0) && decide (r.limit=0)
theorem Oe {x:Ex}:Nv x=true↔x=Ex.zero:=by
 obtain ⟨k,a,l⟩:=x;unfold Nv Ex.zero;simp only [qBa,decide_eq_true_eq,List.isEmpty_iff];show (k=0/\a=jK)/\l=[]↔_;constructor
 ·rintro ⟨⟨rfl,rfl⟩,rfl⟩;rfl
 ·intro h;injection h with h1 h2 h3;exact ⟨⟨h1,h2⟩,h3⟩
theorem Of {r:Rq}:Nw r=true↔r=Rq.zero:=by
 obtain ⟨x,p,l⟩:=r;unfold Nw Rq.zero;simp only [qBa,decide_eq_true_eq,Oe];constructor
 ·rintro ⟨⟨rfl,rfl⟩,rfl⟩;rfl
 ·intro h;injection h with h1 h2 h3;exact ⟨⟨h1,h2⟩,h3⟩
def db (t:List Qu) (p:Pr):List Tm:=(t.map fun q=>(⟨q.res.name,ah q.holds p⟩:Tm)).filter fun a=>!aR a.am
def bW (p:Pr):List Qu->List Tm
 | []=>[]
 | q :: l=>match aj q p with
  | some a=>⟨q.res.name,a⟩ :: bW p l
  | none=>bW p l
def cR (q:Qu) (x:Pc):List Tm->Bool
 | []=>decide (ah q.holds x.proc=aC x.led.entries q.res.name) && !(aj q x.proc).isSome
 | a :: l=>bif !bC a.name q.res.name || bq q.res (aC x.led.entries q.res.name) a.am then cR q x l else
  bif !(aj q x.proc).isSome then decide (ah q.holds x.proc=cn q.res (aC x.led.entries q.res.name) a.am) else
  bif q.waits.any (fun y=>decide (y.proc=x.proc) && !decide (y.prio=x.req.prio)) then false else
  decide (ah q.holds x.proc=aC x.led.entries q.res.name) && decide (aj q x.proc=some (cn q.res (aC x.led.entries q.res.name) a.am))
def oB (c:Cs) (x:Pc):Bool :=
 jW x.proc && decide (1<=x.cost) && decide (x.cost<=1000) && rT x.led && decide (0<=x.gen) && decide (x.gen<=1073741824) &&
 (dx x.led).all (fun a=>bd c.queues a.name && aS (bf c.queues a.name).res a.am) &&
 bif !x.waiting then Nw x.req && decide (x.since=0) && decide (dx x.led=db c.queues x.proc) && decide (bW x.proc c.queues=[]) else
 m6 x.req && decide (fW c.queues x.req.expr=0) && decide (0<=x.since) && decide (x.since<=c.now) && (decide (x.req.limit=0) || decide (c.now<x.since+x.req.limit)) &&
 !cM x.req.expr (bk c.queues x.proc x.req.expr) && c.queues.all (fun q=>cR q x (bJ x.req.expr))
def bM (p:Pr):Nat->List Pc->Int
 | _,[]=>-1
 | k,x :: l=>bif decide (x.proc=p) then (k:Int) else bM p (k+1) l
def Cc (c:Cs):Option Pr->List Pc->Bool
 | _,[]=>true
 | o,x :: l=>oB c x && Nu o x.proc && Cc c (some x.proc) l
def cG (c:Cs):Bool:=decide (0<=c.now) && decide (c.now<=1073741824) && di c.queues && decide (c.procs.length<=8) && (aO c.queues).all (fun p=>decide (0<=bM p 0 c.procs)) && Cc c none c.procs
structure Wk where
 c:Cs
 ev:List Ev
def Wk.take (w:Wk) (t:List Qu) (ev:List Ev):Wk:=⟨{ w.c with queues:=t },w.ev++ev⟩
def Wk.note (w:Wk) (k:Int) (p:Pr):Wk:=⟨w.c,w.ev++[⟨k,p,⟨#[]⟩,⟨0,0⟩⟩]⟩
def Wk.pc (w:Wk) (i:Nat):Pc:=w.c.procs.getD i FI
def Wk.setP (w:Wk) (i:Nat) (x:Pc):Wk:=⟨{ w.c with procs:=w.c.procs.set i x },w.ev⟩
def fv (w:Wk) (p:Pr) (n:ByteArray):Wk:=w.take (bv w.c.queues p n).1 (bv w.c.queues p n).2.1
def dI (w:Wk) (p:Pr) (a:Tm):Wk:=w.take (bD w.c.queues p a).1 (bD w.c.queues p a).2.1
def eT (w:Wk) (p:Pr) (n:ByteArray):Wk:=bif (aj (bf w.c.queues n) p).isSome then fv w p n else w
def bZ (w:Wk) (p:Pr) (n:ByteArray) (l:Am):Wk:=bif decide (ah (bf w.c.queues n).holds p=l) then w else dI w p ⟨n,l⟩
def bH (w:Wk) (x:Pc) (n:ByteArray):Wk:=bZ (eT w x.proc n) x.proc n (aC x.led.entries n)
def dO (w:Wk) (i:Nat):Wk:=w.setP i { w.pc i with waiting:=false,req:=Rq.zero,since:=0 }
def aZ (w:Wk) (i:Nat):Wk:=w.setP i { w.pc i with gen:=bc (w.pc i).gen }
def cS (x:Pc):List Tm->Wk->Wk
 | [],w=>w
 | a :: l,w=>cS x l (bH w x a.name)
def ai (w:Wk) (i:Nat):Wk:=dO (cS (w.pc i) (bJ (w.pc i).req.expr) w) i
def dU (t:List Qu) (x:Pc):Bool:=x.waiting && cM x.req.expr (bk t x.proc x.req.expr)
def dF (t:List Qu):Nat->List Pc->Option Nat
 | _,[]=>none
 | k,x :: l=>bif dU t x then some k else dF t (k+1) l
def c9 (x:Ex) (L:List Tm):Nat->List Bool->List Bool
 | 0,out=>out
 | i+1,out=>c9 x L i (bif out.getD i false then out.set i (!oJ (cE L (out.set i false)) x) else out)
def bz (x:Ex) (set:List Bool):List Bool :=
 bif cM x set then c9 x (bJ x) (bJ x).length ((List.range (bJ x).length).map fun i=>set.getD i false) else List.replicate (bJ x).length false
def gy (w:Wk) (i:Nat) (p:Pr) (n:ByteArray):Wk :=
 bif decide (ah (bf w.c.queues n).holds p=aC (w.pc i).led.entries n) then w else
 w.setP i { w.pc i with led:=(d8 (w.pc i).led ⟨n,aC (w.pc i).led.entries n,ah (bf w.c.queues n).holds p⟩).1 }
def bO (x:Pc) (i:Nat):List Tm->List Bool->Wk->Wk
 | a :: l,b :: bs,w=>bO x i l bs (bif b then gy w i x.proc a.name else bH w x a.name)
 | _,_,w=>w
def eJ (w:Wk) (i:Nat):Wk :=
 aZ (dO (bO (w.pc i) i (bJ (w.pc i).req.expr) (bz (w.pc i).req.expr (bk w.c.queues (w.pc i).proc (w.pc i).req.expr)) (w.note 2 (w.pc i).proc)) i) i
def aK:Nat->Wk->Wk
 | 0,w=>w
 | n+1,w=>match dF w.c.queues 0 w.c.procs with
  | none=>w
  | some i=>aK n (eJ w i)
def bw (w:Wk):Wk:=aK w.c.procs.length w
def gT (w:Wk) (i:Nat):Wk :=
 bw (Wk.note ⟨{ w.c with queues:=(bS w.c.queues (w.pc i).proc).1,procs:=w.c.procs.eraseIdx i },w.ev++(bS w.c.queues (w.pc i).proc).2⟩ 5 (w.pc i).proc)
def gh (now:Int):Nat->List Pc->Int×Int->Int×Int
 | _,[],b=>b
 | k,x :: l,b=>gh now (k+1) l (bif x.waiting && !decide (x.req.limit=0) && decide (x.since+x.req.limit<=now) && (decide (b.1<0) || decide (x.since+x.req.limit<b.2)) then ((k:Int),x.since+x.req.limit) else b)
def cA (w:Wk):Int:=(gh w.c.now 0 w.c.procs (-1,0)).1
def my (x:Pc):List Pc->List Pc
 | []=>[x]
 | y :: l=>bif decide (0<cl y.proc x.proc) then x :: y :: l else y :: my x l
def iZ (w:Wk) (p:Pr) (cost:Int):Wk×Int :=
 bif !(jW p && decide (1<=cost) && decide (cost<=1000)) then (w,1) else bif decide (0<=bM p 0 w.c.procs) then (w,11) else bif decide (w.c.procs.length=8) then (w,4) else
 (⟨{ w.c with procs:=my { FI with proc:=p,cost:=cost } w.c.procs },w.ev⟩,0)
def cO (p:Pr) (prio:Int):List Tm->Wk->Wk
 | [],w=>w
 | a :: l,w=>cO p prio l (w.take (bt w.c.queues p a prio).1 (bt w.c.queues p a prio).2.1)
def bX (w:Wk) (i:Nat) (r:Rq):Wk×Int :=
 bif (w.pc i).waiting then (w,14) else bif !m6 r then (w,1) else bif !decide (fW w.c.queues r.expr=0) then (w,fW w.c.queues r.expr) else
 (bw (cO (w.pc i).proc r.prio (bJ r.expr) (aZ (w.setP i { w.pc i with waiting:=true,req:=r,since:=w.c.now }) i)),0)
def dG (w:Wk) (i:Nat) (n:ByteArray):Wk×Int :=
 bif (w.pc i).waiting then (w,14) else bif decide (aC (w.pc i).led.entries n=⟨0,0⟩) then (w,10) else
 let w1:=dI w (w.pc i).proc ⟨n,⟨0,0⟩⟩
 (bw (aZ (w1.setP i { w1.pc i with led:=(ic (w1.pc i).led n).1 }) i),0)
def bU (p:Pr):List Tm->Wk->Wk
 | [],w=>w
 | a :: l,w=>bU p l (bZ w p a.name a.am)
def cu (w:Wk) (i:Nat) (n:Int):Wk×Int :=
 bif !decide ((cQ (w.pc i).led n).2.2=0) then (w,(cQ (w.pc i).led n).2.2) else
 let w1:=bif (w.pc i).waiting then ai w i else w
 let w2:=w1.setP i { w1.pc i with led:=(cQ (w.pc i).led n).1 }
 (bw (aZ (bU (w.pc i).proc (cQ (w.pc i).led n).2.1 w2) i),0)
def cI:Nat->Wk->Wk
 | 0,w=>w
 | n+1,w=>bif decide (cA w<0) then w else
  cI n (bw (aZ (ai (w.note 4 (w.pc (cA w).toNat).proc) (cA w).toNat) (cA w).toNat))
def gi (w:Wk) (n:Int):Wk×Int :=
 bif !(decide (0<=n) && decide (n<=1000)) then (w,1) else bif decide (1073741824-n<w.c.now) then (w,16) else (cI w.c.procs.length ⟨{ w.c with now:=w.c.now+n },w.ev⟩,0)
def g8 (w:Wk) (k:Cm):Wk×Int :=
 bif !(decide (1<=k.kind) && decide (k.kind<=9)) then (w,1) else bif decide (k.kind=1) then iZ w k.proc k.n else bif decide (k.kind=9) then gi w k.n else
 bif decide (bM k.proc 0 w.c.procs<0) then (w,10) else
 let i:=(bM k.proc 0 w.c.procs).toNat
 bif decide (k.kind=2) then bX w i k.req else
 bif decide (k.kind=3) then (bif !(w.pc i).waiting then (w,14) else (bw (aZ (ai w i) i),0)) else
 bif decide (k.kind=4) then dG w i k.name else
 bif decide (k.kind=5) then (bif (w.pc i).waiting then (w,14) else bif !decide ((da (w.pc i).led k.n).2=0) then (w,(da (w.pc i).led k.n).2) else (aZ (w.setP i { w.pc i with led:=(da (w.pc i).led k.n).1 }) i,0)) else
 bif decide (k.kind=6) then cu w i k.n else
 bif decide (k.kind=8) && (w.pc i).waiting then (w,14) else (gT w i,0)
def cy (c:Cs) (k:Cm):Cs×List Ev×Int :=
 bif !cG c then (LA,[],2) else bif !decide ((g8 ⟨c,[]⟩ k).2=0) then (LA,[],(g8 ⟨c,[]⟩ k).2) else ((g8 ⟨c,[]⟩ k).1.c,(g8 ⟨c,[]⟩ k).1.ev,0)
def En.cells (x:En):List Value:=[.string x.name,.int .i64 x.before.mode,.int .i64 x.before.units,.int .i64 x.after.mode,.int .i64 x.after.units]
def Sv.cells (x:Sv):List Value:=[.int .i64 x.label,.int .i64 x.at_]
def Ev.cells (x:Ev):List Value:=[.int .i64 x.kind,.int .i64 x.proc.site,.int .i64 x.proc.inc,.int .i64 x.proc.num,.string x.name,.int .i64 x.am.mode,.int .i64 x.am.units]
def ke:El En:=El.plain 5 (by decide) En.cells (fun _=>rfl) (by intro x u hu;simp [En.cells] at hu;rcases hu with rfl|rfl|rfl|rfl|rfl <;> rfl)
def lS:El Sv:=El.plain 2 (by decide) Sv.cells (fun _=>rfl) (by intro x u hu;simp [Sv.cells] at hu;rcases hu with rfl|rfl <;> rfl)
def fX:El Ev:=El.plain 7 (by decide) Ev.cells (fun _=>rfl) (by intro x u hu;simp [Ev.cells] at hu;rcases hu with rfl|rfl|rfl|rfl|rfl|rfl|rfl <;> rfl)
theorem Tz:ElTB prog ke 77 132 48:=ElTB.mk' underlying77 (.agg #[.string { data:=#[] },.int .i64 0,.int .i64 0,.int .i64 0,.int .i64 0]) 5 48 (by kernel_rfl) rfl rfl
theorem TA:ElTB prog lS 78 207 16:=ElTB.mk' underlying78 (.agg #[.int .i64 0,.int .i64 0]) 2 16 (by kernel_rfl) rfl rfl
theorem TB:ElTB prog fX 36 68 64:=ElTB.mk' underlying36 (.agg #[.int .i64 0,.int .i64 0,.int .i64 0,.int .i64 0,.string { data:=#[] },.int .i64 0,.int .i64 0]) 7 64 (by kernel_rfl) rfl rfl
section
variable {w:World} {S:Nat->Prop} {A:Option Addr} {i:Nat}
end
structure QS (w:World) (S:Nat->Prop) (A1 A2 A3:Option Addr) (q:Qu):Prop where
 r1:RowsAt gM w S A1 q.holds
 r2:RowsAt fK w S A2 q.convs
 r3:RowsAt fK w S A3 q.waits
 m1:q.holds.length<=maxLen
 m2:q.convs.length<=maxLen
 m3:q.waits.length<=maxLen
section
variable {w w':World} {S S':Nat->Prop} {A1 A2 A3:Option Addr} {q:Qu}
theorem QS.qf (h:QS w S A1 A2 A3 q) (hS:In w S):QF w w.heap.size A1 A2 A3 q:=⟨h.r1.lo hS,h.r2.lo hS,h.r3.lo hS,h.m1,h.m2,h.m3,Nat.le_refl _⟩
end
def fR (d:Nat):El Pc where
 n:=16
 pos:=by decide
 rep:=fun w S x cs=>∃A1 c1 A2 c2 A3 c3,cs=[.int .i64 x.proc.site,.int .i64 x.proc.inc,.int .i64 x.proc.num,.int .i64 x.cost,.slice A1 x.led.entries.length c1,.slice A2 x.led.saves.length c2,.bool x.waiting,.int .i64 x.req.expr.k,.string x.req.expr.atom.name,.int .i64 x.req.expr.atom.am.mode,.int .i64 x.req.expr.atom.am.units,.slice A3 x.req.expr.kids.length c3,.int .i64 x.req.prio,.int .i64 x.req.limit,.int .i64 x.since,.int .i64 x.gen]/\
  RowsAt ke w S A1 x.led.entries/\(x.led.entries.length<=c1/\c1<=maxLen)/\RowsAt lS w S A2 x.led.saves/\(x.led.saves.length<=c2/\c2<=maxLen)/\RowsAt (pA d) w S A3 x.req.expr.kids/\(x.req.expr.kids.length<=c3/\c3<=maxLen)
 len:=fun h=>by obtain ⟨A1,c1,A2,c2,A3,c3,rfl,_⟩:=h;rfl
 one:=fun h=>by obtain ⟨A1,c1,A2,c2,A3,c3,rfl,_⟩:=h;intro u hu;simp at hu;rcases hu with rfl|rfl|rfl|rfl|rfl|rfl|rfl|rfl|rfl|rfl|rfl|rfl|rfl|rfl|rfl|rfl <;> rfl
 same:=fun h hk hS=>by
  obtain ⟨A1,c1,A2,c2,A3,c3,e,h1,h2,h3,h4,h5,h6⟩:=h;exact ⟨A1,c1,A2,c2,A3,c3,e,h1.same hk hS,h2,h3.same hk hS,h4,h5.same hk hS,h6⟩
theorem QB (l:List Value) (k:Nat):(l.map D.sc).any (D.has k)=false:=by
 induction l with
 | nil=>rfl
 | cons x l ih=>simp only [List.map_cons,List.any_cons,ih,D.has,Bool.or_self]
theorem LB {w:World} {F:Nat->Prop} {ρ:Nat->Value}:∀{l vs:List Value},All2 (D.rep w F ρ) (l.map .sc) vs->vs=l
 | [],[],_=>rfl
 | _ :: _,_ :: _,h=>by rw [show _=_ from h.1,LB h.2]
 | [],_ :: _,h=>h.elim
 | _ :: _,[],h=>h.elim
@[reducible] def gm {α:Type} (n:Nat) (pos:0<n) (f:α->List Value) (len:∀x,(f x).length=n) (one:∀x,∀u∈f x,u.oneCell'=true):Dp (El.plain n pos f len one) where
 deep:=fun x=>(f x).map .sc
 get:=fun h=>by rw [show _=_ from h];exact All2.scs _
 put:=fun h=>LB h
 nok:=fun x k=>QB (f x) k
instance:Dp gK:=gm _ _ _ _ _
instance:Dp I9:=gm _ _ _ _ _
instance:Dp c6:=gm _ _ _ _ _
instance:Dp gM:=gm _ _ _ _ _
instance:Dp fK:=gm _ _ _ _ _
instance:Dp ke:=gm _ _ _ _ _
instance:Dp lS:=gm _ _ _ _ _
instance:Dp fX:=gm _ _ _ _ _
instance:ST prog gM 61 121 40:=⟨Ts⟩
instance:ST prog fK 64 173 56:=⟨Qb⟩
instance:ST prog ke 77 132 48:=⟨Tz⟩
instance:ST prog lS 78 207 16:=⟨TA⟩
instance:ST prog fX 36 68 64:=⟨TB⟩
instance:ST prog c6 88 44 32:=⟨Tr⟩
def Pc.d (d:Nat) (x:Pc):List D:=[.sc (.int .i64 x.proc.site),.sc (.int .i64 x.proc.inc),.sc (.int .i64 x.proc.num),.sc (.int .i64 x.cost),.sl ke x.led.entries,.sl lS x.led.saves,.sc (.bool x.waiting),.sc (.int .i64 x.req.expr.k),.sc (.string x.req.expr.atom.name),.sc (.int .i64 x.req.expr.atom.am.mode),.sc (.int .i64 x.req.expr.atom.am.units),.sl (pA d) x.req.expr.kids,.sc (.int .i64 x.req.prio),.sc (.int .i64 x.req.limit),.sc (.int .i64 x.since),.sc (.int .i64 x.gen)]
instance (d:Nat):Dp (fR d) where
 deep:=Pc.d d
 get:=by
  rintro w F ρ x cs ⟨A1,c1,A2,c2,A3,c3,rfl,h1,h2,h3,h4,h5,h6⟩;exact ⟨rfl,rfl,rfl,rfl,⟨A1,c1,rfl,h2,h1⟩,⟨A2,c2,rfl,h4,h3⟩,rfl,rfl,rfl,rfl,rfl,⟨A3,c3,rfl,h6,h5⟩,rfl,rfl,rfl,rfl,trivial⟩
 put:=by
  intro w F ρ x cs h
  match cs,h with
  | [_,_,_,_,_,_,_,_,_,_,_,_,_,_,_,_],⟨rfl,rfl,rfl,rfl,⟨A1,c1,rfl,h2,h1⟩,⟨A2,c2,rfl,h4,h3⟩,rfl,rfl,rfl,rfl,rfl,⟨A3,c3,rfl,h6,h5⟩,rfl,rfl,rfl,rfl,_⟩=>exact ⟨A1,c1,A2,c2,A3,c3,rfl,h1,h2,h3,h4,h5,h6⟩
 nok:=fun _ _=>rfl
theorem vh {P:Program} {f:FuncId} {args:List V0} {res:TV} (hen:∀(vs:Array Value) (w:World),(callFunc f vs).run P w = .ok (.enter f vs) w) (hok:Hq args [] [] res []=true)
  (h:∀(w:World) (S:Nat->Prop) (ρ:Nat->Value) (vs:List Value),PinW w (fun _=>False)->In w S->All2 (V0.rep w S ρ) args vs->Calls P f vs.toArray w fun e w'=>∃v,e = .returned v/\Below w.heap.size w w'/\res.rep w' (Gr S w.heap.size w') ρ v):FSpec P f args [] [] res []:=by
 refine ⟨hen,fun q c st ρ a w vs hr _ hargs _ _=>?_⟩;simp only [Hq,qBa] at hok;obtain ⟨⟨⟨⟨⟨⟨o1,_⟩,_⟩,_⟩,_⟩,o6⟩,_⟩:=hok;have hnok:∀d∈args,∀k,d.has k=true->False:=fun d hd k hk=>by have:=V0.in_has (List.all_eq_true.1 o1 d hd) hk;simp [ax,aX] at this
 have hnor:∀k,res.has k=true->False:=fun k hk=>by have:=TV.in_has o6 hk;simp [ax,aX] at this
 have hargs':All2 (V0.rep w (Fz c st.h ρ w) ρ) args vs:=hargs.imp fun d v hd h1=>(V0.rep_ren (ρ':=ρ) fun k hk=>(hnok d hd k hk).elim).1 h1;refine (h w (Fz c st.h ρ w) ρ vs hr.pin (fun b hb=>hb.2.1) hargs').mono ?_;rintro e w' ⟨v,rfl,hb,hv⟩;refine ⟨v,rfl,fun dst hdst=>⟨ρ,hr.app (e:=⟨res.ren q,fo q [],[].map q⟩) hdst (fun k hk=>by simp [aX] at hk) (fun _ _=>rfl) (fun k hk=>by simp [fo,aL] at hk) (Frx.below hb) (fun k bx g hk=>by simp [fo,aL] at hk) (fun k k' b b' g hk=>by simp [fo,aL] at hk) (fun k hk=>?_) (fun k k' bx hk=>by simp [fo,aL] at hk) (fun k bx hk=>by simp [fo,aL] at hk) ?_⟩⟩
 ·obtain ⟨k',hk',_⟩:=TV.has_ren hk;exact (hnor k' hk').elim
 ·refine ((TV.rep_ren (ρ':=ρ) fun k hk=>(hnor k hk).elim).2 hv).mono (fun b hb2=>⟨⟨?_,hb2.1,fun k bx hk he=>?_⟩,rfl⟩) fun _ _=>rfl
  ·rcases hb2.2 with h1|h1
   ·exact h1.1
   ·exact .inr (Nat.le_trans hr.frm.size h1)
  ·have hk:st.h k=some bx:=hk;rcases hb2.2 with h1|h1
   ·exact h1.2.2 k bx hk he
   ·have:=hr.ltb hk he;omega
theorem H0 {w:World} {F:Nat->Prop} {ρ:Nat->Value} {ds:List D} {l:List Value} {v:Value} (hs:scs ds=some l) (h:(V0.ag ds).rep w F ρ v):v = .agg l.toArray:=by
 obtain ⟨vs,rfl,h1⟩:=h;rw [f0 hs h1]
theorem jc {w w':World} {S:Nat->Prop} {ρ:Nat->Value} {v:Value} {e:Ending} (h:uL w v e w'):∃u,e = .returned u/\Below w.heap.size w w'/\(TV.c (.sc v)).rep w' (Gr S w.heap.size w') ρ u:=⟨v,h.1,h.2,rfl⟩
theorem D9 {w w':World} {S:Nat->Prop} {ρ:Nat->Value} {α:Type} {t:TypeId} {l:List α} {e:Ending} {n:Nat} {pos:0<n} {f:α->List Value} {len:∀x,(f x).length=n} {one:∀x,∀u∈f x,u.oneCell'=true} (h:BI (El.plain n pos f len one) t w l e w') :
  ∃u,e = .returned u/\Below w.heap.size w w'/\(TV.c (.sl (El.plain n pos f len one) l)).rep w' (Gr S w.heap.size w') ρ u:=by
 obtain ⟨v,rfl,hown,hb⟩:=h;obtain ⟨A,cap,rfl,hr,h1,h2⟩:=OwnRows.nw hown;exact ⟨_,rfl,hb,A,cap,rfl,⟨h1,h2⟩,hr.grNew⟩
def D.okb:D->Bool
 | .sc x=>x.oneCell'
 | .sl ..=>true
 | _=>false
theorem D.okb_has {d:D} (h:d.okb=true) (k:Nat):d.has k=false:=by cases d <;> first|rfl|cases h
theorem D.okb_one {w:World} {F:Nat->Prop} {ρ:Nat->Value} {d:D} {v:Value} (h:d.okb=true) (hd:d.rep w F ρ v):v.oneCell'=true:=by
 cases d with
 | sc x=>have hd:v=x:=hd;rw [hd];exact h
 | sl E l=>obtain ⟨A,cap,rfl,_⟩:=hd;rfl
 | _=>cases h
def El.ofD {α:Type} (n:Nat) (pos:0<n) (f:α->List D) (len:∀x,(f x).length=n) (ok:∀x,(f x).all D.okb=true):El α where
 n:=n
 pos:=pos
 rep:=fun w S x cs=>All2 (D.rep w S fun _=>undef) (f x) cs
 len:=fun h=>by rw [<-h.length,len]
 one:=fun {w S x cs} h=>yf h fun d hd u hu=>D.okb_one (List.all_eq_true.1 (ok x) d hd) hu
 same:=fun {w w' S S' x cs} h hk hS=>h.imp fun d v hd h1=>D.rep.mono h1 (fun b hb=>⟨hS b hb,hk b hb⟩) fun _ _=>rfl
@[reducible] def Uw {α:Type} (n:Nat) (pos:0<n) (f:α->List D) (len:∀x,(f x).length=n) (ok:∀x,(f x).all D.okb=true):Dp (El.ofD n pos f len ok) where
 deep:=f
 get:=fun {w F ρ x cs} h=>All2.imp (R:=D.rep w F fun _=>undef) h fun d v hd h1=>D.rep.mono h1 (fun b hb=>⟨hb,rfl⟩) fun k hk=>by rw [D.okb_has (List.all_eq_true.1 (ok x) d hd) k] at hk;cases hk
 put:=fun {w F ρ x cs} h=>h.imp fun d v hd h1=>D.rep.mono h1 (fun b hb=>⟨hb,rfl⟩) fun k hk=>by rw [D.okb_has (List.all_eq_true.1 (ok x) d hd) k] at hk;cases hk
 nok:=fun x k=>by
  rw [Bool.eq_false_iff];intro h;obtain ⟨d,hd,h1⟩:=List.any_eq_true.1 h;rw [D.okb_has (List.all_eq_true.1 (ok x) d hd) k] at h1;cases h1
theorem de {P:Program} {f:FuncId} {args:List V0} {res:TV} (hen:∀(vs:Array Value) (w:World),(callFunc f vs).run P w = .ok (.enter f vs) w) (hok:Hq args [] [] res []=true)
  (h:∀(w:World) (S:Nat->Prop) (ρ:Nat->Value) (vs:List Value),In w S->All2 (V0.rep w S ρ) args vs->Calls P f vs.toArray w fun e w'=>∃v,e = .returned v/\Below w.heap.size w w'/\res.rep w' (Gr S w.heap.size w') ρ v):FSpec P f args [] [] res [] :=
 vh hen hok fun w S ρ vs _ hS ha=>h w S ρ vs hS ha
def Pr.a (p:Pr):V0:=.ag [.sc (.int .i64 p.site),.sc (.int .i64 p.inc),.sc (.int .i64 p.num)]
def Am.a (x:Am):V0:=.ag [.sc (.int .i64 x.mode),.sc (.int .i64 x.units)]
def Tm.a (x:Tm):V0:=.ag [.sc (.string x.name),.sc (.int .i64 x.am.mode),.sc (.int .i64 x.am.units)]
def Rs.a (r:Rs):V0:=.ag [.sc (.string r.name),.sc (.int .i64 r.kind),.sc (.int .i64 r.units),.sc (.int .i64 r.home)]
def Qu.d (q:Qu):List D:=[.sc (.string q.res.name),.sc (.int .i64 q.res.kind),.sc (.int .i64 q.res.units),.sc (.int .i64 q.res.home),.sl gM q.holds,.sl fK q.convs,.sl fK q.waits,.sc (.int .i64 q.gen)]
def Qu.a (q:Qu):V0:=.ag q.d
def eh:El Qu:=El.ofD 8 (by decide) Qu.d (fun _=>rfl) fun _=>rfl
instance:Dp eh:=Uw _ _ _ _ _
def Ex.d (d:Nat) (x:Ex):List D:=[.sc (.int .i64 x.k),.sc (.string x.atom.name),.sc (.int .i64 x.atom.am.mode),.sc (.int .i64 x.atom.am.units),.sl (pA d) x.kids]
def Ex.a (d:Nat) (x:Ex):V0:=.ag (x.d d)
def Lg.a (l:Lg):V0:=.ag [.sl ke l.entries,.sl lS l.saves]
def Pc.a (d:Nat) (x:Pc):V0:=.ag (x.d d)
def En.a (x:En):V0:=.ag [.sc (.string x.name),.sc (.int .i64 x.before.mode),.sc (.int .i64 x.before.units),.sc (.int .i64 x.after.mode),.sc (.int .i64 x.after.units)]
def Rq.d (d:Nat) (r:Rq):List D:=[.sc (.int .i64 r.expr.k),.sc (.string r.expr.atom.name),.sc (.int .i64 r.expr.atom.am.mode),.sc (.int .i64 r.expr.atom.am.units),.sl (pA d) r.expr.kids,.sc (.int .i64 r.prio),.sc (.int .i64 r.limit)]
def Rq.a (d:Nat) (r:Rq):V0:=.ag (r.d d)
section
variable {w:World} {S:Nat->Prop} {ρ:Nat->Value} {v:Value}
theorem Pr.open {p:Pr} (h:p.a.rep w S ρ v):v=p.val:=H0 rfl h
theorem Rs.open {p:Rs} (h:p.a.rep w S ρ v):v=p.val:=H0 rfl h
theorem Qu.open {q:Qu} (h:q.a.rep w S ρ v):∃A1 A2 A3 c1 c2 c3,v=q.val A1 A2 A3 c1 c2 c3/\QS w S A1 A2 A3 q/\(q.holds.length<=c1/\c1<=maxLen)/\(q.convs.length<=c2/\c2<=maxLen)/\(q.waits.length<=c3/\c3<=maxLen):=by
 obtain ⟨cs,rfl,h⟩:=h
 match cs,h with
 | [_,_,_,_,_,_,_,_],⟨rfl,rfl,rfl,rfl,⟨A1,c1,rfl,h1,r1⟩,⟨A2,c2,rfl,h2,r2⟩,⟨A3,c3,rfl,h3,r3⟩,rfl,_⟩ =>
  exact ⟨A1,A2,A3,c1,c2,c3,rfl,⟨r1,r2,r3,Nat.le_trans h1.1 h1.2,Nat.le_trans h2.1 h2.2,Nat.le_trans h3.1 h3.2⟩,h1,h2,h3⟩
theorem Ex.open {d:Nat} {x:Ex} (h:(x.a d).rep w S ρ v):∃A c,v=x.val A c/\RowsAt (pA d) w S A x.kids/\(x.kids.length<=c/\c<=maxLen):=by
 obtain ⟨cs,rfl,h⟩:=h
 match cs,h with
 | [_,_,_,_,_],⟨rfl,rfl,rfl,rfl,⟨A,c,rfl,h1,r1⟩,_⟩=>exact ⟨A,c,rfl,r1,h1⟩
end
section
variable {P:Program} {s:Mst} {o:Oper} {α:Type} {E:El α} {l:List α} {e':TypeId}
theorem n5 {c:Ctx} {st:Mst} {ρ:Nat->Value} {a:Act} {w:World} {F:Nat->Prop} (hr:Rp c st ρ a w) {k:Nat} (hk:st.h k=some (.arr e' E l)) {v:Value} (hv:(D.ocut k).rep w F ρ v) :
  ∃A cap cp,v = .slice A l.length cp/\(l.length<=cp/\cp<=cap/\cap<=maxLen)/\ρ k = .slice A l.length cap/\(0<l.length->∃g,A=some ⟨g,0,none⟩):=by
 obtain ⟨A0,n0,cap0,c0,hρ0,hc0,rfl⟩:=hv;obtain ⟨A,cap,hA,hc,hp⟩:=fA (hr.hp k _ hk);have hA':=hA;rw [hρ0] at hA';injection hA' with e1 e2 e3;subst e1;subst e2;subst e3;exact ⟨A0,cap0,c0,rfl,⟨hc0.1,hc0.2,hc.2⟩,hρ0,fun h=>by obtain ⟨g,xs,rfl,_⟩:=hp h;exact ⟨g,rfl⟩⟩
theorem vi {t e:TypeId} {x y:Operand} {row:Bool} {n i k:Nat} {kd:IntKind} {z:Int} (ho:o.op = .indexAddr t x y) (hx:s.ev x = .c (.ocut k)) (hk:s.h k=some (.arr e' E l)) (hy:s.ev y = .c (.sc (.int kd z))) [SE P t e] [TI P e row n] (hn:E.n=n) (hz:z=(i:Int)) (hi:i<l.length) :
  LOp P o s [k] ⟨.c (.optr k n i 0),[],[]⟩ :=
 bY fun c st ρ a w hr h1 h2=>by
  have he:=h1 x (by simp [ho,Op.operands]);have he2:=h1 y (by simp [ho,Op.operands]);rw [hx] at he;rw [hy] at he2;have hv:=hr.ev x;rw [he] at hv;have hv2:=hr.ev y;rw [he2] at hv2;have hv2:a.eval y = .int kd z:=hv2;obtain ⟨A,cap,cp,hv,hc,hρ,hp⟩:=n5 hr ((h2 k (by simp [aX])).trans hk) (show (D.ocut k).rep w (Fz c st.h ρ w) ρ (a.eval x) from hv);obtain ⟨g,rfl⟩:=hp (by omega);subst hz;subst hn;refine ⟨.pointer (some ⟨g,0+i*E.n,none⟩),by unfold execOp;rw [ho];simp only [hv,hv2,Sem.run_bind,jL w l.length cp i hi,Result.andThen_ok,Sem.run_pure],⟨g,_,_,hρ,by simp⟩,fun k' hk'=>hr.nf (x:=x) he (by simpa [TV.has,V0.has,D.has] using hk')⟩
theorem JM {t e:TypeId} {x:Operand} {k:Nat} [SE P t e] (ho:o.op = .call { callee:=.builtin .len,args:=#[x],argTypes:=#[t] }) (hx:s.ev x = .c (.ocut k)) (hk:s.h k=some (.arr e' E l)):LOp P o s [k] ⟨.i l.length,[],[]⟩ :=
 jw (ty:=0) ho fun c st ρ a w hr he h2=>by
  have hv:=hr.ev x;rw [he,hx] at hv;obtain ⟨A,cap,cp,hv,_⟩:=n5 hr ((h2 k (by simp [aX])).trans hk) (show (D.ocut k).rep w (Fz c st.h ρ w) ρ (a.eval x) from hv);exact ⟨A,cp,hv⟩
theorem LC {t e:TypeId} {x y z:Operand} {row:Bool} {n i k:Nat} (ho:o.op = .slice t x none (some y) (some z)) (hx:s.ev x = .c (.ocut k)) (hk:s.h k=some (.arr e' E l)) (hy:s.ev y = .i i) (hz:s.ev z = .i i) [I:SE P t e] [J:TI P e row n] (hn:E.n=n) (hi:i<=l.length) (h0:0<l.length) :
  LOp P o s [k] ⟨.c (.osl k n 0 i true),[],[]⟩ :=
 bY fun c st ρ a w hr h1 h2=>by
  have he:=h1 x (by simp [ho,Op.operands]);rw [hx] at he;have hv:=hr.ev x;rw [he] at hv;have hv2:a.eval y = .int .i64 (i:Int):=by have:=hr.ev y;rwa [h1 y (by simp [ho,Op.operands]),hy] at this
  have hv3:a.eval z = .int .i64 (i:Int):=by have:=hr.ev z;rwa [h1 z (by simp [ho,Op.operands]),hz] at this
  obtain ⟨A,cap,cp,hv,hc,hρ,hp⟩:=n5 hr ((h2 k (by simp [aX])).trans hk) (show (D.ocut k).rep w (Fz c st.h ρ w) ρ (a.eval x) from hv);obtain ⟨g,rfl⟩:=hp h0;obtain ⟨j,hj,hjn⟩:∃j,P.info? e=some j/\j.size=n:=by
   have:=J.s;cases h:P.info? e with
   | none=>simp [h] at this
   | some j=>exact ⟨j,rfl,by simpa [h] using this⟩
  subst hjn;refine ⟨.slice (some ⟨g,0,none⟩) i i,?_,⟨g,_,_,i,⟨g,0,none⟩,hρ,⟨Nat.zero_le _,hi,by omega,by omega⟩,fun _=>by omega,by simp,fun _=>by simp⟩,fun k' hk'=>hr.nf (x:=x) he (by simpa [TV.has,V0.has,D.has] using hk')⟩;unfold execOp;rw [ho];have h3:i<=cp:=by omega
  by_cases hi0:i=0
  ·subst hi0;simp [hv,hv2,hv3,Instr.sliceAt,Instr.slice,Instr.sliceBounds,Instr.sliceBound,asIntOf,run_underlying I.u,sizeOf,typeInfo,hj]
  ·simp [hv,hv2,hv3,Instr.sliceAt,Instr.slice,Instr.sliceBounds,Instr.sliceBound,asIntOf,run_underlying I.u,sizeOf,typeInfo,hj,h3,hi0,dS]
theorem LD {t e:TypeId} {x y:Operand} {row:Bool} {n j k:Nat} (ho:o.op = .slice t x (some y) none none) (hx:s.ev x = .c (.ocut k)) (hk:s.h k=some (.arr e' E l)) (hy:s.ev y = .i j) [I:SE P t e] [J:TI P e row n] (hn:E.n=n) (hj:j<=l.length) (h0:0<l.length) :
  LOp P o s [k] ⟨.c (.osl k n j l.length false),[],[]⟩ :=
 bY fun c st ρ a w hr h1 h2=>by
  have he:=h1 x (by simp [ho,Op.operands]);rw [hx] at he;have hv:=hr.ev x;rw [he] at hv;have hv2:a.eval y = .int .i64 (j:Int):=by have:=hr.ev y;rwa [h1 y (by simp [ho,Op.operands]),hy] at this
  obtain ⟨A,cap,cp,hv,hc,hρ,hp⟩:=n5 hr ((h2 k (by simp [aX])).trans hk) (show (D.ocut k).rep w (Fz c st.h ρ w) ρ (a.eval x) from hv);obtain ⟨g,rfl⟩:=hp h0;obtain ⟨q,hq,hqn⟩:∃q,P.info? e=some q/\q.size=n:=by
   have:=J.s;cases h:P.info? e with
   | none=>simp [h] at this
   | some q=>exact ⟨q,rfl,by simpa [h] using this⟩
  subst hqn;have h3:j<=cp:=by omega
  refine ⟨.slice (some (if cp=j then ⟨g,0,none⟩ else ⟨g,j*q.size,none⟩)) (l.length-j) (cp-j),?_,⟨g,_,_,cp-j,_,hρ,⟨hj,Nat.le_refl _,by omega,by omega⟩,(fun h=>by cases h),rfl,fun h=>?_⟩,fun k' hk'=>hr.nf (x:=x) he (by simpa [TV.has,V0.has,D.has] using hk')⟩
  ·unfold execOp;rw [ho];by_cases hi0:cp=j
   ·exact V2
   ·exact V5
  ·rcases h with h|h
   ·subst h;simp
   ·rw [if_neg (by omega)]
theorem oV {t e:TypeId} {row:Bool} {n:Nat} {z:Int} {x y:Operand} {L L':List α} [I:SE P t e] [J:TI P e row n] (ho:o.op = .slice t x (some y) none none) (hx:s.ev x = .c (.sl E L)) (hn:E.n=n) (hy:s.ev y = .i z) (h0:0<=z) (h1:z.toNat<=L.length) (hL:L.drop z.toNat=L'):LOp P o s [] ⟨.c (.sl E L'),[],[]⟩ :=
 AH ho hx hn (.inl ⟨y,rfl,by rw [hy,Int.toNat_of_nonneg h0]⟩) (.inr ⟨rfl,rfl⟩) h1 (Nat.le_refl _) (by rw [List.take_length];exact hL)
theorem yy {t e:TypeId} {row:Bool} {n:Nat} {z:Int} {x y:Operand} {L L':List α} [I:SE P t e] [J:TI P e row n] (ho:o.op = .slice t x none (some y) none) (hx:s.ev x = .c (.sl E L)) (hn:E.n=n) (hy:s.ev y = .i z) (h0:0<=z) (h1:z.toNat<=L.length) (hL:L.take z.toNat=L'):LOp P o s [] ⟨.c (.sl E L'),[],[]⟩ :=
 AH ho hx hn (.inr ⟨rfl,rfl⟩) (.inl ⟨y,rfl,by rw [hy,Int.toNat_of_nonneg h0]⟩) (Nat.zero_le _) h1 (by rw [List.drop_zero];exact hL)
theorem Eb {t e:TypeId} {x y:Operand} {row:Bool} {n:Nat} {kd:IntKind} {z:Int} (ho:o.op = .indexAddr t x y) (hx:s.ev x = .c (.sl E l)) (hy:s.ev y = .c (.sc (.int kd z))) [SE P t e] [TI P e row n] (hn:E.n=n) (h0:0<=z) (hi:z.toNat<l.length):LOp P o s [] ⟨.c (.eptr E l z.toNat 0),[],[]⟩ :=
 AC ho hx hy hn (Int.toNat_of_nonneg h0).symm hi
theorem Cd {t e:TypeId} {x y:Operand} {row:Bool} {n k:Nat} {kd:IntKind} {z:Int} (ho:o.op = .indexAddr t x y) (hx:s.ev x = .c (.own k)) (hk:s.h k=some (.arr e' E l)) (hy:s.ev y = .c (.sc (.int kd z))) [SE P t e] [TI P e row n] (hn:E.n=n) (h0:0<=z) (hi:z.toNat<l.length):LOp P o s [k] ⟨.c (.optr k n z.toNat 0),[],[]⟩ :=
 uV ho hx hk hy hn (Int.toNat_of_nonneg h0).symm hi
theorem Ce {t e:TypeId} {x y:Operand} {row:Bool} {n k:Nat} {kd:IntKind} {z:Int} (ho:o.op = .indexAddr t x y) (hx:s.ev x = .c (.ocut k)) (hk:s.h k=some (.arr e' E l)) (hy:s.ev y = .c (.sc (.int kd z))) [SE P t e] [TI P e row n] (hn:E.n=n) (h0:0<=z) (hi:z.toNat<l.length):LOp P o s [k] ⟨.c (.optr k n z.toNat 0),[],[]⟩ :=
 vi ho hx hk hy hn (Int.toNat_of_nonneg h0).symm hi
theorem Gg {t e by_ n i j k k':Nat} {x y:Operand} {l':List α} [T:ST P E t e by_] (ho:o.op = .call { callee:=.builtin .append,args:=#[x,y],argTypes:=#[t,t] }) (hdk:o.dst=some k') (hx:s.ev x = .c (.osl k n 0 i true)) (hy:s.ev y = .c (.osl k n j l.length false)) (hk:s.h k=some (.arr e E l))
  (hn:E.n=n) (hi:i<=l.length) (hj:j<=l.length) (hl':l.take i++l.drop j=l') (hlen:i+(l.length-j)<=maxLen) (hby:(i+(l.length-j))*by_<=140737488355328):LOp P o s [k] ⟨.c (.ocut k'),[(k',some (.arr e E l')),(k,none)],[k']⟩:=by
 intro c st ρ a w hr h1 h2 h3 h4;subst hl';subst hn;have hfk:st.f k'=true:=h3 k' (by simp [aX]);have hk2:=(h2 k (by simp [aX])).trans hk;have hne:k'.beq k=false:=by
  cases h9:k'.beq k with
  | false=>rfl
  | true=>rw [<-qNb h9,hr.wf.h k' hfk] at hk2;cases hk2
 have hv1:=hr.ev x;rw [h1 x (by simp [ho,Op.operands,Call.operands]),hx] at hv1;obtain ⟨g,nn,cap,c1,A1,hρ1,⟨_,b2,b3,b4⟩,b5,hv1,b6⟩:=(show (D.osl k E.n 0 i true).rep w (Fz c st.h ρ w) ρ (a.eval x) from hv1);have hv2:=hr.ev y;rw [h1 y (by simp [ho,Op.operands,Call.operands]),hy] at hv2;obtain ⟨g2,nn2,cap2,c2,A2,hρ2,⟨d1,d2,d3,d4⟩,_,hv2,d6⟩:=(show (D.osl k E.n j l.length false).rep w (Fz c st.h ρ w) ρ (a.eval y) from hv2);rw [hρ1] at hρ2;injection hρ2 with e1 e2 e3;injection e1 with e1;injection e1 with e1;subst e1;subst e2;subst e3;obtain rfl:A1=⟨g,0,none⟩:=by have:=b6 (.inl rfl);simpa using this
 obtain rfl:c1=i:=by have:=b5 rfl;omega
 obtain ⟨xs,hown,hreps⟩:=hr.hp k _ hk2;have hxl:=hown.1;have hpos:=E.pos;obtain ⟨g3,cap3,cur,hq,_,hh,hnc,hcm,hcs,ht⟩:∃g' cap' cur,ρ k = .slice (some ⟨g',0,none⟩) l.length cap'/\0<=g'/\w.heap[g']? = some (.cells cur e (0,0))/\l.length<=cap'/\cap'<=maxLen/\cur.size=cap'*E.n/\cur.toList.take (l.length*E.n)=xs:=by
  rcases hown.2 with ⟨hv,_⟩|⟨g',cap',cur,hv,h0,hh,r⟩
  ·rw [hρ1] at hv;cases hv
  ·exact ⟨g',cap',cur,hv,h0,hh,r⟩
 rw [hρ1] at hq;injection hq with e1 e2 e3;injection e1 with e1;injection e1 with e1;subst e1;subst e2;subst e3;have hcell:∀q u,xs[q]? = some u->w.cell? ⟨g,q,none⟩=some u:=fun q u hu=>by
  rw [cell_of_row w g q cur e (0,0) hh,<-Array.getElem?_toList];rw [<-ht,List.getElem?_take] at hu;split at hu
  ·exact hu
  ·cases hu
 have hkb:kb (ρ k)=some g:=by rw [hρ1];rfl
 have key:∃v' vg w' zs,(execOp a.eval o).run P w = .ok (.value v') w'/\Below w.heap.size w w'/\w'.ownsRow 0 e E.n vg (l.take c1++l.drop j).length zs/\Reps E w (Fz c st.h ρ w) (l.take c1++l.drop j) zs/\(∃A n cap c,vg = .slice A n cap/\(n<=c/\c<=cap)/\v' = .slice A n c)/\∀g',kb vg=some g'->g'<w'.heap.size/\(w.heap.size<=g'\/g'=g):=by
  have hr1:Reps E w (Fz c st.h ρ w) (l.take c1) (xs.take (c1*E.n)):=hreps.take c1;have hr2:Reps E w (Fz c st.h ρ w) (l.drop j) (xs.drop (j*E.n)):=hreps.drop j;have hl1:(xs.take (c1*E.n)).length=c1*E.n:=by rw [List.length_take,hxl];exact Nat.min_eq_left (Nat.mul_le_mul_right _ hi)
  have hl2:(xs.drop (j*E.n)).length=(l.length-j)*E.n:=by rw [List.length_drop,hxl,Nat.sub_mul]
  have hlr:(l.take c1++l.drop j).length=c1+(l.length-j):=by simp [Nat.min_eq_left hi]
  obtain ⟨ti,z,hi1,hi2,hi3,hi4,hi5⟩:=T.T.info;have hexec:∀v' w',(Builtin.append_ #[t,t] o.type #[.slice (some ⟨g,0,none⟩) c1 c1,.slice (some A2) (l.length-j) c2]).run P w = .ok v' w'->(execOp a.eval o).run P w = .ok (.value v') w':=fun v' w' hrun=>by
   unfold execOp;simp only [ho,resolve,invoke,builtin,Sem.run_bind,Sem.run_pure,Result.andThen_ok,List.map_toArray,List.map_cons,List.map_nil,hv1,hv2,Nat.sub_zero,hrun]
  by_cases hm:l.length-j=0
  ·have hd:l.drop j=[]:=qDn (by omega);have hrun:=run_append_room_cells (P:=P) w t o.type e ti T.T.under hi1 g 0 c1 c1 A2 0 c2 [] (by simp) (by simp) (by simp) (by omega) (by simp) (by simp);rw [hm] at hexec;refine ⟨_,.slice (some ⟨g,0,none⟩) c1 cap,w,xs.take (c1*E.n),hexec _ _ hrun,Below.refl _ _,⟨by rw [hlr,hm,hl1];rfl,.inr ⟨g,cap,cur,by rw [hlr,hm];rfl,Nat.zero_le _,hh,by rw [hlr,hm];omega,hcm,hcs,?_⟩⟩,by rw [hd,List.append_nil];exact hr1,⟨some ⟨g,0,none⟩,c1,cap,c1,rfl,⟨Nat.le_refl _,by omega⟩,rfl⟩,fun g' hg'=>?_⟩
   ·rw [hlr,hm,<-ht,List.take_take,Nat.min_eq_left (Nat.mul_le_mul_right _ (by omega))];rfl
   ·injection hg' with hg';subst hg';exact ⟨(Array.getElem?_eq_some_iff.1 hh).1,.inr rfl⟩
  ·obtain rfl:A2=⟨g,j*E.n,none⟩:=d6 (.inr (by omega));obtain ⟨v',w',hrun,hown',hgr⟩:=run_append_arg_grows (P:=P) w t o.type e ti z E.n by_ T.T.under hi1 hi2 hi3 hi5 hi4 hpos ⟨g,0,none⟩ c1 c1 (xs.take (c1*E.n)) hl1 (fun q u hu=>by
    rw [dS,Nat.zero_add];rw [List.getElem?_take] at hu;split at hu
    ·exact hcell q u hu
    ·cases hu) ⟨g,j*E.n,none⟩ (l.length-j) c2 (xs.drop (j*E.n)) hl2 (fun q u hu=>by
    rw [dS];rw [List.getElem?_drop] at hu;exact hcell _ u hu) (by omega) hlen hby
   have hform:∃g' cap',v' = .slice (some ⟨g',0,none⟩) (c1+(l.length-j)) cap'/\w.heap.size<=g'/\g'<w'.heap.size/\c1+(l.length-j)<=cap':=by
    rcases hown'.2 with ⟨_,hz⟩|⟨g',cap',cur',hv,hb,hh',hnc',_⟩
    ·omega
    ·exact ⟨g',cap',hv,hb,(Array.getElem?_eq_some_iff.1 hh').1,hnc'⟩
   obtain ⟨g',cap',rfl,hb1,hb2,hb3⟩:=hform;refine ⟨_,_,w',_,hexec _ _ hrun,⟨hgr.os,hgr.tape,hgr.output,hgr.size,fun b hb=>hgr.block b hb (by simp)⟩,by rw [hlr];exact ⟨hown'.1,hown'.2.imp id fun ⟨a1,a2,a3,a4,_,a6⟩=>⟨a1,a2,a3,a4,Nat.zero_le _,a6⟩⟩,hr1.append hr2,⟨_,_,cap',cap',rfl,⟨hb3,Nat.le_refl _⟩,rfl⟩,fun q hq=>?_⟩;injection hq with hq;subst hq;exact ⟨hb2,.inl hb1⟩
 obtain ⟨v',vg,w',zs,hrun,hB,hown',hreps',⟨A',n',cap',c',hvg,hcc,hv'⟩,hg'⟩:=key;have hky:∀n,aL [(k',some (Box.arr e E (l.take c1++l.drop j))),(k,none)] n=true↔n=k'\/n=k:=fun n=>by
  simp only [aL,Bool.or_false,Bool.or_eq_true];constructor
  ·rintro (h|h)
   ·exact .inl (qNb h).symm
   ·exact .inr (qNb h).symm
  ·rintro (rfl|rfl)
   ·exact .inl (Nat.beq_refl _)
   ·exact .inr (Nat.beq_refl _)
 have hputk:hput [(k',some (Box.arr e E (l.take c1++l.drop j))),(k,none)] st.h k'=some (.arr e E (l.take c1++l.drop j)):=by simp [hput]
 have hputr:hput [(k',some (Box.arr e E (l.take c1++l.drop j))),(k,none)] st.h k=none:=by simp [hput,hne]
 have hsm:∀n bx,aL [(k',some (Box.arr e E (l.take c1++l.drop j))),(k,none)] n=true->hput [(k',some (Box.arr e E (l.take c1++l.drop j))),(k,none)] st.h n=some bx->n=k'/\bx = .arr e E (l.take c1++l.drop j):=fun n bx hn hb=>by
  rcases (hky n).1 hn with rfl|rfl
  ·exact VO
  ·rw [hputr] at hb;cases hb
 have hFz:∀b,Fz c st.h ρ w b->Fz c (hput [(k',some (Box.arr e E (l.take c1++l.drop j))),(k,none)] st.h) (upd ρ k' vg) w' b/\w'.heap[b]? = w.heap[b]?:=fun b hb=>by
  refine ⟨⟨hb.1,Nat.lt_of_lt_of_le hb.2.1 hB.size,fun n bx hn he=>?_⟩,hB.block b hb.2.1⟩;cases h9:aL [(k',some (Box.arr e E (l.take c1++l.drop j))),(k,none)] n with
  | true =>
   obtain ⟨rfl,_⟩:=hsm n bx h9 hn;rw [aW] at he;rcases (hg' b he).2 with h|h
   ·have:=hb.2.1;omega
   ·subst h;exact hb.2.2 k _ hk2 hkb
  | false =>
   rw [cz h9] at hn;have hkn:k'.beq n=false:=by
    cases h8:k'.beq n with
    | false=>rfl
    | true=>rw [<-qNb h8,hr.wf.h k' hfk] at hn;cases hn
   rw [dW hkn] at he;exact hb.2.2 n bx hn he
 refine Oper.wp_value hrun ⟨upd ρ k' vg,hr.app (e:=⟨.c (.ocut k'),[(k',some (.arr e E (l.take c1++l.drop j))),(k,none)],[k']⟩) h4 (fun n hn=>?_) (fun n hn=>dW (by simpa [aX] using hn)) (fun n hn=>?_) (Frx.below hB) (fun n bx g' hn hb hg=>?_) (fun n n' b b' g' hn hn' hb hb' _ _=>?_) (fun n hn=>.inl ?_) (fun n n' bx hn hb hx2=>?_) (fun n bx hn hb=>?_) ?_⟩
 ·have:n=k':=by simp [aX] at hn;exact hn.symm
  subst this;exact ⟨hfk,(hky n).2 (.inl rfl)⟩
 ·rcases (hky n).1 hn with rfl|rfl
  ·exact .inl (by simp [aX])
  ·exact .inr (hr.nfh hk2)
 ·obtain ⟨rfl,_⟩:=hsm n bx hn hb;rw [aW] at hg;exact ⟨(hg' g' hg).1,(hg' g' hg).2.imp id fun h=>by subst h;exact ⟨k,_,(hky k).2 (.inr rfl),hk2,hkb⟩⟩
 ·rw [(hsm n b hn hb).1,(hsm n' b' hn' hb').1]
 ·have:n=k':=by simp [TV.has,V0.has,D.has] at hn;exact hn.symm
  subst this;simp [aX]
 ·exact VZ
 ·obtain ⟨rfl,rfl⟩:=hsm n bx hn hb;rw [aW];exact ⟨zs,hown',hreps'.same (fun b hb=>(hFz b hb).2) fun b hb=>(hFz b hb).1⟩
 ·exact ⟨A',n',cap',c',(aW ρ k' vg).trans hvg,hcc,hv'⟩
theorem LE {x y z:Operand} {b:Bool} {v:V0} (ho:o.op = .pick x y z) (hx:s.ev x = .b b) (hv:(bif b then s.ev y else s.ev z) = .v v):LOp P o s [] ⟨.v v,[],[]⟩ :=
 bY fun c st ρ a w hr h1 _=>by
  have he:=h1 x (by simp [ho,Op.operands]);rw [hx] at he;have hb:a.eval x = .bool b:=by have:=hr.ev x;rwa [he] at this
  cases b with
  | true =>
   have he2:=h1 y (by simp [ho,Op.operands]);rw [show s.ev y = .v v from hv] at he2;exact ⟨a.eval y,by unfold execOp;rw [ho];simp [hb,asBool],by have:=hr.ev y;rwa [he2] at this,fun k hk=>hr.nf he2 hk⟩
  | false =>
   have he2:=h1 z (by simp [ho,Op.operands]);rw [show s.ev z = .v v from hv] at he2;exact ⟨a.eval z,by unfold execOp;rw [ho];simp [hb,asBool],by have:=hr.ev z;rwa [he2] at this,fun k hk=>hr.nf he2 hk⟩
theorem fN {t e k n by_:Nat} {x y:Operand} {z:Value} {y0:α} (I:P.underlying t=some (.slice e)) (hI:(P.info? e).map (fun i=>(i.zero,i.size,i.bytes))=some (some z,1,by_)) (hz:z.cells = #[z]) (hb:by_<=64) (hE:E.n=1) (hy0:∀w S,E.rep w S y0 [z])
  (ho:o.op = .makeSlice t x y) (hdk:o.dst=some k) (hx:s.ev x = .i n) (hy:s.ev y = .i n) (hn:n<=1000000):LOp P o s [] ⟨.c (.own k),[(k,some (.arr e E (List.replicate n y0)))],[k]⟩:=by
 intro c st ρ a w hr h1 h2 h3 h4;have hv1:a.eval x = .int .i64 (n:Int):=by have:=hr.ev x;rwa [h1 x (by simp [ho,Op.operands]),hx] at this
 have hv2:a.eval y = .int .i64 (n:Int):=by have:=hr.ev y;rwa [h1 y (by simp [ho,Op.operands]),hy] at this
 have hfk:st.f k=true:=h3 k (by simp [aX]);have hrun:=Qr (P:=P) t e z by_ I hI hz hb n hn w;have ho1:=World.ownsRow_lit (e:=e) (size:=E.n) (base:=0) w (madeCells #[z] n) n (Nat.zero_le _) (by simp only [maxLen];omega) (by rw [size_madeCells,hE,Nat.mul_one]);rw [toList_madeCells_one] at ho1;have hgen:∀(S:Nat->Prop) (q:Nat),Reps E (w.alloc (.cells (madeCells #[z] n) e)) S (List.replicate q y0) (List.replicate q z):=by
  intro S q;induction q with
  | zero=>rfl
  | succ q ih=>exact ⟨[z],List.replicate q z,rfl,hy0 _ _,ih⟩
 have hkk:∀k':Nat,aL [(k,some (Box.arr e E (List.replicate n y0)))] k'=true->k'=k:=fun k' h=>by
  exact UM
 refine Oper.wp_value (v:=.slice (some ⟨w.heap.size,0,none⟩) n n) (w':=w.alloc (.cells (madeCells #[z] n) e)) ?_ ⟨upd ρ k (.slice (some ⟨w.heap.size,0,none⟩) n n),hr.app (e:=⟨.c (.own k),[(k,some (.arr e E (List.replicate n y0)))],[k]⟩) h4 (fun k' h=>?_) (fun k' h=>?_) (fun k' h=>.inl ?_) (Frx.alloc _ _ _) (fun k' bx g' h _ hg'=>?_) (fun k1 k2 _ _ _ h h' _ _ _ _=>?_) (fun k' h=>.inl ?_) (fun k1 k2 bx h hp hx=>?_) (fun k2 bx h hp=>?_) ?_⟩
 ·unfold execOp;rw [ho];simp only [hv1,hv2,Sem.run_bind,hrun,Result.andThen_ok,Sem.run_pure]
 ·have:k'=k:=by simp [aX] at h;exact h.symm
  subst this;exact ⟨hfk,by simp [aL]⟩
 ·exact dW (by simpa [aX] using h)
 ·rw [hkk k' h];simp [aX]
 ·exact U1
 ·exact VM
 ·have:k'=k:=by simp [TV.has,V0.has,D.has] at h;exact h.symm
  subst this;simp [aX]
 ·exact UJ
 ·rw [hkk k2 h] at hp ⊢;simp only [hput,Nat.beq_refl,qCt,Option.some.injEq] at hp;subst hp;rw [aW];exact ⟨List.replicate n z,by rw [List.length_replicate];exact ho1,hgen _ n⟩
 ·exact (aW _ _ _).symm
end
def Ue:Op->Nat
 | .move _=>1
 | .assign _=>2
 | .load ..=>3
 | .store ..=>4
 | .fieldAddr ..=>5
 | .indexAddr ..=>6
 | .call c=>match c.callee with
  | .builtin .len=>7
  | .builtin .append=>8
  | _=>9
 | .binOp ..=>10
 | .unOp ..=>11
 | .build ..=>12
 | .buildSlice ..=>13
 | .slice ..=>14
 | .extract ..=>15
 | .field ..=>16
 | .alloc _=>17
 | .box ..=>18
 | .pick ..=>19
 | .makeSlice ..=>20
 | .nilCheck _=>21
 | .makeMap ..=>22
 | .lookup ..=>23
 | .mapUpdate ..=>24
 | .range ..=>25
 | .next ..=>26
 | .entry ..=>27
 | _=>0
section
variable {P:Program} {nt:Nat} {Ks:List Nat} {Q:Exit->Mst->Prop} {s:Mst} {K:Mst->Prop} {ops:Array Oper} {draw:Bool} {o:Oper} {l:List Oper} {acc:List (List Nat×List Nat)} {x:Code}
theorem PF {l:List Oper} (h:DA P ops draw l acc s K):DA P ops draw l acc s K:=h
theorem H3 (h:AW P nt Ks x Q s):AW P nt Ks x Q s:=h
theorem Ec {t:Nat} {b:Bool} (h:s.t t = .b b):s.app (some t) ⟨.b b,[],[]⟩=s:=by
 cases s with
 | mk st sh sf =>
  simp only [Mst.app,hput,aX,Bool.not_false,Bool.and_true,Mst.mk.injEq,and_true];funext n
  simp only [mw];cases hn:t.beq n with
  | false=>rfl
  | true=>rw [<-qNb hn];exact h.symm
theorem yz {j t:Nat} {want b:Bool} (hg:o.guard=some (j,want)) (hj:(ops[j]?).bind (·.dst)=some t) (ht:s.t t = .b b) (h1:b=true->DA P ops draw (o :: l) acc (s.app (some t) ⟨.b true,[],[]⟩) K) (h2:b=false->DA P ops draw (o :: l) acc (s.app (some t) ⟨.b false,[],[]⟩) K):DA P ops draw (o :: l) acc s K:=by
 cases b with
 | true=>have:=h1 rfl;rwa [Ec ht] at this
 | false=>have:=h2 rfl;rwa [Ec ht] at this
theorem aa (n:Nat) (_:Ue o.op=n) (h:DA P ops draw (o :: l) acc s K):DA P ops draw (o :: l) acc s K:=h
end
section
variable {P:Program} {nt:Nat} {Ks:List Nat} {Q:Exit->Mst->Prop} {s:Mst} {K:Mst->Prop} {ops:Array Oper} {draw:Bool} {o:Oper} {l:List Oper} {acc:List (List Nat×List Nat)} {x:Code} {R us:List Nat} {e:Mef} {t:Nat} {d:TV} {hs:List (Nat×Option Box)}
structure LO (P:Program) (o:Oper) (s:Mst) (R:List Nat) (e:Mef):Prop where
 h:LOp P o s R e
theorem lk (n:Nat) (_:Ue o.op=n) (h:LOp P o s R e):LO P o s R e:=⟨h⟩
theorem Uf (he:LO P o s R ⟨d,hs,us⟩:=by first|(apply lk 1 rfl;first|exact Lb rfl rfl|exact F1 rfl rfl)|(apply lk 2 rfl;exact F0 rfl rfl)|(apply lk 3 rfl;first|exact Lf rfl rfl rfl rfl|exact B0 rfl rfl rfl rfl (qNl rfl)|exact F2 rfl rfl (by first|assumption|exact qGg (by omega)) rfl|exact x7 rfl rfl (by first|assumption|exact qGg (by omega)) rfl (qNl rfl)|exact F3 rfl rfl rfl rfl (by first|assumption|exact qGg (by omega)) rfl|exact x8 rfl rfl rfl rfl (by first|assumption|exact qGg (by omega)) rfl (qNl rfl))|(apply lk 5 rfl;first|exact Jr rfl rfl|exact Dw rfl rfl|exact Dx rfl rfl)|(apply lk 6 rfl;first|exact vi rfl rfl rfl rfl rfl rfl (by omega)|exact AC rfl rfl rfl rfl rfl (by omega)|exact uV rfl rfl rfl rfl rfl rfl (by omega)|exact Eb rfl rfl rfl rfl (by omega) (by first|omega|(simp <;> omega))|exact Cd rfl rfl rfl rfl rfl (by omega) (by first|omega|(simp <;> omega))|exact Ce rfl rfl rfl rfl rfl (by omega) (by first|omega|(simp <;> omega)))|(apply lk 7 rfl;first|exact JM rfl rfl rfl|exact N4 rfl rfl|exact Jv rfl rfl rfl|exact Jw rfl rfl)|(apply lk 8 rfl;first|exact ae rfl rfl (aH rfl rfl) (yb rfl) rfl aQ aQ|exact ae rfl rfl (aH rfl rfl) (B5 rfl rfl) rfl aQ aQ|exact ae rfl rfl (aH rfl rfl) (yc rfl) rfl aQ aQ|exact ae rfl rfl (B6 rfl rfl) (yb rfl) (List.nil_append _) aQ aQ|exact ae rfl rfl (B6 rfl rfl) (B5 rfl rfl) (List.nil_append _) aQ aQ|exact ae rfl rfl (B6 rfl rfl) (yc rfl) (List.nil_append _) aQ aQ|exact ae rfl rfl (xm rfl) (yb rfl) (List.nil_append _) aQ aQ|exact ae rfl rfl (xm rfl) (B5 rfl rfl) (List.nil_append _) aQ aQ|exact ae rfl rfl (xm rfl) (yc rfl) (List.nil_append _) aQ aQ)|(apply lk 10 rfl;first|exact NQ rfl rfl rfl (IntWalk.i64_in _ (by omega))|exact NS rfl rfl rfl (IntWalk.i64_in _ (by omega))|exact Qn rfl rfl rfl|exact Qo rfl rfl rfl|exact Qp rfl rfl rfl|exact Qq rfl rfl rfl|exact Ql rfl rfl rfl|exact Qm rfl rfl rfl|exact NW rfl rfl rfl|exact NX rfl rfl rfl|exact NY rfl rfl rfl|exact NZ rfl rfl rfl|exact N2 rfl rfl rfl rfl rfl rfl rfl (by first|exact PD _ _|exact AI _ _|exact AI _ ⟨0,0⟩|exact AI ⟨0,0⟩ _|exact eq_tm _ _|exact eq_tm _ jK)|exact N3 rfl rfl rfl rfl rfl rfl rfl (by first|exact congrArg _ (PD _ _)|exact congrArg _ (AI _ _)|exact congrArg _ (AI _ ⟨0,0⟩)|exact congrArg _ (AI ⟨0,0⟩ _)|exact congrArg _ (eq_tm _ _)|exact congrArg _ (eq_tm _ jK)))|(apply lk 11 rfl;exact N1 rfl rfl)|(apply lk 12 rfl;exact JA rfl rfl rfl)|(apply lk 13 rfl;exact yg rfl rfl rfl (by decide) rfl)|(apply lk 14 rfl;first|exact oV rfl rfl rfl rfl (by omega) (by first|omega|(simp <;> omega)) rfl|exact yy rfl rfl rfl rfl (by omega) (by first|omega|(simp <;> omega)) rfl)|(apply lk 15 rfl;exact uW rfl rfl rfl)|(apply lk 16 rfl;first|exact Jx rfl rfl rfl|exact Af rfl rfl rfl)|(apply lk 17 rfl;exact Jt rfl rfl rfl)|(apply lk 18 rfl;exact N8 rfl rfl rfl rfl)|(apply lk 19 rfl;exact LE rfl rfl rfl)|(apply lk 21 rfl;exact ba rfl rfl)) (hd:o.dst=some t:=by rfl) (hg:s.gd ops o=some true:=by rfl) (hf:us.all s.f=true:=by rfl):DA P ops draw l ((R,ax hs) :: acc) (s.app (some t) ⟨d,hs,us⟩) K->DA P ops draw (o :: l) acc s K:=fun h=>be he.h hd hg hf h
theorem R5 (he:LO P o s R ⟨d,hs,us⟩:=by (apply lk 4 rfl;exact Js rfl rfl rfl rfl rfl (qNl rfl) rfl rfl)) (hd:o.dst=none:=by rfl) (hg:s.gd ops o=some true:=by rfl) (hf:us.all s.f=true:=by rfl):DA P ops draw l ((R,ax hs) :: acc) (s.app none ⟨d,hs,us⟩) K->DA P ops draw (o :: l) acc s K:=fun h=>a8 he.h hd hg hf h
theorem sx (he:LOp P o s R ⟨d,hs,us⟩) (h:DA P ops draw l ((R,ax hs) :: acc) (s.app (some t) ⟨d,hs,us⟩) K) (hd:o.dst=some t:=by rfl) (hg:s.gd ops o=some true:=by rfl) (hf:us.all s.f=true:=by rfl):DA P ops draw (o :: l) acc s K:=be he hd hg hf h
theorem Tj (he:LOp P o s R ⟨d,hs,us⟩) (h:DA P ops draw l ((R,ax hs) :: acc) (s.app none ⟨d,hs,us⟩) K) (hd:o.dst=none:=by rfl) (hg:s.gd ops o=some true:=by rfl) (hf:us.all s.f=true:=by rfl):DA P ops draw (o :: l) acc s K:=a8 he hd hg hf h
structure HbI (p q:Prop):Prop where
 h:p->q
def RO (_:Bool):Prop:=True
theorem QC:RO true:=trivial
theorem QD:RO false:=trivial
theorem QG {j t:Nat} {want b:Bool} (h1:HbI (b=true) (DA P ops draw (o :: l) acc (s.app (some t) ⟨.b true,[],[]⟩) K)) (h2:HbI (b=false) (DA P ops draw (o :: l) acc (s.app (some t) ⟨.b false,[],[]⟩) K)) (hg:o.guard=some (j,want):=by rfl) (hj:(ops[j]?).bind (·.dst)=some t:=by rfl) (ht:s.t t = .b b:=by rfl) (_:RO b:=by (fail_if_success (with_reducible exact QC));(fail_if_success (with_reducible exact QD));exact trivial):DA P ops draw (o :: l) acc s K:=yz hg hj ht h1.h h2.h
theorem QH {x:Operand} {u e:Code} {b:Bool} (h1:HbI (b=true) (AW P nt Ks u Q s)) (h2:HbI (b=false) (AW P nt Ks e Q s)) (hx:s.ev x = .b b:=by rfl):AW P nt Ks (.cond x u e) Q s:=B1 hx h1.h h2.h
theorem Ux {p q:Prop} (h:p->False:=by intro hb;first|(cases hb;done)|((try simp only [decide_eq_true_eq,decide_eq_false_iff_not,Bool.not_eq_true',Bool.not_eq_false',beq_iff_eq,bne_iff_ne,beq_eq_false_iff_ne,bne_eq_false_iff_eq,ne_eq,Decidable.not_not] at hb);first|contradiction|exact Bool.noConfusion (hb.symm.trans (by assumption):false=true)|exact Bool.noConfusion (hb.symm.trans (by assumption):true=false)|omega)):HbI p q:=⟨fun hp=>(h hp).elim⟩
theorem ap {p r q:Prop} (h:r->q) (hq:p->r:=by intro hb;(try simp only [decide_eq_true_eq,decide_eq_false_iff_not,Bool.not_eq_true',Bool.not_eq_false',beq_iff_eq,bne_iff_ne,beq_eq_false_iff_ne,bne_eq_false_iff_eq,ne_eq,Decidable.not_not] at hb);exact hb):HbI p q:=⟨fun hp=>h (hq hp)⟩
def LF (ops:Array Oper) (fps:List (List Nat×List Nat)) (listed:Array Bool) (k:Nat):Bool :=
 match ops[k]? with
 | none=>false
 | some o=>(List.range ops.size).all fun j=>j == k || listed.getD j true || ((match ops[j]? with|none=>true|some o'=>o.apart ops o' && RL (oL fps k) (oL fps j)) || NL ops 6 k j)
theorem LG (ops:Array Oper) (fps:List (List Nat×List Nat)) (listed:Array Bool) (k:Nat):LF ops fps listed k=BW ops fps listed k:=by
 unfold LF BW;cases ops[k]? with
 | none=>rfl
 | some o =>
  dsimp only;congr 1
  funext j
  rw [Bool.or_comm _ (NL ops 6 k j),Bool.or_assoc (j == k || listed.getD j true)];cases ops[j]? <;> rfl
def Og (ops:Array Oper) (fps:List (List Nat×List Nat)):Nat->Nat->Array Bool->Bool
 | 0,_,listed=>(Region.ready .any ops listed).isEmpty
 | fuel+1,k,listed=>(Region.ready .any ops listed).contains k && LF ops fps listed k && Og ops fps fuel (k+1) (listed.setIfInBounds k true)
theorem H4 {ops:Array Oper} {fps:List (List Nat×List Nat)}:∀{n k:Nat} {listed:Array Bool},Og ops fps n k listed=pD ops fps n k listed
 | 0,_,_=>rfl
 | n+1,k,listed=>by
  unfold Og pD;rw [LG,H4]
theorem R6 {acc:List (List Nat×List Nat)} (hB:Og ops acc.reverse ops.size 0 (Array.replicate ops.size false)=true:=by kernel_rfl):K s->DA P ops true [] acc s K:=N7 (H4▸hB)
theorem R7 {id:Nat} {l:List Oper} {y:Code} (hnt:jv nt l=true:=by kernel_rfl):(DA P l.toArray false l [] s fun s'=>AW P nt Ks y Q s')->AW P nt Ks (.seq (.region id l.toArray false) y) Q s:=RY hnt
theorem R8 {id:Nat} {l:List Oper} {y:Code} (hm:P.follows .mixedOrders=true:=by kernel_rfl) (hnt:jv nt l=true:=by kernel_rfl):(DA P l.toArray true l [] s fun s'=>AW P nt Ks y Q s')->AW P nt Ks (.seq (.region id l.toArray true) y) Q s:=Qs hm hnt
theorem Ug {id:Nat} {l:List Oper} (hnt:jv nt l=true:=by kernel_rfl):(DA P l.toArray false l [] s fun s'=>Q .normal s')->AW P nt Ks (.region id l.toArray false) Q s:=RX hnt
theorem Uh {id:Nat} {l:List Oper} (hm:P.follows .mixedOrders=true:=by kernel_rfl) (hnt:jv nt l=true:=by kernel_rfl):(DA P l.toArray true l [] s fun s'=>Q .normal s')->AW P nt Ks (.region id l.toArray true) Q s:=PB hm hnt
structure QE (e:Exit) (Q:Exit->Mst->Prop) (F:Mst->Prop):Prop where
 h:∀s,F s->Q e s
section
variable {Q':Exit->Mst->Prop} {F K':Mst->Prop} {i j:Nat} {fn:Func} {hin:List (Nat×Box)} {res:TV} {hout:List (Nat×Option Box)}
theorem R9 (h:QE .ret Q' F):QE .ret (pI K' Q') F:=⟨h.h⟩
theorem Sa (h:QE .ret Q' F):QE .ret (gP i Q') F:=⟨h.h⟩
theorem Sb:QE .ret (Da P fn hin res hout) (Da P fn hin res hout .ret):=⟨fun _ h=>h⟩
theorem Sc (h:QE (.exit j) Q' F):QE (.exit j) (pI K' Q') F:=⟨h.h⟩
theorem Se (h:QE .normal Q' F):QE (.exit i) (gP i Q') F:=⟨fun s hs=>Tw (h.h s hs)⟩
theorem Sf (hj:j.beq i=false) (h:QE (.exit j) Q' F):QE (.exit j) (gP i Q') F:=⟨fun s hs=>Tx hj (h.h s hs)⟩
theorem Sg:QE .normal (pI K' Q') K':=⟨fun _ h=>h⟩
theorem Sh (h:QE .normal Q' F):QE .normal (gP i Q') F:=⟨h.h⟩
theorem Si:QE .normal (Da P fn hin res hout) (Da P fn hin res hout .normal):=⟨fun _ h=>h⟩
theorem qe {e:Exit} (h:QE e Q' F:=by repeat' (first|(with_reducible exact Sg)|(with_reducible exact Sb)|(with_reducible exact Si)|(with_reducible apply R9)|(with_reducible apply Sa)|(with_reducible apply Sc)|(with_reducible apply Se)|(with_reducible apply Sh)|(with_reducible apply Sf)|(show Nat.beq _ _=false;decide))):QE e Q' F:=h
theorem qx {e:Exit} (h:F s) (hq:QE e (pI K' Q') F:=by exact qe):pI K' Q' e s:=hq.h s h
theorem qy {e:Exit} (h:F s) (hq:QE e (gP i Q') F:=by exact qe):gP i Q' e s:=hq.h s h
end
theorem LH {q1:Option Tmp} {q2:Op} {q3:TypeId} {q4:String} {q5:Array Edge} {q6:Nat×Bool} (h:DA P ops draw (⟨q1,q2,q3,q4,q5,some q6⟩ :: l) acc s K):DA P ops draw (⟨q1,q2,q3,q4,q5,some q6⟩ :: l) acc s K:=h
theorem Sj {K':Mst->Prop} {Q':Exit->Mst->Prop} {e:Exit} (h:pI K' Q' e s):pI K' Q' e s:=h
theorem Sk {i:Nat} {Q':Exit->Mst->Prop} {e:Exit} (h:gP i Q' e s):gP i Q' e s:=h
theorem TC {p q:Prop} (h:HbI p q):HbI p q:=h
theorem LI {y:Operand} {u v:Code} (h:AW P nt Ks (.cond y u v) Q s):AW P nt Ks (.cond y u v) Q s:=h
theorem aq {g g':Prop} (h:g') (hs:g'->g:=by intro h;first|((with_reducible refine PF ?_);revert h;first|(with_reducible exact Lr)|(with_reducible exact R6)|exact Hu rfl rfl|exact Uf|exact R5)|((with_reducible refine H3 ?_);revert h;first|(with_reducible exact R7)|(with_reducible exact R8)|(with_reducible exact sj)|(with_reducible exact DB)|(with_reducible exact Lk)|(with_reducible exact Hs)|(with_reducible exact Hr)|(with_reducible exact Ug)|(with_reducible exact Uh))|((with_reducible refine Sj ?_);exact qx h)|((with_reducible refine Sk ?_);exact qy h)):g:=hs h
theorem av {g g1 g2:Prop} (h1:g1) (h2:g2) (hs:g1->g2->g:=by intro h1 h2;first|((with_reducible refine LH ?_);exact QG h1 h2)|((with_reducible refine LI ?_);exact QH h1 h2)):g:=hs h1 h2
theorem aw {g:Prop} (hs:g:=by (with_reducible refine TC ?_);exact Ux):g:=hs
end
section
variable {P:Program} {nt:Nat} {Ks:List Nat} {s:Mst} {K:Mst->Prop} {ops:Array Oper} {draw:Bool} {o:Oper} {l:List Oper} {acc:List (List Nat×List Nat)} {t:Nat}
theorem bo {U:List Nat} {ts:List (Nat×TV)} {hs:List (Nat×Box)} (q:Nat->Nat) (hok:Qk U ts hs q Ks=true:=by rfl) (ht:NO s q (fun j=>∀k,eS hs k≠none->q k≠j) ts:=by repeat' (first|exact trivial|exact lM rfl|exact lM (congrArg TV.i (by omega))|exact ⟨_,rfl,iG rfl⟩|exact gc rfl|exact .any _|exact .froz _ _ _ _ rfl (xk rfl)|exact .frozc _ _ _ _ rfl (xk rfl)|exact .ocut _ _ _ _ rfl|exact .nil _|exact .full _ _|refine .v ?_|refine .one ?_|refine .ag ?_|refine ⟨_,rfl,?_⟩|refine ⟨?_,?_⟩|refine .box _ ?_)) (hh:NP s q (fun j=>∀k,eS hs k≠none->q k≠j) hs:=by repeat' (first|exact trivial|exact lM rfl|exact lM (congrArg TV.i (by omega))|exact ⟨_,rfl,iG rfl⟩|exact gc rfl|exact .any _|exact .froz _ _ _ _ rfl (xk rfl)|exact .frozc _ _ _ _ rfl (xk rfl)|exact .ocut _ _ _ _ rfl|exact .nil _|exact .full _ _|refine .v ?_|refine .one ?_|refine .ag ?_|refine ⟨_,rfl,?_⟩|refine ⟨?_,?_⟩|refine .box _ ?_)):Le nt Ks s (bP U ts hs):=Lm q hok ht hh
theorem a7 {f:FuncId} {fn:Func} {code:Code} {args:List V0} {hin:List (Nat×Box)} {us:List Nat} {res:TV} {hout:List (Nat×Option Box)} (hf:P.funcs[f]? = some fn) (h:AW P fn.ntmps (ax hin) code (Da P fn hin res hout) (Tu args hin)) (hb:fn.body=some code:=by exact rfl) (hen:∀(vs:Array Value) (w:World),(callFunc f vs).run P w = .ok (.enter f vs) w:=by exact fun b W=>by kernel_rfl) (hok:Hq args hin us res hout=true:=by exact rfl) (hnt:args.length<=fn.ntmps:=by exact qNl rfl):FSpec P f args hin us res hout:=iF hf hb hen hok hnt h
theorem Cf {R us:List Nat} {ot:Option Nat} {d:TV} {hs:List (Nat×Option Box)} (he:LOp P o s R ⟨d,hs,us⟩) (hd:o.dst=ot) (hg:s.gd ops o=some true) (hf:us.all s.f=true) (h:DA P ops draw l ((R,ax hs) :: acc) (s.app ot ⟨d,hs,us⟩) K):DA P ops draw (o :: l) acc s K:=by
 cases ot with
 | none=>exact a8 he hd hg hf h
 | some t=>exact be he hd hg hf h
theorem cB {f:FuncId} {xs:Array Operand} {ts:Array TypeId} {args:List V0} {ot:Option Nat} {res:TV} (R:List Nat) (hs:FSpec P f args [] [] res []) (h:DA P ops draw l ((R,ax ([]:List (Nat×Option Box))) :: acc) (s.app ot ⟨res,[],[]⟩) K) (ho:o.op = .call { callee:=.value (.func f),args:=xs,argTypes:=ts }:=by rfl) (hok:Hq args [] [] res []=true:=by rfl) (hb:res.isSc=true:=by rfl) (ha:All2 (fun x d=>AR s R (s.ev x) d) xs.toList args:=by (repeat' (first|exact trivial|exact .same _|refine ⟨⟨_,rfl,?_⟩,?_⟩|refine .ag ?_|refine .one ?_|exact .own rfl rfl|exact .ocut rfl rfl|exact .full|exact .nil|refine ⟨?_,?_⟩));first|done|fail) (hd:o.dst=ot:=by first|exact (rfl:_=some _)|exact (rfl:_=none)) (hg:s.gd ops o=some true:=by rfl) (hf:[].all s.f=true:=by rfl):DA P ops draw (o :: l) acc s K  :=Cf (JK R hs ho hok hb ha) hd hg hf h
theorem cC {f:FuncId} {xs:Array Operand} {ts:Array TypeId} {args:List V0} {ot:Option Nat} {res:TV} (ks:List Nat) (hs:FSpec P f args [] [] res []) (h:DA P ops draw l ((ks,ax (kK ks)) :: acc) (s.app ot ⟨res,kK ks,[]⟩) K) (ho:o.op = .call { callee:=.value (.func f),args:=xs,argTypes:=ts }:=by rfl) (hok:Hq args [] [] res []=true:=by rfl) (hks:ks.all (fun k=>(s.h k).isSome)=true:=by rfl) (ha:All2 (fun x d=>AR s ks (s.ev x) d) xs.toList args:=by (repeat' (first|exact trivial|exact .same _|refine ⟨⟨_,rfl,?_⟩,?_⟩|refine .ag ?_|refine .one ?_|exact .own rfl rfl|exact .ocut rfl rfl|exact .full|exact .nil|refine ⟨?_,?_⟩));first|done|fail) (hd:o.dst=ot:=by first|exact (rfl:_=some _)|exact (rfl:_=none)) (hg:s.gd ops o=some true:=by rfl) (hf:[].all s.f=true:=by rfl):DA P ops draw (o :: l) acc s K  :=Cf (JL ks hs ho hok hks ha) hd hg hf h
theorem cH {f:FuncId} {xs:Array Operand} {ts:Array TypeId} {args:List V0} {ot:Option Nat} {res:TV} {hin:List (Nat×Box)} {us:List Nat} {hout:List (Nat×Option Box)} (q:Nat->Nat) (hs:FSpec P f args hin us res hout) (h:DA P ops draw l (((ax hin).map q,ax (fo q hout)) :: acc) (s.app ot ⟨res.ren q,fo q hout,us.map q⟩) K) (ho:o.op = .call { callee:=.value (.func f),args:=xs,argTypes:=ts }:=by rfl) (ha:All2 (fun x d=>s.ev x = .v (V0.ren q d)) xs.toList args:=by (repeat' (first|exact trivial|refine ⟨rfl,?_⟩));first|done|fail) (hn:fB ((ax hin++us).map q)=true:=by rfl) (hh:AF s q hin:=by (repeat' (first|exact trivial|refine ⟨rfl,?_⟩));first|done|fail) (hd:o.dst=ot:=by first|exact (rfl:_=some _)|exact (rfl:_=none)) (hg:s.gd ops o=some true:=by rfl) (hf:(us.map q).all s.f=true:=by rfl):DA P ops draw (o :: l) acc s K  :=Cf (Ln hs q ho ha hn hh) hd hg hf h
theorem oW {fn:Func} {hin:List (Nat×Box)} {hout:List (Nat×Option Box)} {e:Exit} (q:Nat->Nat) (he:e = .normal\/e = .ret:=by first|exact .inl rfl|exact .inr rfl) (hr:fn.results.toList=[]:=by rfl)  (hq:(ax hin).all (fun k=>(q k).beq k)=true:=by rfl) (hn:fB ((ax (hout.filter fun x=>x.2.isSome)).map q)=true:=by rfl) (hh:vD s q (fun j=>∀k,hput hout (fun _=>none) k≠none->q k≠j) hout:=by (repeat' (first|exact trivial|exact ⟨_,rfl,iG rfl⟩|exact gc rfl|exact .froz _ _ _ _ rfl (ge rfl)|exact .frozc _ _ _ _ rfl (ge rfl)|exact .ocut _ _ _ _ rfl|exact .nil _|refine ⟨_,rfl,?_⟩|refine ⟨?_,?_⟩|refine .box _ ?_));first|done|fail):Da P fn hin (.tup []) hout e s:=Qx q he hr hq hn hh
theorem cc {fn:Func} {hin:List (Nat×Box)} {r1:ResultVar} {x1:V0} {res:TV} {hout:List (Nat×Option Box)} {e:Exit} (q:Nat->Nat) (h:TVLe s q (fun j=>∀k,hput hout (fun _=>none) k≠none->q k≠j) (.v x1) res) (he:e = .normal\/e = .ret:=by first|exact .inl rfl|exact .inr rfl) (hr:fn.results.toList=[r1]:=by rfl) (h1:RV P s r1 x1:=by first|exact .tmp rfl|exact .row rfl rfl rfl|exact .one rfl rfl) (hq:(ax hin).all (fun k=>(q k).beq k)=true:=by rfl) (hn:fB ((ax (hout.filter fun x=>x.2.isSome)).map q)=true:=by rfl) (hh:vD s q (fun j=>∀k,hput hout (fun _=>none) k≠none->q k≠j) hout:=by (repeat' (first|exact trivial|exact ⟨_,rfl,iG rfl⟩|exact gc rfl|exact .froz _ _ _ _ rfl (ge rfl)|exact .frozc _ _ _ _ rfl (ge rfl)|exact .ocut _ _ _ _ rfl|exact .nil _|refine ⟨_,rfl,?_⟩|refine ⟨?_,?_⟩|refine .box _ ?_));first|done|fail):Da P fn hin res hout e s:=Qt q he hr h1 hq hn hh h
theorem fE {fn:Func} {hin:List (Nat×Box)} {r1:ResultVar} {x1:V0} {r2:ResultVar} {x2:V0} {res:TV} {hout:List (Nat×Option Box)} {e:Exit} (q:Nat->Nat) (h:TVLe s q (fun j=>∀k,hput hout (fun _=>none) k≠none->q k≠j) (.tup [x1,x2]) res) (he:e = .normal\/e = .ret:=by first|exact .inl rfl|exact .inr rfl) (hr:fn.results.toList=[r1,r2]:=by rfl) (h1:RV P s r1 x1:=by first|exact .tmp rfl|exact .row rfl rfl rfl|exact .one rfl rfl) (h2:RV P s r2 x2:=by first|exact .tmp rfl|exact .row rfl rfl rfl|exact .one rfl rfl) (hq:(ax hin).all (fun k=>(q k).beq k)=true:=by rfl) (hn:fB ((ax (hout.filter fun x=>x.2.isSome)).map q)=true:=by rfl) (hh:vD s q (fun j=>∀k,hput hout (fun _=>none) k≠none->q k≠j) hout:=by (repeat' (first|exact trivial|exact ⟨_,rfl,iG rfl⟩|exact gc rfl|exact .froz _ _ _ _ rfl (ge rfl)|exact .frozc _ _ _ _ rfl (ge rfl)|exact .ocut _ _ _ _ rfl|exact .nil _|refine ⟨_,rfl,?_⟩|refine ⟨?_,?_⟩|refine .box _ ?_));first|done|fail):Da P fn hin res hout e s:=Qv q he hr h1 h2 hq hn hh h
theorem dP {fn:Func} {hin:List (Nat×Box)} {r1:ResultVar} {x1:V0} {r2:ResultVar} {x2:V0} {r3:ResultVar} {x3:V0} {res:TV} {hout:List (Nat×Option Box)} {e:Exit} (q:Nat->Nat) (h:TVLe s q (fun j=>∀k,hput hout (fun _=>none) k≠none->q k≠j) (.tup [x1,x2,x3]) res) (he:e = .normal\/e = .ret:=by first|exact .inl rfl|exact .inr rfl) (hr:fn.results.toList=[r1,r2,r3]:=by rfl) (h1:RV P s r1 x1:=by first|exact .tmp rfl|exact .row rfl rfl rfl|exact .one rfl rfl) (h2:RV P s r2 x2:=by first|exact .tmp rfl|exact .row rfl rfl rfl|exact .one rfl rfl) (h3:RV P s r3 x3:=by first|exact .tmp rfl|exact .row rfl rfl rfl|exact .one rfl rfl) (hq:(ax hin).all (fun k=>(q k).beq k)=true:=by rfl) (hn:fB ((ax (hout.filter fun x=>x.2.isSome)).map q)=true:=by rfl) (hh:vD s q (fun j=>∀k,hput hout (fun _=>none) k≠none->q k≠j) hout:=by (repeat' (first|exact trivial|exact ⟨_,rfl,iG rfl⟩|exact gc rfl|exact .froz _ _ _ _ rfl (ge rfl)|exact .frozc _ _ _ _ rfl (ge rfl)|exact .ocut _ _ _ _ rfl|exact .nil _|refine ⟨_,rfl,?_⟩|refine ⟨?_,?_⟩|refine .box _ ?_));first|done|fail):Da P fn hin res hout e s:=Qw q he hr h1 h2 h3 hq hn hh h
theorem af {p:Prop} (h:p:=by repeat' (first|exact trivial|exact lM rfl|exact gc rfl|exact .froz _ _ _ _ rfl (ge rfl)|exact .frozc _ _ _ _ rfl (ge rfl)|exact .ocut _ _ _ _ rfl|exact .nil _|exact .full _ _|exact .any _|refine .v ?_|refine .tup ?_|refine .one ?_|refine .ag ?_|refine ⟨?_,?_⟩)):p:=h
theorem aT {P:Prop} (h:P:=by exact bo (qf [])):P:=h
theorem bg {P:Prop} (h:P:=by (refine cc (qf []) ?_;exact af)):P:=h
theorem eU {fn:Func} {t:Nat} {v v':Value} {e:Exit} (h:v=v') (he:e = .normal\/e = .ret:=by first|exact .inl rfl|exact .inr rfl) (hr:fn.results.toList=[.tmp t]:=by rfl) (hx:s.t t = .c (.sc v):=by rfl):Da P fn [] (.c (.sc v')) [] e s:=F8 he hr hx h
structure Msk (p:Prop):Prop where
 h:p
theorem LJ {q1:Option Tmp} {q2:Call} {q3:TypeId} {q4:String} {q5:Array Edge} {q6:Option (Nat×Bool)} (h:DA P ops draw (⟨q1,.call q2,q3,q4,q5,q6⟩ :: l) acc s K):DA P ops draw (⟨q1,.call q2,q3,q4,q5,q6⟩ :: l) acc s K:=h
theorem QI {j t:Nat} {want b:Bool} (hg:o.guard=some (j,want):=by rfl) (hj:(ops[j]?).bind (·.dst)=some t:=by rfl) (ht:s.t t = .b b:=by rfl) (_:RO b:=by (fail_if_success (with_reducible exact QC));(fail_if_success (with_reducible exact QD));exact trivial) (hc:b=false->False:=by intro hb;first|(cases hb;done)|((try simp only [decide_eq_true_eq,decide_eq_false_iff_not,Bool.not_eq_true',Bool.not_eq_false',beq_iff_eq,bne_iff_ne,beq_eq_false_iff_ne,bne_eq_false_iff_eq,ne_eq,Decidable.not_not] at hb);first|contradiction|exact Bool.noConfusion (hb.symm.trans (by assumption):false=true)|exact Bool.noConfusion (hb.symm.trans (by assumption):true=false)|omega)):DA P ops draw (o :: l) acc (s.app (some t) ⟨.b true,[],[]⟩) K->DA P ops draw (o :: l) acc s K:=fun h=>yz hg hj ht (fun _=>h) fun hb=>(hc hb).elim
theorem QJ {j t:Nat} {want b:Bool} (hg:o.guard=some (j,want):=by rfl) (hj:(ops[j]?).bind (·.dst)=some t:=by rfl) (ht:s.t t = .b b:=by rfl) (_:RO b:=by (fail_if_success (with_reducible exact QC));(fail_if_success (with_reducible exact QD));exact trivial) (hc:b=true->False:=by intro hb;first|(cases hb;done)|((try simp only [decide_eq_true_eq,decide_eq_false_iff_not,Bool.not_eq_true',Bool.not_eq_false',beq_iff_eq,bne_iff_ne,beq_eq_false_iff_ne,bne_eq_false_iff_eq,ne_eq,Decidable.not_not] at hb);first|contradiction|exact Bool.noConfusion (hb.symm.trans (by assumption):false=true)|exact Bool.noConfusion (hb.symm.trans (by assumption):true=false)|omega)):DA P ops draw (o :: l) acc (s.app (some t) ⟨.b false,[],[]⟩) K->DA P ops draw (o :: l) acc s K:=fun h=>yz hg hj ht (fun hb=>(hc hb).elim) fun _=>h
theorem Sl {nt:Nat} {Ks:List Nat} {Q:Exit->Mst->Prop} {x:Operand} {u e:Code} {b:Bool} (hx:s.ev x = .b b:=by rfl) (hc:b=false->False:=by intro hb;first|(cases hb;done)|((try simp only [decide_eq_true_eq,decide_eq_false_iff_not,Bool.not_eq_true',Bool.not_eq_false',beq_iff_eq,bne_iff_ne,beq_eq_false_iff_ne,bne_eq_false_iff_eq,ne_eq,Decidable.not_not] at hb);first|contradiction|exact Bool.noConfusion (hb.symm.trans (by assumption):false=true)|exact Bool.noConfusion (hb.symm.trans (by assumption):true=false)|omega)):AW P nt Ks u Q s->AW P nt Ks (.cond x u e) Q s:=fun h=>B1 hx (fun _=>h) fun hb=>(hc hb).elim
theorem Sm {nt:Nat} {Ks:List Nat} {Q:Exit->Mst->Prop} {x:Operand} {u e:Code} {b:Bool} (hx:s.ev x = .b b:=by rfl) (hc:b=true->False:=by intro hb;first|(cases hb;done)|((try simp only [decide_eq_true_eq,decide_eq_false_iff_not,Bool.not_eq_true',Bool.not_eq_false',beq_iff_eq,bne_iff_ne,beq_eq_false_iff_ne,bne_eq_false_iff_eq,ne_eq,Decidable.not_not] at hb);first|contradiction|exact Bool.noConfusion (hb.symm.trans (by assumption):false=true)|exact Bool.noConfusion (hb.symm.trans (by assumption):true=false)|omega)):AW P nt Ks e Q s->AW P nt Ks (.cond x u e) Q s:=fun h=>B1 hx (fun hb=>(hc hb).elim) fun _=>h
theorem Ui {f:FuncId} {xs:Array Operand} {ts:Array TypeId} {args:List V0} {ot:Option Nat} {res:TV} (ho:o.op = .call { callee:=.value (.func f),args:=xs,argTypes:=ts }:=by rfl) (hg:s.gd ops o=some true:=by rfl) (hs:FSpec P f args [] [] res []:=by assumption) (hok:Hq args [] [] res []=true:=by rfl) (ha:All2 (fun x d=>AR s [] (s.ev x) d) xs.toList args:=by (repeat' (first|exact trivial|exact .same _|refine ⟨⟨_,rfl,?_⟩,?_⟩|refine .ag ?_|refine .one ?_|exact .own rfl rfl|exact .ocut rfl rfl|exact .full|exact .nil|refine ⟨?_,?_⟩));first|done|fail) (hd:o.dst=ot:=by first|exact (rfl:_=some _)|exact (rfl:_=none)) (hf:[].all s.f=true:=by rfl):DA P ops draw l (([],ax (kK [])) :: acc) (s.app ot ⟨res,kK [],[]⟩) K->DA P ops draw (o :: l) acc s K:=fun h=>cC [] hs h ho hok rfl ha hd hg hf
theorem Uy {g g':Prop} (h:g') (hs:g'->g:=by intro h;first|((with_reducible refine LH ?_);revert h;first|exact QI|exact QJ)|((with_reducible refine LI ?_);revert h;first|exact Sl|exact Sm)|((with_reducible refine LJ ?_);revert h;exact Ui)|((with_reducible refine PF ?_);revert h;first|(with_reducible exact Lr)|(with_reducible exact R6)|exact Hu rfl rfl|exact Uf|exact R5)|((with_reducible refine H3 ?_);revert h;first|(with_reducible exact R7)|(with_reducible exact R8)|(with_reducible exact sj)|(with_reducible exact DB)|(with_reducible exact Lk)|(with_reducible exact Hs)|(with_reducible exact Hr)|(with_reducible exact Ug)|(with_reducible exact Uh))|((with_reducible refine Sj ?_);exact qx h)|((with_reducible refine Sk ?_);exact qy h)):g:=hs h
theorem ao {g g':Prop} (h:g') (hs:Msk g'->g:=by (intro h9;(repeat refine Uy ?_);exact h9.h)):g:=hs ⟨h⟩
end
theorem gV {g g':Prop} (h:g') (hs:g'->g:=by intro h;(with_reducible refine LJ ?_);revert h;exact Ui):g:=hs h
instance (d:Nat):Dp (pA (d+1)) where
 deep:=Ex.d d
 get:=by
  rintro w F ρ x cs ⟨A,c,rfl,h1,h2,h3⟩;exact ⟨rfl,rfl,rfl,rfl,⟨A,c,rfl,⟨h1,h2⟩,h3⟩,trivial⟩
 put:=by
  intro w F ρ x cs h
  match cs,h with
  | [_,_,_,_,_],⟨rfl,rfl,rfl,rfl,⟨A,c,rfl,h1,h3⟩,_⟩=>exact ⟨A,c,rfl,h1.1,h1.2,h3⟩
 nok:=fun _ _=>rfl
theorem eq_tm (p q:Tm):Ht [.string p.name,.int .i64 p.am.mode,.int .i64 p.am.units] [.string q.name,.int .i64 q.am.mode,.int .i64 q.am.units]=decide (p=q):=by
 obtain ⟨a,b,c⟩:=p;obtain ⟨x,y,z⟩:=q;rw [Bool.eq_iff_iff];simp [Ht,RN]
 intros
 obtain ⟨a⟩:=a;obtain ⟨x⟩:=x;rw [show ((ByteArray.mk a) == (ByteArray.mk x))=(a == x) from rfl,beq_iff_eq];simp
instance:EQ prog 44 [1,0,0]:=⟨by kernel_rfl,fun w a b ha hb=>by
 obtain ⟨a1,a2,a3,rfl⟩:=N9 (so ha);obtain ⟨b1,b2,b3,rfl⟩:=N9 (so hb);simp only [List.map_cons,List.map_nil,List.cons.injEq,and_true] at ha hb;obtain ⟨x1,rfl⟩:=Lu ha.1;obtain ⟨x2,rfl⟩:=eN ha.2.1;obtain ⟨x3,rfl⟩:=eN ha.2.2;obtain ⟨y1,rfl⟩:=Lu hb.1;obtain ⟨y2,rfl⟩:=eN hb.2.1;obtain ⟨y3,rfl⟩:=eN hb.2.2;rw [eq_tm ⟨x1,⟨x2,x3⟩⟩ ⟨y1,⟨y2,y3⟩⟩];exact Hl ⟨x1,⟨x2,x3⟩⟩ ⟨y1,⟨y2,y3⟩⟩ w⟩
instance:Dp cJ:=gm _ _ _ _ _
instance:Dp xF:=gm _ _ _ _ _
abbrev iV (n:Int):V0:=.one (.sc (.int .i64 n))
theorem jP {c:Ctx} {s:Mst} {ρ:Nat->Value} {a:Act} {w:World} (hr:Rp c s ρ a w) {t i:Nat} {cs:List D} {d:Nat} {l:List Ex} (h:s.t t = .v (.ag cs)) (hi:cs[i]? = some (.sl (pA d) l)):l.length<=9223372036854775807/\(0<l.length->∃e,d=e+1):=by
 refine ⟨d7 hr h hi,fun h0=>?_⟩;cases d with
 | succ e=>exact ⟨e,rfl⟩
 | zero =>
  have:=hr.tmp t;rw [h] at this;obtain ⟨vs,_,h2⟩:=this;obtain ⟨v,_,A,cap,rfl,_,hR⟩:=h2.get hi;obtain ⟨g,off,cs',_,_,hc,_⟩:=hR.getx h0 rfl;exact hc.elim
theorem AX:∀{l:List (Nat×Option Box)} {h h':Nat->Option Box} {n:Nat},h n=h' n->hput l h n=hput l h' n
 | [],_,_,_,e=>e
 | (k,b) :: l,h,h',n,e=>by simp only [hput];rw [AX e]
theorem FSpec.nil0 {P:Program} {f:FuncId} {args:List V0} {α:Type} {e:TypeId} {E:El α} {us:List Nat} {res:TV} {hout:List (Nat×Option Box)} (h:FSpec P f (.one (.own 0) :: args) [(0,.arr e E [])] us res ((0,none) :: hout)) (hu:aX us 0=false) (ha:∀(q:Nat->Nat) k,args.all (fun d=>!(V0.ren q d).has k)=true):FSpec P f (.one (.sc (.slice none 0 0)) :: args) [] (0 :: us) res ((0,none) :: hout):=by
 refine ⟨h.en,fun q c st ρ a w vs hr hq hargs hin hfree=>?_⟩;have hf0:st.f (q 0)=true:=hfree 0 (by simp [aX]);have hne:∀{k},k≠q 0->(q 0).beq k=false:=fun hk=>by
  cases hb:(q 0).beq _ with
  | false=>rfl
  | true=>exact absurd (qNb hb).symm hk
 have hkk:∀k':Nat,aL [(q 0,some (Box.arr e E ([]:List α)))] k'=true->k'=q 0:=fun k' h=>by
  exact UM
 have h2:=hr.app (ρ':=upd ρ (q 0) (.slice none 0 0)) (w':=w) (dst:=none) (v:=undef) (e:=⟨.c .any,[(q 0,some (.arr e E []))],[q 0]⟩) (fun d hd=>by cases hd)
  (fun k' hk=>by have h9:k'=q 0:=(by simp [aX] at hk;exact hk.symm);subst h9;exact ⟨hf0,by simp [aL]⟩)
  (fun k' hk=>dW (by simpa [aX] using hk)) (fun k' hk=>.inl (by rw [hkk k' hk];simp [aX])) (Frx.refl _ _)
  (fun k' bx g hk _ hg=>by rw [hkk k' hk,aW] at hg;cases hg) (fun k1 k2 b b' g h1 h2 _ _ _ _=>by rw [hkk k1 h1,hkk k2 h2]) (fun k' hk=>by simp [TV.has,V0.has,D.has] at hk) (fun k1 k2 bx hk hb hx=>by
   rw [hkk k2 hk] at hb;simp only [Go.Proofs.YthpgjkjgkhjjlaaGreatDoor.hput,Nat.beq_refl,qCt,Option.some.injEq] at hb;subst hb;simp [Box.has] at hx)
  (fun k' bx hk hb=>by
   rw [hkk k' hk] at hb ⊢;simp only [Go.Proofs.YthpgjkjgkhjjlaaGreatDoor.hput,Nat.beq_refl,qCt,Option.some.injEq] at hb;subst hb;rw [aW];exact ⟨[],World.ownsRow_nil _ _ _ _,rfl⟩)
  trivial
 match vs,hargs with
 | v :: vs,⟨hv,hvs⟩ =>
  have hv:v = .slice none 0 0:=hv;subst hv;refine (h.ca q c _ _ a w (.slice none 0 0 :: vs) h2 hq ⟨(aW _ _ _).symm,hvs.imp fun d u hd h5=>h5.mono (fun b hb=>⟨⟨hb.1,hb.2.1,fun k bx hk he=>?_⟩,rfl⟩) fun k hk=>?_⟩ (fun k b hb=>?_) fun k hk=>?_).mono ?_
  ·by_cases h9:k=q 0
   ·rw [h9,aW] at he;cases he
   ·rw [dW (hne h9)] at he;refine hb.2.2 k bx ?_ he;have hk:hput [(q 0,some (.arr e E []))] st.h k=some bx:=hk
    rwa [cz (by simp [aL,hne h9])] at hk
  ·have:=List.all_eq_true.1 (ha q k) d hd;rw [hk] at this;cases this
  ·cases k with
   | succ k=>cases hb
   | zero =>
    injection hb with hb;subst hb;show hput [(q 0,some (.arr e E []))] st.h (q 0)=_;simp [Go.Proofs.YthpgjkjgkhjjlaaGreatDoor.hput,Box.ren]
  ·have h7:q k≠q 0:=fun h8=>by
    have:=hq k 0 (by show (Nat.beq 0 k || aX us k)=true;rw [hk,Bool.or_true]) rfl h8;subst this;rw [hu] at hk;cases hk
   show (st.f (q k) && !aX [q 0] (q k))=true;rw [hfree k (by show (Nat.beq 0 k || aX us k)=true;rw [hk,Bool.or_true])];simp [aX,hne h7]
  ·rintro en w' ⟨v,he,hd⟩;refine ⟨v,he,fun dst hdst=>?_⟩;obtain ⟨ρ',h3⟩:=hd dst hdst;refine ⟨ρ',?_⟩;have hE:st.app dst ⟨res.ren q,fo q ((0,none) :: hout),(0 :: us).map q⟩=(st.app none ⟨.c .any,[(q 0,some (.arr e E []))],[q 0]⟩).app dst ⟨res.ren q,fo q ((0,none) :: hout),us.map q⟩:=by
    unfold Mst.app;congr 1
    ·funext n
     show hput ((q 0,none) :: fo q hout) st.h n=hput ((q 0,none) :: fo q hout) (hput [(q 0,some (.arr e E []))] st.h) n;simp only [hput];cases hb:(q 0).beq n with
     | true=>rfl
     | false=>exact AX (by simp [Go.Proofs.YthpgjkjgkhjjlaaGreatDoor.hput,hb])
    ·funext n
     simp [aX,Bool.and_assoc]
   rw [hE];exact h3
section
variable {P:Program} {s:Mst} {o:Oper} {α:Type} {E:El α} {l:List α} {e':TypeId}
theorem Oo {t e:TypeId} {k by_:Nat} {cp:Int} {y:Operand} [T:ST P E t e by_] (ho:o.op = .makeSlice t (.const (.int .i64 0)) y) (hdk:o.dst=some k) (hy:s.ev y = .i cp) (h0:0<=cp) (hc:cp<=1000000) (hb:by_<=1024:=by decide):LOp P o s [] ⟨.c (.own k),[(k,some (.arr e E []))],[k]⟩:=by
 intro c st ρ a w hr h1 h2 h3 h4;obtain ⟨n,rfl⟩:=Int.eq_ofNat_of_zero_le h0;have hv2:a.eval y = .int .i64 (n:Int):=by have:=hr.ev y;rwa [h1 y (by simp [ho,Op.operands]),hy] at this
 have hfk:st.f k=true:=h3 k (by simp [aX]);obtain ⟨i0,z,hi,hz0,hz1,hz2,hz3⟩:=T.T.info;have hby:i0.bytes*n<=281474976710656:=Nat.le_trans (Nat.mul_le_mul (show i0.bytes<=1024 by omega) (show n<=1000000 by omega)) (by decide);have hrun:=jX (P:=P) t e i0 z T.T.under hi hz0 .i64 .i64 0 n (Nat.zero_le _) hby (by omega) w;have hsz:(madeCells z.cells (n*i0.size)).size=n*E.n:=by rw [size_madeCells,hz1]
 have ho1:=World.ownsRow_made (e:=e) (size:=E.n) (base:=0) w (madeCells z.cells (n*i0.size)) n (Nat.zero_le _) (by simp only [maxLen];omega) hsz;have hkk:∀k':Nat,aL [(k,some (Box.arr e E ([]:List α)))] k'=true->k'=k:=fun k' h=>by
  exact UM
 refine Oper.wp_value (v:=.slice (some ⟨w.heap.size,0,none⟩) 0 n) (w':=w.alloc (.cells (madeCells z.cells (n*i0.size)) e)) ?_ ⟨upd ρ k (.slice (some ⟨w.heap.size,0,none⟩) 0 n),hr.app (e:=⟨.c (.own k),[(k,some (.arr e E []))],[k]⟩) h4 (fun k' h=>?_) (fun k' h=>?_) (fun k' h=>.inl ?_) (Frx.alloc _ _ _) (fun k' bx g' h _ hg'=>?_) (fun k1 k2 _ _ _ h h' _ _ _ _=>?_) (fun k' h=>.inl ?_) (fun k1 k2 bx h hp hx=>?_) (fun k2 bx h hp=>?_) ?_⟩
 ·unfold execOp;rw [ho];have hv1:a.eval (.const (.int .i64 0)) = .int .i64 0:=rfl;simp only [hv1,hv2,Sem.run_bind,show (Instr.makeSlice t (.int .i64 0) (.int .i64 (n:Int))).run P w=_ from hrun,Result.andThen_ok,Sem.run_pure]
 ·have:k'=k:=by simp [aX] at h;exact h.symm
  subst this;exact ⟨hfk,by simp [aL]⟩
 ·exact dW (by simpa [aX] using h)
 ·rw [hkk k' h];simp [aX]
 ·exact U1
 ·exact VM
 ·have:k'=k:=by simp [TV.has,V0.has,D.has] at h;exact h.symm
  subst this;simp [aX]
 ·exact UJ
 ·rw [hkk k2 h] at hp ⊢;simp only [hput,Nat.beq_refl,qCt,Option.some.injEq] at hp;subst hp;rw [aW];exact ⟨[],ho1,rfl⟩
 ·exact (aW _ _ _).symm
theorem Gl {t e:TypeId} {x y:Operand} {row:Bool} {n k:Nat} {z:Int} (ho:o.op = .slice t x (some y) none none) (hx:s.ev x = .c (.own k)) (hk:s.h k=some (.arr e' E l)) (hy:s.ev y = .i z) (hz:0<=z) [I:SE P t e] [J:TI P e row n] (hn:E.n=n) (hj:z.toNat<=l.length) (h0:0<l.length) :
  LOp P o s [k] ⟨.c (.osl k n z.toNat l.length false),[],[]⟩ :=
 bY fun c st ρ a w hr h1 h2=>by
  obtain ⟨j,rfl⟩:=Int.eq_ofNat_of_zero_le hz;simp only [Int.toNat_natCast] at hj ⊢;have he:=h1 x (by simp [ho,Op.operands]);rw [hx] at he;have hv:=hr.ev x;rw [he] at hv;have hv2:a.eval y = .int .i64 (j:Int):=by have:=hr.ev y;rwa [h1 y (by simp [ho,Op.operands]),hy] at this
  obtain ⟨A,cap,hA,hc,hp⟩:=fA (hr.hp k _ ((h2 k (by simp [aX])).trans hk));obtain ⟨g,xs,rfl,_⟩:=hp h0;have hv:a.eval x = .slice (some ⟨g,0,none⟩) l.length cap:=Eq.trans hv hA;obtain ⟨q,hq,hqn⟩:∃q,P.info? e=some q/\q.size=n:=by
   have:=J.s;cases h:P.info? e with
   | none=>simp [h] at this
   | some q=>exact ⟨q,rfl,by simpa [h] using this⟩
  subst hqn;have h3:j<=cap:=by omega
  refine ⟨.slice (some (if cap=j then ⟨g,0,none⟩ else ⟨g,j*q.size,none⟩)) (l.length-j) (cap-j),?_,⟨g,_,_,cap-j,_,hA,⟨hj,Nat.le_refl _,by omega,by omega⟩,(fun h=>by cases h),rfl,fun h=>?_⟩,fun k' hk'=>hr.nf (x:=x) he (by simpa [TV.has,V0.has,D.has] using hk')⟩
  ·unfold execOp;rw [ho];by_cases hi0:cap=j
   ·exact V2
   ·exact V5
  ·rcases h with h|h
   ·subst h;simp
   ·rw [if_neg (by omega)]
theorem JQ {t e:TypeId} {by_ n i j k:Nat} {x y:Operand} {l':List α} [T:ST P E t e by_] (ho:o.op = .call { callee:=.builtin .copy,args:=#[x,y],argTypes:=#[t,t] }) (hx:s.ev x = .c (.osl k n i l.length false)) (hy:s.ev y = .c (.osl k n j l.length false)) (hk:s.h k=some (.arr e E l))
  (hn:E.n=n) (hij:j<=i) (hi:i<=l.length) (hl':l.take i++(l.drop j).take (l.length-i)=l'):LOp P o s [k] ⟨.c .any,[(k,some (.arr e E l'))],[]⟩:=by
 intro c st ρ a w hr h1 h2 _ h4;subst hl';subst hn;have hk':=(h2 k (by simp [aX])).trans hk;have hv1:=hr.ev x;rw [h1 x (by simp [ho,Op.operands,Call.operands]),hx] at hv1;obtain ⟨g,nn,cap,c1,A1,hρ1,⟨_,b2,b3,b4⟩,b5,hv1,b6⟩:=(show (D.osl k E.n i l.length false).rep w (Fz c st.h ρ w) ρ (a.eval x) from hv1);have hv2:=hr.ev y;rw [h1 y (by simp [ho,Op.operands,Call.operands]),hy] at hv2;obtain ⟨g2,nn2,cap2,c2,A2,hρ2,⟨d1,d2,d3,d4⟩,_,hv2,d6⟩:=(show (D.osl k E.n j l.length false).rep w (Fz c st.h ρ w) ρ (a.eval y) from hv2);rw [hρ1] at hρ2;injection hρ2 with e1 e2 e3;injection e1 with e1;injection e1 with e1;subst e1;subst e2;subst e3;obtain ⟨xs,hown0,hreps⟩:=hr.hp k _ hk';have hown:=hown0;rw [hρ1] at hown;obtain rfl:nn=l.length:=by
  rcases hown.2 with ⟨hv,_⟩|⟨g',cap',cur,hv,_⟩
  ·cases hv
  ·injection hv
 have hxl:=hown.1;have hpos:=E.pos;obtain ⟨ti,z,hi1,hi2,hi3,hi4,hi5⟩:=T.T.info;obtain ⟨cs,hcs⟩:=qGe ((xs.drop (j*E.n)).take ((l.length-i)*E.n));have hm:l.length-i<=l.length-j:=by omega
 have e5:(l.length-j)*E.n=l.length*E.n-j*E.n:=Nat.sub_mul _ _ _;have e6:(l.length-i)*E.n=l.length*E.n-i*E.n:=Nat.sub_mul _ _ _;have e7:=Nat.mul_le_mul_right E.n hm;have e8:=Nat.mul_le_mul_right E.n hi;have hcl:cs.length=(l.length-i)*E.n:=by
  rw [<-hcs,List.length_take,List.length_drop,hxl,<-e5];exact Nat.min_eq_left e7
 have hrc:Reps E w (Fz c st.h ρ w) ((l.drop j).take (l.length-i)) cs:=hcs▸(hreps.drop j).take (l.length-i);have hmin:Nat.min (l.length-j) (l.length-i)=l.length-i:=Nat.min_eq_right hm;have hrun:(Builtin.copy_ #[t,t] o.type #[a.eval x,a.eval y]).run P w = .ok (goInt (l.length-i:Nat)) (w.setCells g (i*E.n) cs):=by
  rw [hv1,hv2];by_cases h0:l.length-i=0
  ·have h9:cs=[]:=List.eq_nil_of_length_eq_zero (by rw [hcl,h0,Nat.zero_mul]);subst h9;have:=mL (P:=P) w t o.type e E.n (some A1) (some A2) (l.length-i) c1 (l.length-j) c2 T.T.under (by rw [hi1];simp [hi3]) (by rw [hmin];exact h0);rw [this,h0];rfl
  ·obtain rfl:A1=⟨g,i*E.n,none⟩:=b6 (.inr (by omega));obtain rfl:A2=⟨g,j*E.n,none⟩:=d6 (.inr (by omega));have:=jh (P:=P) w t o.type e E.n g (i*E.n) (l.length-i) c1 ⟨g,j*E.n,none⟩ (l.length-j) c2 cs T.T.under (by rw [hi1];simp [hi3]) (by rw [hmin];exact hcl) (fun q u hq=>by
    rw [dS];rw [<-hcs,List.getElem?_take] at hq;split at hq
    ·rw [List.getElem?_drop] at hq;have hlt:=(List.getElem?_eq_some_iff.1 hq).1;rw [World.ownsRow.cellAt hown _ (by omega)];exact hq
    ·cases hq) (fun q hq=>(fg hown (by omega)).1) (fun q hq=>(fg hown (by omega)).2) (fun v hv=>hrc.one v hv)
   rw [this,hmin]
 have hrow:=fy cs (i*E.n) w xs hown (by omega);have hkb:kb (ρ k)=some g:=by rw [hρ1];rfl
 have hsize:=cm (g:=g) cs (i*E.n) w;have hoth:∀b,b≠g->(w.setCells g (i*E.n) cs).heap[b]? = w.heap[b]?:=fun b hb=>cf cs _ w b hb;have hbel:=dm (B:=0) (w:=w) (Nat.zero_le g) cs (i*E.n) w (Below.refl _ _);obtain ⟨L,hL⟩:=qGe (l.take i++(l.drop j).take (l.length-i));have hLl:L.length=l.length:=by rw [<-hL];simp;omega
 have hnew:Reps E w (Fz c st.h ρ w) L (xs.take (i*E.n)++cs++xs.drop (i*E.n+cs.length)):=by
  rw [show xs.drop (i*E.n+cs.length)=[] from qDn (by omega),List.append_nil,<-hL];exact (hreps.take i).append hrc
 rw [hL];have hkk:∀k':Nat,aL [(k,some (Box.arr e E L))] k'=true->k'=k:=fun k' h=>by
  exact UM
 have hfz:∀b,Fz c st.h ρ w b->Fz c (hput [(k,some (Box.arr e E L))] st.h) ρ (w.setCells g (i*E.n) cs) b/\(w.setCells g (i*E.n) cs).heap[b]? = w.heap[b]?:=fun b ⟨f1,f2,f3⟩=>by
  have hbg:b≠g:=fun e=>f3 k _ hk' (by rw [hkb,e]);refine ⟨⟨f1,by rw [hsize];exact f2,fun k' bx hk2=>?_⟩,hoth b hbg⟩;simp only [hput] at hk2;cases h9:k.beq k' with
  | true=>rw [<-qNb h9,hkb];intro e;injection e with e;exact hbg e.symm
  | false=>rw [h9] at hk2;exact f3 k' bx hk2
 refine Oper.wp_value (v:=goInt (l.length-i:Nat)) (w':=w.setCells g (i*E.n) cs) ?_ ⟨ρ,hr.app (e:=⟨.c .any,[(k,some (.arr e E L))],[]⟩) h4 (fun k h=>by simp [aX] at h) (fun _ _=>rfl) (fun k' h=>.inr (by rw [hkk k' h];exact hr.nfh hk')) ⟨hbel.os,hbel.tape,hbel.output,hbel.size,fun b hlt hn=>hoth b fun e=>hn ⟨k,_,by simp [aL],hk',by rw [hkb,e]⟩⟩ ?_ ?_ (fun k h=>by simp [TV.has,V0.has,D.has] at h) ?_ ?_ trivial⟩
 ·exact VW
 ·intro k' bx g' h _ hg';exact U6
 ·intro k1 k2 _ _ _ h h' _ _ _ _;exact VM
 ·intro k1 k2 bx h hp hx;exact UJ
 ·intro k2 bx h hp;rw [hkk k2 h] at hp ⊢;simp only [hput,Nat.beq_refl,qCt,Option.some.injEq] at hp;subst hp;refine ⟨_,by rw [hLl,hρ1];exact hrow,?_⟩;exact hnew.same (fun b hb=>(hfz b hb).2) fun b hb=>(hfz b hb).1
end
theorem AY (z:Array Value):∀n,(madeCells z (n*z.size)).toList=(List.replicate n z.toList).flatten
 | 0=>by simp [madeCells]
 | n+1=>by
  have ih:=AY z n;unfold madeCells at ih ⊢;simp only [Array.toList_map,Array.toList_range] at ih ⊢;rw [Nat.succ_mul,List.range_add,List.map_append,ih,List.replicate_succ',List.flatten_append];congr 1
  simp only [List.map_map,List.flatten_cons,List.flatten_nil,List.append_nil];apply List.ext_getElem
  ·simp
  ·intro i h1 h2;simp only [List.length_map,List.length_range] at h1;simp only [List.getElem_map,List.getElem_range,Function.comp_apply,Array.getElem_toList];rw [Nat.add_comm,Nat.add_mul_mod_self_right,Nat.mod_eq_of_lt h1];exact getElem!_pos z i h1
section
variable {P:Program} {s:Mst} {o:Oper} {α:Type} {E:El α} {l:List α} {e':TypeId}
theorem Cj {t e:TypeId} {k by_ n:Nat} {x y:Operand} {z:Value} (y0:α) [T:ST P E t e by_] (ho:o.op = .makeSlice t x y) (hdk:o.dst=some k) (hx:s.ev x = .i n) (hy:s.ev y = .i n) (hn:n<=1000000) (hz:(P.info? e).bind (·.zero)=some z) (hy0:∀w S,E.rep w S y0 z.cells.toList) (hb:by_<=1024):LOp P o s [] ⟨.c (.own k),[(k,some (.arr e E (List.replicate n y0)))],[k]⟩:=by
 intro c st ρ a w hr h1 h2 h3 h4;have hv1:a.eval x = .int .i64 (n:Int):=by have:=hr.ev x;rwa [h1 x (by simp [ho,Op.operands]),hx] at this
 have hv2:a.eval y = .int .i64 (n:Int):=by have:=hr.ev y;rwa [h1 y (by simp [ho,Op.operands]),hy] at this
 have hfk:st.f k=true:=h3 k (by simp [aX]);obtain ⟨i0,z',hi,hz0,hz1,hz2,hz3⟩:=T.T.info;obtain rfl:z=z':=by rw [hi] at hz;simp [hz0] at hz;exact hz.symm
 have hby:i0.bytes*n<=281474976710656:=Nat.le_trans (Nat.mul_le_mul (show i0.bytes<=1024 by omega) (show n<=1000000 by omega)) (by decide);have hrun:=jX (P:=P) t e i0 z T.T.under hi hz0 .i64 .i64 n n (Nat.le_refl _) hby (by omega) w;have hzs:z.cells.size=i0.size:=by first|exact hz3|(rw [hz1];exact hz3)|omega
 rw [<-hzs] at hrun;have ho1:=World.ownsRow_lit (e:=e) (size:=E.n) (base:=0) w (madeCells z.cells (n*z.cells.size)) n (Nat.zero_le _) (by simp only [maxLen];omega) (by rw [size_madeCells,hzs,hz1]);rw [AY] at ho1;have hgen:∀(W:World) (S:Nat->Prop) (q:Nat),Reps E W S (List.replicate q y0) (List.replicate q z.cells.toList).flatten:=by
  intro W S q;induction q with
  | zero=>rfl
  | succ q ih=>exact ⟨z.cells.toList,(List.replicate q z.cells.toList).flatten,by rw [List.replicate_succ,List.flatten_cons],hy0 _ _,ih⟩
 have hkk:∀k':Nat,aL [(k,some (Box.arr e E (List.replicate n y0)))] k'=true->k'=k:=fun k' h=>by
  exact UM
 refine Oper.wp_value (v:=.slice (some ⟨w.heap.size,0,none⟩) n n) (w':=w.alloc (.cells (madeCells z.cells (n*z.cells.size)) e)) ?_ ⟨upd ρ k (.slice (some ⟨w.heap.size,0,none⟩) n n),hr.app (e:=⟨.c (.own k),[(k,some (.arr e E (List.replicate n y0)))],[k]⟩) h4 (fun k' h=>?_) (fun k' h=>?_) (fun k' h=>.inl ?_) (Frx.alloc _ _ _) (fun k' bx g' h _ hg'=>?_) (fun k1 k2 _ _ _ h h' _ _ _ _=>?_) (fun k' h=>.inl ?_) (fun k1 k2 bx h hp hx=>?_) (fun k2 bx h hp=>?_) ?_⟩
 ·unfold execOp;rw [ho];simp only [hv1,hv2,Sem.run_bind,hrun,Result.andThen_ok,Sem.run_pure]
 ·have:k'=k:=by simp [aX] at h;exact h.symm
  subst this;exact ⟨hfk,by simp [aL]⟩
 ·exact dW (by simpa [aX] using h)
 ·rw [hkk k' h];simp [aX]
 ·exact U1
 ·exact VM
 ·have:k'=k:=by simp [TV.has,V0.has,D.has] at h;exact h.symm
  subst this;simp [aX]
 ·exact UJ
 ·rw [hkk k2 h] at hp ⊢;simp only [hput,Nat.beq_refl,qCt,Option.some.injEq] at hp;subst hp;rw [aW];exact ⟨_,by rw [List.length_replicate];exact ho1,hgen _ _ n⟩
 ·exact (aW _ _ _).symm
theorem AZ {t e:TypeId} {by_ k:Nat} {x y:Operand} {m l':List α} {R:List Nat} [T:ST P E t e by_] (ho:o.op = .call { callee:=.builtin .copy,args:=#[x,y],argTypes:=#[t,t] }) (hx:s.ev x = .c (.own k)) (hk:s.h k=some (.arr e E l)) (hy:N5 s E y m R)
  (h0:0<l.length) (hm:m.length<=l.length) (hl':m++l.drop m.length=l'):LOp P o s (k :: R) ⟨.c .any,[(k,some (.arr e E l'))],[]⟩:=by
 intro c st ρ a w hr h1 h2 _ h4;subst hl';have hk':=(h2 k (by simp [aX])).trans hk;have hv1:=hr.ev x;rw [h1 x (by simp [ho,Op.operands,Call.operands]),hx] at hv1;have hv1:a.eval x=ρ k:=hv1;obtain ⟨A2,cap2,ys,hv2,hrc,hsrc⟩:=hy c st ρ a w hr (h1 y (by simp [ho,Op.operands,Call.operands])) fun k' hk'=>h2 k' (by simp only [aX,Bool.or_eq_true];exact .inr hk');obtain ⟨xs,hown0,hreps⟩:=hr.hp k _ hk';obtain ⟨g,cap,hρ1⟩:∃g cap,ρ k = .slice (some ⟨g,0,none⟩) l.length cap:=by
  rcases hown0.2 with ⟨_,hn⟩|⟨g',cap',cur,hv,_⟩
  ·omega
  ·exact ⟨g',cap',hv⟩
 have hown:=hown0;rw [hρ1] at hown;have hxl:=hown.1;have hpos:=E.pos;obtain ⟨ti,z,hi1,hi2,hi3,hi4,hi5⟩:=T.T.info;have hcl:ys.length=m.length*E.n:=hrc.length;have e8:=Nat.mul_le_mul_right E.n hm;have hmin:Nat.min m.length l.length=m.length:=Nat.min_eq_left hm;have hrun:(Builtin.copy_ #[t,t] o.type #[a.eval x,a.eval y]).run P w = .ok (goInt m.length) (w.setCells g 0 ys):=by
  rw [hv1,hρ1,hv2];by_cases hz:m.length=0
  ·have h9:ys=[]:=List.eq_nil_of_length_eq_zero (by rw [hcl,hz,Nat.zero_mul]);subst h9;have:=mL (P:=P) w t o.type e E.n (some ⟨g,0,none⟩) A2 l.length cap m.length cap2 T.T.under (by rw [hi1];simp [hi3]) (by rw [hmin];exact hz);rw [this,hz];rfl
  ·obtain ⟨b,off,rfl,hcell⟩:=hsrc (by omega);have:=jh (P:=P) w t o.type e E.n g 0 l.length cap ⟨b,off,none⟩ m.length cap2 ys T.T.under (by rw [hi1];simp [hi3]) (by rw [hmin];exact hcl) (fun q u hq=>by
    rw [dS];exact hcell q u hq) (fun q hq=>(fg hown (by omega)).1) (fun q hq=>(fg hown (by omega)).2) (fun v hv=>hrc.one v hv)
   rw [this,hmin]
 have hrow:=fy ys 0 w xs hown (by omega);have hkb:kb (ρ k)=some g:=by rw [hρ1];rfl
 have hsize:=cm (g:=g) ys 0 w;have hoth:∀b,b≠g->(w.setCells g 0 ys).heap[b]? = w.heap[b]?:=fun b hb=>cf ys _ w b hb;have hbel:=dm (B:=0) (w:=w) (Nat.zero_le g) ys 0 w (Below.refl _ _);obtain ⟨L,hL⟩:=qGe (m++l.drop m.length);have hLl:L.length=l.length:=by rw [<-hL];simp;omega
 have hnew:Reps E w (Fz c st.h ρ w) L (xs.take 0++ys++xs.drop (0+ys.length)):=by
  rw [<-hL,Nat.zero_add,List.take_zero,List.nil_append,hcl];exact hrc.append (hreps.drop m.length)
 rw [hL];have hkk:∀k':Nat,aL [(k,some (Box.arr e E L))] k'=true->k'=k:=fun k' h=>by
  exact UM
 have hfz:∀b,Fz c st.h ρ w b->Fz c (hput [(k,some (Box.arr e E L))] st.h) ρ (w.setCells g 0 ys) b/\(w.setCells g 0 ys).heap[b]? = w.heap[b]?:=fun b ⟨f1,f2,f3⟩=>by
  have hbg:b≠g:=fun e=>f3 k _ hk' (by rw [hkb,e]);refine ⟨⟨f1,by rw [hsize];exact f2,fun k' bx hk2=>?_⟩,hoth b hbg⟩;simp only [hput] at hk2;cases h9:k.beq k' with
  | true=>rw [<-qNb h9,hkb];intro e;injection e with e;exact hbg e.symm
  | false=>rw [h9] at hk2;exact f3 k' bx hk2
 refine Oper.wp_value (v:=goInt m.length) (w':=w.setCells g 0 ys) ?_ ⟨ρ,hr.app (e:=⟨.c .any,[(k,some (.arr e E L))],[]⟩) h4 (fun k h=>by simp [aX] at h) (fun _ _=>rfl) (fun k' h=>.inr (by rw [hkk k' h];exact hr.nfh hk')) ⟨hbel.os,hbel.tape,hbel.output,hbel.size,fun b hlt hn=>hoth b fun e=>hn ⟨k,_,by simp [aL],hk',by rw [hkb,e]⟩⟩ ?_ ?_ (fun k h=>by simp [TV.has,V0.has,D.has] at h) ?_ ?_ trivial⟩
 ·exact VW
 ·intro k' bx g' h _ hg';exact U6
 ·intro k1 k2 _ _ _ h h' _ _ _ _;exact VM
 ·intro k1 k2 bx h hp hx;exact UJ
 ·intro k2 bx h hp;rw [hkk k2 h] at hp ⊢;simp only [hput,Nat.beq_refl,qCt,Option.some.injEq] at hp;subst hp;refine ⟨_,by rw [hLl,hρ1];exact hrow,?_⟩;exact hnew.same (fun b hb=>(hfz b hb).2) fun b hb=>(hfz b hb).1
end
class EQR (P:Program) (t:TypeId) (sh:outParam (List Nat)):Prop where
 g:P.eqGuardType P.depth t=false
 e:∀(w:World) (a:List Value),a.map shp=sh->(Op.equal t (.agg a.toArray) (.agg a.toArray)).run P w = .ok true w
section
variable {P:Program} {o:Oper} {s:Mst}
end
theorem gJ {a:List Value} {k:Nat} {l:List Nat} (h:a.map shp=k :: l):∃x b,a=x :: b/\shp x=k/\b.map shp=l:=by
 cases a with
 | nil=>cases h
 | cons x b =>
  simp only [List.map_cons,List.cons.injEq] at h;exact ⟨x,b,rfl,h.1,h.2⟩
instance:EQR prog 121 [0,0,0,0,0]:=⟨by kernel_rfl,fun w a ha=>by
 have hS:prog.underlying 121=some (.struct (prog.fieldsOf 121)):=by kernel_rfl
 have hp:prog.stoodInHeld 121=false:=by kernel_rfl
 obtain ⟨a0,r0,rfl,h0,k0⟩:=gJ ha;obtain ⟨x0,rfl⟩:=eN h0;obtain ⟨a1,r1,rfl,h1,k1⟩:=gJ k0;obtain ⟨x1,rfl⟩:=eN h1;obtain ⟨a2,r2,rfl,h2,k2⟩:=gJ k1;obtain ⟨x2,rfl⟩:=eN h2;obtain ⟨a3,r3,rfl,h3,k3⟩:=gJ k2;obtain ⟨x3,rfl⟩:=eN h3;obtain ⟨a4,r4,rfl,h4,k4⟩:=gJ k3;obtain ⟨x4,rfl⟩:=eN h4;obtain rfl:=List.map_eq_nil_iff.1 k4;show (Op.equalIn 10000 121 _ _).run _ _=_;rw [show (10000:Nat)=9999+1 from rfl,run_equalIn_agg w 9999 121 _ _ hS hp];have u3:=underlying3;have u4:=underlying9;simp only [Program.fieldsOf,underlying121,underlying40,underlying42];go_simp⟩
instance:EQR prog 173 [0,0,0,0,0,0,0]:=⟨by kernel_rfl,fun w a ha=>by
 have hS:prog.underlying 173=some (.struct (prog.fieldsOf 173)):=by kernel_rfl
 have hp:prog.stoodInHeld 173=false:=by kernel_rfl
 obtain ⟨a0,r0,rfl,h0,k0⟩:=gJ ha;obtain ⟨x0,rfl⟩:=eN h0;obtain ⟨a1,r1,rfl,h1,k1⟩:=gJ k0;obtain ⟨x1,rfl⟩:=eN h1;obtain ⟨a2,r2,rfl,h2,k2⟩:=gJ k1;obtain ⟨x2,rfl⟩:=eN h2;obtain ⟨a3,r3,rfl,h3,k3⟩:=gJ k2;obtain ⟨x3,rfl⟩:=eN h3;obtain ⟨a4,r4,rfl,h4,k4⟩:=gJ k3;obtain ⟨x4,rfl⟩:=eN h4;obtain ⟨a5,r5,rfl,h5,k5⟩:=gJ k4;obtain ⟨x5,rfl⟩:=eN h5;obtain ⟨a6,r6,rfl,h6,k6⟩:=gJ k5;obtain ⟨x6,rfl⟩:=eN h6;obtain rfl:=List.map_eq_nil_iff.1 k6;show (Op.equalIn 10000 173 _ _).run _ _=_;rw [show (10000:Nat)=9999+1 from rfl,run_equalIn_agg w 9999 173 _ _ hS hp];have u3:=underlying3;have u4:=underlying9;simp only [Program.fieldsOf,underlying173,underlying40,underlying42];go_simp⟩
instance:EQR prog 68 [0,0,0,0,1,0,0]:=⟨by kernel_rfl,fun w a ha=>by
 have hS:prog.underlying 68=some (.struct (prog.fieldsOf 68)):=by kernel_rfl
 have hp:prog.stoodInHeld 68=false:=by kernel_rfl
 obtain ⟨a0,r0,rfl,h0,k0⟩:=gJ ha;obtain ⟨x0,rfl⟩:=eN h0;obtain ⟨a1,r1,rfl,h1,k1⟩:=gJ k0;obtain ⟨x1,rfl⟩:=eN h1;obtain ⟨a2,r2,rfl,h2,k2⟩:=gJ k1;obtain ⟨x2,rfl⟩:=eN h2;obtain ⟨a3,r3,rfl,h3,k3⟩:=gJ k2;obtain ⟨x3,rfl⟩:=eN h3;obtain ⟨a4,r4,rfl,h4,k4⟩:=gJ k3;obtain ⟨x4,rfl⟩:=Lu h4;obtain ⟨a5,r5,rfl,h5,k5⟩:=gJ k4;obtain ⟨x5,rfl⟩:=eN h5;obtain ⟨a6,r6,rfl,h6,k6⟩:=gJ k5;obtain ⟨x6,rfl⟩:=eN h6;obtain rfl:=List.map_eq_nil_iff.1 k6;show (Op.equalIn 10000 68 _ _).run _ _=_;rw [show (10000:Nat)=9999+1 from rfl,run_equalIn_agg w 9999 68 _ _ hS hp];have u3:=underlying3;have u4:=underlying9;simp only [Program.fieldsOf,underlying68,underlying40,underlying42];go_simp⟩
instance:EQR prog 63 [1,0,0,0]:=⟨by kernel_rfl,fun w a ha=>by
 have hS:prog.underlying 63=some (.struct (prog.fieldsOf 63)):=by kernel_rfl
 have hp:prog.stoodInHeld 63=false:=by kernel_rfl
 obtain ⟨a0,r0,rfl,h0,k0⟩:=gJ ha;obtain ⟨x0,rfl⟩:=Lu h0;obtain ⟨a1,r1,rfl,h1,k1⟩:=gJ k0;obtain ⟨x1,rfl⟩:=eN h1;obtain ⟨a2,r2,rfl,h2,k2⟩:=gJ k1;obtain ⟨x2,rfl⟩:=eN h2;obtain ⟨a3,r3,rfl,h3,k3⟩:=gJ k2;obtain ⟨x3,rfl⟩:=eN h3;obtain rfl:=List.map_eq_nil_iff.1 k3;show (Op.equalIn 10000 63 _ _).run _ _=_;rw [show (10000:Nat)=9999+1 from rfl,run_equalIn_agg w 9999 63 _ _ hS hp];have u3:=underlying3;have u4:=underlying9;simp only [Program.fieldsOf,underlying63];go_simp⟩
instance:EQR prog 132 [1,0,0,0,0]:=⟨by kernel_rfl,fun w a ha=>by
 have hS:prog.underlying 132=some (.struct (prog.fieldsOf 132)):=by kernel_rfl
 have hp:prog.stoodInHeld 132=false:=by kernel_rfl
 obtain ⟨a0,r0,rfl,h0,k0⟩:=gJ ha;obtain ⟨x0,rfl⟩:=Lu h0;obtain ⟨a1,r1,rfl,h1,k1⟩:=gJ k0;obtain ⟨x1,rfl⟩:=eN h1;obtain ⟨a2,r2,rfl,h2,k2⟩:=gJ k1;obtain ⟨x2,rfl⟩:=eN h2;obtain ⟨a3,r3,rfl,h3,k3⟩:=gJ k2;obtain ⟨x3,rfl⟩:=eN h3;obtain ⟨a4,r4,rfl,h4,k4⟩:=gJ k3;obtain ⟨x4,rfl⟩:=eN h4;obtain rfl:=List.map_eq_nil_iff.1 k4;show (Op.equalIn 10000 132 _ _).run _ _=_;rw [show (10000:Nat)=9999+1 from rfl,run_equalIn_agg w 9999 132 _ _ hS hp];have u3:=underlying3;have u4:=underlying9;simp only [Program.fieldsOf,underlying132,underlying42];go_simp⟩
instance:EQR prog 207 [0,0]:=⟨by kernel_rfl,fun w a ha=>by
 have hS:prog.underlying 207=some (.struct (prog.fieldsOf 207)):=by kernel_rfl
 have hp:prog.stoodInHeld 207=false:=by kernel_rfl
 obtain ⟨a0,r0,rfl,h0,k0⟩:=gJ ha;obtain ⟨x0,rfl⟩:=eN h0;obtain ⟨a1,r1,rfl,h1,k1⟩:=gJ k0;obtain ⟨x1,rfl⟩:=eN h1;obtain rfl:=List.map_eq_nil_iff.1 k1;show (Op.equalIn 10000 207 _ _).run _ _=_;rw [show (10000:Nat)=9999+1 from rfl,run_equalIn_agg w 9999 207 _ _ hS hp];have u3:=underlying3;have u4:=underlying9;simp only [Program.fieldsOf,underlying207];go_simp⟩
section
variable {P:Program} {o:Oper} {s:Mst}
instance dpSl {α:Type} (E:El α):Dp (El.sl E) where
 deep:=fun l=>[.sl E l]
 get:=fun {w F ρ x cs} h=>by
  obtain ⟨A,cap,rfl,h1,h2,h3⟩:=h;exact ⟨⟨A,cap,rfl,⟨h1,h2⟩,h3⟩,trivial⟩
 put:=fun {w F ρ x cs} h=>by
  match cs,h with
  | [v],⟨⟨A,cap,e,⟨h1,h2⟩,h3⟩,_⟩=>exact ⟨A,cap,by rw [e],h1,h2,h3⟩
 nok:=fun x k=>rfl
end
end Go.Proofs.YthpgjkjgkhjjlaaGreatDoor
