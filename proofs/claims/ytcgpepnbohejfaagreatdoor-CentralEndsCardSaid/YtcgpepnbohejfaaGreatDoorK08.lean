/- Part 8 of 56 of the proof of both_hold (no condition). -/
import Derived.Test.YtcgpepnbohejfaaGreatDoorK05
import Derived.IntWalk
set_option linter.unusedVariables false
set_option linter.unusedSimpArgs false
set_option maxRecDepth 100000
set_option maxHeartbeats 64000000
namespace Go.Proofs.YtcgpepnbohejfaaGreatDoor
open Go.RowKit Go.Proofs.Tryz
section
variable {P:Program} {o:Oper} {s:Mst}
theorem D0 {t t':TypeId} {x y:Operand} {kd:IntKind} {a b c:Int} (ho:o.op = .binOp .add t x y t') (hx:s.ev x = .c (.sc (.int kd a))) (hy:s.ev y = .c (.sc (.int kd b))) (h:kd.wrap (a+b)=c):LOp P o s [] ⟨.c (.sc (.int kd c)),[],[]⟩ :=
 fM (by rw [ho];rfl) hx hy fun ev w hx hy=>by simp [execOp,ho,hx,hy,eqGuard,binOp,Op.intArith,h]
theorem D1 {t t':TypeId} {x y:Operand} {kd:IntKind} {a b c:Int} (ho:o.op = .binOp .sub t x y t') (hx:s.ev x = .c (.sc (.int kd a))) (hy:s.ev y = .c (.sc (.int kd b))) (h:kd.wrap (a-b)=c):LOp P o s [] ⟨.c (.sc (.int kd c)),[],[]⟩ :=
 fM (by rw [ho];rfl) hx hy fun ev w hx hy=>by simp [execOp,ho,hx,hy,eqGuard,binOp,Op.intArith,h]
theorem D2 {t t':TypeId} {x y:Operand} {kd:IntKind} {a b c:Int} (ho:o.op = .binOp .mul t x y t') (hx:s.ev x = .c (.sc (.int kd a))) (hy:s.ev y = .c (.sc (.int kd b))) (h:kd.wrap (a*b)=c):LOp P o s [] ⟨.c (.sc (.int kd c)),[],[]⟩ :=
 fM (by rw [ho];rfl) hx hy fun ev w hx hy=>by simp [execOp,ho,hx,hy,eqGuard,binOp,Op.intArith,h]
theorem D3 {t t':TypeId} {x y:Operand} {kd:IntKind} {a b c:Int} (ho:o.op = .binOp .quo t x y t') (hx:s.ev x = .c (.sc (.int kd a))) (hy:s.ev y = .c (.sc (.int kd b))) (h0:b≠0) (h:kd.wrap (a.tdiv b)=c):LOp P o s [] ⟨.c (.sc (.int kd c)),[],[]⟩ :=
 fM (by rw [ho];rfl) hx hy fun ev w hx hy=>by simp [execOp,ho,hx,hy,eqGuard,binOp,Op.intDiv,h0,h]
theorem tX {t t':TypeId} {x y:Operand} {kd:IntKind} {a b c:Int} (ho:o.op = .binOp .rem t x y t') (hx:s.ev x = .c (.sc (.int kd a))) (hy:s.ev y = .c (.sc (.int kd b))) (h0:b≠0) (h:a.tmod b=c):LOp P o s [] ⟨.c (.sc (.int kd c)),[],[]⟩ :=
 fM (by rw [ho];rfl) hx hy fun ev w hx hy=>by simp [execOp,ho,hx,hy,eqGuard,binOp,Op.intDiv,h0,h]
theorem jB {op:BinOp} {t t':TypeId} {x y:Operand} {kd:IntKind} {a b:Int} {c:Bool} (ho:o.op = .binOp op t x y t') (hx:s.ev x = .c (.sc (.int kd a))) (hy:s.ev y = .c (.sc (.int kd b)))
  (h:(op = .eql∧(a == b)=c)∨(op = .neq∧(a != b)=c)∨(op = .lss∧decide (a<b)=c)∨(op = .leq∧decide (a≤b)=c)∨(op = .gtr∧decide (b<a)=c)∨(op = .geq∧decide (b≤a)=c)):LOp P o s [] ⟨.b c,[],[]⟩ :=
 fM (by rw [ho];rfl) hx hy fun ev w hx hy=>by
  rcases h with ⟨rfl,h⟩|⟨rfl,h⟩|⟨rfl,h⟩|⟨rfl,h⟩|⟨rfl,h⟩|⟨rfl,h⟩ <;> subst h <;> simp [execOp,ho,hx,hy,eqGuard,binOp,Op.intCmp]
theorem n9 {op:BinOp} {t t':TypeId} {x y:Operand} {a b:ByteArray} {c:Bool} (ho:o.op = .binOp op t x y t') (hx:s.ev x = .c (.sc (.string a))) (hy:s.ev y = .c (.sc (.string b)))
  (h:(op = .eql∧(a.toList == b.toList)=c)∨(op = .neq∧(!(a.toList == b.toList))=c)∨(op = .lss∧Op.bytesLess a.toList b.toList=c)∨(op = .geq∧(!Op.bytesLess a.toList b.toList)=c)):LOp P o s [] ⟨.b c,[],[]⟩ :=
 fM (by rw [ho];rfl) hx hy fun ev w hx hy=>by
  rcases h with ⟨rfl,h⟩|⟨rfl,h⟩|⟨rfl,h⟩|⟨rfl,h⟩ <;> subst h <;> simp [execOp,ho,hx,hy,eqGuard,binOp,Op.stringOp]
theorem FV {t t':TypeId} {x y:Operand} {kd:IntKind} {a b:Int} (ho:o.op = .binOp .eql t x y t') (hx:s.ev x = .c (.sc (.int kd a))) (hy:s.ev y = .c (.sc (.int kd b))):LOp P o s [] ⟨.b (a == b),[],[]⟩:=jB ho hx hy (by simp)
theorem FW {t t':TypeId} {x y:Operand} {kd:IntKind} {a b:Int} (ho:o.op = .binOp .neq t x y t') (hx:s.ev x = .c (.sc (.int kd a))) (hy:s.ev y = .c (.sc (.int kd b))):LOp P o s [] ⟨.b (a != b),[],[]⟩:=jB ho hx hy (by simp)
theorem FX {t t':TypeId} {x y:Operand} {kd:IntKind} {a b:Int} (ho:o.op = .binOp .lss t x y t') (hx:s.ev x = .c (.sc (.int kd a))) (hy:s.ev y = .c (.sc (.int kd b))):LOp P o s [] ⟨.b (decide (a<b)),[],[]⟩:=jB ho hx hy (by simp)
theorem FY {t t':TypeId} {x y:Operand} {kd:IntKind} {a b:Int} (ho:o.op = .binOp .leq t x y t') (hx:s.ev x = .c (.sc (.int kd a))) (hy:s.ev y = .c (.sc (.int kd b))):LOp P o s [] ⟨.b (decide (a≤b)),[],[]⟩:=jB ho hx hy (by simp)
theorem FZ {t t':TypeId} {x y:Operand} {kd:IntKind} {a b:Int} (ho:o.op = .binOp .gtr t x y t') (hx:s.ev x = .c (.sc (.int kd a))) (hy:s.ev y = .c (.sc (.int kd b))):LOp P o s [] ⟨.b (decide (b<a)),[],[]⟩:=jB ho hx hy (by simp)
theorem F0 {t t':TypeId} {x y:Operand} {kd:IntKind} {a b:Int} (ho:o.op = .binOp .geq t x y t') (hx:s.ev x = .c (.sc (.int kd a))) (hy:s.ev y = .c (.sc (.int kd b))):LOp P o s [] ⟨.b (decide (b≤a)),[],[]⟩:=jB ho hx hy (by simp)
theorem D4 {t t':TypeId} {x y:Operand} {a b:ByteArray} (ho:o.op = .binOp .eql t x y t') (hx:s.ev x = .c (.sc (.string a))) (hy:s.ev y = .c (.sc (.string b))):LOp P o s [] ⟨.b (a.toList == b.toList),[],[]⟩:=n9 ho hx hy (by simp)
theorem D5 {t t':TypeId} {x y:Operand} {a b:ByteArray} (ho:o.op = .binOp .neq t x y t') (hx:s.ev x = .c (.sc (.string a))) (hy:s.ev y = .c (.sc (.string b))):LOp P o s [] ⟨.b (!(a.toList == b.toList)),[],[]⟩:=n9 ho hx hy (by simp)
theorem D6 {t t':TypeId} {x y:Operand} {a b:ByteArray} (ho:o.op = .binOp .lss t x y t') (hx:s.ev x = .c (.sc (.string a))) (hy:s.ev y = .c (.sc (.string b))):LOp P o s [] ⟨.b (Op.bytesLess a.toList b.toList),[],[]⟩:=n9 ho hx hy (by simp)
theorem D7 {t t':TypeId} {x y:Operand} {a b:ByteArray} (ho:o.op = .binOp .geq t x y t') (hx:s.ev x = .c (.sc (.string a))) (hy:s.ev y = .c (.sc (.string b))):LOp P o s [] ⟨.b (!Op.bytesLess a.toList b.toList),[],[]⟩:=n9 ho hx hy (by simp)
theorem D8 {t:TypeId} {x:Operand} {b:Bool} (ho:o.op = .unOp .not t x) (hx:s.ev x = .b b):LOp P o s [] ⟨.b (!b),[],[]⟩ :=
 yA (by rw [ho];rfl) hx fun ev w hx=>by simp [execOp,ho,hx,Op.unary]
def He:Value→Value→Bool
 | .int _ a,.int _ b=>a == b
 | .string a,.string b=>a == b
 | .bool a,.bool b=>a == b
 | _,_=>false
def yB:List Value→List Value→Bool
 | [],[]=>true
 | a :: l,b :: m=>He a b && yB l m
 | _,_=>false
def shp:Value→Nat
 | .int .i64 _=>0
 | .string _=>1
 | .bool _=>2
 | _=>9
def scs:List D→Option (List Value)
 | []=>some []
 | .sc v :: l=>match scs l with|some r=>some (v :: r)|none=>none
 | _ :: _=>none
class EQ (P:Program) (t:TypeId) (sh:outParam (List Nat)):Prop where
 g:P.eqGuardType P.depth t=false
 e:∀(w:World) (a b:List Value),a.map shp=sh→b.map shp=sh→(Op.equal t (.agg a.toArray) (.agg b.toArray)).run P w = .ok (yB a b) w
theorem gQ {w:World} {F:Nat→Prop} {ρ:Nat→Value}:∀{l:List D} {a vs:List Value},scs l=some a→All2 (D.rep w F ρ) l vs→vs=a
 | [],a,vs,h,k=>by
  cases vs with
  | nil=>simp [scs] at h;exact h.symm▸rfl
  | cons=>exact k.elim
 | d :: l,a,vs,h,k=>by
  cases vs with
  | nil=>exact k.elim
  | cons v vs =>
   cases d with
   | sc x =>
    simp only [scs] at h;cases hl:scs l with
    | none=>rw [hl] at h;cases h
    | some r =>
     rw [hl] at h;have h:=Option.some.inj h;subst h;rw [gQ hl k.2,show v=x from k.1]
   | _=>simp [scs] at h
theorem D9 {t t':TypeId} {x y:Operand} {la lb:List D} {a b:List Value} {sh:List Nat} {c:Bool} [I:EQ P t sh] (ho:o.op = .binOp .eql t x y t') (hx:s.ev x = .v (.ag la)) (hy:s.ev y = .v (.ag lb)) (ha:scs la=some a) (hb:scs lb=some b) (h1:a.map shp=sh) (h2:b.map shp=sh) (h:yB a b=c):LOp P o s [] ⟨.b c,[],[]⟩ :=
 bi fun cx st ρ ac w hr hc _=>by
  have he:=hc x (by simp [ho,Op.operands]);have he2:=hc y (by simp [ho,Op.operands]);rw [hx] at he;rw [hy] at he2;have hv:=hr.ev x;rw [he] at hv;have hv2:=hr.ev y;rw [he2] at hv2;obtain ⟨vs,hv,hA⟩:=hv;obtain ⟨us,hv2,hB⟩:=hv2;have e1:=gQ ha hA;have e2:=gQ hb hB;subst e1;subst e2;subst h;refine ⟨.bool (yB vs us),?_,rfl,fun k hk=>by simp [TV.has,V0.has,D.has] at hk⟩;unfold execOp;rw [ho];simp [hv,hv2,eqGuard,binOp,I.e w vs us h1 h2,I.g]
theorem Ea {t t':TypeId} {x y:Operand} {la lb:List D} {a b:List Value} {sh:List Nat} {c:Bool} [I:EQ P t sh] (ho:o.op = .binOp .neq t x y t') (hx:s.ev x = .v (.ag la)) (hy:s.ev y = .v (.ag lb)) (ha:scs la=some a) (hb:scs lb=some b) (h1:a.map shp=sh) (h2:b.map shp=sh) (h:(!yB a b)=c):LOp P o s [] ⟨.b c,[],[]⟩ :=
 bi fun cx st ρ ac w hr hc _=>by
  have he:=hc x (by simp [ho,Op.operands]);have he2:=hc y (by simp [ho,Op.operands]);rw [hx] at he;rw [hy] at he2;have hv:=hr.ev x;rw [he] at hv;have hv2:=hr.ev y;rw [he2] at hv2;obtain ⟨vs,hv,hA⟩:=hv;obtain ⟨us,hv2,hB⟩:=hv2;have e1:=gQ ha hA;have e2:=gQ hb hB;subst e1;subst e2;subst h;refine ⟨.bool (!yB vs us),?_,rfl,fun k hk=>by simp [TV.has,V0.has,D.has] at hk⟩;unfold execOp;rw [ho];simp [hv,hv2,eqGuard,binOp,I.e w vs us h1 h2,I.g]
theorem BO {t e:TypeId} [I:SE P t e] (w:World) (A:Option Addr) (n c:Nat) (ty:TypeId):(Builtin.len_ #[t] ty #[.slice A n c]).run P w = .ok (.int .i64 n) w:=by
 simp [Builtin.len_,run_underlying I.u,goInt]
theorem ga {t e ty:TypeId} {x:Operand} {n:Nat} {R:List Nat} [SE P t e] (ho:o.op = .call { callee:=.builtin .len,args:=#[x],argTypes:=#[t] })
  (h:∀(c:Ctx) (st:Mst) (ρ:Nat→Value) (a:Act) (w:World),Rp c st ρ a w→st.ev x=s.ev x→(∀k,aD R k=true→st.h k=s.h k)→∃A c,a.eval x = .slice A n c):LOp P o s R ⟨.i n,[],[]⟩ :=
 bi fun c st ρ a w hr h1 h2=>by
  obtain ⟨A,cap,hv⟩:=h c st ρ a w hr (h1 x (by simp [ho,Op.operands,Call.operands])) h2;refine ⟨.int .i64 n,?_,rfl,fun k hk=>by simp [TV.has,V0.has,D.has] at hk⟩;unfold execOp;rw [ho];simp only [resolve,invoke,builtin,Sem.run_bind,Sem.run_pure,Result.andThen_ok,List.map_toArray,List.map_cons,List.map_nil,hv,BO]
theorem Eb {t e:TypeId} {x:Operand} {α:Type} {E:El α} {l:List α} [SE P t e] (ho:o.op = .call { callee:=.builtin .len,args:=#[x],argTypes:=#[t] }) (hx:s.ev x = .c (.sl E l)):LOp P o s [] ⟨.i l.length,[],[]⟩ :=
 ga (ty:=0) ho fun c st ρ a w hr he _=>by
  have hv:=hr.ev x;rw [he,hx] at hv;obtain ⟨A,cap,hv,_⟩:=hv;exact ⟨A,cap,hv⟩
theorem z8 {t e:TypeId} {x:Operand} {k:Nat} {e':TypeId} {α:Type} {E:El α} {l:List α} [SE P t e] (ho:o.op = .call { callee:=.builtin .len,args:=#[x],argTypes:=#[t] }) (hx:s.ev x = .c (.own k)) (hk:s.h k=some (.arr e' E l)):LOp P o s [k] ⟨.i l.length,[],[]⟩ :=
 ga (ty:=0) ho fun c st ρ a w hr he h2=>by
  have hv:=hr.ev x;rw [he,hx] at hv;obtain ⟨A,cap,hA,_⟩:=dF (hr.hp k _ ((h2 k (by simp [aD])).trans hk));exact ⟨A,cap,Eq.trans hv hA⟩
theorem Aa {t e:TypeId} {x:Operand} [SE P t e] (ho:o.op = .call { callee:=.builtin .len,args:=#[x],argTypes:=#[t] }) (hx:s.ev x = .c (.sc (.slice none 0 0))):LOp P o s [] ⟨.i (0:Nat),[],[]⟩ :=
 ga (ty:=0) ho fun c st ρ a w hr he _=>by
  have hv:=hr.ev x;rw [he,hx] at hv;exact ⟨none,0,hv⟩
theorem nh {x:Operand} {l:List V0} {i:Nat} {y:V0} (ho:o.op = .extract x i) (hx:s.ev x = .tup l) (hy:l[i]? = some y):LOp P o s [] ⟨.v y,[],[]⟩ :=
 bi fun c st ρ a w hr h1 _=>by
  have he:=h1 x (by simp [ho,Op.operands]);rw [hx] at he;have hv:=hr.ev x;rw [he] at hv;obtain ⟨vs,hv,hA⟩:=hv;obtain ⟨u,hu,hrep⟩:=hA.get hy;refine ⟨u,?_,hrep,fun k hk=>hr.nf (x:=x) he ?_⟩
  ·unfold execOp;rw [ho];simp [hv,Instr.extract,hu]
  ·simp only [TV.has] at hk ⊢;exact List.any_eq_true.2 ⟨y,List.mem_of_getElem? hy,hk⟩
theorem tY {t:TypeId} {n off:Nat} [I:TI P t true n] (w:World) (cs:Array Value):(part t cs off).run P w = .ok (.agg (cs.extract off (off+n))) w:=by
 obtain ⟨d,h1,h2⟩:=I.u;have h3:=I.s;cases hq:P.info? t with
 | none=>simp [hq] at h3
 | some i =>
  simp [hq] at h3;subst h3;cases d <;> simp_all [part,isAgg,run_underlying h1,sizeOf,typeInfo]
theorem tZ {t:TypeId} {n off:Nat} [I:TI P t false n] (w:World) (cs:Array Value) (v:Value) (hv:cs[off]? = some v):(part t cs off).run P w = .ok v w:=by
 obtain ⟨d,h1,h2⟩:=I.u;cases d <;> simp_all [part,isAgg,run_underlying h1]
theorem Ab {t ft:TypeId} {x:Operand} {f off n:Nat} {l:List D} {y:D} [I:FO P t f off ft] [J:TI P ft false n] (ho:o.op = .field t x f) (hx:s.ev x = .v (.ag l)) (hy:l[off]? = some y):LOp P o s [] ⟨.c y,[],[]⟩ :=
 bi fun c st ρ a w hr h1 _=>by
  have he:=h1 x (by simp [ho,Op.operands]);rw [hx] at he;have hv:=hr.ev x;rw [he] at hv;obtain ⟨cs,hv,hA⟩:=hv;obtain ⟨fs,z,i,u1,u2,u3,u4,_⟩:=I.u;subst u3;subst u4;obtain ⟨v,h2,h3⟩:=hA.get hy;refine ⟨v,?_,h3,fun k hk=>hr.nf (x:=x) he (by simp only [TV.has,V0.has];exact na hy hk)⟩;unfold execOp;rw [ho];simp only [hv,Instr.field,run_underlying u1,u2,Sem.run_bind,Result.andThen_ok,asAgg,Sem.run_pure,tZ w cs.toArray v (by simpa using h2)]
theorem rt {t ft:TypeId} {x:Operand} {f off n:Nat} {l ds:List D} [I:FO P t f off ft] [J:TI P ft true n] (ho:o.op = .field t x f) (hx:s.ev x = .v (.ag l)) (hd:(l.drop off).take n=ds):LOp P o s [] ⟨.v (.ag ds),[],[]⟩ :=
 bi fun c st ρ a w hr h1 _=>by
  have he:=h1 x (by simp [ho,Op.operands]);rw [hx] at he;have hv:=hr.ev x;rw [he] at hv;obtain ⟨cs,hv,hA⟩:=hv;obtain ⟨fs,z,i,u1,u2,u3,u4,_⟩:=I.u;subst u3;subst u4;subst hd;refine ⟨.agg ((cs.drop z.offset).take n).toArray,?_,⟨_,rfl,(hA.drop _).take _⟩,fun k hk=>hr.nf (x:=x) he (by simp only [TV.has,V0.has] at hk ⊢;exact nc (fun d hd=>List.mem_of_mem_drop (List.mem_of_mem_take hd)) hk)⟩;unfold execOp;rw [ho];simp only [hv,Instr.field,run_underlying u1,u2,Sem.run_bind,Result.andThen_ok,asAgg,Sem.run_pure,tY w cs.toArray];congr 3
  simp [List.drop_take,Array.ext_iff]
end
class ST {α:Type} (P:Program) (E:El α) (t:TypeId) (e:outParam TypeId) (by_:outParam Nat):Prop where
 T:ElTB P E t e by_
section
variable {P:Program} {o:Oper} {s:Mst} {α:Type} {E:El α}
def Fj (s:Mst) (E:El α) (x:Operand) (m:List α) (R:List Nat):Prop :=
 ∀(c:Ctx) (st:Mst) (ρ:Nat→Value) (a:Act) (w:World),Rp c st ρ a w→st.ev x=s.ev x→(∀k,aD R k=true→st.h k=s.h k)→
  ∃A cap ys,a.eval x = .slice A m.length cap∧Reps E w (Fz c st.h ρ w) m ys∧(0<m.length→∃b off,A=some ⟨b,off,none⟩∧∀j u,ys[j]? = some u→w.cell? ⟨b,off+j,none⟩=some u)
theorem oX {x:Operand} {m:List α} (hx:s.ev x = .c (.sl E m)):Fj s E x m []:=fun c st ρ a w hr he _=>by
 have hv:=hr.ev x;rw [he,hx] at hv;obtain ⟨A,cap,hv,_,ys,h1,h2⟩:=hv;exact ⟨A,cap,ys,hv,h1,fun h=>by obtain ⟨b,off,e,_,h3⟩:=h2 h;exact ⟨b,off,e,h3⟩⟩
theorem oY {x:Operand} {m:List α} (hx:s.ev x = .c (.full E m)):Fj s E x m []:=fun c st ρ a w hr he _=>by
 have hv:=hr.ev x;rw [he,hx] at hv;obtain ⟨A,hv,_,ys,h1,h2⟩:=hv;exact ⟨A,_,ys,hv,h1,fun h=>by obtain ⟨b,off,e,_,h3⟩:=h2 h;exact ⟨b,off,e,h3⟩⟩
theorem t6 {x:Operand} {k:Nat} {e:TypeId} {m:List α} (hx:s.ev x = .c (.own k)) (hk:s.h k=some (.arr e E m)):Fj s E x m [k]:=fun c st ρ a w hr he h2=>by
 have hv:=hr.ev x;rw [he,hx] at hv;obtain ⟨A,cap,hA,_,hp⟩:=dF (hr.hp k _ ((h2 k (by simp [aD])).trans hk));rcases Nat.eq_zero_or_pos m.length with h0|h0
 ·obtain rfl:m=[]:=List.eq_nil_of_length_eq_zero h0;exact ⟨A,cap,[],Eq.trans hv hA,rfl,fun h=>absurd h (by simp)⟩
 ·obtain ⟨g,xs,rfl,_,h3,h4,_⟩:=hp h0;exact ⟨_,cap,xs,Eq.trans hv hA,h3,fun _=>⟨g,0,rfl,fun j u hu=>by rw [Nat.zero_add];exact h4 j u hu⟩⟩
theorem dW [J:Dp E] {w:World} {F:Nat→Prop} {ρ:Nat→Value}:∀{m:List α} {vs:List Value},All2 (D.rep w F ρ) (m.flatMap J.deep) vs→Reps E w F m vs
 | [],vs,h=>by
  cases vs with
  | nil=>rfl
  | cons=>exact h.elim
 | x :: m,vs,h=>by
  rw [List.flatMap_cons] at h;refine ⟨vs.take (J.deep x).length,vs.drop (J.deep x).length,(List.take_append_drop _ _).symm,?_,?_⟩
  ·have:=h.take (J.deep x).length;rw [List.take_left] at this;exact J.put this
  ·have:=h.drop (J.deep x).length;rw [List.drop_left] at this;exact dW this
theorem aL [J:Dp E] {x:Operand} {k n:Nat} {e:TypeId} {cs:List D} (m:List α) (hx:s.ev x = .c (.slb k n)) (hk:s.h k=some (.box e cs)) (hm:m.flatMap J.deep=cs) (hn:m.length=n):Fj s E x m [k]:=fun c st ρ a w hr he h2=>by
 have hv:=hr.ev x;rw [he,hx] at hv;obtain ⟨g,hg,hv⟩:=hv;subst hm;subst hn;obtain ⟨vs,hB,hA,_⟩:=hr.box ((h2 k (by simp [aD])).trans hk) hg;exact ⟨_,_,vs,hv,dW hA,fun _=>⟨g,0,rfl,fun j u hu=>by rw [Nat.zero_add];exact hB.cellx j (by simpa using hu)⟩⟩
def Ec (s:Mst) (E:El α) (e:TypeId) (x:Operand) (l:List α) (kr:Option Nat):Prop :=
 (∀k,kr=some k→∃b,s.h k=some b)∧
 ∀(c:Ctx) (st:Mst) (ρ:Nat→Value) (a:Act) (w:World),Rp c st ρ a w→st.ev x=s.ev x→(∀k,kr=some k→st.h k=s.h k)→
  ∃v xs,a.eval x=v∧w.ownsRow 0 e E.n v l.length xs∧Reps E w (Fz c st.h ρ w) l xs∧(∀g,kb v=some g→∃k,kr=some k∧kb (ρ k)=some g)
theorem aH {x:Operand} {k:Nat} {e:TypeId} {l:List α} (hx:s.ev x = .c (.own k)) (hk:s.h k=some (.arr e E l)):Ec s E e x l (some k) :=
 ⟨fun k' h=>by injection h with h;subst h;exact ⟨_,hk⟩,fun c st ρ a w hr he h2=>by
  have hv:=hr.ev x;rw [he,hx] at hv;obtain ⟨xs,h3,h4⟩:=hr.hp k _ ((h2 k rfl).trans hk);exact ⟨_,xs,hv,h3,h4,fun g hg=>⟨k,rfl,hg⟩⟩⟩
theorem t7 {x:Operand} {e:TypeId} (hx:s.ev x = .c (.sc (.slice none 0 0))):Ec s E e x [] none :=
 ⟨(fun k h=>by cases h),fun c st ρ a w hr he h2=>by
  have hv:=hr.ev x;rw [he,hx] at hv;exact ⟨_,[],hv,World.ownsRow_nil _ _ _ _,rfl,fun g hg=>by cases hg⟩⟩
theorem t8 {x:Operand} {k:Nat} {e:TypeId} (hx:s.ev x = .c (.slb k 0)) (hk:s.h k=some (.box e [])):Ec s E e x [] (some k) :=
 ⟨fun k' h=>by injection h with h;subst h;exact ⟨_,hk⟩,fun c st ρ a w hr he h2=>by
  have hv:=hr.ev x;rw [he,hx] at hv;obtain ⟨g,hg,hv⟩:=hv;obtain ⟨vs,hB,hA,_⟩:=hr.box ((h2 k rfl).trans hk) hg;cases vs with
  | cons=>exact hA.elim
  | nil=>exact ⟨_,[],hv,⟨by simp,.inr ⟨g,0,#[],rfl,Nat.zero_le _,hB,Nat.le_refl _,by simp [maxLen],by simp,by simp⟩⟩,rfl,fun g' hg'=>⟨k,rfl,by rw [hg];exact hg'⟩⟩⟩
def Ac (kr:Option Nat):List (Nat×Option Box):=match kr with|some k=>[(k,none)]|none=>[]
def Jy (kr:Option Nat):List Nat:=match kr with|some k=>[k]|none=>[]
theorem ap {t e:TypeId} {by_ k:Nat} {x y:Operand} {l m l':List α} {kr:Option Nat} {R:List Nat} [T:ST P E t e by_] (ho:o.op = .call { callee:=.builtin .append,args:=#[x,y],argTypes:=#[t,t] }) (hdk:o.dst=some k) (hx:Ec s E e x l kr) (hy:Fj s E y m R) (hl':l++m=l')
  (hlen:l.length+m.length≤maxLen) (hby:(l.length+m.length)*by_≤140737488355328):LOp P o s (Jy kr++R) ⟨.c (.own k),(k,some (.arr e E l')) :: Ac kr,[k]⟩:=by
 intro c st ρ a w hr h1 h2 h3 h4;subst hl';have hfk:st.f k=true:=h3 k (by simp [aD]);have hkrs:∀j,kr=some j→st.h j=s.h j:=fun j hj=>h2 j (by subst hj;simp [Jy,aD]);have hkx:∀j,kr=some j→∃b,st.h j=some b:=fun j hj=>by obtain ⟨b,hb⟩:=hx.1 j hj;exact ⟨b,(hkrs j hj).trans hb⟩
 have hne:∀j,kr=some j→k.beq j=false:=fun j hj=>by
  cases h9:k.beq j with
  | false=>rfl
  | true =>
   obtain ⟨b,hb⟩:=hkx j hj;rw [←Nat.eq_of_beq_eq_true h9,hr.wf.h k hfk] at hb;cases hb
 obtain ⟨v,xs,hv,hown,hreps,hvk⟩:=hx.2 c st ρ a w hr (h1 x (by simp [ho,Op.operands,Call.operands])) hkrs;obtain ⟨A,cap,ys,hyv,hyr,hyc⟩:=hy c st ρ a w hr (h1 y (by simp [ho,Op.operands,Call.operands])) fun j hj=>h2 j (by rw [jA,hj,Bool.or_true]);have hblk:∀g,v.ownBlock=some g→kb v=some g:=fun g h=>by
  cases v with
  | slice A n c=>cases A <;> exact h
  | _=>simp [Value.ownBlock] at h
 have hblk':∀(u:Value) g,kb u=some g→∀{nn xx},(∃w:World,w.ownsRow 0 e E.n u nn xx)→u.ownBlock=some g:=fun u g h nn xx ⟨w,hw⟩=>by
  rcases hw.2 with ⟨rfl,_⟩|⟨g',cap',cur,rfl,_⟩
  ·cases h
  ·exact h
 have hFv:∀b,Fz c st.h ρ w b→v.ownBlock≠some b:=fun b hb e=>by
  obtain ⟨j,hj,hjb⟩:=hvk b (hblk b e);obtain ⟨bx,hbx⟩:=hkx j hj;exact hb.2.2 j bx hbx hjb
 have hOwn:OwnRows (E.inn (Fz c st.h ρ w)) e w 0 v l:=⟨Nat.zero_le _,xs,hown,Reps.toInn (hreps.same (fun _ _=>rfl) fun b hb=>⟨⟨hb.2.1,hFv b hb⟩,hb⟩)⟩;obtain ⟨v',w',hrun,⟨_,zs,ho1,ho2⟩,hB,hS⟩:=sb (T.T.inn (Fz c st.h ρ w)) w o.type 0 v l m A cap hOwn ys (Reps.toInn (hyr.same (fun _ _=>rfl) fun b hb=>⟨⟨hb.2.1,hFv b hb⟩,hb⟩)) hyc hlen hby;have ho3:=Reps.inn ho2;have hg':∀g,kb v'=some g→g<w'.heap.size∧(w.heap.size≤g∨kb v=some g):=fun g hg=>by
  have hgo:=hblk' v' g hg ⟨w',ho1⟩;refine ⟨ho1.lt g hgo |>.2,?_⟩;by_cases hlt:w.heap.size≤g
  ·exact .inl hlt
  ·refine .inr ?_;by_cases hvg:v.ownBlock=some g
   ·exact hblk g hvg
   ·exact absurd hgo (hS g ⟨by omega,hvg⟩).2
 have hexec:(execOp a.eval o).run P w = .ok (.value v') w':=by
  unfold execOp;simp only [ho,resolve,invoke,builtin,Sem.run_bind,Sem.run_pure,Result.andThen_ok,List.map_toArray,List.map_cons,List.map_nil,hv,hyv,hrun]
 have hky:∀n,ax ((k,some (Box.arr e E (l++m))) :: Ac kr) n=true↔n=k∨kr=some n:=fun n=>by
  simp only [ax,Bool.or_eq_true];constructor
  ·rintro (h|h)
   ·exact .inl (Nat.eq_of_beq_eq_true h).symm
   ·cases kr with
    | none=>simp [Ac,ax] at h
    | some j=>simp [Ac,ax] at h;exact .inr (by rw [h])
  ·rintro (rfl|h)
   ·exact .inl (Nat.beq_refl _)
   ·subst h;exact .inr (by simp [Ac,ax])
 have hputk:hput ((k,some (Box.arr e E (l++m))) :: Ac kr) st.h k=some (.arr e E (l++m)):=by simp [hput]
 have hputr:∀j,kr=some j→hput ((k,some (Box.arr e E (l++m))) :: Ac kr) st.h j=none:=fun j hj=>by
  simp only [hput,hne j hj,cond_false];subst hj;simp [Ac,hput]
 have hsm:∀n bx,ax ((k,some (Box.arr e E (l++m))) :: Ac kr) n=true→hput ((k,some (Box.arr e E (l++m))) :: Ac kr) st.h n=some bx→n=k∧bx = .arr e E (l++m):=fun n bx hn hb=>by
  rcases (hky n).1 hn with rfl|h
  ·rw [hputk] at hb;exact ⟨rfl,(Option.some.inj hb).symm⟩
  ·rw [hputr n h] at hb;cases hb
 have hFz:∀b,Fz c st.h ρ w b→Fz c (hput ((k,some (Box.arr e E (l++m))) :: Ac kr) st.h) (upd ρ k v') w' b∧w'.heap[b]? = w.heap[b]?:=fun b hb=>by
  refine ⟨⟨hb.1,Nat.lt_of_lt_of_le hb.2.1 hB.size,fun n bx hn he=>?_⟩,(hS b ⟨hb.2.1,hFv b hb⟩).1⟩;cases h9:ax ((k,some (Box.arr e E (l++m))) :: Ac kr) n with
  | true =>
   obtain ⟨rfl,_⟩:=hsm n bx h9 hn;rw [aI] at he;rcases (hg' b he).2 with h|h
   ·have:=hb.2.1;omega
   ·exact hFv b hb (hblk' v b h ⟨w,hown⟩)
  | false =>
   rw [bD h9] at hn;have hkn:k.beq n=false:=by
    cases h8:k.beq n with
    | false=>rfl
    | true=>rw [←Nat.eq_of_beq_eq_true h8,hr.wf.h k hfk] at hn;cases hn
   rw [de hkn] at he;exact hb.2.2 n bx hn he
 refine Oper.wp_value hexec ⟨upd ρ k v',hr.app (e:=⟨.c (.own k),(k,some (.arr e E (l++m))) :: Ac kr,[k]⟩) h4 (fun n hn=>?_) (fun n hn=>de (by simpa [aD] using hn)) (fun n hn=>?_) ⟨hB.os,hB.tape,hB.output,hB.size,fun b hlt hn=>(hS b ⟨hlt,fun e=>hn ?_⟩).1⟩ (fun n bx g hn hb hg=>?_) (fun n n' b b' g hn hn' hb hb' _ _=>?_) (fun n hn=>.inl ?_) (fun n n' bx hn hb hx2=>?_) (fun n bx hn hb=>?_) ?_⟩
 ·have:n=k:=by simp [aD] at hn;exact hn.symm
  subst this;exact ⟨hfk,(hky n).2 (.inl rfl)⟩
 ·rcases (hky n).1 hn with rfl|h
  ·exact .inl (by simp [aD])
  ·obtain ⟨b,hb⟩:=hkx n h;exact .inr (hr.nfh hb)
 ·obtain ⟨j,hj,hjb⟩:=hvk b (hblk b e);obtain ⟨bx,hbx⟩:=hkx j hj;exact ⟨j,bx,(hky j).2 (.inr hj),hbx,hjb⟩
 ·obtain ⟨rfl,_⟩:=hsm n bx hn hb;rw [aI] at hg;refine ⟨(hg' g hg).1,(hg' g hg).2.imp id fun h=>?_⟩;obtain ⟨j,hj,hjb⟩:=hvk g h;obtain ⟨b0,hb0⟩:=hkx j hj;exact ⟨j,b0,(hky j).2 (.inr hj),hb0,hjb⟩
 ·rw [(hsm n b hn hb).1,(hsm n' b' hn' hb').1]
 ·have:n=k:=by simp [TV.has,V0.has,D.has] at hn;exact hn.symm
  subst this;simp [aD]
 ·rw [(hsm n' bx hn hb).2] at hx2;simp [Box.has] at hx2
 ·obtain ⟨rfl,rfl⟩:=hsm n bx hn hb;rw [aI];refine ⟨zs,ho1,ho3.same (fun _ _=>rfl) fun b hb=>?_⟩;exact (hFz b hb.2).1
 ·exact (aI ρ k v').symm
end
def lz (pl:Nat→Option (Nat×Nat)):List D→List (Nat×TV)→Option (List D)
 | cs,[]=>some cs
 | cs,(i,d) :: r =>
  match pl i,d.cells with
  | some (off,size),some ds=>bif Nat.beq ds.length size && Nat.ble (off+size) cs.length then lz pl (cs.take off++ds++cs.drop (off+size)) r else none
  | _,_=>none
class SP (P:Program) (t:TypeId) (zs:outParam (List Value)) (pl:outParam (List (Nat×Nat))):Prop where
 z:∃i v,P.info? t=some i∧i.zero=some v∧v.cells=zs.toArray
 p:∃fs,P.underlying t=some (.struct fs)∧∀(w:World),((fs.mapM fun f=>do pure (f.offset,←sizeOf f.type)):Sem (Array (Nat×Nat))).run P w = .ok pl.toArray w
section
variable {P:Program} {o:Oper} {s:Mst}
theorem oZ (off:Nat):∀(vs old pre post:List Value) (k:Nat),pre.length=off+k→old.length=vs.length→(vs.zipIdx k).foldl (fun (l:List Value) (x:Value×Nat)=>l.set (off+x.2) x.1) (pre++old++post)=pre++vs++post
 | [],old,pre,post,k,_,h=>by
  obtain rfl:old=[]:=List.eq_nil_of_length_eq_zero h;rfl
 | v :: vs,[],pre,post,k,_,h=>by simp at h
 | v :: vs,u :: old,pre,post,k,hp,h=>by
  rw [List.zipIdx_cons,List.foldl_cons];have h1:(pre++u :: old++post).set (off+k) v=(pre++[v])++old++post:=by
   rw [←hp,List.append_assoc,List.set_append_right _ _ (Nat.le_refl _),Nat.sub_self];simp
  rw [h1,oZ off vs old (pre++[v]) post (k+1) (by simp;omega) (by simpa using h)];simp
theorem Ad (vs:List Value) (cs:Array Value) (off:Nat) (h:off+vs.length≤cs.size):(vs.zipIdx.foldl (fun (cs:Array Value) (x:Value×Nat)=>cs.setIfInBounds (off+x.2) x.1) cs).toList=cs.toList.take off++vs++cs.toList.drop (off+vs.length):=by
 have h1:∀(l:List (Value×Nat)) (cs:Array Value),(l.foldl (fun (cs:Array Value) (x:Value×Nat)=>cs.setIfInBounds (off+x.2) x.1) cs).toList=l.foldl (fun (l:List Value) (x:Value×Nat)=>l.set (off+x.2) x.1) cs.toList:=by
  intro l;induction l with
  | nil=>intro cs;rfl
  | cons x l ih=>intro cs;rw [List.foldl_cons,ih,Array.toList_setIfInBounds,List.foldl_cons]
 rw [h1];have h2:cs.toList=cs.toList.take off++(cs.toList.drop off).take vs.length++cs.toList.drop (off+vs.length):=by
  rw [List.append_assoc,←List.drop_drop,List.take_append_drop,List.take_append_drop]
 have hs:cs.toList.length=cs.size:=Array.length_toList;generalize cs.toList=l at *
 have h3:=oZ off vs ((l.drop off).take vs.length) (l.take off) (l.drop (off+vs.length)) 0 (by rw [List.length_take];omega) (by rw [List.length_take,List.length_drop];omega);rw [←h2] at h3;exact h3
theorem o0 {w:World} {F:Nat→Prop} {ρ:Nat→Value} (pl:Nat→Option (Nat×Nat)):∀(ts:List (Nat×TV)) (ps:List (Nat×Value)) (cs ds:List D) (vs:List Value),All2 (fun t p=>t.1=p.1∧t.2.rep w F ρ p.2) ts ps→All2 (D.rep w F ρ) cs vs→lz pl cs ts=some ds→
  (∀t∈ts,∀l,t.2.cells=some l→∀x∈l,∀u,x.rep w F ρ u→u.oneCell'=true)→∃us:List Value,Instr.fill pl vs.toArray ps=some us.toArray∧All2 (D.rep w F ρ) ds us
 | [],[],cs,ds,vs,_,h,e,_=>by simp only [lz,Option.some.injEq] at e;subst e;exact ⟨vs,rfl,h⟩
 | (i,d) :: ts,(j,v) :: ps,cs,ds,vs,hp,h,e,hok=>by
  obtain ⟨⟨rfl,hd⟩,hp⟩:=hp;simp only [lz] at e;split at e
  ·rename_i off size l h1 h2
   cases hb:Nat.beq l.length size && Nat.ble (off+size) cs.length with
   | false=>rw [hb] at e;cases e
   | true =>
    rw [hb] at e;simp only [Bool.and_eq_true] at hb;have hb1:=Nat.eq_of_beq_eq_true hb.1;have hb2:=Nat.le_of_ble_eq_true hb.2;obtain ⟨hc1,hc2⟩:=TV.cells_rep hd h2 (hok (i,d) (by simp) l h2);have hl1:=hc1.length;have hl2:=h.length;simp only [Array.length_toList] at hl1;obtain ⟨us,h3,h4⟩:=o0 pl ts ps _ ds (vs.take off++v.cells.toList++vs.drop (off+size)) hp (((h.take off).append hc1).append (h.drop (off+size))) e fun t ht=>hok t (by simp [ht]);refine ⟨us,?_,h4⟩;simp only [Instr.fill,h1];rw [if_neg (by simp;omega),←h3];congr 1
    apply Array.toList_inj.1
    have:=Ad v.cells.toList vs.toArray off (by simp;omega);simp only [Array.length_toList,←hl1,hb1] at this;rw [←Array.foldl_toList,Array.toList_zipIdx,this]
  ·cases e
 | [],_ :: _,_,_,_,h,_,_,_=>h.elim
 | _ :: _,[],_,_,_,h,_,_,_=>h.elim
def el (s:Mst) (ps:Array (Nat×Operand)):List (Nat×TV):=ps.toList.map fun x=>(x.1,s.ev x.2)
theorem sF {c:Ctx} {st:Mst} {ρ:Nat→Value} {a:Act} {w:World} (hr:Rp c st ρ a w) {ps:Array (Nat×Operand)} (h:∀x∈ps.toList,st.ev x.2=s.ev x.2) :
  All2 (fun t p=>t.1=p.1∧t.2.rep w (Fz c st.h ρ w) ρ p.2) (el s ps) (ps.map fun x=>(x.1,a.eval x.2)).toList:=by
 rw [Array.toList_map];unfold el;generalize ps.toList=l at *
 induction l with
 | nil=>trivial
 | cons x l ih=>exact ⟨⟨rfl,by have:=hr.ev x.2;rwa [h x (by simp)] at this⟩,ih fun y hy=>h y (by simp [hy])⟩
def cellsOf:List (Nat×TV)→List D
 | []=>[]
 | (_,d) :: r=>(match d.cells with|some l=>l|none=>[])++cellsOf r
theorem ni:∀{ts:List (Nat×TV)} {t:Nat×TV} {l:List D} {x:D},t∈ts→t.2.cells=some l→x∈l→x∈cellsOf ts
 | (i,d) :: ts,t,l,x,ht,hl,hx=>by
  simp only [cellsOf,List.mem_append];rcases List.mem_cons.1 ht with rfl|ht
  ·simp only at hl;rw [hl];exact .inl hx
  ·exact .inr (ni ht hl hx)
theorem jC (pl:Nat→Option (Nat×Nat)):∀{ts:List (Nat×TV)} {cs ds:List D} {x:D},lz pl cs ts=some ds→x∈ds→x∈cs∨x∈cellsOf ts
 | [],cs,ds,x,e,hx=>by simp only [lz,Option.some.injEq] at e;subst e;exact .inl hx
 | (i,d) :: ts,cs,ds,x,e,hx=>by
  simp only [lz] at e;split at e
  ·rename_i off size l h1 h2
   cases hb:Nat.beq l.length size && Nat.ble (off+size) cs.length with
   | false=>rw [hb] at e;cases e
   | true =>
    rw [hb] at e;simp only [cellsOf,List.mem_append,h2];rcases jC pl e hx with h|h
    ·simp only [List.mem_append] at h;rcases h with (h|h)|h
     ·exact .inl (List.mem_of_mem_take h)
     ·exact .inr (.inl h)
     ·exact .inl (List.mem_of_mem_drop h)
    ·exact .inr (.inr h)
  ·cases e
theorem vw {c:Ctx} {st:Mst} {ρ:Nat→Value} {a:Act} {w:World} (hr:Rp c st ρ a w) {ps:Array (Nat×Operand)} (h:∀x∈ps.toList,st.ev x.2=s.ev x.2) (hok:(cellsOf (el s ps)).all (okD s.h)=true) (h2:∀k,aD (fA (cellsOf (el s ps))) k=true→st.h k=s.h k) :
  (∀t∈el s ps,∀l,t.2.cells=some l→∀x∈l,∀u,x.rep w (Fz c st.h ρ w) ρ u→u.oneCell'=true)∧∀x∈cellsOf (el s ps),∀k,x.has k=true→st.f k=false:=by
 constructor
 ·intro t ht l hl x hx u hu;have hm:=ni ht hl hx;exact hr.okD (fT (List.all_eq_true.1 hok x hm) fun j hj=>h2 j (by subst hj;exact eh hm)) hu
 ·intro x hx k hk;unfold el at hx;generalize ps.toList=l at *
  induction l with
  | nil=>simp [cellsOf] at hx
  | cons y l ih =>
   simp only [List.map_cons,cellsOf,List.mem_append] at hx;rcases hx with hx|hx
   ·refine hr.nf (x:=y.2) (h y (by simp)) ?_;generalize s.ev y.2=d at *
    unfold TV.cells at hx;cases d with
    | tup m=>simp at hx
    | v d =>
     cases d with
     | one d=>simp at hx;subst hx;exact hk
     | ag m=>simp only [TV.has,V0.has];exact List.any_eq_true.2 ⟨x,hx,hk⟩
   ·exact ih (fun z hz=>h z (by simp [hz])) hx
def IR (pl:List (Nat×Nat)) (i:Nat):Option (Nat×Nat):=pl[i]?
theorem Ae {t:TypeId} {ps:Array (Nat×Operand)} {zs:List Value} {pl:List (Nat×Nat)} {ds:List D} [I:SP P t zs pl] (ho:o.op = .build t ps) (hok:(cellsOf (el s ps)).all (okD s.h)=true) (hd:lz (IR pl) (zs.map D.sc) (el s ps)=some ds) :
  LOp P o s (fA (cellsOf (el s ps))) ⟨.v (.ag ds),[],[]⟩ :=
 bi fun c st ρ a w hr h1 h2=>by
  have he:∀x∈ps.toList,st.ev x.2=s.ev x.2:=fun x hx=>h1 x.2 (by rw [ho];simp only [Op.operands];simpa using ⟨x.1,by simpa using hx⟩);obtain ⟨p1,p2⟩:=vw hr he hok h2;obtain ⟨us,hf,hA⟩:=o0 (IR pl) (el s ps) _ _ ds zs (sF hr he) (All2.scs zs) hd p1;obtain ⟨i,v,z1,z2,z3⟩:=I.z;obtain ⟨fs,q1,q2⟩:=I.p;refine ⟨.agg us.toArray,?_,⟨us,rfl,hA⟩,fun k hk=>?_⟩
  ·unfold execOp;rw [ho];rw [show IR pl=fun x=>pl[x]? from rfl,Array.toList_map] at hf;have hq:=q2 w;simp [Instr.build,zeroValue,typeInfo,z1,z2,run_underlying q1,z3] at hq ⊢;simp [hq,hf]
  ·obtain ⟨x,hx,hk⟩:=List.any_eq_true.1 (show ds.any (D.has k)=true from hk);rcases jC _ hd hx with h|h
   ·obtain ⟨v,_,rfl⟩:=List.mem_map.1 h;cases hk
   ·exact p2 x h k hk
theorem BP (zs:List Value) (m:Nat):((Array.range (m*zs.length)).map fun x=>zs.toArray[x % zs.toArray.size]!).toList=(List.replicate m zs).flatten:=by
 rw [Array.toList_map,Array.toList_range];induction m with
 | zero=>simp
 | succ m ih =>
  rw [Nat.add_mul,Nat.one_mul,List.range_add,List.map_append,ih,List.replicate_succ',List.flatten_append,List.map_map];congr 1
  simp only [List.flatten_cons,List.flatten_nil,List.append_nil];apply List.ext_getElem
  ·simp
  ·intro i h1 h2;simp only [List.getElem_map,List.getElem_range,Function.comp_apply,List.size_toArray];rw [Nat.mul_comm m,Nat.mul_add_mod,Nat.mod_eq_of_lt h2];simp [h2]
theorem o8 {R:D→Value→Prop}:∀{l:List D} {us:List Value},All2 R l us→(∀d∈l,∀u,R d u→u.oneCell'=true)→∀u∈us,u.oneCell'=true
 | [],[],_,_,u,hu=>by cases hu
 | d :: l,v :: us,h,f,u,hu=>by
  rcases List.mem_cons.1 hu with rfl|hu
  ·exact f d (by simp) _ h.1
  ·exact o8 h.2 (fun x hx=>f x (by simp [hx])) u hu
 | [],_ :: _,h,_,_,_=>h.elim
 | _ :: _,[],h,_,_,_=>h.elim
theorem o9 {t e:TypeId} {n k sz:Nat} {row:Bool} {ps:Array (Nat×Operand)} {zs:List Value} {ds:List D} [I:SE P t e] [J:TI P e row sz] [Z:TZ P e zs] (ho:o.op = .buildSlice t n ps) (hdk:o.dst=some k) (hok:(cellsOf (el s ps)).all (okD s.h)=true) (hn:n*sz≤4096)
  (hd:lz (fun i=>some (i*sz,sz)) ((List.replicate n zs).flatten.map D.sc) (el s ps)=some ds):LOp P o s (fA (cellsOf (el s ps))) ⟨.c (.slb k n),[(k,some (.box e ds))],[k]⟩:=by
 intro c st ρ a w hr h1 h2 h3 h4;have he:∀x∈ps.toList,st.ev x.2=s.ev x.2:=fun x hx=>h1 x.2 (by rw [ho];simp only [Op.operands];simpa using ⟨x.1,by simpa using hx⟩);obtain ⟨p1,p2⟩:=vw hr he hok h2;obtain ⟨us,hf,hA⟩:=o0 _ (el s ps) _ _ ds _ (sF hr he) (All2.scs (List.replicate n zs).flatten) hd p1;obtain ⟨i,v,z1,z2,z3⟩:=Z.z;have hi:i.size=sz:=by have:=J.s;rw [z1] at this;simpa using this
 have hone:∀u∈us,u.oneCell'=true:=o8 hA fun d hd1 u hu=>by
  rcases jC _ hd hd1 with h|h
  ·obtain ⟨v,hv,rfl⟩:=List.mem_map.1 h;obtain ⟨l,hl,hv⟩:=List.mem_flatten.1 hv;rw [show u=v from hu];rw [List.eq_of_mem_replicate hl] at hv;exact Z.o v hv
  ·exact hr.okD (fT (List.all_eq_true.1 hok d h) fun j hj=>h2 j (by subst hj;exact eh h)) hu
 obtain ⟨ρ',h⟩:=hr.newBox (k:=k) (t:=e) (cs:=ds) (vs:=us) (d:=.c (.slb k n)) (v:=.slice (some ⟨w.heap.size,0,none⟩) n n) h4 (h3 k (by simp [aD])) hA hone
  (fun k' hh=>by
   obtain ⟨x,hx,hk⟩:=List.any_eq_true.1 hh;rcases jC _ hd hx with h|h
   ·obtain ⟨v,_,rfl⟩:=List.mem_map.1 h;cases hk
   ·exact p2 x h k' hk) (fun k' hh=>by simp [TV.has,V0.has,D.has] at hh;exact hh.symm) (fun F ρ' hρ=>⟨_,hρ,rfl⟩)
 refine Oper.wp_value ?_ ⟨ρ',h⟩;have hzl:zs.length=sz:=by
  have h1:=Z.n;rw [z1] at h1;simp only [Option.map_some,Option.some.injEq] at h1;omega
 have hc:=BP zs n;have hca:(Array.range (n*sz)).map (fun x=>zs.toArray[x % zs.toArray.size]!)=(List.replicate n zs).flatten.toArray:=by
  apply Array.toList_inj.1
  rw [←hzl,hc]
 unfold execOp;rw [ho];rw [Array.toList_map] at hf;have hbig:¬(16777216<n*sz):=by omega
 by_cases h0:n*sz=0
 ·have hf0:(List.replicate n zs).flatten=[]:=by
   apply List.eq_nil_of_length_eq_zero
   simp [hzl,h0]
  rw [hf0] at hf;simp [Instr.buildSlice,run_underlying I.u,sizeOf,typeInfo,z1,hi,h0,newRow];rw [show Array.map (fun _=>(default:Value)) (Array.range 0) = #[] by simp,hf];simp
 ·simp [Instr.buildSlice,run_underlying I.u,sizeOf,typeInfo,z1,hi,h0,zeroValue,z2,z3,newRow,hbig];simp at hca;rw [hca,hf];simp
theorem pd {t e:TypeId} {row:Bool} {n b off len cap lo hi:Nat} [I:SE P t e] [J:TI P e row n] (w:World) (l h m:Option Value) (A:Option Addr) (hA:0<len→A=some ⟨b,off,none⟩)
  (hl:l=some (.int .i64 (lo:Int))∨l=none∧lo=0) (hh:h=some (.int .i64 (hi:Int))∨h=none∧hi=len∧m=none) (hm:m=some (.int .i64 (hi:Int))∨m=none) (h1:lo≤hi) (h2:hi≤len) (h3:len≤cap) (hlo:lo<hi∨True) :
  ∃A',(Instr.sliceAt t (.slice A len cap) l h m).run P w = .ok (.slice A' (hi-lo) ((if m=none then cap else hi)-lo)) w∧(lo<hi→A'=some ⟨b,off+lo*n,none⟩):=by
 obtain ⟨j,hj,hn⟩:∃j,P.info? e=some j∧j.size=n:=by
  have:=J.s;cases h:P.info? e with
  | none=>simp [h] at this
  | some j=>exact ⟨j,rfl,by simpa [h] using this⟩
 subst hn;refine ⟨if (if m=none then cap else hi)=lo then A else A.map (·.add (lo*j.size)),?_,fun hlt=>?_⟩
 ·rcases hl with rfl|⟨rfl,rfl⟩ <;> rcases hh with rfl|⟨rfl,rfl,rfl⟩ <;> rcases hm with hm|hm <;> (first|cases hm|subst hm) <;>
   simp [Instr.sliceAt,Instr.slice,Instr.sliceBounds,Instr.sliceBound,asIntOf,run_underlying I.u,sizeOf,typeInfo,hj,h1,h2,h3,Nat.le_trans h2 h3,Nat.le_trans h1 h2]
 ·rw [hA (by omega)];have:¬(if m=none then cap else hi)=lo:=by split <;> omega
  rw [if_neg this];simp [eU]
theorem vx {w:World} {F:Nat→Prop} {α:Type} {E:El α} {A A':Option Addr} {l:List α} {lo hi:Nat} (h:RowsAt E w F A l) (hlh:lo≤hi) (hh:hi≤l.length) (hA:lo<hi→∀b off,A=some ⟨b,off,none⟩→A'=some ⟨b,off+lo*E.n,none⟩):RowsAt E w F A' ((l.take hi).drop lo):=by
 by_cases hlt:lo<hi
 ·obtain ⟨xs,h1,h2⟩:=h.take hi;obtain ⟨b,off,rfl,_,_⟩:=h2 (by simp;omega);rw [hA hlt b off rfl];exact (h.take hi).drop lo
 ·have:(l.take hi).drop lo=[]:=by
   apply List.eq_nil_of_length_eq_zero
   simp;omega
  rw [this];exact RowsAt.nil _ _ _ _
theorem sG {t e:TypeId} {row:Bool} {n lo hi:Nat} {x:Operand} {l h:Option Operand} {α:Type} {E:El α} {L L':List α} [I:SE P t e] [J:TI P e row n] (ho:o.op = .slice t x l h none) (hx:s.ev x = .c (.sl E L)) (hn:E.n=n)
  (hl:(∃y,l=some y∧s.ev y = .i lo)∨l=none∧lo=0) (hh:(∃y,h=some y∧s.ev y = .i hi)∨h=none∧hi=L.length) (h1:lo≤hi) (h2:hi≤L.length) (hL:(L.take hi).drop lo=L'):LOp P o s [] ⟨.c (.sl E L'),[],[]⟩ :=
 bi fun c st ρ a w hr hc _=>by
  subst hL;subst hn;have he:=hc x (by simp [ho,Op.operands]);rw [hx] at he;have hv:=hr.ev x;rw [he] at hv;obtain ⟨A,cap,hv,hcap,hR⟩:=hv;have hl':l.map a.eval=some (.int .i64 (lo:Int))∨l.map a.eval=none∧lo=0:=by
   rcases hl with ⟨y,rfl,hy⟩|⟨rfl,h⟩
   ·have:=hr.ev y;rw [hc y (by simp [ho,Op.operands]),hy] at this;exact .inl (congrArg some this)
   ·exact .inr ⟨rfl,h⟩
  have hh':h.map a.eval=some (.int .i64 (hi:Int))∨h.map a.eval=none∧hi=L.length∧(none:Option Value)=none:=by
   rcases hh with ⟨y,rfl,hy⟩|⟨rfl,h⟩
   ·have:=hr.ev y;rw [hc y (by simp [ho,Op.operands]),hy] at this;exact .inl (congrArg some this)
   ·exact .inr ⟨rfl,h,rfl⟩
  obtain ⟨b,off,hb⟩:∃b off,0<L.length→A=some ⟨b,off,none⟩:=by
   rcases Nat.eq_zero_or_pos L.length with h0|h0
   ·exact ⟨0,0,fun h=>by omega⟩
   ·obtain ⟨xs,_,h4⟩:=hR;obtain ⟨b,off,h5,_⟩:=h4 h0;exact ⟨b,off,fun _=>h5⟩
  obtain ⟨A',hrun,hA'⟩:=pd (P:=P) (t:=t) (b:=b) (off:=off) w (l.map a.eval) (h.map a.eval) none A hb hl' hh' (.inr rfl) h1 h2 hcap.1 (.inr trivial);have hlen:((L.take hi).drop lo).length=hi-lo:=by simp;omega
  refine ⟨.slice A' (hi-lo) (cap-lo),?_,⟨A',cap-lo,by rw [hlen],by rw [hlen];have:=hcap.2;omega,vx hR h1 h2 fun hlt b' off' e=>?_⟩,fun k hk=>by simp [TV.has,V0.has,D.has] at hk⟩
  ·unfold execOp;rw [ho];simp only [hv,Option.map_none,Sem.run_bind,hrun,Result.andThen_ok,Sem.run_pure,if_true]
  ·rw [hb (by omega)] at e;injection e with e;injection e with e1 e2;subst e1;subst e2;exact hA' hlt
theorem pe {t e:TypeId} {row:Bool} {n lo hi:Nat} {x y z:Operand} {l:Option Operand} {α:Type} {E:El α} {L L':List α} [I:SE P t e] [J:TI P e row n] (ho:o.op = .slice t x l (some y) (some z)) (hx:s.ev x = .c (.sl E L)) (hn:E.n=n)
  (hl:(∃y,l=some y∧s.ev y = .i lo)∨l=none∧lo=0) (hy:s.ev y = .i hi) (hz:s.ev z = .i hi) (h1:lo≤hi) (h2:hi≤L.length) (hL:(L.take hi).drop lo=L'):LOp P o s [] ⟨.c (.full E L'),[],[]⟩ :=
 bi fun c st ρ a w hr hc _=>by
  subst hL;subst hn;have he:=hc x (by simp [ho,Op.operands]);rw [hx] at he;have hv:=hr.ev x;rw [he] at hv;obtain ⟨A,cap,hv,hcap,hR⟩:=hv;have hl':l.map a.eval=some (.int .i64 (lo:Int))∨l.map a.eval=none∧lo=0:=by
   rcases hl with ⟨y,rfl,hy⟩|⟨rfl,h⟩
   ·have:=hr.ev y;rw [hc y (by simp [ho,Op.operands]),hy] at this;exact .inl (congrArg some this)
   ·exact .inr ⟨rfl,h⟩
  have hy':a.eval y = .int .i64 (hi:Int):=by have:=hr.ev y;rwa [hc y (by simp [ho,Op.operands]),hy] at this
  have hz':a.eval z = .int .i64 (hi:Int):=by have:=hr.ev z;rwa [hc z (by simp [ho,Op.operands]),hz] at this
  obtain ⟨b,off,hb⟩:∃b off,0<L.length→A=some ⟨b,off,none⟩:=by
   rcases Nat.eq_zero_or_pos L.length with h0|h0
   ·exact ⟨0,0,fun h=>by omega⟩
   ·obtain ⟨xs,_,h4⟩:=hR;obtain ⟨b,off,h5,_⟩:=h4 h0;exact ⟨b,off,fun _=>h5⟩
  obtain ⟨A',hrun,hA'⟩:=pd (P:=P) (t:=t) (b:=b) (off:=off) w (l.map a.eval) (some (.int .i64 (hi:Int))) (some (.int .i64 (hi:Int))) A hb hl' (.inl rfl) (.inl rfl) h1 h2 hcap.1 (.inr trivial);have hlen:((L.take hi).drop lo).length=hi-lo:=by simp;omega
  refine ⟨.slice A' (hi-lo) (hi-lo),?_,⟨A',by rw [hlen],by rw [hlen];have:=hcap.2;omega,vx hR h1 h2 fun hlt b' off' e=>?_⟩,fun k hk=>by simp [TV.has,V0.has,D.has] at hk⟩
  ·unfold execOp;rw [ho];simp only [hv,Option.map_some,hy',hz',Sem.run_bind,hrun,Result.andThen_ok,Sem.run_pure];rfl
  ·rw [hb (by omega)] at e;injection e with e;injection e with e1 e2;subst e1;subst e2;exact hA' hlt
end
section
variable {P:Program} {o:Oper} {s:Mst}
theorem aE {x:Operand} {k off:Nat} (ho:o.op = .nilCheck x) (hx:s.ev x = .c (.ptr k off)):LOp P o s [] ⟨.c (.ptr k off),[],[]⟩ :=
 bi fun c st ρ a w hr h1 _=>by
  have he:=h1 x (by simp [ho,Op.operands]);rw [hx] at he;have hv:=hr.ev x;rw [he] at hv;obtain ⟨g,hg,hv⟩:=hv;exact ⟨_,by unfold execOp;rw [ho];simp only [hv];rfl,⟨g,hg,rfl⟩,fun k' hk=>hr.nf (x:=x) he hk⟩
theorem ez {w:World} {e:TypeId} {n g len cap:Nat} {xs:List Value} (h:w.ownsRow 0 e n (.slice (some ⟨g,0,none⟩) len cap) len xs) {j:Nat} (hj:j<xs.length):(w.cell? ⟨g,j,none⟩).isSome=true∧w.frozen? ⟨g,j,none⟩=false:=by
 rcases h.2 with ⟨hv,_⟩|⟨g',cap',cur,hv,_,hh,hnc,hcm,hcs,ht⟩
 ·cases hv
 ·injection hv with e1 _ e2;injection e1 with e1;injection e1 with e1;subst e1;subst e2;have hl:j<cur.size:=by
   have:=congrArg List.length ht;simp only [List.length_take,Array.length_toList] at this;omega
  rw [cell_of_row w g j cur e (0,0) hh];exact ⟨by simp [hl],by simp [World.frozen?,hh]⟩
theorem aA {t e:TypeId} {x y:Operand} {row:Bool} {n m i k off:Nat} {α:Type} {E:El α} {l l':List α} {u z:α} {ds:List D} [I:TI P t row n] [J:Dp E] (ho:o.op = .store t x y) (hx:s.ev x = .c (.optr k m i off)) (hk:s.h k=some (.arr e E l)) (hm:E.n=m) (hu:l[i]? = some u)
  (hd:(s.ev y).cells=some ds) (hok:ds.all (okD s.h)=true) (hno:fA ds=[]) (hn:ds.length=n) (hl:off+n≤m) (hz:(J.deep u).take off++ds++(J.deep u).drop (off+n)=J.deep z) (hl':l.set i z=l'):LOp P o s [k] ⟨.c .any,[(k,some (.arr e E l'))],[]⟩:=by
 intro c st ρ a w hr h1 h2 _ h4;subst hl';subst hm;have he:=h1 x (by simp [ho,Op.operands]);have he2:=h1 y (by simp [ho,Op.operands]);rw [hx] at he;rw [←he2] at hd;have hv:=hr.ev x;rw [he] at hv;obtain ⟨g,len,cap,hg,hv⟩:=hv;have hk':=(h2 k (by simp [aD])).trans hk;have hil:i<l.length:=(List.getElem?_eq_some_iff.1 hu).1;have hui:l[i]=u:=by rw [List.getElem?_eq_getElem hil] at hu;exact Option.some.inj hu
 obtain ⟨xs,hown,hreps⟩:=hr.hp k _ hk';have hown0:=hown;rw [hg] at hown;obtain rfl:len=l.length:=by
  rcases hown.2 with ⟨hv,_⟩|⟨g',cap',cur,hv,_⟩
  ·cases hv
  ·injection hv
 obtain ⟨hc1,hc2⟩:=TV.cells_rep (hr.ev y) hd fun q hq u hu=>hr.okD (fT (List.all_eq_true.1 hok q hq) fun j hj=>by have:=eh (hj▸hq);rw [hno] at this;simp [aD] at this) hu;generalize hvs:(a.eval y).cells.toList=vs at *
 have hsz:vs.length=n:=by rw [←hc1.length,hn]
 have hxl:=hown.1;have hin:i*E.n+E.n≤l.length*E.n:=by have:=Nat.mul_le_mul_right E.n (show i+1≤l.length from hil);rwa [Nat.add_mul,Nat.one_mul] at this
 have hst:=run_storeCells_cells (P:=P) g (i*E.n+off) vs 0 w (fun j hj=>by have:=(ez hown (j:=i*E.n+off+j) (by omega)).1;simpa using this) (fun j hj=>by have:=(ez hown (j:=i*E.n+off+j) (by omega)).2;simpa using this) hc2;simp only [Nat.add_zero] at hst;obtain ⟨cs,hcs1,hcs2⟩:=hreps.get i hil;have hcl:=E.len hcs1;rw [hui] at hcs1;have hcs:cs=(xs.drop (i*E.n)).take E.n:=by
  apply List.ext_getElem?
  intro j;rw [List.getElem?_take];by_cases hj:j<E.n
  ·rw [if_pos hj,List.getElem?_drop,hcs2 j hj]
  ·rw [if_neg hj,List.getElem?_eq_none (by omega)]
 have hz':E.rep w (Fz c st.h ρ w) z (cs.take off++vs++cs.drop (off+n)):=J.put (ρ:=ρ) (by rw [←hz];exact (((J.get hcs1).take off).append hc1).append ((J.get hcs1).drop (off+n)));have hrow:=ed vs (i*E.n+off) w xs hown (by omega);rw [oW (n:=E.n) (by omega) hcs (by omega),hsz] at hrow;have hkb:kb (ρ k)=some g:=by rw [hg];rfl
 have hsize:=bp (g:=g) vs (i*E.n+off) w;have hoth:∀b,b≠g→(w.setCells g (i*E.n+off) vs).heap[b]? = w.heap[b]?:=fun b hb=>bj vs _ w b hb;have hbel:=cz (B:=0) (w:=w) (Nat.zero_le g) vs (i*E.n+off) w (Below.refl _ _);have hkk:∀k':Nat,ax [(k,some (Box.arr e E (l.set i z)))] k'=true→k'=k:=fun k' h=>by
  simp only [ax,Bool.or_false] at h;exact (Nat.eq_of_beq_eq_true h).symm
 have hfz:∀b,Fz c st.h ρ w b→Fz c (hput [(k,some (Box.arr e E (l.set i z)))] st.h) ρ (w.setCells g (i*E.n+off) vs) b∧(w.setCells g (i*E.n+off) vs).heap[b]? = w.heap[b]?:=fun b ⟨f1,f2,f3⟩=>by
  have hbg:b≠g:=fun e=>f3 k _ hk' (by rw [hkb,e]);refine ⟨⟨f1,by rw [hsize];exact f2,fun k' bx hk2=>?_⟩,hoth b hbg⟩;simp only [hput] at hk2;cases h9:k.beq k' with
  | true=>rw [←Nat.eq_of_beq_eq_true h9,hkb];intro e;injection e with e;exact hbg e.symm
  | false=>rw [h9] at hk2;exact f3 k' bx hk2
 refine Oper.wp_skip (w':=w.setCells g (i*E.n+off) vs) ?_ ⟨ρ,hr.app (e:=⟨.c .any,[(k,some (.arr e E (l.set i z)))],[]⟩) h4 (fun k h=>by simp [aD] at h) (fun _ _=>rfl) (fun k' h=>.inr (by rw [hkk k' h];exact hr.nfh hk')) ⟨hbel.os,hbel.tape,hbel.output,hbel.size,fun b hlt hn=>hoth b fun e=>hn ⟨k,_,by simp [ax],hk',by rw [hkb,e]⟩⟩ ?_ ?_ (fun k h=>by simp [TV.has,V0.has,D.has] at h) ?_ ?_ trivial⟩
 ·unfold execOp;rw [ho];have hi:=I.s;cases hq:P.info? t with
  | none=>simp [hq] at hi
  | some ti =>
   have hs:(a.eval y).cells.size=ti.size:=by
    simp [hq] at hi;rw [←Array.length_toList,hvs];omega
   simp only [hv,Instr.storeAt,Instr.sureAddr,Sem.run_bind,Sem.run_pure,Result.andThen_ok];have h3:(storeVar t ⟨g,i*E.n+off,none⟩ (a.eval y)).run P w = .ok () (w.setCells g (i*E.n+off) vs):=by
    simp [storeVar,sizeOf,typeInfo,hq,hs,hvs,hst]
   rw [h3];rfl
 ·intro k' bx g' h _ hg';rw [hkk k' h,hkb] at hg';injection hg' with hg';subst hg';exact ⟨by rw [hsize];exact hr.ltb hk' hkb,.inr ⟨k,_,by simp [ax],hk',hkb⟩⟩
 ·intro k1 k2 _ _ _ h h' _ _ _ _;rw [hkk k1 h,hkk k2 h']
 ·intro k1 k2 bx h hp hx;rw [hkk k2 h] at hp;simp only [hput,Nat.beq_refl,cond_true,Option.some.injEq] at hp;subst hp;simp [Box.has] at hx
 ·intro k2 bx h hp;rw [hkk k2 h] at hp ⊢;simp only [hput,Nat.beq_refl,cond_true,Option.some.injEq] at hp;subst hp;refine ⟨_,by rw [List.length_set,hg];exact hrow,?_⟩;exact (Reps.set hreps hz' hil).same (fun b hb=>(hfz b hb).2) fun b hb=>(hfz b hb).1
end
section
variable {P:Program} {nt:Nat} {Ks:List Nat} {Q:Exit→Mst→Prop} {s:Mst} {K:Mst→Prop} {ops:Array Oper}
def DA (P:Program) (ops:Array Oper) (draw:Bool) (l:List Oper) (acc:List (List Nat×List Nat)) (s:Mst) (K:Mst→Prop):Prop :=
 ∃fps,DW P ops l fps s K∧(draw=true→ls ops (acc.reverse++fps) ops.size 0 (Array.replicate ops.size false)=true)
theorem F2 {acc:List (List Nat×List Nat)} (h:K s):DA P ops false [] acc s K:=⟨[],h,fun h=>by cases h⟩
theorem Ed {acc:List (List Nat×List Nat)} (hB:ls ops acc.reverse ops.size 0 (Array.replicate ops.size false)=true) (h:K s):DA P ops true [] acc s K:=⟨[],h,fun _=>by simpa using hB⟩
theorem BQ {draw:Bool} {o:Oper} {l:List Oper} {acc:List (List Nat×List Nat)} {R:List Nat} {e:Mef} (he:LOp P o s R e) (hg:s.gd ops o=some true) (hf:e.us.all s.f=true) (h:DA P ops draw l ((R,aj e.hs) :: acc) (s.app o.dst e) K):DA P ops draw (o :: l) acc s K:=by
 obtain ⟨fps,h1,h2⟩:=h;refine ⟨(R,aj e.hs) :: fps,⟨R,aj e.hs,fps,rfl,true,hg,fun _=>⟨e,⟨he,fun k hk=>by rw [←gO];exact hk,fun k hk=>im hf k hk⟩,h1⟩,fun h=>by cases h⟩,fun hd=>by simpa using h2 hd⟩
theorem aK {P:Prop} (h:P:=by (try simp only [List.length_cons,List.length_nil,List.length_append,List.length_take,List.length_drop,List.length_map,maxLen]);omega):P:=h
theorem bh {draw:Bool} {o:Oper} {l:List Oper} {acc:List (List Nat×List Nat)} {R us:List Nat} {t:Nat} {d:TV} {hs:List (Nat×Option Box)} (he:LOp P o s R ⟨d,hs,us⟩) (hd:o.dst=some t) (hg:s.gd ops o=some true) (hf:us.all s.f=true) (h:DA P ops draw l ((R,aj hs) :: acc) (s.app (some t) ⟨d,hs,us⟩) K):DA P ops draw (o :: l) acc s K :=
 BQ he hg hf (by rw [hd];exact h)
theorem bc {draw:Bool} {o:Oper} {l:List Oper} {acc:List (List Nat×List Nat)} {R us:List Nat} {d:TV} {hs:List (Nat×Option Box)} (he:LOp P o s R ⟨d,hs,us⟩) (hd:o.dst=none) (hg:s.gd ops o=some true) (hf:us.all s.f=true) (h:DA P ops draw l ((R,aj hs) :: acc) (s.app none ⟨d,hs,us⟩) K):DA P ops draw (o :: l) acc s K :=
 BQ he hg hf (by rw [hd];exact h)
theorem Ee {draw:Bool} {o:Oper} {l:List Oper} {acc:List (List Nat×List Nat)} {t:Nat} (hd:o.dst=some t) (hg:s.gd ops o=some false) (h:DA P ops draw l (([],[]) :: acc) (s.app (some t) ⟨.c (.sc undef),[],[]⟩) K):DA P ops draw (o :: l) acc s K:=by
 obtain ⟨fps,h3,h4⟩:=h;exact ⟨([],[]) :: fps,⟨[],[],fps,rfl,false,hg,fun h=>(by cases h),fun _=>by rw [hd];exact h3⟩,fun hd=>by simpa using h4 hd⟩
theorem Hn {id:Nat} {l:List Oper} (hnt:f9 nt l=true) (h:DA P l.toArray false l [] s fun s'=>Q .normal s'):AW P nt Ks (.region id l.toArray false) Q s:=by
 obtain ⟨fps,h1,_⟩:=h;exact zV hnt h1
theorem Fk {id:Nat} {l:List Oper} (hm:P.follows .mixedOrders=true) (hnt:f9 nt l=true) (h:DA P l.toArray true l [] s fun s'=>Q .normal s'):AW P nt Ks (.region id l.toArray true) Q s:=by
 obtain ⟨fps,h1,h2⟩:=h;exact oP hm hnt h1 (by simpa using h2 rfl)
theorem Hp {id:Nat} {l:List Oper} {y:Code} (hnt:f9 nt l=true) (h:DA P l.toArray false l [] s fun s'=>AW P nt Ks y Q s'):AW P nt Ks (.seq (.region id l.toArray false) y) Q s:=oT (Hn hnt h)
theorem F3 {id:Nat} {l:List Oper} {y:Code} (hm:P.follows .mixedOrders=true) (hnt:f9 nt l=true) (h:DA P l.toArray true l [] s fun s'=>AW P nt Ks y Q s'):AW P nt Ks (.seq (.region id l.toArray true) y) Q s:=oT (Fk hm hnt h)
theorem IS {i:Nat} (h:Q .normal s):eD i Q (.exit i) s:=by simpa [eD] using h
theorem IT {i j:Nat} (hj:j.beq i=false) (h:Q (.exit j) s):eD i Q (.exit j) s:=by simpa [eD,hj] using h
theorem IU {fn:Func} {t:Nat} {x:V0} {res:TV} {e:Exit} (he:e = .normal∨e = .ret) (hr:fn.results.toList=[.tmp t]) (hx:s.t t = .v x) (h:TVLe s (qf []) (fun j=>∀k:Nat,hput [] (fun _=>none) k≠none→qf [] k≠j) (.v x) res):uR P fn [] res [] e s :=
 oV he [x] (qf []) (by rw [hr];exact ⟨.tmp hx,trivial⟩) rfl rfl trivial h
theorem F4 {fn:Func} {hin:List (Nat×Box)} {r1:ResultVar} {x1:V0} {res:TV} {hout:List (Nat×Option Box)} {e:Exit} (q:Nat→Nat) (he:e = .normal∨e = .ret) (hr:fn.results.toList=[r1]) (h1:RV P s r1 x1) (hq:(aj hin).all (fun k=>(q k).beq k)=true) (hn:dG ((aj (hout.filter fun x=>x.2.isSome)).map q)=true) (hh:nW s q (fun j=>∀k,hput hout (fun _=>none) k≠none→q k≠j) hout)
  (h:TVLe s q (fun j=>∀k,hput hout (fun _=>none) k≠none→q k≠j) (.v x1) res):uR P fn hin res hout e s:=oV he [x1] q (by rw [hr];exact ⟨h1,trivial⟩) hq hn hh h
theorem F5 {fn:Func} {hin:List (Nat×Box)} {r1 r2:ResultVar} {x1 x2:V0} {res:TV} {hout:List (Nat×Option Box)} {e:Exit} (q:Nat→Nat) (he:e = .normal∨e = .ret) (hr:fn.results.toList=[r1,r2]) (h1:RV P s r1 x1) (h2:RV P s r2 x2) (hq:(aj hin).all (fun k=>(q k).beq k)=true) (hn:dG ((aj (hout.filter fun x=>x.2.isSome)).map q)=true) (hh:nW s q (fun j=>∀k,hput hout (fun _=>none) k≠none→q k≠j) hout)
  (h:TVLe s q (fun j=>∀k,hput hout (fun _=>none) k≠none→q k≠j) (.tup [x1,x2]) res):uR P fn hin res hout e s:=oV he [x1,x2] q (by rw [hr];exact ⟨h1,h2,trivial⟩) hq hn hh h
theorem F6 {fn:Func} {hin:List (Nat×Box)} {r1 r2 r3:ResultVar} {x1 x2 x3:V0} {res:TV} {hout:List (Nat×Option Box)} {e:Exit} (q:Nat→Nat) (he:e = .normal∨e = .ret) (hr:fn.results.toList=[r1,r2,r3]) (h1:RV P s r1 x1) (h2:RV P s r2 x2) (h3:RV P s r3 x3) (hq:(aj hin).all (fun k=>(q k).beq k)=true) (hn:dG ((aj (hout.filter fun x=>x.2.isSome)).map q)=true) (hh:nW s q (fun j=>∀k,hput hout (fun _=>none) k≠none→q k≠j) hout)
  (h:TVLe s q (fun j=>∀k,hput hout (fun _=>none) k≠none→q k≠j) (.tup [x1,x2,x3]) res):uR P fn hin res hout e s:=oV he [x1,x2,x3] q (by rw [hr];exact ⟨h1,h2,h3,trivial⟩) hq hn hh h
theorem F7 {fn:Func} {hin:List (Nat×Box)} {hout:List (Nat×Option Box)} {e:Exit} (q:Nat→Nat) (he:e = .normal∨e = .ret) (hr:fn.results.toList=[]) (hq:(aj hin).all (fun k=>(q k).beq k)=true) (hn:dG ((aj (hout.filter fun x=>x.2.isSome)).map q)=true) (hh:nW s q (fun j=>∀k,hput hout (fun _=>none) k≠none→q k≠j) hout):uR P fn hin (.tup []) hout e s:=oV he [] q (by rw [hr];trivial) hq hn hh (.tup trivial)
theorem F8 {fn:Func} {t:Nat} {v v':Value} {e:Exit} (he:e = .normal∨e = .ret) (hr:fn.results.toList=[.tmp t]) (hx:s.t t = .c (.sc v)) (h:v=v'):uR P fn [] (.c (.sc v')) [] e s :=
 IU he hr hx (by subst h;exact .v (.one (.ren (.sc v))))
theorem F9 {q:Nat→Nat} {g:Nat→Prop}:∀(l:List D),All2 (DLe s q g) (l.map (D.ren q)) l
 | []=>trivial
 | d :: l=>⟨.ren d,F9 l⟩
theorem Fl {q:Nat→Nat} {g:Nat→Prop} (d:V0):V0Le s q g (d.ren q) d:=by
 cases d with
 | one d=>exact .one (.ren d)
 | ag l=>exact .ag (F9 l)
theorem Hq {q:Nat→Nat} {g:Nat→Prop} (d:TV):TVLe s q g (d.ren q) d:=by
 cases d with
 | v d=>exact .v (Fl d)
 | tup l =>
  refine .tup ?_;induction l with
  | nil=>trivial
  | cons d l ih=>exact ⟨Fl d,ih⟩
theorem Ga {q:Nat→Nat} {g:Nat→Prop} (b:Box):BoxLe s q g (b.ren q) b:=by
 cases b with
 | box t l=>exact .box t (F9 l)
 | arr e E l=>exact .arr e E l
 | mp l=>exact .mp l
 | it k n l=>exact .it k n l
theorem dX {q:Nat→Nat} {g:Nat→Prop} {d0 d:D} (h:d0=d.ren q):DLe s q g d0 d:=h▸.ren d
theorem dY {hout:List (Nat×Option Box)} {q:Nat→Nat} {j:Nat} (h:aD ((aj (hout.filter fun x=>x.2.isSome)).map q) j=false):∀k,hput hout (fun _=>none) k≠none→q k≠j:=fun k hk e=>by
 cases h9:hput hout (fun _=>none) k with
 | none=>exact hk h9
 | some b =>
  have:aD ((aj (hout.filter fun x=>x.2.isSome)).map q) j=true:=by rw [ba,←e];exact List.mem_map.2 ⟨k,ba.1 (by rw [ba];exact List.mem_map.2 ⟨(k,some b),List.mem_filter.2 ⟨lx h9,rfl⟩,rfl⟩),rfl⟩
  rw [this] at h;cases h
theorem gR {q:Nat→Nat} {g:Nat→Prop} {b0 b:Box} (h:b0=b.ren q):BoxLe s q g b0 b:=h▸Ga b
theorem lA {q:Nat→Nat} {g:Nat→Prop} {d0 d:TV} (h:d0=d.ren q):TVLe s q g d0 d:=h▸Hq d
theorem BR {w:World} {F:Nat→Prop} {ρ:Nat→Value} {d:D} {v:Value} (h:d.rep w F ρ v) {α:Type} {E:El α} {l:List α} (hd:d = .sl E l):l.length≤9223372036854775807:=by
 subst hd;obtain ⟨A,cap,_,h1,_⟩:=h;have:=h1.2;simp only [maxLen] at this;omega
theorem cV {c:Ctx} {ρ:Nat→Value} {a:Act} {w:World} (hr:Rp c s ρ a w) {t:Nat} {α:Type} {E:El α} {l:List α} (h:s.t t = .c (.sl E l)):l.length≤9223372036854775807:=by
 have h1:=hr.tmp t;rw [h] at h1;have h1:(D.sl E l).rep w (Fz c s.h ρ w) ρ (a.tmps.getD t undef):=h1;exact BR h1 rfl
theorem ip {c:Ctx} {ρ:Nat→Value} {a:Act} {w:World} (hr:Rp c s ρ a w) {t i:Nat} {cs:List D} {α:Type} {E:El α} {l:List α} (h:s.t t = .v (.ag cs)) (hi:cs[i]? = some (.sl E l)):l.length≤9223372036854775807:=by
 have:=hr.tmp t;rw [h] at this;obtain ⟨vs,_,h2⟩:=this;obtain ⟨v,_,h3⟩:=h2.get hi;exact BR h3 rfl
end
section
variable {P:Program}
def Jz (P:Program) (t:TypeId):Option (Bool×Nat) :=
 match P.underlying t,P.info? t with
 | some d,some i=>some ((match d with | .struct _ | .array _ _=>true|_=>false),i.size)
 | _,_=>none
theorem TI.of {t n:Nat} {row:Bool} (h:Jz P t=some (row,n)):TI P t row n:=by
 unfold Jz at h;split at h
 ·rename_i d i h1 h2
  injection h with h;injection h with e1 e2;exact ⟨⟨d,h1,e1⟩,by rw [h2];simp [e2]⟩
 ·cases h
def JA (P:Program) (t:TypeId) (f:Nat):Option (Nat×Nat×Bool) :=
 match P.underlying t with
 | some (.struct fs)=>match fs[f]? with
  | some x=>match P.info? x.type with
   | some i=>some (x.offset,x.type,Nat.beq i.size 0)
   | none=>none
  | none=>none
 | _=>none
theorem FO.of {t f off ft:Nat} (h:JA P t f=some (off,ft,false)):FO P t f off ft:=by
 unfold JA at h;split at h
 ·rename_i fs h1
  split at h
  ·rename_i x h2
   split at h
   ·rename_i i h3
    injection h with h;injection h with e1 h;injection h with e2 e3;subst e1;subst e2;refine ⟨⟨fs,x,i,h1,h2,rfl,rfl,h3,fun e=>?_⟩⟩;rw [e] at e3;cases e3
   ·cases h
  ·cases h
 ·cases h
def IC (P:Program) (t:TypeId):Option (List Value×Nat) :=
 match P.info? t with
 | some i=>match i.zero with
  | some v=>some (v.cells.toList,i.size)
  | none=>none
 | none=>none
theorem TZ.of {t:Nat} {zs:List Value} (h:IC P t=some (zs,zs.length)) (ho:zs.all (·.oneCell')=true):TZ P t zs:=by
 unfold IC at h;split at h
 ·rename_i i h1
  split at h
  ·rename_i v h2
   injection h with h;injection h with e1 e2;exact ⟨⟨i,v,h1,h2,by rw [←e1]⟩,fun u hu=>List.all_eq_true.1 ho u hu,by rw [h1];simp [e2]⟩
  ·cases h
 ·cases h
def JB (P:Program) (t:TypeId):Option (List (Nat×Option Nat)) :=
 match P.underlying t with
 | some (.struct fs)=>some (fs.toList.map fun f=>(f.offset,(P.info? f.type).map (·.size)))
 | _=>none
theorem SP.of {t:Nat} {zs:List Value} {pl:List (Nat×Nat)} (hz:IC P t=some (zs,zs.length)) (h:JB P t=some (pl.map fun x=>(x.1,some x.2))):SP P t zs pl:=by
 unfold IC at hz;split at hz
 ·rename_i i h1
  split at hz
  ·rename_i v h2
   injection hz with hz;injection hz with e1 e2;refine ⟨⟨i,v,h1,h2,by rw [←e1]⟩,?_⟩;unfold JB at h;split at h
   ·rename_i fs h3
    have h:=Option.some.inj h;refine ⟨fs,h3,fun w=>?_⟩;rw [Array.mapM_eq_mapM_toList,map_eq_pure_bind];have key:∀(l:List Field) (pl:List (Nat×Nat)),l.map (fun f=>(f.offset,(P.info? f.type).map (·.size)))=pl.map (fun x=>(x.1,some x.2))→((l.mapM fun f=>do pure (f.offset,←sizeOf f.type)):Sem (List (Nat×Nat))).run P w = .ok pl w:=by
     intro l;induction l with
     | nil=>intro pl h;cases pl with
      | nil=>rfl
      | cons=>simp at h
     | cons f l ih =>
      intro pl h;cases pl with
      | nil=>simp at h
      | cons x pl =>
       simp only [List.map_cons,List.cons.injEq,Prod.mk.injEq] at h;obtain ⟨⟨e3,e4⟩,e5⟩:=h;cases hq:P.info? f.type with
       | none=>rw [hq] at e4;cases e4
       | some j =>
        rw [hq] at e4;simp only [Option.map_some,Option.some.injEq] at e4;have:=ih pl e5;simp [List.mapM_cons,sizeOf,typeInfo,hq,e4,e3] at this ⊢;simp [this]
    simp only [Sem.run_bind,key _ _ h,Result.andThen_ok,Sem.run_pure]
   ·cases h
  ·cases hz
 ·cases hz
theorem Ef {o:Oper} {s:Mst} {t:TypeId} {k:Nat} {x:Operand} {ds:List D} (ho:o.op = .box t x) (hdk:o.dst=some k) (hd:(s.ev x).cells=some ds) (hok:ds.all (okD s.h)=true):LOp P o s (fA ds) ⟨.c (.ptr k 0),[(k,some (.box t ds))],[k]⟩:=by
 intro c st ρ a w hr h1 h2 h3 h4;have he:=h1 x (by simp [ho,Op.operands]);rw [←he] at hd;obtain ⟨hc1,hc2⟩:=TV.cells_rep (hr.ev x) hd fun z hz u hu=>hr.okD (fT (List.all_eq_true.1 hok z hz) fun j hj=>h2 j (by subst hj;exact eh hz)) hu;obtain ⟨ρ',h⟩:=hr.newBox (k:=k) (t:=t) (cs:=ds) (vs:=(a.eval x).cells.toList) (d:=.c (.ptr k 0)) (v:=.pointer (some ⟨w.heap.size,0,none⟩)) h4 (h3 k (by simp [aD])) hc1 hc2
  (fun k' hh=>by
   obtain ⟨z,hz,hk⟩:=List.any_eq_true.1 hh;refine hr.nf (x:=x) rfl ?_;generalize st.ev x=q at *
   unfold TV.cells at hd;split at hd
   ·injection hd with hd;subst hd;simp at hz;subst hz;exact hk
   ·injection hd with hd;subst hd;simp only [TV.has,V0.has];exact List.any_eq_true.2 ⟨z,hz,hk⟩
   ·cases hd) (fun k' hh=>by simp [TV.has,V0.has,D.has] at hh;exact hh.symm) (fun F ρ' hρ=>⟨_,hρ,rfl⟩)
 exact Oper.wp_value (by unfold execOp;rw [ho];simp [Instr.box,newVar,newRow,run_newObj_alloc]) ⟨ρ',h⟩
end
instance:TI prog 1 false 1:=.of (by kernel_rfl)
instance:TZ prog 1 [.nilFunc]:=.of (by kernel_rfl) rfl
instance:TI prog 3 false 1:=.of (by kernel_rfl)
instance:TZ prog 3 [.int .i64 0]:=.of (by kernel_rfl) rfl
instance:TI prog 4 false 1:=.of (by kernel_rfl)
instance:TZ prog 4 [.bool false]:=.of (by kernel_rfl) rfl
instance:TI prog 9 false 1:=.of (by kernel_rfl)
instance:TZ prog 9 [.string { data:=#[] }]:=.of (by kernel_rfl) rfl
instance:TI prog 22 false 1:=.of (by kernel_rfl)
instance:SE prog 22 3:=⟨underlying22⟩
instance:TZ prog 22 [.slice none 0 0]:=.of (by kernel_rfl) rfl
instance:TI prog 25 false 1:=.of (by kernel_rfl)
instance:SE prog 25 54:=⟨underlying25⟩
instance:TZ prog 25 [.slice none 0 0]:=.of (by kernel_rfl) rfl
instance:TI prog 26 false 1:=.of (by kernel_rfl)
instance:SE prog 26 51:=⟨underlying26⟩
instance:TZ prog 26 [.slice none 0 0]:=.of (by kernel_rfl) rfl
instance:TI prog 29 false 1:=.of (by kernel_rfl)
instance:SE prog 29 58:=⟨underlying29⟩
instance:TZ prog 29 [.slice none 0 0]:=.of (by kernel_rfl) rfl
instance:TI prog 30 false 1:=.of (by kernel_rfl)
instance:SE prog 30 66:=⟨underlying30⟩
instance:TZ prog 30 [.slice none 0 0]:=.of (by kernel_rfl) rfl
instance:TI prog 32 true 3:=.of (by kernel_rfl)
instance:TZ prog 32 [.int .i64 0,.slice none 0 0,.slice none 0 0]:=.of (by kernel_rfl) rfl
instance:SP prog 32 [.int .i64 0,.slice none 0 0,.slice none 0 0] [(0,1),(1,1),(2,1)]:=.of (by kernel_rfl) (by kernel_rfl)
instance:FO prog 32 0 0 3:=.of (by kernel_rfl)
instance:FO prog 32 1 1 29:=.of (by kernel_rfl)
instance:FO prog 32 2 2 30:=.of (by kernel_rfl)
instance:TI prog 36 false 1:=.of (by kernel_rfl)
instance:SE prog 36 79:=⟨underlying36⟩
instance:TZ prog 36 [.slice none 0 0]:=.of (by kernel_rfl) rfl
instance:TI prog 40 true 3:=.of (by kernel_rfl)
instance:TZ prog 40 [.int .i64 0,.int .i64 0,.int .i64 0]:=.of (by kernel_rfl) rfl
instance:SP prog 40 [.int .i64 0,.int .i64 0,.int .i64 0] [(0,1),(1,1),(2,1)]:=.of (by kernel_rfl) (by kernel_rfl)
instance:FO prog 40 0 0 3:=.of (by kernel_rfl)
instance:FO prog 40 1 1 3:=.of (by kernel_rfl)
instance:FO prog 40 2 2 3:=.of (by kernel_rfl)
instance:TI prog 42 true 2:=.of (by kernel_rfl)
instance:TZ prog 42 [.int .i64 0,.int .i64 0]:=.of (by kernel_rfl) rfl
instance:SP prog 42 [.int .i64 0,.int .i64 0] [(0,1),(1,1)]:=.of (by kernel_rfl) (by kernel_rfl)
instance:FO prog 42 0 0 3:=.of (by kernel_rfl)
instance:FO prog 42 1 1 3:=.of (by kernel_rfl)
instance:TI prog 44 true 3:=.of (by kernel_rfl)
instance:TZ prog 44 [.string { data:=#[] },.int .i64 0,.int .i64 0]:=.of (by kernel_rfl) rfl
instance:SP prog 44 [.string { data:=#[] },.int .i64 0,.int .i64 0] [(0,1),(1,2)]:=.of (by kernel_rfl) (by kernel_rfl)
instance:FO prog 44 0 0 9:=.of (by kernel_rfl)
instance:FO prog 44 1 1 42:=.of (by kernel_rfl)
instance:TI prog 45 false 1:=.of (by kernel_rfl)
instance:SE prog 45 47:=⟨underlying45⟩
instance:TZ prog 45 [.slice none 0 0]:=.of (by kernel_rfl) rfl
instance:TI prog 47 true 5:=.of (by kernel_rfl)
instance:TZ prog 47 [.int .i64 0,.string { data:=#[] },.int .i64 0,.int .i64 0,.slice none 0 0]:=.of (by kernel_rfl) rfl
instance:SP prog 47 [.int .i64 0,.string { data:=#[] },.int .i64 0,.int .i64 0,.slice none 0 0] [(0,1),(1,3),(4,1)]:=.of (by kernel_rfl) (by kernel_rfl)
instance:FO prog 47 0 0 3:=.of (by kernel_rfl)
instance:FO prog 47 1 1 44:=.of (by kernel_rfl)
instance:FO prog 47 2 4 45:=.of (by kernel_rfl)
instance:TI prog 49 true 7:=.of (by kernel_rfl)
instance:TZ prog 49 [.int .i64 0,.string { data:=#[] },.int .i64 0,.int .i64 0,.slice none 0 0,.int .i64 0,.int .i64 0]:=.of (by kernel_rfl) rfl
instance:SP prog 49 [.int .i64 0,.string { data:=#[] },.int .i64 0,.int .i64 0,.slice none 0 0,.int .i64 0,.int .i64 0] [(0,5),(5,1),(6,1)]:=.of (by kernel_rfl) (by kernel_rfl)
instance:FO prog 49 0 0 47:=.of (by kernel_rfl)
instance:FO prog 49 1 5 3:=.of (by kernel_rfl)
instance:FO prog 49 2 6 3:=.of (by kernel_rfl)
instance:TI prog 51 true 13:=.of (by kernel_rfl)
instance:TZ prog 51 [.int .i64 0,.int .i64 0,.int .i64 0,.int .i64 0,.int .i64 0,.string { data:=#[] },.int .i64 0,.int .i64 0,.slice none 0 0,.int .i64 0,.int .i64 0,.string { data:=#[] },.int .i64 0]:=.of (by kernel_rfl) rfl
instance:SP prog 51 [.int .i64 0,.int .i64 0,.int .i64 0,.int .i64 0,.int .i64 0,.string { data:=#[] },.int .i64 0,.int .i64 0,.slice none 0 0,.int .i64 0,.int .i64 0,.string { data:=#[] },.int .i64 0] [(0,1),(1,3),(4,7),(11,1),(12,1)]:=.of (by kernel_rfl) (by kernel_rfl)
instance:FO prog 51 0 0 3:=.of (by kernel_rfl)
instance:FO prog 51 1 1 40:=.of (by kernel_rfl)
instance:FO prog 51 2 4 49:=.of (by kernel_rfl)
instance:FO prog 51 3 11 9:=.of (by kernel_rfl)
instance:FO prog 51 4 12 3:=.of (by kernel_rfl)
instance:TI prog 54 true 4:=.of (by kernel_rfl)
instance:TZ prog 54 [.string { data:=#[] },.int .i64 0,.int .i64 0,.int .i64 0]:=.of (by kernel_rfl) rfl
instance:SP prog 54 [.string { data:=#[] },.int .i64 0,.int .i64 0,.int .i64 0] [(0,1),(1,1),(2,1),(3,1)]:=.of (by kernel_rfl) (by kernel_rfl)
instance:FO prog 54 0 0 9:=.of (by kernel_rfl)
instance:FO prog 54 1 1 3:=.of (by kernel_rfl)
instance:FO prog 54 2 2 3:=.of (by kernel_rfl)
instance:FO prog 54 3 3 3:=.of (by kernel_rfl)
instance:TI prog 55 false 1:=.of (by kernel_rfl)
instance:SE prog 55 98:=⟨underlying55⟩
instance:TZ prog 55 [.slice none 0 0]:=.of (by kernel_rfl) rfl
instance:TI prog 56 false 1:=.of (by kernel_rfl)
instance:SE prog 56 211:=⟨underlying56⟩
instance:TZ prog 56 [.slice none 0 0]:=.of (by kernel_rfl) rfl
instance:TI prog 58 true 8:=.of (by kernel_rfl)
instance:TZ prog 58 [.string { data:=#[] },.int .i64 0,.int .i64 0,.int .i64 0,.slice none 0 0,.slice none 0 0,.slice none 0 0,.int .i64 0]:=.of (by kernel_rfl) rfl
instance:SP prog 58 [.string { data:=#[] },.int .i64 0,.int .i64 0,.int .i64 0,.slice none 0 0,.slice none 0 0,.slice none 0 0,.int .i64 0] [(0,4),(4,1),(5,1),(6,1),(7,1)]:=.of (by kernel_rfl) (by kernel_rfl)
instance:FO prog 58 0 0 54:=.of (by kernel_rfl)
instance:FO prog 58 1 4 55:=.of (by kernel_rfl)
instance:FO prog 58 2 5 56:=.of (by kernel_rfl)
instance:FO prog 58 3 6 56:=.of (by kernel_rfl)
instance:FO prog 58 4 7 3:=.of (by kernel_rfl)
instance:TI prog 59 false 1:=.of (by kernel_rfl)
instance:SE prog 59 42:=⟨underlying59⟩
instance:TZ prog 59 [.slice none 0 0]:=.of (by kernel_rfl) rfl
instance:TI prog 61 false 1:=.of (by kernel_rfl)
instance:SE prog 61 172:=⟨underlying61⟩
instance:TZ prog 61 [.slice none 0 0]:=.of (by kernel_rfl) rfl
instance:TI prog 62 false 1:=.of (by kernel_rfl)
instance:SE prog 62 199:=⟨underlying62⟩
instance:TZ prog 62 [.slice none 0 0]:=.of (by kernel_rfl) rfl
instance:TI prog 64 true 2:=.of (by kernel_rfl)
instance:TZ prog 64 [.slice none 0 0,.slice none 0 0]:=.of (by kernel_rfl) rfl
instance:SP prog 64 [.slice none 0 0,.slice none 0 0] [(0,1),(1,1)]:=.of (by kernel_rfl) (by kernel_rfl)
instance:FO prog 64 0 0 61:=.of (by kernel_rfl)
instance:FO prog 64 1 1 62:=.of (by kernel_rfl)
instance:TI prog 66 true 16:=.of (by kernel_rfl)
instance:TZ prog 66 [.int .i64 0,.int .i64 0,.int .i64 0,.int .i64 0,.slice none 0 0,.slice none 0 0,.bool false,.int .i64 0,.string { data:=#[] },.int .i64 0,.int .i64 0,.slice none 0 0,.int .i64 0,.int .i64 0,.int .i64 0,.int .i64 0]:=.of (by kernel_rfl) rfl
instance:SP prog 66 [.int .i64 0,.int .i64 0,.int .i64 0,.int .i64 0,.slice none 0 0,.slice none 0 0,.bool false,.int .i64 0,.string { data:=#[] },.int .i64 0,.int .i64 0,.slice none 0 0,.int .i64 0,.int .i64 0,.int .i64 0,.int .i64 0] [(0,3),(3,1),(4,2),(6,1),(7,7),(14,1),(15,1)]:=.of (by kernel_rfl) (by kernel_rfl)
instance:FO prog 66 0 0 40:=.of (by kernel_rfl)
instance:FO prog 66 1 3 3:=.of (by kernel_rfl)
instance:FO prog 66 2 4 64:=.of (by kernel_rfl)
instance:FO prog 66 3 6 4:=.of (by kernel_rfl)
instance:FO prog 66 4 7 49:=.of (by kernel_rfl)
instance:FO prog 66 5 14 3:=.of (by kernel_rfl)
instance:FO prog 66 6 15 3:=.of (by kernel_rfl)
instance:TI prog 68 false 1:=.of (by kernel_rfl)
instance:SE prog 68 4:=⟨underlying68⟩
instance:TZ prog 68 [.slice none 0 0]:=.of (by kernel_rfl) rfl
instance:TI prog 79 true 7:=.of (by kernel_rfl)
instance:TZ prog 79 [.int .i64 0,.int .i64 0,.int .i64 0,.int .i64 0,.string { data:=#[] },.int .i64 0,.int .i64 0]:=.of (by kernel_rfl) rfl
instance:SP prog 79 [.int .i64 0,.int .i64 0,.int .i64 0,.int .i64 0,.string { data:=#[] },.int .i64 0,.int .i64 0] [(0,1),(1,3),(4,1),(5,2)]:=.of (by kernel_rfl) (by kernel_rfl)
instance:FO prog 79 0 0 3:=.of (by kernel_rfl)
instance:FO prog 79 1 1 40:=.of (by kernel_rfl)
instance:FO prog 79 2 4 9:=.of (by kernel_rfl)
instance:FO prog 79 3 5 42:=.of (by kernel_rfl)
instance:TI prog 82 true 2:=.of (by kernel_rfl)
instance:TZ prog 82 [.slice none 0 0,.int .i64 0]:=.of (by kernel_rfl) rfl
instance:SP prog 82 [.slice none 0 0,.int .i64 0] [(0,1),(1,1)]:=.of (by kernel_rfl) (by kernel_rfl)
instance:FO prog 82 0 0 22:=.of (by kernel_rfl)
instance:FO prog 82 1 1 3:=.of (by kernel_rfl)
instance:TI prog 88 false 1:=.of (by kernel_rfl)
instance:TZ prog 88 [.pointer none]:=.of (by kernel_rfl) rfl
instance:TI prog 91 true 4:=.of (by kernel_rfl)
instance:TZ prog 91 [.int .i64 0,.slice none 0 0,.slice none 0 0,.slice none 0 0]:=.of (by kernel_rfl) rfl
instance:SP prog 91 [.int .i64 0,.slice none 0 0,.slice none 0 0,.slice none 0 0] [(0,3),(3,1)]:=.of (by kernel_rfl) (by kernel_rfl)
instance:FO prog 91 0 0 32:=.of (by kernel_rfl)
instance:FO prog 91 1 3 36:=.of (by kernel_rfl)
instance:TI prog 98 true 5:=.of (by kernel_rfl)
instance:TZ prog 98 [.int .i64 0,.int .i64 0,.int .i64 0,.int .i64 0,.int .i64 0]:=.of (by kernel_rfl) rfl
instance:SP prog 98 [.int .i64 0,.int .i64 0,.int .i64 0,.int .i64 0,.int .i64 0] [(0,3),(3,2)]:=.of (by kernel_rfl) (by kernel_rfl)
instance:FO prog 98 0 0 40:=.of (by kernel_rfl)
instance:FO prog 98 1 3 42:=.of (by kernel_rfl)
instance:TI prog 99 false 1:=.of (by kernel_rfl)
instance:SE prog 99 44:=⟨underlying99⟩
instance:TZ prog 99 [.slice none 0 0]:=.of (by kernel_rfl) rfl
instance:TI prog 108 false 1:=.of (by kernel_rfl)
instance:SE prog 108 40:=⟨underlying108⟩
instance:TZ prog 108 [.slice none 0 0]:=.of (by kernel_rfl) rfl
instance:TI prog 111 false 1:=.of (by kernel_rfl)
instance:SE prog 111 9:=⟨underlying111⟩
instance:TZ prog 111 [.slice none 0 0]:=.of (by kernel_rfl) rfl
instance:TI prog 172 true 5:=.of (by kernel_rfl)
instance:TZ prog 172 [.string { data:=#[] },.int .i64 0,.int .i64 0,.int .i64 0,.int .i64 0]:=.of (by kernel_rfl) rfl
instance:SP prog 172 [.string { data:=#[] },.int .i64 0,.int .i64 0,.int .i64 0,.int .i64 0] [(0,1),(1,2),(3,2)]:=.of (by kernel_rfl) (by kernel_rfl)
instance:FO prog 172 0 0 9:=.of (by kernel_rfl)
instance:FO prog 172 1 1 42:=.of (by kernel_rfl)
instance:FO prog 172 2 3 42:=.of (by kernel_rfl)
instance:TI prog 199 true 2:=.of (by kernel_rfl)
instance:TZ prog 199 [.int .i64 0,.int .i64 0]:=.of (by kernel_rfl) rfl
instance:SP prog 199 [.int .i64 0,.int .i64 0] [(0,1),(1,1)]:=.of (by kernel_rfl) (by kernel_rfl)
instance:FO prog 199 0 0 3:=.of (by kernel_rfl)
instance:FO prog 199 1 1 3:=.of (by kernel_rfl)
instance:TI prog 211 true 7:=.of (by kernel_rfl)
instance:TZ prog 211 [.int .i64 0,.int .i64 0,.int .i64 0,.int .i64 0,.int .i64 0,.int .i64 0,.int .i64 0]:=.of (by kernel_rfl) rfl
instance:SP prog 211 [.int .i64 0,.int .i64 0,.int .i64 0,.int .i64 0,.int .i64 0,.int .i64 0,.int .i64 0] [(0,3),(3,2),(5,1),(6,1)]:=.of (by kernel_rfl) (by kernel_rfl)
instance:FO prog 211 0 0 40:=.of (by kernel_rfl)
instance:FO prog 211 1 3 42:=.of (by kernel_rfl)
instance:FO prog 211 2 5 3:=.of (by kernel_rfl)
instance:FO prog 211 3 6 3:=.of (by kernel_rfl)
instance:TI prog 267 false 1:=.of (by kernel_rfl)
instance:SE prog 267 1:=⟨underlying267⟩
instance:TZ prog 267 [.slice none 0 0]:=.of (by kernel_rfl) rfl
instance:TI prog 279 false 1:=.of (by kernel_rfl)
instance:SE prog 279 56:=⟨underlying279⟩
instance:TZ prog 279 [.slice none 0 0]:=.of (by kernel_rfl) rfl
end Go.Proofs.YtcgpepnbohejfaaGreatDoor
