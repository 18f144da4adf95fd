/- Part 9 of 24 of the proof of rollbackOptions_holds (no condition). -/
import Derived.Test.YtdaajdflefnjfaaGreatK08
set_option linter.unusedVariables false
set_option linter.unusedSimpArgs false
set_option maxRecDepth 100000
set_option maxHeartbeats 64000000
namespace Go.Proofs.YtdaajdflefnjfaaGreat
open Go.RowKit Go.Proofs.Tryz
instance:TI prog 3 false 1:=.of (by kernel_rfl)
instance:TZ prog 3 [.int .i64 0]:=.of (by kernel_rfl) rfl
instance:TI prog 4 false 1:=.of (by kernel_rfl)
instance:TI prog 5 false 1:=.of (by kernel_rfl)
instance:TI prog 9 false 1:=.of (by kernel_rfl)
instance:TZ prog 9 [.string { data:=#[] }]:=.of (by kernel_rfl) rfl
instance:TI prog 23 true 3:=.of (by kernel_rfl)
instance:TZ prog 23 [.int .i64 0,.int .i64 0,.int .i64 0]:=.of (by kernel_rfl) rfl
instance:SP prog 23 [.int .i64 0,.int .i64 0,.int .i64 0] [(0,1),(1,1),(2,1)]:=.of (by kernel_rfl) (by kernel_rfl)
instance:TI prog 24 false 1:=.of (by kernel_rfl)
instance:SE prog 24 112:=⟨underlying24⟩
instance:TI prog 25 false 1:=.of (by kernel_rfl)
instance:SE prog 25 80:=⟨underlying25⟩
instance:TI prog 27 true 2:=.of (by kernel_rfl)
instance:TZ prog 27 [.slice none 0 0,.slice none 0 0]:=.of (by kernel_rfl) rfl
instance:SP prog 27 [.slice none 0 0,.slice none 0 0] [(0,1),(1,1)]:=.of (by kernel_rfl) (by kernel_rfl)
instance:FO prog 27 0 0 24:=.of (by kernel_rfl)
instance:FO prog 27 1 1 25:=.of (by kernel_rfl)
instance:TI prog 29 true 2:=.of (by kernel_rfl)
instance:TZ prog 29 [.int .i64 0,.int .i64 0]:=.of (by kernel_rfl) rfl
instance:SP prog 29 [.int .i64 0,.int .i64 0] [(0,1),(1,1)]:=.of (by kernel_rfl) (by kernel_rfl)
instance:FO prog 29 0 0 3:=.of (by kernel_rfl)
instance:FO prog 29 1 1 3:=.of (by kernel_rfl)
instance:TI prog 31 true 3:=.of (by kernel_rfl)
instance:TZ prog 31 [.string { data:=#[] },.int .i64 0,.int .i64 0]:=.of (by kernel_rfl) rfl
instance:SP prog 31 [.string { data:=#[] },.int .i64 0,.int .i64 0] [(0,1),(1,2)]:=.of (by kernel_rfl) (by kernel_rfl)
instance:FO prog 31 0 0 9:=.of (by kernel_rfl)
instance:FO prog 31 1 1 29:=.of (by kernel_rfl)
instance:TI prog 32 false 1:=.of (by kernel_rfl)
instance:SE prog 32 34:=⟨underlying32⟩
instance:TI prog 34 true 5:=.of (by kernel_rfl)
instance:TZ prog 34 [.int .i64 0,.string { data:=#[] },.int .i64 0,.int .i64 0,.slice none 0 0]:=.of (by kernel_rfl) rfl
instance:SP prog 34 [.int .i64 0,.string { data:=#[] },.int .i64 0,.int .i64 0,.slice none 0 0] [(0,1),(1,3),(4,1)]:=.of (by kernel_rfl) (by kernel_rfl)
instance:FO prog 34 0 0 3:=.of (by kernel_rfl)
instance:FO prog 34 1 1 31:=.of (by kernel_rfl)
instance:FO prog 34 2 4 32:=.of (by kernel_rfl)
instance:TI prog 36 true 7:=.of (by kernel_rfl)
instance:TZ prog 36 [.int .i64 0,.string { data:=#[] },.int .i64 0,.int .i64 0,.slice none 0 0,.int .i64 0,.int .i64 0]:=.of (by kernel_rfl) rfl
instance:SP prog 36 [.int .i64 0,.string { data:=#[] },.int .i64 0,.int .i64 0,.slice none 0 0,.int .i64 0,.int .i64 0] [(0,5),(5,1),(6,1)]:=.of (by kernel_rfl) (by kernel_rfl)
instance:FO prog 36 0 0 34:=.of (by kernel_rfl)
instance:FO prog 36 1 5 3:=.of (by kernel_rfl)
instance:FO prog 36 2 6 3:=.of (by kernel_rfl)
instance:TI prog 38 true 16:=.of (by kernel_rfl)
instance:TZ prog 38 [.int .i64 0,.int .i64 0,.int .i64 0,.int .i64 0,.slice none 0 0,.slice none 0 0,.bool false,.int .i64 0,.string { data:=#[] },.int .i64 0,.int .i64 0,.slice none 0 0,.int .i64 0,.int .i64 0,.int .i64 0,.int .i64 0]:=.of (by kernel_rfl) rfl
instance:SP prog 38 [.int .i64 0,.int .i64 0,.int .i64 0,.int .i64 0,.slice none 0 0,.slice none 0 0,.bool false,.int .i64 0,.string { data:=#[] },.int .i64 0,.int .i64 0,.slice none 0 0,.int .i64 0,.int .i64 0,.int .i64 0,.int .i64 0] [(0,3),(3,1),(4,2),(6,1),(7,7),(14,1),(15,1)]:=.of (by kernel_rfl) (by kernel_rfl)
instance:FO prog 38 0 0 23:=.of (by kernel_rfl)
instance:FO prog 38 1 3 3:=.of (by kernel_rfl)
instance:FO prog 38 2 4 27:=.of (by kernel_rfl)
instance:FO prog 38 3 6 4:=.of (by kernel_rfl)
instance:FO prog 38 4 7 36:=.of (by kernel_rfl)
instance:FO prog 38 5 14 3:=.of (by kernel_rfl)
instance:FO prog 38 6 15 3:=.of (by kernel_rfl)
instance:TI prog 39 false 1:=.of (by kernel_rfl)
instance:SE prog 39 31:=⟨underlying39⟩
instance:TI prog 41 true 6:=.of (by kernel_rfl)
instance:TZ prog 41 [.int .i64 0,.int .i64 0,.int .i64 0,.int .i64 0,.int .i64 0,.slice none 0 0]:=.of (by kernel_rfl) rfl
instance:SP prog 41 [.int .i64 0,.int .i64 0,.int .i64 0,.int .i64 0,.int .i64 0,.slice none 0 0] [(0,3),(3,1),(4,1),(5,1)]:=.of (by kernel_rfl) (by kernel_rfl)
instance:FO prog 41 0 0 23:=.of (by kernel_rfl)
instance:FO prog 41 1 3 3:=.of (by kernel_rfl)
instance:FO prog 41 2 4 3:=.of (by kernel_rfl)
instance:FO prog 41 3 5 39:=.of (by kernel_rfl)
instance:TI prog 42 false 1:=.of (by kernel_rfl)
instance:SE prog 42 3:=⟨underlying42⟩
instance:TI prog 46 false 1:=.of (by kernel_rfl)
instance:SE prog 46 38:=⟨underlying46⟩
instance:TI prog 47 false 1:=.of (by kernel_rfl)
instance:SE prog 47 165:=⟨underlying47⟩
instance:TI prog 49 true 3:=.of (by kernel_rfl)
instance:TZ prog 49 [.int .i64 0,.slice none 0 0,.slice none 0 0]:=.of (by kernel_rfl) rfl
instance:SP prog 49 [.int .i64 0,.slice none 0 0,.slice none 0 0] [(0,1),(1,1),(2,1)]:=.of (by kernel_rfl) (by kernel_rfl)
instance:FO prog 49 0 0 3:=.of (by kernel_rfl)
instance:FO prog 49 1 1 47:=.of (by kernel_rfl)
instance:FO prog 49 2 2 46:=.of (by kernel_rfl)
instance:SE prog 51 41:=⟨underlying51⟩
instance:TI prog 56 false 1:=.of (by kernel_rfl)
instance:SE prog 56 5:=⟨underlying56⟩
instance:TI prog 59 false 1:=.of (by kernel_rfl)
instance:SE prog 65 159:=⟨underlying65⟩
instance:SE prog 66 119:=⟨underlying66⟩
instance:TI prog 80 true 2:=.of (by kernel_rfl)
instance:TZ prog 80 [.int .i64 0,.int .i64 0]:=.of (by kernel_rfl) rfl
instance:SP prog 80 [.int .i64 0,.int .i64 0] [(0,1),(1,1)]:=.of (by kernel_rfl) (by kernel_rfl)
instance:FO prog 80 0 0 3:=.of (by kernel_rfl)
instance:FO prog 80 1 1 3:=.of (by kernel_rfl)
instance:SE prog 87 23:=⟨underlying87⟩
instance:SP prog 101 [.slice none 0 0,.int .i64 0,.int .i64 0] [(0,1),(1,1),(2,1)]:=.of (by kernel_rfl) (by kernel_rfl)
instance:FO prog 101 0 0 56:=.of (by kernel_rfl)
instance:FO prog 101 1 1 3:=.of (by kernel_rfl)
instance:FO prog 101 2 2 59:=.of (by kernel_rfl)
instance:TI prog 112 true 5:=.of (by kernel_rfl)
instance:TZ prog 112 [.string { data:=#[] },.int .i64 0,.int .i64 0,.int .i64 0,.int .i64 0]:=.of (by kernel_rfl) rfl
instance:SP prog 112 [.string { data:=#[] },.int .i64 0,.int .i64 0,.int .i64 0,.int .i64 0] [(0,1),(1,2),(3,2)]:=.of (by kernel_rfl) (by kernel_rfl)
instance:FO prog 112 0 0 9:=.of (by kernel_rfl)
instance:FO prog 112 1 1 29:=.of (by kernel_rfl)
instance:FO prog 112 2 3 29:=.of (by kernel_rfl)
instance:SP prog 115 [.slice none 0 0,.int .i64 0] [(0,1),(1,1)]:=.of (by kernel_rfl) (by kernel_rfl)
instance:FO prog 115 0 0 42:=.of (by kernel_rfl)
instance:FO prog 115 1 1 3:=.of (by kernel_rfl)
instance:TI prog 119 true 13:=.of (by kernel_rfl)
instance:TZ prog 119 [.int .i64 0,.int .i64 0,.int .i64 0,.int .i64 0,.int .i64 0,.string { data:=#[] },.int .i64 0,.int .i64 0,.slice none 0 0,.int .i64 0,.int .i64 0,.string { data:=#[] },.int .i64 0]:=.of (by kernel_rfl) rfl
instance:SP prog 119 [.int .i64 0,.int .i64 0,.int .i64 0,.int .i64 0,.int .i64 0,.string { data:=#[] },.int .i64 0,.int .i64 0,.slice none 0 0,.int .i64 0,.int .i64 0,.string { data:=#[] },.int .i64 0] [(0,1),(1,3),(4,7),(11,1),(12,1)]:=.of (by kernel_rfl) (by kernel_rfl)
instance:FO prog 119 0 0 3:=.of (by kernel_rfl)
instance:FO prog 119 1 1 23:=.of (by kernel_rfl)
instance:FO prog 119 2 4 36:=.of (by kernel_rfl)
instance:FO prog 119 3 11 9:=.of (by kernel_rfl)
instance:FO prog 119 4 12 3:=.of (by kernel_rfl)
instance:TI prog 123 false 1:=.of (by kernel_rfl)
instance:SE prog 123 296:=⟨underlying123⟩
instance:SE prog 132 9:=⟨underlying132⟩
instance:TI prog 159 true 4:=.of (by kernel_rfl)
instance:TZ prog 159 [.string { data:=#[] },.int .i64 0,.int .i64 0,.int .i64 0]:=.of (by kernel_rfl) rfl
instance:SP prog 159 [.string { data:=#[] },.int .i64 0,.int .i64 0,.int .i64 0] [(0,1),(1,1),(2,1),(3,1)]:=.of (by kernel_rfl) (by kernel_rfl)
instance:FO prog 159 0 0 9:=.of (by kernel_rfl)
instance:FO prog 159 1 1 3:=.of (by kernel_rfl)
instance:FO prog 159 2 2 3:=.of (by kernel_rfl)
instance:TI prog 162 false 1:=.of (by kernel_rfl)
instance:SE prog 162 287:=⟨underlying162⟩
instance:TI prog 163 false 1:=.of (by kernel_rfl)
instance:SE prog 163 284:=⟨underlying163⟩
instance:TI prog 165 true 8:=.of (by kernel_rfl)
instance:TZ prog 165 [.string { data:=#[] },.int .i64 0,.int .i64 0,.int .i64 0,.slice none 0 0,.slice none 0 0,.slice none 0 0,.int .i64 0]:=.of (by kernel_rfl) rfl
instance:SP prog 165 [.string { data:=#[] },.int .i64 0,.int .i64 0,.int .i64 0,.slice none 0 0,.slice none 0 0,.slice none 0 0,.int .i64 0] [(0,4),(4,1),(5,1),(6,1),(7,1)]:=.of (by kernel_rfl) (by kernel_rfl)
instance:FO prog 165 0 0 159:=.of (by kernel_rfl)
instance:FO prog 165 1 4 162:=.of (by kernel_rfl)
instance:FO prog 165 2 5 163:=.of (by kernel_rfl)
instance:FO prog 165 3 6 163:=.of (by kernel_rfl)
instance:FO prog 165 4 7 3:=.of (by kernel_rfl)
instance:SP prog 169 [.int .i64 0,.slice none 0 0,.slice none 0 0,.slice none 0 0] [(0,3),(3,1)]:=.of (by kernel_rfl) (by kernel_rfl)
instance:FO prog 169 0 0 49:=.of (by kernel_rfl)
instance:FO prog 169 1 3 123:=.of (by kernel_rfl)
instance:SE prog 231 4:=⟨underlying231⟩
instance:TI prog 284 true 7:=.of (by kernel_rfl)
instance:TZ prog 284 [.int .i64 0,.int .i64 0,.int .i64 0,.int .i64 0,.int .i64 0,.int .i64 0,.int .i64 0]:=.of (by kernel_rfl) rfl
instance:SP prog 284 [.int .i64 0,.int .i64 0,.int .i64 0,.int .i64 0,.int .i64 0,.int .i64 0,.int .i64 0] [(0,3),(3,2),(5,1),(6,1)]:=.of (by kernel_rfl) (by kernel_rfl)
instance:FO prog 284 0 0 23:=.of (by kernel_rfl)
instance:FO prog 284 1 3 29:=.of (by kernel_rfl)
instance:FO prog 284 2 5 3:=.of (by kernel_rfl)
instance:TI prog 287 true 5:=.of (by kernel_rfl)
instance:TZ prog 287 [.int .i64 0,.int .i64 0,.int .i64 0,.int .i64 0,.int .i64 0]:=.of (by kernel_rfl) rfl
instance:SP prog 287 [.int .i64 0,.int .i64 0,.int .i64 0,.int .i64 0,.int .i64 0] [(0,3),(3,2)]:=.of (by kernel_rfl) (by kernel_rfl)
instance:FO prog 287 0 0 23:=.of (by kernel_rfl)
instance:FO prog 287 1 3 29:=.of (by kernel_rfl)
instance:TI prog 296 true 7:=.of (by kernel_rfl)
instance:TZ prog 296 [.int .i64 0,.int .i64 0,.int .i64 0,.int .i64 0,.string { data:=#[] },.int .i64 0,.int .i64 0]:=.of (by kernel_rfl) rfl
instance:SP prog 296 [.int .i64 0,.int .i64 0,.int .i64 0,.int .i64 0,.string { data:=#[] },.int .i64 0,.int .i64 0] [(0,1),(1,3),(4,1),(5,2)]:=.of (by kernel_rfl) (by kernel_rfl)
theorem ph {sh:List Nat} {a:List Value} (h:a.map shp=sh):a.length=sh.length:=by rw [←h,List.length_map]
theorem GI {α:Type _} {a:List α} (h:a.length=3):∃x y z,a=[x,y,z]:=by
 match a,h with
 | [x,y,z],_=>exact ⟨x,y,z,rfl⟩
theorem KH {α:Type _} {a:List α} (h:a.length=2):∃x y,a=[x,y]:=by
 match a,h with
 | [x,y],_=>exact ⟨x,y,rfl⟩
theorem nT {v:Value} (h:shp v=0):∃n,v = .int .i64 n:=by
 unfold shp at h
 split at h <;> first|exact ⟨_,rfl⟩|cases h
theorem KI {v:Value} (h:shp v=1):∃n,v = .string n:=by
 unfold shp at h
 split at h <;> first|exact ⟨_,rfl⟩|cases h
instance:EQ prog 23 [0,0,0]:=⟨by kernel_rfl,fun w a b ha hb=>by
 have hS:prog.underlying 23=some (.struct (prog.fieldsOf 23)):=by kernel_rfl
 have hp:prog.stoodInHeld 23=false:=by kernel_rfl
 ·obtain ⟨a1,a2,a3,rfl⟩:=GI (ph ha)
  obtain ⟨b1,b2,b3,rfl⟩:=GI (ph hb)
  simp only [List.map_cons,List.map_nil,List.cons.injEq,and_true] at ha hb
  obtain ⟨x1,rfl⟩:=nT ha.1
  obtain ⟨x2,rfl⟩:=nT ha.2.1
  obtain ⟨x3,rfl⟩:=nT ha.2.2
  obtain ⟨y1,rfl⟩:=nT hb.1
  obtain ⟨y2,rfl⟩:=nT hb.2.1
  obtain ⟨y3,rfl⟩:=nT hb.2.2
  show (Op.equalIn 10000 23 _ _).run _ _=_
  rw [show (10000:Nat)=9999+1 from rfl,run_equalIn_agg w 9999 23 _ _ hS hp]
  have u3:=underlying3
  simp only [Program.fieldsOf,underlying23]
  go_simp
  by_cases h1:x1=y1 <;> by_cases h2:x2=y2 <;> by_cases h3:x3=y3 <;> simp [h1,h2,h3,AQ,Ku]⟩
instance:EQ prog 29 [0,0]:=⟨by kernel_rfl,fun w a b ha hb=>by
 have hS:prog.underlying 29=some (.struct (prog.fieldsOf 29)):=by kernel_rfl
 have hp:prog.stoodInHeld 29=false:=by kernel_rfl
 ·obtain ⟨a1,a2,rfl⟩:=KH (ph ha)
  obtain ⟨b1,b2,rfl⟩:=KH (ph hb)
  simp only [List.map_cons,List.map_nil,List.cons.injEq,and_true] at ha hb
  obtain ⟨x1,rfl⟩:=nT ha.1
  obtain ⟨x2,rfl⟩:=nT ha.2
  obtain ⟨y1,rfl⟩:=nT hb.1
  obtain ⟨y2,rfl⟩:=nT hb.2
  show (Op.equalIn 10000 29 _ _).run _ _=_
  rw [show (10000:Nat)=9999+1 from rfl,run_equalIn_agg w 9999 29 _ _ hS hp]
  have u3:=underlying3
  simp only [Program.fieldsOf,underlying29]
  go_simp
  by_cases h1:x1=y1 <;> by_cases h2:x2=y2 <;> simp [h1,h2,AQ,Ku]⟩
theorem IB (p q:Pr):AQ [.int .i64 p.site,.int .i64 p.inc,.int .i64 p.num] [.int .i64 q.site,.int .i64 q.inc,.int .i64 q.num]=decide (p=q):=by
 obtain ⟨a,b,c⟩:=p
 obtain ⟨x,y,z⟩:=q
 rw [Bool.eq_iff_iff]
 simp [AQ,Ku]
theorem tY (p q:Am):AQ [.int .i64 p.mode,.int .i64 p.units] [.int .i64 q.mode,.int .i64 q.units]=decide (p=q):=by
 obtain ⟨a,b⟩:=p
 obtain ⟨x,y⟩:=q
 rw [Bool.eq_iff_iff]
 simp [AQ,Ku]
def IC (p:Option Pr) (x:Pr):Bool:=match p with|none=>true|some y=>decide (dw y x<0)
theorem zz (r:Rs) (p:Option Pr) (x:Ho) (l:List Ho):mK r p (x :: l)=(fo x.proc && aC r x.am && IC p x.proc && mK r (some x.proc) l):=by cases p <;> rfl
theorem AS {p:Option Pr} {x:Pr}:IC p x=true↔∀q,p=some q→f8 q x:=by
 cases p with
 | none=>simp [IC]
 | some q=>simp [IC,lL]
theorem xh (r:Rs):∀(l:List Ho) (p:Option Pr),mK r p l=true↔(∀x∈l,fo x.proc=true∧aC r x.am=true)∧(dx l).Pairwise f8∧∀q,p=some q→∀x∈l,f8 q x.proc
 | [],p=>by simp [mK,dx]
 | x :: l,p=>by
  rw [zz]
  simp only [Bool.and_eq_true,xh r l,AS]
  constructor
  ·rintro ⟨⟨⟨h1,h2⟩,h3⟩,h4,h5,h6⟩
   refine ⟨?_,?_,?_⟩
   ·intro y hy
    rcases List.mem_cons.1 hy with rfl|hy
    ·exact ⟨h1,h2⟩
    ·exact h4 y hy
   ·show (x.proc :: dx l).Pairwise f8
    refine List.pairwise_cons.2 ⟨?_,h5⟩
    intro y hy
    obtain ⟨z,hz,rfl⟩:=List.mem_map.1 hy
    exact h6 _ rfl z hz
   ·intro q hq y hy
    rcases List.mem_cons.1 hy with rfl|hy
    ·exact h3 q hq
    ·exact da (h3 q hq) (h6 _ rfl y hy)
  ·rintro ⟨h1,h2,h3⟩
   have h2':(x.proc :: dx l).Pairwise f8:=h2
   obtain ⟨h4,h5⟩:=List.pairwise_cons.1 h2'
   refine ⟨⟨h1 x (by simp),fun q hq=>h3 q hq x (by simp)⟩,fun y hy=>h1 y (by simp [hy]),h5,?_⟩
   intro q hq y hy
   injection hq with hq
   subst hq
   exact h4 _ (List.mem_map.2 ⟨y,hy,rfl⟩)
def mO:List Am→Int
 | []=>0
 | a :: l=>a.units+mO l
def DS (a b:Am):Bool:=aF a || aF b || mJ a.mode b.mode
theorem DT (a b:Am):DS a b=DS b a:=by
 unfold DS
 rw [oU,Bool.or_comm (aF a)]
theorem mP {r:Rs} {a:Am} (h:bK r a=true) (hk:r.kind=2):0≤a.units:=(wL h (by omega)).2.1
theorem qg {r:Rs} (hk:r.kind=2):∀{l:List Am},(∀a∈l,bK r a=true)→0≤mO l
 | [],_=>Int.le_refl _
 | a :: l,h=>by
  have h1:=mP (h a (by simp)) hk
  have h2:=qg hk (l:=l) fun b hb=>h b (by simp [hb])
  show 0≤a.units+mO l
  omega
theorem Cf (a:Am) (l:List Am):mx a l=false↔∀b∈l,DS b a=true:=by
 unfold mx DS
 rw [List.any_eq_false]
 constructor
 ·intro h b hb
  have:=h b hb
  have e:=oU b.mode a.mode
  cases h1:aF a <;> cases h2:aF b <;> simp_all
 ·intro h b hb
  have:=h b hb
  have e:=oU b.mode a.mode
  cases h1:aF a <;> cases h2:aF b <;> simp_all
theorem mQ {r:Rs}:∀(l:List Am) (s:Int) (pre:List Am),dW r s pre l=true↔(∀a∈l,bK r a=true)∧(r.kind=2→l≠[]→s+mO l≤r.units)∧(r.kind≠2→l.Pairwise (fun a b=>DS a b=true)∧∀a∈l,∀b∈pre,DS b a=true)
 | [],s,pre=>by simp [dW]
 | a :: l,s,pre=>by
  rw [pT,Bool.and_eq_true]
  by_cases hk:r.kind=2
  ·rw [if_pos hk,Bool.and_eq_true,decide_eq_true_eq,mQ l]
   constructor
   ·rintro ⟨h1,h2,h3,h4,_⟩
    refine ⟨?_,?_,fun h=>absurd hk h⟩
    ·intro b hb
     rcases List.mem_cons.1 hb with rfl|hb
     ·exact h1
     ·exact h3 b hb
    ·intro _ _
     show s+(a.units+mO l)≤r.units
     cases l with
     | nil=>show s+(a.units+0)≤r.units;omega
     | cons b m=>have:=h4 hk (by simp);omega
   ·rintro ⟨h1,h2,_⟩
    have h3:s+(a.units+mO l)≤r.units:=h2 hk (by simp)
    have h4:=qg hk (l:=l) fun b hb=>h1 b (by simp [hb])
    exact ⟨h1 a (by simp),by omega,fun b hb=>h1 b (by simp [hb]),fun _ _=>by omega,fun h=>absurd hk h⟩
  ·rw [if_neg hk,Bool.and_eq_true,mQ l,Bool.not_eq_true',Cf]
   constructor
   ·rintro ⟨h1,h2,h3,_,h5⟩
    obtain ⟨h6,h7⟩:=h5 hk
    refine ⟨?_,fun h=>absurd h hk,fun _=>⟨List.pairwise_cons.2 ⟨fun b hb=>h7 b hb a (by simp),h6⟩,?_⟩⟩
    ·intro b hb
     rcases List.mem_cons.1 hb with rfl|hb
     ·exact h1
     ·exact h3 b hb
    ·intro b hb c hc
     rcases List.mem_cons.1 hb with rfl|hb
     ·exact h2 c hc
     ·exact h7 b hb c (by simp [hc])
   ·rintro ⟨h1,_,h3⟩
    obtain ⟨h4,h5⟩:=h3 hk
    obtain ⟨h6,h7⟩:=List.pairwise_cons.1 h4
    refine ⟨h1 a (by simp),h5 a (by simp),fun b hb=>h1 b (by simp [hb]),fun h=>absurd h hk,fun _=>⟨h7,?_⟩⟩
    intro b hb c hc
    rcases List.mem_append.1 hc with hc|hc
    ·exact h5 b (by simp [hb]) c hc
    ·rw [List.mem_singleton] at hc
     subst hc
     exact h6 b hb
structure Comp (r:Rs) (l:List Am):Prop where
 shp:be r=true
 prm:∀a∈l,bK r a=true
 sum:r.kind=2→mO l≤r.units
 ok:r.kind≠2→l.Pairwise (fun a b=>DS a b=true)
theorem Cg {r:Rs} {l:List Am}:ii r l=true↔Comp r l:=by
 unfold ii
 rw [Bool.and_eq_true,mQ]
 constructor
 ·rintro ⟨h0,h1,h2,h3⟩
  refine ⟨h0,h1,fun hk=>?_,fun hk=>(h3 hk).1⟩
  cases l with
  | nil =>
   have:=cw h0
   show (0:Int)≤r.units
   omega
  | cons a m=>have:=h2 hk (by simp);omega
 ·rintro ⟨h0,h1,h2,h3⟩
  exact ⟨h0,h1,fun hk _=>by have:=h2 hk;omega,fun hk=>⟨h3 hk,fun _ _ _ hb=>absurd hb (by simp)⟩⟩
theorem Ch {l l':List Am} (h:l.Perm l'):mO l=mO l':=by
 induction h with
 | nil=>rfl
 | cons a _ ih=>show a.units+_=a.units+_;rw [ih]
 | swap a b l=>show b.units+(a.units+mO l)=a.units+(b.units+mO l);omega
 | trans _ _ h1 h2=>exact h1.trans h2
theorem Comp.perm {r:Rs} {l l':List Am} (h:Comp r l) (p:l.Perm l'):Comp r l' :=
 ⟨h.shp,fun a ha=>h.prm a (p.mem_iff.2 ha),fun hk=>by rw [←Ch p];exact h.sum hk,fun hk=>(p.pairwise_iff (fun {a b} hab=>by rw [DT];exact hab)).1 (h.ok hk)⟩
theorem Comp.tail {r:Rs} {a:Am} {l:List Am} (h:Comp r (a :: l)):Comp r l :=
 ⟨h.shp,fun b hb=>h.prm b (by simp [hb]),fun hk=>by
  have h1:a.units+mO l≤r.units:=h.sum hk
  have h2:=mP (h.prm a (by simp)) hk
  omega,fun hk=>(List.pairwise_cons.1 (h.ok hk)).2⟩
theorem Ci {r:Rs} {a b c:Am} (hk:r.kind=1) (h:aY r a b=true) (ho:DS a c=true):DS b c=true:=by
 unfold aY at h
 simp only [hk,if_true,Bool.and_eq_true,Bool.or_eq_true,Bool.not_eq_true'] at h
 unfold DS at ho ⊢
 simp only [Bool.or_eq_true] at ho ⊢
 rcases h.2 with h1|⟨h1,h2⟩
 ·exact .inl (.inl h1)
 ·rcases ho with (h3|h3)|h3
  ·rw [h1] at h3;cases h3
  ·exact .inl (.inr h3)
  ·refine .inr ?_
   unfold cu at h2
   unfold mJ at h3 ⊢
   simp only [Bool.and_eq_true,Bool.or_eq_true,Bool.not_eq_true',decide_eq_true_eq,decide_eq_false_iff_not] at h2 h3 ⊢
   obtain ⟨⟨h4,h5⟩,h6⟩:=h2
   obtain ⟨⟨⟨⟨h7,h8⟩,h9⟩,h10⟩,h11⟩:=h3
   unfold cn at *
   simp only [Bool.and_eq_true,decide_eq_true_eq] at *
   refine ⟨⟨⟨⟨h5,h8⟩,?_⟩,h10⟩,?_⟩ <;> omega
theorem Comp.lower {r:Rs} {a b:Am} {l:List Am} (h:Comp r (a :: l)) (hc:aY r a b=true):Comp r (b :: l):=by
 have hp:bK r b=true:=by unfold aY at hc;simp only [Bool.and_eq_true] at hc;exact hc.1.2
 refine ⟨h.shp,?_,fun hk=>?_,fun hk=>?_⟩
 ·intro x hx
  rcases List.mem_cons.1 hx with rfl|hx
  ·exact hp
  ·exact h.prm x (by simp [hx])
 ·have h1:a.units+mO l≤r.units:=h.sum hk
  have h2:=mP (h.prm a (by simp)) hk
  show b.units+mO l≤r.units
  unfold aY at hc
  rw [if_neg (show ¬r.kind=1 by omega)] at hc
  simp only [Bool.and_eq_true,Bool.or_eq_true,decide_eq_true_eq] at hc
  rcases hc.2 with h3|h3
  ·unfold aF at h3
   have h4:=of_decide_eq_true h3
   rw [h4]
   show 0+mO l≤r.units
   omega
  ·omega
 ·have hk1:r.kind=1:=by have:=cw h.shp;omega
  obtain ⟨h1,h2⟩:=List.pairwise_cons.1 (h.ok hk)
  exact List.pairwise_cons.2 ⟨fun c hc2=>Ci hk1 hc (h1 c hc2),h2⟩
theorem rP (l:List Ho) (p q:Pr):aj (dq l p) q=if q=p then ⟨0,0⟩ else aj l q:=by
 induction l with
 | nil=>simp [dq,aj]
 | cons x l ih =>
  rw [oV]
  by_cases hx:x.proc=p
  ·rw [decide_eq_true hx,cond_true,ih]
   by_cases hq:q=p
   ·rw [if_pos hq,if_pos hq]
   ·rw [if_neg hq,if_neg hq]
    show _=bif decide (x.proc=q) then _ else _
    rw [decide_eq_false (fun e=>hq (e.symm.trans hx)),cond_false]
  ·rw [decide_eq_false hx,cond_false]
   show (bif decide (x.proc=q) then x.am else aj (dq l p) q)=_
   rw [ih]
   by_cases hq:q=p
   ·rw [if_pos hq,if_pos hq,decide_eq_false (fun e=>hx (e.trans hq)),cond_false]
   ·rw [if_neg hq,if_neg hq]
    rfl
theorem xi (x:Ho) (q:Pr):∀l:List Ho,(∀y∈l,y.proc≠x.proc)→aj (iU x l) q=if q=x.proc then x.am else aj l q
 | [],_=>by
  show (bif decide (x.proc=q) then x.am else ⟨0,0⟩)=_
  by_cases h:q=x.proc
  ·rw [if_pos h,decide_eq_true h.symm];rfl
  ·rw [if_neg h,decide_eq_false (fun e=>h e.symm)];rfl
 | y :: l,hl=>by
  have hy:=hl y (by simp)
  rw [i9]
  cases decide (0<dw y.proc x.proc) with
  | true =>
   show (bif decide (x.proc=q) then x.am else aj (y :: l) q)=_
   by_cases h:q=x.proc
   ·rw [if_pos h,decide_eq_true h.symm];rfl
   ·rw [if_neg h,decide_eq_false (fun e=>h e.symm)];rfl
  | false =>
   show (bif decide (y.proc=q) then y.am else aj (iU x l) q)=_
   rw [xi x q l fun z hz=>hl z (by simp [hz])]
   by_cases h:q=x.proc
   ·rw [if_pos h,if_pos h,decide_eq_false (fun e=>hy (e.trans h)),cond_false]
   ·rw [if_neg h,if_neg h];rfl
theorem AT {l:List Ho} {p:Pr}:∀y∈dq l p,y.proc≠p:=by
 intro y hy
 have:=(List.mem_filter.1 hy).2
 simpa using this
theorem eM (l:List Ho) (p:Pr) (a:Am) (q:Pr):aj (cM l p a) q=if q=p then a else aj l q:=by
 unfold cM
 cases hz:aF a with
 | true =>
  rw [cond_true,rP]
  have:a=⟨0,0⟩:=of_decide_eq_true hz
  rw [this]
 | false =>
  rw [cond_false,xi ⟨p,a⟩ q _ AT]
  show (if q=p then a else aj (dq l p) q)=_
  by_cases h:q=p
  ·rw [if_pos h,if_pos h]
  ·rw [if_neg h,if_neg h,rP,if_neg h]
theorem lS (x:Ho):∀l:List Ho,(iU x l).Perm (x :: l)
 | []=>List.Perm.refl _
 | y :: l=>by
  rw [i9]
  cases decide (0<dw y.proc x.proc) with
  | true=>exact List.Perm.refl _
  | false=>exact ((lS x l).cons y).trans (List.Perm.swap x y l)
theorem xj {x:Ho}:∀{l:List Ho},(dx l).Pairwise f8→(∀y∈l,y.proc≠x.proc)→(dx (iU x l)).Pairwise f8
 | [],_,_=>by simp [iU,dx]
 | y :: l,h,hn=>by
  have h':(y.proc :: dx l).Pairwise f8:=h
  obtain ⟨h1,h2⟩:=List.pairwise_cons.1 h'
  rw [i9]
  have hyx:=hn y (by simp)
  cases hc:decide (0<dw y.proc x.proc) with
  | true =>
   have hlt:f8 x.proc y.proc:=by
    rcases jw x.proc y.proc with h3|h3|h3
    ·exact h3
    ·exact absurd h3.symm hyx
    ·have:=(lL _ _).2 h3
     have:=of_decide_eq_true hc
     omega
   refine List.pairwise_cons.2 ⟨?_,h⟩
   intro z hz
   rcases List.mem_cons.1 (show z∈y.proc :: dx l from hz) with rfl|hz
   ·exact hlt
   ·exact da hlt (h1 z hz)
  | false =>
   have hlt:f8 y.proc x.proc:=by
    rcases jw x.proc y.proc with h3|h3|h3
    ·have h4:0<dw y.proc x.proc:=by
      rcases dV y.proc x.proc with ⟨h5,_⟩|⟨h5,_⟩|⟨_,h6⟩
      ·exact absurd h3 (lK h5)
      ·exact absurd h5 hyx
      ·omega
     rw [decide_eq_true h4] at hc
     cases hc
    ·exact absurd h3.symm hyx
    ·exact h3
   show (y.proc :: dx (iU x l)).Pairwise f8
   refine List.pairwise_cons.2 ⟨?_,xj h2 fun z hz=>hn z (by simp [hz])⟩
   intro z hz
   obtain ⟨u,hu,rfl⟩:=List.mem_map.1 hz
   rcases List.mem_cons.1 ((lS x l).mem_iff.1 hu) with rfl|hu
   ·exact hlt
   ·exact h1 _ (List.mem_map.2 ⟨u,hu,rfl⟩)
theorem lq {l:List Ho} {p:Pr} (h:aj l p≠⟨0,0⟩):∃x∈l,x.proc=p∧x.am=aj l p:=by
 induction l with
 | nil=>exact absurd rfl h
 | cons x l ih =>
  by_cases hx:x.proc=p
  ·refine ⟨x,by simp,hx,?_⟩
   show x.am=bif decide (x.proc=p) then x.am else aj l p
   rw [decide_eq_true hx];rfl
  ·have e:aj (x :: l) p=aj l p:=by
    show (bif decide (x.proc=p) then x.am else aj l p)=_
    rw [decide_eq_false hx];rfl
   rw [e] at h ⊢
   obtain ⟨y,h1,h2⟩:=ih h
   exact ⟨y,by simp [h1],h2⟩
structure Hv (r:Rs) (l:List Ho):Prop where
 shp:be r=true
 len:l.length≤8
 fit:∀x∈l,fo x.proc=true∧aC r x.am=true
 asc:(dx l).Pairwise f8
 cmp:Comp r (ie l)
theorem AU {r:Rs} {l:List Ho}:tf r l=true↔Hv r l:=by
 unfold tf
 simp only [Bool.and_eq_true,decide_eq_true_eq,xh,Cg]
 constructor
 ·rintro ⟨⟨⟨h1,h2⟩,h3,h4,_⟩,h5⟩
  exact ⟨h1,h2,h3,h4,h5⟩
 ·rintro ⟨h1,h2,h3,h4,h5⟩
  exact ⟨⟨⟨h1,h2⟩,h3,h4,fun q hq=>by cases hq⟩,h5⟩
theorem pi {l:List Ho} {x:Ho} (ha:(dx l).Pairwise f8) (hx:x∈l):l.Perm (x :: dq l x.proc):=by
 induction l with
 | nil=>cases hx
 | cons y l ih =>
  have ha':(y.proc :: dx l).Pairwise f8:=ha
  obtain ⟨h1,h2⟩:=List.pairwise_cons.1 ha'
  rw [oV]
  rcases List.mem_cons.1 hx with rfl|hx
  ·rw [decide_eq_true rfl,cond_true]
   have:dq l x.proc=l:=by
    unfold dq
    rw [List.filter_eq_self]
    intro z hz
    have h3:=h1 z.proc (List.mem_map.2 ⟨z,hz,rfl⟩)
    have h4:z.proc≠x.proc:=fun e=>bH _ (e▸h3)
    simpa using h4
   rw [this]
  ·have h3:=h1 x.proc (List.mem_map.2 ⟨x,hx,rfl⟩)
   have h4:y.proc≠x.proc:=fun e=>bH _ (e▸h3)
   rw [decide_eq_false h4,cond_false]
   exact ((ih h2 hx).cons y).trans (List.Perm.swap x y _)
theorem xk {l:List Ho} (p:Pr) (h:(dx l).Pairwise f8):(dx (dq l p)).Pairwise f8:=by
 unfold dx dq
 exact h.sublist ((List.filter_sublist).map _)
theorem DU {l:List Ho} {p:Pr} (h:∀x∈l,x.proc≠p):dq l p=l:=by
 unfold dq
 rw [List.filter_eq_self]
 intro x hx
 simpa using h x hx
theorem Hv.fil {r:Rs} {l:List Ho} (h:Hv r l) (p:Pr):Hv r (dq l p):=by
 refine ⟨h.shp,Nat.le_trans (nz l p) h.len,fun x hx=>h.fit x (List.mem_filter.1 hx).1,xk p h.asc,?_⟩
 by_cases hp:∃x∈l,x.proc=p
 ·obtain ⟨x,hx,rfl⟩:=hp
  exact (h.cmp.perm ((pi h.asc hx).map _)).tail
 ·rw [DU fun x hx e=>hp ⟨x,hx,e⟩]
  exact h.cmp
theorem Hv.lower {r:Rs} {l:List Ho} (h:Hv r l) {p:Pr} {a:Am} (hc:aY r (aj l p) a=true) (h0:aj l p≠⟨0,0⟩):Hv r (cM l p a)∧(cM l p a).length≤l.length:=by
 unfold cM
 cases hz:aF a with
 | true=>exact ⟨h.fil p,nz l p⟩
 | false =>
  obtain ⟨x,hx,hp,ham⟩:=lq h0
  subst hp
  rw [←ham] at hc
  have hs:=pi h.asc hx
  have hl:(dq l x.proc).length+1=l.length:=by rw [hs.length_eq];rfl
  have hlen:(iU ⟨x.proc,a⟩ (dq l x.proc)).length=l.length:=by rw [nE,hl]
  rw [cond_false]
  refine ⟨⟨h.shp,by rw [hlen];exact h.len,?_,xj (xk _ h.asc) AT,?_⟩,Nat.le_of_eq hlen⟩
  ·intro y hy
   rcases List.mem_cons.1 ((lS _ _).mem_iff.1 hy) with rfl|hy
   ·refine ⟨(h.fit x hx).1,?_⟩
    unfold aY bK at hc
    simp only [Bool.and_eq_true,Bool.or_eq_true] at hc
    rcases hc.1.2.2 with h1|h1
    ·rw [hz] at h1;cases h1
    ·exact h1
   ·exact h.fit y (List.mem_filter.1 hy).1
  ·have h1:Comp r (x.am :: ie (dq l x.proc)):=h.cmp.perm (hs.map _)
   have h2:=h1.lower hc
   exact h2.perm (by have:=(lS ⟨x.proc,a⟩ (dq l x.proc)).symm.map Ho.am;exact this)
theorem qh {p:Pr}:∀{l:List Wt} {k:Nat},(∀x∈l,x.proc≠p)→fQ p k l = -1
 | [],_,_=>rfl
 | x :: l,k,h=>by
  rw [fd,decide_eq_false (h x (by simp)),cond_false]
  exact qh fun y hy=>h y (by simp [hy])
theorem qi {p:Pr}:∀{l:List Wt} {k:Nat},(∃x∈l,x.proc=p)→(k:Int)≤fQ p k l∧fQ p k l<(k:Int)+l.length
 | [],_,h=>by obtain ⟨_,h,_⟩:=h;cases h
 | x :: l,k,h=>by
  rw [fd]
  by_cases hx:x.proc=p
  ·rw [decide_eq_true hx,cond_true,List.length_cons]
   omega
  ·rw [decide_eq_false hx,cond_false,List.length_cons]
   have h2:∃y∈l,y.proc=p:=by
    obtain ⟨y,hy,e⟩:=h
    rcases List.mem_cons.1 hy with rfl|hy
    ·exact absurd e hx
    ·exact ⟨y,hy,e⟩
   have:=qi (k:=k+1) h2
   omega
theorem Cj {l:List Wt} {p:Pr}:cq l p<0↔∀x∈l,x.proc≠p:=by
 constructor
 ·intro h x hx e
  have:=(qi (k:=0) ⟨x,hx,e⟩).1
  unfold cq at h
  omega
 ·intro h
  unfold cq
  rw [qh h]
  omega
theorem rQ:∀(l:List Wt) (k:Nat) (all:List Wt) (pre:List Wt),all=pre++l→k=pre.length→(bC pre).Nodup→((∀j (h:j<l.length),cq all l[j].proc=((k+j:Nat):Int))↔(bC all).Nodup)
 | [],k,all,pre,hall,_,hp=>by
  subst hall
  simpa using hp
 | x :: l,k,all,pre,hall,hk,hp=>by
  have hx:cq all x.proc=(k:Int)↔∀y∈pre,y.proc≠x.proc:=by
   have gen:∀(pre:List Wt) (k0:Nat),fQ x.proc k0 (pre++x :: l)=((k0+pre.length:Nat):Int)↔∀y∈pre,y.proc≠x.proc:=by
    intro pre
    induction pre with
    | nil=>intro k0;simp [fd]
    | cons y pre ih =>
     intro k0
     rw [List.cons_append,fd,List.length_cons]
     by_cases hy:y.proc=x.proc
     ·rw [decide_eq_true hy,cond_true]
      constructor
      ·intro h;omega
      ·intro h;exact absurd hy (h y (by simp))
     ·rw [decide_eq_false hy,cond_false]
      have h1:=ih (k0+1)
      have e1:((k0+(pre.length+1):Nat):Int)=((k0+1+pre.length:Nat):Int):=by omega
      rw [e1,h1]
      constructor
      ·intro h z hz
       rcases List.mem_cons.1 hz with rfl|hz
       ·exact hy
       ·exact h z hz
      ·intro h z hz;exact h z (by simp [hz])
   rw [hall,hk]
   have:=gen pre 0
   rwa [Nat.zero_add] at this
  have ih:=fun hp2=>rQ l (k+1) all (pre++[x]) (by rw [hall];simp) (by simp [hk]) hp2
  have hpx:(bC (pre++[x])).Nodup↔∀y∈pre,y.proc≠x.proc:=by
   unfold bC at hp ⊢
   rw [List.map_append,List.nodup_append]
   constructor
   ·rintro ⟨_,_,h⟩ y hy
    exact h y.proc (List.mem_map.2 ⟨y,hy,rfl⟩) x.proc (by simp)
   ·intro h
    refine ⟨hp,by simp,?_⟩
    intro a ha b hb
    obtain ⟨y,hy,rfl⟩:=List.mem_map.1 ha
    simp at hb
    subst hb
    exact h y hy
  constructor
  ·intro h
   have h0:cq all x.proc=(k:Int):=by have:=h 0 (by simp);simpa using this
   refine (ih (hpx.2 (hx.1 h0))).1 fun j hj=>?_
   have:=h (j+1) (by simp;omega)
   simp only [List.getElem_cons_succ] at this
   rw [this]
   omega
  ·intro h j hj
   have h1:(bC (pre++[x])).Nodup:=by
    have e:bC all=bC (pre++[x])++bC l:=by rw [hall];simp [bC]
    rw [e] at h
    exact (List.nodup_append.1 h).1
   cases j with
   | zero=>simpa using hx.2 (hpx.1 h1)
   | succ j =>
    have:=(ih h1).2 h j (by simp at hj;omega)
    simp only [List.getElem_cons_succ]
    rw [this]
    omega
theorem qj (l:List Wt):(∀j (h:j<l.length),cq l l[j].proc=((j:Nat):Int))↔(bC l).Nodup:=by
 have:=rQ l 0 l [] rfl rfl (by simp [bC])
 simpa using this
theorem xm (all:List Wt):∀(l:List Wt) (k:Nat),uQ all k l=true↔(∀x∈l,qN x=true)∧∀j (h:j<l.length),cq all l[j].proc=((k+j:Nat):Int)
 | [],k=>by simp [uQ]
 | x :: l,k=>by
  rw [tK]
  simp only [Bool.and_eq_true,decide_eq_true_eq,xm all l]
  constructor
  ·rintro ⟨⟨h1,h2⟩,h3,h4⟩
   refine ⟨?_,?_⟩
   ·intro y hy
    rcases List.mem_cons.1 hy with rfl|hy
    ·exact h1
    ·exact h3 y hy
   ·intro j hj
    cases j with
    | zero=>simpa using h2
    | succ j =>
     have:=h4 j (by simp at hj;omega)
     simp only [List.getElem_cons_succ]
     rw [this]
     omega
  ·rintro ⟨h1,h2⟩
   refine ⟨⟨h1 x (by simp),by have:=h2 0 (by simp);simpa using this⟩,fun y hy=>h1 y (by simp [hy]),fun j hj=>?_⟩
   have:=h2 (j+1) (by simp;omega)
   simp only [List.getElem_cons_succ] at this
   rw [this]
   omega
theorem lT {l:List Wt}:gj l=true↔l.length≤8∧(∀x∈l,qN x=true)∧(bC l).Nodup:=by
 unfold gj
 simp only [Bool.and_eq_true,decide_eq_true_eq,xm,Nat.zero_add,qj]
structure CvOk (r:Rs) (hs:List Ho) (x:Wt):Prop where
 held:aj hs x.proc≠⟨0,0⟩
 fit:aC r x.am=true
 cov:aY r x.am (aj hs x.proc)=true
 ne:x.am≠aj hs x.proc
 prio:x.prio=0
 passed:x.passed=0
theorem bq {a:Am}:aF a=false↔a≠⟨0,0⟩:=by unfold aF;simp
theorem xn (q:Qu):∀(l:List Wt) (k:Nat),rh q k l=true↔(∀x∈l,CvOk q.res q.holds x)∧∀j (h:j<l.length),cq q.convs l[j].proc=((k+j:Nat):Int)
 | [],k=>by simp [rh]
 | x :: l,k=>by
  rw [tN,Bool.and_eq_true,xn q l]
  have h0:BN q k x=true↔CvOk q.res q.holds x∧cq q.convs x.proc=(k:Int):=by
   unfold BN
   simp only [Bool.and_eq_true,decide_eq_true_eq,Bool.not_eq_true',bq,decide_eq_false_iff_not]
   constructor
   ·rintro ⟨⟨⟨⟨⟨⟨h1,h2⟩,h3⟩,h4⟩,h5⟩,h6⟩,h7⟩
    exact ⟨⟨h2,h3,h4,h5,h6,h7⟩,h1⟩
   ·rintro ⟨⟨h2,h3,h4,h5,h6,h7⟩,h1⟩
    exact ⟨⟨⟨⟨⟨⟨h1,h2⟩,h3⟩,h4⟩,h5⟩,h6⟩,h7⟩
  rw [h0]
  constructor
  ·rintro ⟨⟨h1,h2⟩,h3,h4⟩
   refine ⟨?_,?_⟩
   ·intro y hy
    rcases List.mem_cons.1 hy with rfl|hy
    ·exact h1
    ·exact h3 y hy
   ·intro j hj
    cases j with
    | zero=>simpa using h2
    | succ j =>
     have:=h4 j (by simp at hj;omega)
     simp only [List.getElem_cons_succ]
     rw [this]
     omega
  ·rintro ⟨h1,h2⟩
   refine ⟨⟨h1 x (by simp),by have:=h2 0 (by simp);simpa using this⟩,fun y hy=>h1 y (by simp [hy]),fun j hj=>?_⟩
   have:=h2 (j+1) (by simp;omega)
   simp only [List.getElem_cons_succ] at this
   rw [this]
   omega
theorem xo (q:Qu):∀l:List Wt,nF q l=true↔∀x∈l,aC q.res x.am=true∧aj q.holds x.proc=⟨0,0⟩
 | []=>by simp [nF]
 | x :: l=>by
  rw [tO]
  simp only [Bool.and_eq_true,xo q l]
  have hz:aF (aj q.holds x.proc)=true↔aj q.holds x.proc=⟨0,0⟩:=by unfold aF;simp
  rw [hz]
  constructor
  ·rintro ⟨⟨h1,h2⟩,h3⟩ y hy
   rcases List.mem_cons.1 hy with rfl|hy
   ·exact ⟨h1,h2⟩
   ·exact h3 y hy
  ·intro h
   exact ⟨h x (by simp),fun y hy=>h y (by simp [hy])⟩
structure Sd (q:Qu):Prop where
 res:mI q.res=true
 hv:Hv q.res q.holds
 clen:q.convs.length≤8
 cnd:(bC q.convs).Nodup
 cok:∀x∈q.convs,CvOk q.res q.holds x
 wlen:q.holds.length+q.waits.length≤8
 wnd:(bC q.waits).Nodup
 wok:∀x∈q.waits,qN x=true∧aC q.res x.am=true∧aj q.holds x.proc=⟨0,0⟩
 gen:0≤q.gen∧q.gen≤1073741824
theorem rR {q:Qu}:gM q=true↔Sd q:=by
 unfold gM ML MM
 simp only [Bool.and_eq_true,decide_eq_true_eq,AU,xn,xo,lT,Nat.zero_add,qj]
 constructor
 ·rintro ⟨⟨⟨⟨⟨h1,h2⟩,h3,h4,h5⟩,⟨⟨h6,h7,h8⟩,h9⟩,h10⟩,h11⟩,h12⟩
  exact ⟨h1,h2,h3,h5,h4,h9,h8,fun x hx=>⟨h7 x hx,h10 x hx⟩,h11,h12⟩
 ·rintro ⟨h1,h2,h3,h5,h4,h9,h8,h7,h11,h12⟩
  exact ⟨⟨⟨⟨⟨h1,h2⟩,h3,h4,h5⟩,⟨⟨by omega,fun x hx=>(h7 x hx).1,h8⟩,h9⟩,fun x hx=>(h7 x hx).2⟩,h11⟩,h12⟩
theorem Sd.noboth {q:Qu} (h:Sd q) {x y:Wt} (hx:x∈q.convs) (hy:y∈q.waits):x.proc≠y.proc:=fun e=>by
 have h1:=(h.cok x hx).held
 rw [e,(h.wok y hy).2.2] at h1
 exact h1 rfl
def io (q:Qu) (x:Wt):Qu:=match q.convs with
 | _ :: l=>{ q with convs:=l,holds:=cM q.holds x.proc x.am }
 | []=>{ q with waits:=q.waits.tail,holds:=cM q.holds x.proc x.am }
theorem vu {l:List Ho} {p:Pr} {a:Am} (ha:(dx l).Pairwise f8) (h0:aj l p≠⟨0,0⟩):(cM l p a).length≤l.length:=by
 obtain ⟨x,hx,hp,_⟩:=lq h0
 subst hp
 have hs:=(pi ha hx).length_eq
 rw [List.length_cons] at hs
 unfold cM
 cases aF a with
 | true=>rw [cond_true];omega
 | false=>rw [cond_false,nE];omega
theorem GJ {r:Rs} {l:List Ho} {p:Pr} {a:Am} (h:go r l p a=true):Hv r (cM l p a):=by
 unfold go at h
 rw [Bool.and_eq_true] at h
 exact AU.1 h.2
theorem CvOk.set {r:Rs} {hs:List Ho} {x:Wt} {p:Pr} {a:Am} (h:CvOk r hs x) (hp:x.proc≠p):CvOk r (cM hs p a) x:=by
 have e:aj (cM hs p a) x.proc=aj hs x.proc:=by rw [eM,if_neg hp]
 exact ⟨by rw [e];exact h.held,h.fit,by rw [e];exact h.cov,by rw [e];exact h.ne,h.prio,h.passed⟩
theorem Sd.pop {q:Qu} (h:Sd q) {x:Wt} (hx:dv q=some x) (hr:go q.res q.holds x.proc x.am=true):Sd (io q x):=by
 obtain ⟨res,hs,cs,ws,gen⟩:=q
 unfold dv at hx
 unfold io
 have hv:=GJ hr
 cases cs with
 | cons c l =>
  injection hx with hx
  subst hx
  have hn:(c.proc :: bC l).Nodup:=h.cnd
  rw [List.nodup_cons] at hn
  refine ⟨h.res,hv,by have:=h.clen;simp at this;show l.length≤8;omega,hn.2,?_,?_,h.wnd,?_,h.gen⟩
  ·intro y hy
   exact (h.cok y (by simp [hy])).set fun e=>hn.1 (e▸List.mem_map.2 ⟨y,hy,rfl⟩)
  ·have h1:=vu (a:=c.am) h.hv.asc (h.cok c (by simp)).held
   have h2:=h.wlen
   show (cM hs c.proc c.am).length+ws.length≤8
   simp only at h1 h2
   omega
  ·intro y hy
   refine ⟨(h.wok y hy).1,(h.wok y hy).2.1,?_⟩
   show aj (cM hs c.proc c.am) y.proc=_
   rw [eM,if_neg (fun e=>h.noboth (x:=c) (by simp) hy e.symm)]
   exact (h.wok y hy).2.2
 | nil =>
  cases ws with
  | nil=>cases hx
  | cons c l =>
   have hx':some c=some x:=hx
   injection hx' with hx'
   subst hx'
   have hn:(c.proc :: bC l).Nodup:=h.wnd
   rw [List.nodup_cons] at hn
   refine ⟨h.res,hv,by simp,by simp [bC],fun y hy=>absurd hy (by simp),?_,hn.2,?_,h.gen⟩
   ·have h1:=wN hs c.proc c.am
    have h2:=h.wlen
    show (cM hs c.proc c.am).length+l.length≤8
    simp only [List.length_cons] at h2
    omega
   ·intro y hy
    have hy':y∈l:=hy
    refine ⟨(h.wok y (by simp [hy'])).1,(h.wok y (by simp [hy'])).2.1,?_⟩
    show aj (cM hs c.proc c.am) y.proc=_
    rw [eM,if_neg (show ¬y.proc=c.proc from fun e=>hn.1 (e▸List.mem_map.2 ⟨y,hy',rfl⟩))]
    exact (h.wok y (by simp [hy'])).2.2
def eN:Nat→Qu→List Ho→Qu×List Ho
 | 0,q,acc=>(q,acc)
 | n+1,q,acc=>match dv q with
  | none=>(q,acc)
  | some x=>bif go q.res q.holds x.proc x.am then eN n (io q x) (acc++[⟨x.proc,x.am⟩]) else (q,acc)
def gP (q:Qu):Nat:=q.convs.length+q.waits.length
def vw (q:Qu):Qu×List Ho:=eN (gP q) q []
theorem zA {q:Qu} {x:Wt} (hx:dv q=some x):gP (io q x)+1=gP q:=by
 obtain ⟨res,hs,cs,ws,gen⟩:=q
 unfold dv at hx
 unfold io gP
 cases cs with
 | cons c l=>simp;omega
 | nil =>
  cases ws with
  | nil=>cases hx
  | cons c l=>simp
theorem dg {q:Qu}:av q=true↔Sd q∧∀x,dv q=some x→go q.res q.holds x.proc x.am=false:=by
 unfold av
 rw [Bool.and_eq_true,rR]
 cases dv q with
 | none=>simp
 | some x=>simp
theorem DV (q:Qu) (x:Wt):(io q x).gen=q.gen∧(io q x).res=q.res:=by
 unfold io
 cases q.convs <;> exact ⟨rfl,rfl⟩
theorem mA:∀(n:Nat) (q:Qu) (acc:List Ho),Sd q→gP q≤n→av (eN n q acc).1=true∧(eN n q acc).1.gen=q.gen∧(eN n q acc).1.res=q.res
 | 0,q,acc,h,hn=>by
  refine ⟨dg.2 ⟨h,fun x hx=>?_⟩,rfl,rfl⟩
  have:=zA (show dv q=some x from hx)
  omega
 | n+1,q,acc,h,hn=>by
  unfold eN
  cases hx:dv q with
  | none=>exact ⟨dg.2 ⟨h,fun x hx2=>by rw [hx] at hx2;cases hx2⟩,rfl,rfl⟩
  | some x =>
   dsimp only
   cases hr:go q.res q.holds x.proc x.am with
   | false =>
    rw [cond_false]
    refine ⟨dg.2 ⟨h,fun y hy=>?_⟩,rfl,rfl⟩
    rw [hx] at hy
    injection hy with hy
    subst hy
    exact hr
   | true =>
    rw [cond_true]
    have h1:=zA hx
    have h2:=mA n (io q x) (acc++[⟨x.proc,x.am⟩]) (h.pop hx hr) (by omega)
    have h3:=DV q x
    exact ⟨h2.1,h2.2.1.trans h3.1,h2.2.2.trans h3.2⟩
theorem vy {q:Qu} (h:Sd q):av (vw q).1=true∧(vw q).1.gen=q.gen∧(vw q).1.res=q.res:=mA _ q [] h (Nat.le_refl _)
def fN (q:Qu):Qu×List Ho:=({ (vw q).1 with gen:=bj q.gen },(vw q).2)
theorem nU {n:Int}:1≤bj n∧bj n≤1073741824:=by unfold bj;split <;> omega
theorem Sd.regen {q:Qu} (h:Sd q) {g:Int} (hg:0≤g∧g≤1073741824):Sd { q with gen:=g }:=⟨h.res,h.hv,h.clen,h.cnd,h.cok,h.wlen,h.wnd,h.wok,hg⟩
theorem nV {q:Qu} (h:Sd q):av (fN q).1=true∧(fN q).1.res=q.res:=by
 have h1:=vy h
 obtain ⟨h2,h3⟩:=dg.1 h1.1
 refine ⟨dg.2 ⟨h2.regen (by have:=nU (n:=q.gen);omega),fun x hx=>h3 x hx⟩,h1.2.2⟩
def pj (a b:Int):Int:=bif cu 1 a && cu 1 b then 1 else bif cu 2 a && cu 2 b then 2 else bif cu 3 a && cu 3 b then 3 else bif cu 4 a && cu 4 b then 4 else bif cu 5 a && cu 5 b then 5 else 0
def bG (r:Rs) (a b:Am):Am:=bif bK r a && bK r b then (bif aY r a b then a else bif aY r b a then b else ⟨pj a.mode b.mode,0⟩) else ⟨0,0⟩
theorem JA {h a:Int} (h1:cn h=true) (h2:cn a=true) (hc:cu h a=false) :
  cn (bif cu a h then a else pj h a)=true∧cu (bif cu a h then a else pj h a) h=true∧cu (bif cu a h then a else pj h a) a=true∧(bif cu a h then a else pj h a)≠h:=by
 unfold cn at h1 h2
 simp only [Bool.and_eq_true,decide_eq_true_eq] at h1 h2
 have e1:h=1∨h=2∨h=3∨h=4∨h=5:=by omega
 have e2:a=1∨a=2∨a=3∨a=4∨a=5:=by omega
 rcases e1 with rfl|rfl|rfl|rfl|rfl <;> rcases e2 with rfl|rfl|rfl|rfl|rfl <;> first|(exact absurd hc (by decide))|decide
theorem cJ {r:Rs} {a:Am} (h:aC r a=true):bK r a=true:=by
 have h2:=h
 unfold aC at h2
 unfold bK
 rw [Bool.and_eq_true] at h2 ⊢
 exact ⟨h2.1,by rw [h,Bool.or_true]⟩
theorem dT {r:Rs} {a:Am} (h:aC r a=true):aF a=false:=by
 rw [bq]
 rintro rfl
 unfold aC cn at h
 simp at h
theorem rS {r:Rs} {a:Am} (h:aC r a=true):aY r a a=true:=by
 have hp:=cJ h
 have hz:=dT h
 unfold aY
 rw [hp,hz]
 unfold aC at h
 by_cases hk:r.kind=1
 ·rw [if_pos hk] at h
  rw [if_pos hk]
  simp only [Bool.and_eq_true] at h
  unfold cu
  simp [h.2.1]
 ·simp [hk]
theorem AV {r:Rs} {h a:Am} (h1:aC r h=true) (h2:aC r a=true) (hc:aY r h a=false) :
  aC r (bG r h a)=true∧aY r (bG r h a) h=true∧aY r (bG r h a) a=true∧bG r h a≠h:=by
 have p1:=cJ h1
 have p2:=cJ h2
 have z1:=dT h1
 have z2:=dT h2
 have hs:be r=true:=by unfold aC at h1;rw [Bool.and_eq_true] at h1;exact h1.1
 unfold bG
 rw [p1,p2,hc]
 simp only [Bool.and_true,cond_true,cond_false]
 rcases cw hs with ⟨hk,_⟩|⟨hk,_⟩
 ·obtain ⟨hm,hu⟩:=h
  obtain ⟨am,au⟩:=a
  have f1:=h1
  have f2:=h2
  unfold aC at f1 f2
  rw [if_pos hk] at f1 f2
  simp only [Bool.and_eq_true,decide_eq_true_eq] at f1 f2
  obtain ⟨_,m1,rfl⟩:=f1
  obtain ⟨_,m2,rfl⟩:=f2
  have cv:∀x y:Int,cn x=true→cn y=true→aY r ⟨x,0⟩ ⟨y,0⟩=cu x y:=by
   intro x y hx hy
   have ft:∀z:Int,cn z=true→aC r ⟨z,0⟩=true:=by intro z hz;unfold aC;rw [if_pos hk,hs,hz];rfl
   have p3:=cJ (ft x hx)
   have p4:=cJ (ft y hy)
   have z3:=dT (ft x hx)
   have z4:=dT (ft y hy)
   unfold aY
   rw [p3,p4,z3,z4,if_pos hk]
   rfl
  rw [cv _ _ m1 m2] at hc
  obtain ⟨s1,s2,s3,s4⟩:=JA m1 m2 hc
  rw [cv _ _ m2 m1]
  have e:(bif cu am hm then (⟨am,0⟩:Am) else ⟨pj hm am,0⟩)=⟨bif cu am hm then am else pj hm am,0⟩:=by cases cu am hm <;> rfl
  rw [e,cv _ _ s1 m1,cv _ _ s1 m2]
  refine ⟨?_,s2,s3,?_⟩
  ·unfold aC
   rw [if_pos hk,hs,s1]
   rfl
  ·intro h
   injection h with h
   exact s4 h
 ·have hk1:¬r.kind=1:=by omega
  have hc2:h.units<a.units:=by
   unfold aY at hc
   rw [p1,p2,z1,z2,if_neg hk1] at hc
   simpa using hc
  have c2:aY r a h=true:=by
   unfold aY
   rw [p1,p2,z1,z2,if_neg hk1]
   simp
   omega
  rw [c2,cond_true]
  exact ⟨h2,c2,rS h2,fun e=>by rw [e] at hc2;omega⟩
def jZ (x:Wt):Wt:={ x with passed:=x.passed+1 }
def eD (w:Wt) (l:List Wt):Nat→Nat
 | 0=>0
 | n+1=>match l[n]? with
  | none=>n+1
  | some x=>bif decide (x.prio<w.prio) && decide (x.passed<3) then eD w l n else n+1
def iW (l:List Wt) (w:Wt):List Wt:=l.take (eD w l l.length)++w :: (l.drop (eD w l l.length)).map jZ
theorem qX (w:Wt) (l:List Wt):∀n,eD w l n≤n
 | 0=>Nat.le_refl _
 | n+1=>by
  unfold eD
  cases l[n]? with
  | none=>exact Nat.le_refl _
  | some x =>
   dsimp only
   cases decide (x.prio<w.prio) && decide (x.passed<3) with
   | true=>have:=qX w l n;simp only [cond_true];omega
   | false=>exact Nat.le_refl _
theorem tZ (w:Wt) (l:List Wt):∀n j x,eD w l n≤j→j<n→l[j]? = some x→x.prio<w.prio∧x.passed<3
 | 0,_,_,_,h,_=>absurd h (by omega)
 | n+1,j,x,hk,hj,hx=>by
  unfold eD at hk
  by_cases hjn:j=n
  ·subst hjn
   rw [hx] at hk
   dsimp only at hk
   cases hc:decide (x.prio<w.prio) && decide (x.passed<3) with
   | true=>simpa using hc
   | false=>rw [hc] at hk;simp only [cond_false] at hk;omega
  ·cases hn:l[n]? with
   | none=>rw [hn] at hk;dsimp only at hk;omega
   | some y =>
    rw [hn] at hk
    dsimp only at hk
    cases hc:decide (y.prio<w.prio) && decide (y.passed<3) with
    | true=>rw [hc] at hk;exact tZ w l n j x hk (by omega) hx
    | false=>rw [hc] at hk;simp only [cond_false] at hk;omega
theorem xp (l:List Wt) (w:Wt):(iW l w).length=l.length+1:=by
 unfold iW
 have:=qX w l l.length
 simp
 omega
theorem zB (l:List Wt) (w:Wt):(bC (iW l w)).Perm (w.proc :: bC l):=by
 have e:bC (iW l w)=bC (l.take (eD w l l.length))++w.proc :: bC (l.drop (eD w l l.length)):=by
  unfold iW bC
  rw [List.map_append,List.map_cons,List.map_map]
  rfl
 have e2:bC l=bC (l.take (eD w l l.length))++bC (l.drop (eD w l l.length)):=by
  unfold bC
  rw [←List.map_append,List.take_append_drop]
 rw [e]
 conv=>rhs;rw [e2]
 exact List.perm_middle
theorem rT {l:List Wt} {w x:Wt} (hx:x∈iW l w):x=w∨x∈l∨∃y∈l,x=jZ y∧y.prio<w.prio∧y.passed<3:=by
 unfold iW at hx
 rcases List.mem_append.1 hx with hx|hx
 ·exact .inr (.inl (List.mem_of_mem_take hx))
 ·rcases List.mem_cons.1 hx with hx|hx
  ·exact .inl hx
  ·obtain ⟨y,hy,rfl⟩:=List.mem_map.1 hx
   obtain ⟨j,hj,e⟩:=List.mem_iff_getElem.1 hy
   rw [List.getElem_drop] at e
   rw [List.length_drop] at hj
   have h1:=tZ w l l.length (eD w l l.length+j) y (by omega) (by omega) (by rw [List.getElem?_eq_getElem (by omega),e])
   exact .inr (.inr ⟨y,List.mem_of_mem_drop hy,rfl,h1⟩)
theorem dR {l:List Wt} {p:Pr}:fK l p=none↔∀x∈l,x.proc≠p:=by
 induction l with
 | nil=>simp [fK]
 | cons x l ih =>
  rw [b9]
  by_cases hx:x.proc=p
  ·rw [decide_eq_true hx,cond_true]
   constructor
   ·intro h;cases h
   ·intro h;exact absurd hx (h x (by simp))
  ·rw [decide_eq_false hx,cond_false,ih]
   constructor
   ·intro h y hy
    rcases List.mem_cons.1 hy with rfl|hy
    ·exact hx
    ·exact h y hy
   ·intro h y hy;exact h y (by simp [hy])
theorem Ck {l:List Wt} {p:Pr} {a:Am} (h:fK l p=some a):∃x∈l,x.proc=p∧x.am=a:=by
 induction l with
 | nil=>cases h
 | cons x l ih =>
  rw [b9] at h
  by_cases hx:x.proc=p
  ·rw [decide_eq_true hx,cond_true] at h
   injection h with h
   exact ⟨x,by simp,hx,h⟩
  ·rw [decide_eq_false hx,cond_false] at h
   obtain ⟨y,h1,h2⟩:=ih h
   exact ⟨y,by simp [h1],h2⟩
theorem fC (l m:List Wt) (p:Pr):fK (l++m) p=match fK l p with|some a=>some a|none=>fK m p:=by
 induction l with
 | nil=>rfl
 | cons x l ih =>
  rw [List.cons_append,b9,b9]
  cases decide (x.proc=p) with
  | true=>rfl
  | false=>exact ih
theorem rU {l:List Wt} {x:Wt} (hn:(bC l).Nodup) (hx:x∈l):fK l x.proc=some x.am:=by
 induction l with
 | nil=>cases hx
 | cons y l ih =>
  have hn':(y.proc :: bC l).Nodup:=hn
  rw [List.nodup_cons] at hn'
  rw [b9]
  rcases List.mem_cons.1 hx with rfl|hx
  ·rw [decide_eq_true rfl];rfl
  ·have:y.proc≠x.proc:=fun e=>hn'.1 (e▸List.mem_map.2 ⟨x,hx,rfl⟩)
   rw [decide_eq_false this,cond_false]
   exact ih hn'.2 hx
theorem Sd.nd {q:Qu} (h:Sd q):(bC (q.convs++q.waits)).Nodup:=by
 unfold bC
 rw [List.map_append,List.nodup_append]
 refine ⟨h.cnd,h.wnd,?_⟩
 intro a ha b hb
 obtain ⟨x,hx,rfl⟩:=List.mem_map.1 ha
 obtain ⟨y,hy,rfl⟩:=List.mem_map.1 hb
 exact h.noboth hx hy
theorem GK {q:Qu} (h:Sd q) {x:Wt} (hx:dv q=some x) (p:Pr):(p≠x.proc∧aj (io q x).holds p=aj q.holds p∧ai (io q x) p=ai q p)∨(p=x.proc∧ai q p=some x.am∧aj (io q x).holds p=x.am∧ai (io q x) p=none):=by
 have hn:=h.nd
 obtain ⟨res,hs,cs,ws,gen⟩:=q
 unfold dv at hx
 unfold io ai
 cases cs with
 | cons c l =>
  injection hx with hx
  subst hx
  have hn':(c.proc :: bC (l++ws)).Nodup:=hn
  rw [List.nodup_cons] at hn'
  dsimp only
  rw [List.cons_append,b9,eM]
  by_cases hp:p=c.proc
  ·subst hp
   refine .inr ⟨rfl,by rw [decide_eq_true rfl];rfl,by rw [if_pos rfl],?_⟩
   rw [dR]
   intro y hy e
   exact hn'.1 (e▸List.mem_map.2 ⟨y,hy,rfl⟩)
  ·exact .inl ⟨hp,by rw [if_neg hp],by rw [decide_eq_false (fun e=>hp e.symm)];rfl⟩
 | nil =>
  cases ws with
  | nil=>cases hx
  | cons c l =>
   have hx':some c=some x:=hx
   injection hx' with hx'
   subst hx'
   have hn':(c.proc :: bC l).Nodup:=hn
   rw [List.nodup_cons] at hn'
   dsimp only
   rw [List.nil_append,List.nil_append,List.tail_cons,b9,eM]
   by_cases hp:p=c.proc
   ·subst hp
    refine .inr ⟨rfl,by rw [decide_eq_true rfl];rfl,by rw [if_pos rfl],?_⟩
    rw [dR]
    intro y hy e
    exact hn'.1 (e▸List.mem_map.2 ⟨y,hy,rfl⟩)
   ·exact .inl ⟨hp,by rw [if_neg hp],by rw [decide_eq_false (fun e=>hp e.symm)];rfl⟩
theorem AX:∀(n:Nat) (q:Qu) (acc:List Ho),Sd q→∀p,(aj (eN n q acc).1.holds p=aj q.holds p∧ai (eN n q acc).1 p=ai q p)∨∃a,ai q p=some a∧aj (eN n q acc).1.holds p=a∧ai (eN n q acc).1 p=none
 | 0,q,acc,_,p=>.inl ⟨rfl,rfl⟩
 | n+1,q,acc,h,p=>by
  unfold eN
  cases hx:dv q with
  | none=>exact .inl ⟨rfl,rfl⟩
  | some x =>
   dsimp only
   cases hr:go q.res q.holds x.proc x.am with
   | false=>exact .inl ⟨rfl,rfl⟩
   | true =>
    rw [cond_true]
    have h1:=AX n (io q x) (acc++[⟨x.proc,x.am⟩]) (h.pop hx hr) p
    rcases GK h hx p with ⟨_,h2,h3⟩|⟨_,h2,h3,h4⟩
    ·rw [h2,h3] at h1
     exact h1
    ·rcases h1 with ⟨h5,h6⟩|⟨a,h5,_⟩
     ·exact .inr ⟨x.am,h2,h5.trans h3,h6.trans h4⟩
     ·rw [h4] at h5
      cases h5
theorem t6:∀(n:Nat) (q:Qu) (acc:List Ho),∀x∈(eN n q acc).1.waits,x∈q.waits
 | 0,q,acc,x,hx=>hx
 | n+1,q,acc,x,hx=>by
  unfold eN at hx
  cases hh:dv q with
  | none=>rw [hh] at hx;exact hx
  | some y =>
   rw [hh] at hx
   dsimp only at hx
   cases hr:go q.res q.holds y.proc y.am with
   | false=>rw [hr] at hx;exact hx
   | true =>
    rw [hr,cond_true] at hx
    have h1:=t6 n (io q y) _ x hx
    unfold io at h1
    split at h1
    ·exact h1
    ·exact List.mem_of_mem_tail h1
def vz:Qu:=⟨⟨⟨#[]⟩,0,0,0⟩,[],[],[],0⟩
def ck (l:List Wt) (p:Pr):List Wt:=l.filter fun x=>!decide (x.proc=p)
theorem ip {l:List Wt} {p:Pr} {x:Wt}:x∈ck l p↔x∈l∧x.proc≠p:=by unfold ck;simp
theorem AY {l:List Wt} (p:Pr) (h:(bC l).Nodup):(bC (ck l p)).Nodup:=h.sublist ((List.filter_sublist).map _)
theorem iq (l:List Wt) (p:Pr):(ck l p).length≤l.length:=List.length_filter_le _ _
theorem xq (l:List Wt) (p r:Pr):fK (ck l p) r=if r=p then none else fK l r:=by
 by_cases hr:r=p
 ·rw [if_pos hr,dR]
  intro x hx e
  exact (ip.1 hx).2 (e.trans hr)
 ·rw [if_neg hr]
  induction l with
  | nil=>rfl
  | cons x l ih =>
   rw [b9]
   unfold ck at ih ⊢
   rw [List.filter_cons]
   by_cases hx:x.proc=p
   ·rw [decide_eq_true hx,Bool.not_true,if_neg (by simp),ih,decide_eq_false (fun e=>hr (e.symm.trans hx)),cond_false]
   ·rw [decide_eq_false hx,Bool.not_false,if_pos rfl,b9,ih]
def kf (l:List Wt) (w:Wt):Int×List Wt :=
 bif !gj l then (2,[]) else bif !(qN w && decide (w.passed=0)) then (1,[]) else bif decide (0≤cq l w.proc) then (11,[]) else bif decide (l.length=8) then (4,[]) else (0,iW l w)
def lU (r:Qu×List Ho):Qu×List Ho×Int:=(r.1,r.2,0)
def bN (e:Int):Qu×List Ho×Int:=(vz,[],e)
def bt (q:Qu) (p:Pr) (a:Am) (prio:Int):Qu×List Ho×Int :=
 bif !av q then bN 2 else
 bif !(fo p && decide (0≤prio) && decide (prio≤7)) then bN 1 else
 bif !aC q.res a then bN 12 else
 bif (ai q p).isSome then bN 14 else
 bif aY q.res (aj q.holds p) a then lU (q,[]) else
 bif !aF (aj q.holds p) then lU (fN { q with convs:=q.convs++[⟨p,bG q.res (aj q.holds p) a,0,0⟩] }) else
 bif decide (8≤q.holds.length+q.waits.length) then bN 4 else
 bif !decide ((kf q.waits ⟨p,a,prio,0⟩).1=0) then bN (kf q.waits ⟨p,a,prio,0⟩).1 else
 lU (fN { q with waits:=(kf q.waits ⟨p,a,prio,0⟩).2 })
def bo (q:Qu) (p:Pr):Qu×List Ho×Int :=
 bif !av q then bN 2 else bif !(ai q p).isSome then bN 10 else lU (fN { q with convs:=ck q.convs p,waits:=ck q.waits p })
def bz (q:Qu) (p:Pr) (a:Am):Qu×List Ho×Int :=
 bif !av q then bN 2 else bif aF (aj q.holds p) then bN 10 else bif (ai q p).isSome then bN 14 else bif !aY q.res (aj q.holds p) a then bN 12 else
 bif decide (aj q.holds p=a) then lU (q,[]) else lU (fN { q with holds:=cM q.holds p a })
def eF (q:Qu) (p:Pr):Bool:=(ai q p).isSome || !aF (aj q.holds p)
def bg (q:Qu) (p:Pr):Qu×List Ho×Int :=
 bif !av q then bN 2 else bif !eF q p then bN 10 else lU (fN { q with holds:=cM q.holds p ⟨0,0⟩,convs:=ck q.convs p,waits:=ck q.waits p })
theorem ir {l m:List Pr} (hn:l.Nodup) (hs:∀x∈l,x∈m):l.length≤m.length:=by
 induction l generalizing m with
 | nil=>exact Nat.zero_le _
 | cons x l ih =>
  rw [List.nodup_cons] at hn
  have hx:=hs x (by simp)
  have h1:=ih (m:=m.erase x) hn.2 fun y hy=>(List.mem_erase_of_ne (fun (e:y=x)=>hn.1 (e▸hy))).2 (hs y (by simp [hy]))
  have h2:=List.length_erase_of_mem hx
  have h3:=List.length_pos_of_mem hx
  rw [List.length_cons]
  omega
theorem Sd.cons {q:Qu} (h:Sd q) {p:Pr} {a:Am} (hh:aj q.holds p≠⟨0,0⟩) (hw:ai q p=none) (hf:aC q.res a=true) (hc:aY q.res (aj q.holds p) a=false) :
  Sd { q with convs:=q.convs++[⟨p,bG q.res (aj q.holds p) a,0,0⟩] }:=by
 have hnone:=dR.1 hw
 obtain ⟨x,hx,hxp,hxa⟩:=lq hh
 have hfh:aC q.res (aj q.holds p)=true:=by rw [←hxa];exact (h.hv.fit x hx).2
 obtain ⟨j1,j2,j3,j4⟩:=AV hfh hf hc
 have hnp:∀y∈q.convs,y.proc≠p:=fun y hy=>hnone y (by simp [hy])
 have hnd:(bC (q.convs++[⟨p,bG q.res (aj q.holds p) a,0,0⟩])).Nodup:=by
  unfold bC
  rw [List.map_append,List.nodup_append]
  refine ⟨h.cnd,by simp,?_⟩
  intro u hu v hv
  obtain ⟨y,hy,rfl⟩:=List.mem_map.1 hu
  simp at hv
  subst hv
  exact hnp y hy
 have hcok:∀y∈q.convs++[⟨p,bG q.res (aj q.holds p) a,0,0⟩],CvOk q.res q.holds y:=by
  intro y hy
  rcases List.mem_append.1 hy with hy|hy
  ·exact h.cok y hy
  ·rw [List.mem_singleton] at hy
   subst hy
   exact ⟨hh,j1,j2,j4,rfl,rfl⟩
 refine ⟨h.res,h.hv,?_,hnd,hcok,h.wlen,h.wnd,h.wok,h.gen⟩
 have hsub:∀u∈bC (q.convs++[⟨p,bG q.res (aj q.holds p) a,0,0⟩]),u∈dx q.holds:=by
  intro u hu
  obtain ⟨y,hy,rfl⟩:=List.mem_map.1 hu
  obtain ⟨z,hz,hzp,_⟩:=lq (hcok y hy).held
  exact List.mem_map.2 ⟨z,hz,hzp⟩
 have h1:=ir hnd hsub
 have h2:=h.hv.len
 unfold bC dx at h1
 rw [List.length_map,List.length_map] at h1
 exact Nat.le_trans h1 h2
theorem lr {r:Rs} {a:Am} (h:aC r a=true):aR a=true:=by
 have hs:be r=true:=by unfold aC at h;rw [Bool.and_eq_true] at h;exact h.1
 unfold aC at h
 unfold aR
 rcases cw hs with ⟨hk,_⟩|⟨hk,h1,h2⟩
 ·rw [if_pos hk] at h
  simp only [Bool.and_eq_true,decide_eq_true_eq] at h
  simp [h.2.1,h.2.2]
 ·rw [if_neg (by omega)] at h
  simp only [Bool.and_eq_true,decide_eq_true_eq] at h
  simp only [Bool.or_eq_true,Bool.and_eq_true,decide_eq_true_eq]
  exact .inr ⟨⟨h.2.1.1,h.2.1.2⟩,by omega⟩
theorem Cl {x:Wt} (h:qN x=true):fo x.proc=true∧aR x.am=true∧(0≤x.prio∧x.prio≤7)∧(0≤x.passed∧x.passed≤3):=by
 unfold qN at h
 simp only [Bool.and_eq_true,decide_eq_true_eq] at h
 exact ⟨h.1.1.1.1.1,h.1.1.1.1.2,⟨h.1.1.1.2,h.1.1.2⟩,h.1.2,h.2⟩
theorem DX {x:Wt} (h1:fo x.proc=true) (h2:aR x.am=true) (h3:0≤x.prio∧x.prio≤7) (h4:0≤x.passed∧x.passed≤3):qN x=true:=by
 unfold qN
 simp only [Bool.and_eq_true,decide_eq_true_eq]
 exact ⟨⟨⟨⟨⟨h1,h2⟩,h3.1⟩,h3.2⟩,h4.1⟩,h4.2⟩
theorem Sd.ins {q:Qu} (h:Sd q) {w:Wt} (hh:aj q.holds w.proc=⟨0,0⟩) (hw:ai q w.proc=none) (hf:aC q.res w.am=true) (hv:qN w=true) (hl:q.holds.length+q.waits.length<8) :
  Sd { q with waits:=iW q.waits w }:=by
 have hnone:=dR.1 hw
 refine ⟨h.res,h.hv,h.clen,h.cnd,h.cok,?_,?_,?_,h.gen⟩
 ·show q.holds.length+(iW q.waits w).length≤8
  rw [xp]
  omega
 ·refine (zB q.waits w).nodup_iff.2 (List.nodup_cons.2 ⟨?_,h.wnd⟩)
  intro hm
  obtain ⟨y,hy,e⟩:=List.mem_map.1 hm
  exact hnone y (by simp [hy]) e
 ·intro x hx
  rcases rT hx with rfl|hx|⟨y,hy,rfl,h1,h2⟩
  ·exact ⟨hv,hf,hh⟩
  ·exact h.wok x hx
  ·have h3:=h.wok y hy
   obtain ⟨v1,v2,v3,v4⟩:=Cl h3.1
   exact ⟨DX (x:=jZ y) v1 v2 v3 ⟨by show 0≤y.passed+1;omega,by show y.passed+1≤3;omega⟩,h3.2⟩
theorem Sd.drop {q:Qu} (h:Sd q) (p:Pr):Sd { q with convs:=ck q.convs p,waits:=ck q.waits p } :=
 ⟨h.res,h.hv,Nat.le_trans (iq _ _) h.clen,AY p h.cnd,fun x hx=>h.cok x (ip.1 hx).1,by have h1:=h.wlen;have h2:=iq q.waits p;show q.holds.length+(ck q.waits p).length≤8;omega,AY p h.wnd,fun x hx=>h.wok x (ip.1 hx).1,h.gen⟩
theorem Sd.lower {q:Qu} (h:Sd q) {p:Pr} {a:Am} (hw:ai q p=none) (h0:aj q.holds p≠⟨0,0⟩) (hc:aY q.res (aj q.holds p) a=true):Sd { q with holds:=cM q.holds p a }:=by
 have hnone:=dR.1 hw
 obtain ⟨h1,h2⟩:=h.hv.lower hc h0
 refine ⟨h.res,h1,h.clen,h.cnd,fun x hx=>(h.cok x hx).set (hnone x (by simp [hx])),?_,h.wnd,?_,h.gen⟩
 ·have:=h.wlen
  show (cM q.holds p a).length+q.waits.length≤8
  omega
 ·intro x hx
  refine ⟨(h.wok x hx).1,(h.wok x hx).2.1,?_⟩
  show aj (cM q.holds p a) x.proc=_
  rw [eM,if_neg (hnone x (by simp [hx]))]
  exact (h.wok x hx).2.2
theorem Cn (l:List Ho) (p:Pr):cM l p ⟨0,0⟩=dq l p:=by unfold cM aF;simp
theorem Sd.gone {q:Qu} (h:Sd q) (p:Pr):Sd { q with holds:=cM q.holds p ⟨0,0⟩,convs:=ck q.convs p,waits:=ck q.waits p }:=by
 have hd:=h.drop p
 rw [Cn]
 have hg:∀r,r≠p→aj (dq q.holds p) r=aj q.holds r:=fun r hr=>by rw [rP,if_neg hr]
 refine ⟨h.res,h.hv.fil p,hd.clen,hd.cnd,?_,?_,hd.wnd,?_,h.gen⟩
 ·intro x hx
  have hx':=ip.1 hx
  have h1:=h.cok x hx'.1
  exact ⟨by rw [hg _ hx'.2];exact h1.held,h1.fit,by rw [hg _ hx'.2];exact h1.cov,by rw [hg _ hx'.2];exact h1.ne,h1.prio,h1.passed⟩
 ·have h1:=nz q.holds p
  have h2:=hd.wlen
  show (dq q.holds p).length+(ck q.waits p).length≤8
  have h3:q.holds.length+(ck q.waits p).length≤8:=h2
  omega
 ·intro x hx
  have hx':=ip.1 hx
  have h1:=h.wok x hx'.1
  exact ⟨h1.1,h1.2.1,by rw [hg _ hx'.2];exact h1.2.2⟩
def Eff (q q':Qu) (p:Pr):Prop:=(aj q'.holds p=aj q.holds p∧ai q' p=ai q p)∨∃a,ai q p=some a∧aj q'.holds p=a∧ai q' p=none
theorem qY {q:Qu} (h:Sd q) (p:Pr):Eff q (fN q).1 p:=by
 have:=AX (gP q) q [] h p
 exact this
theorem pk {q:Qu} {x:Wt} (hx:x∈(fN q).1.waits):x∈q.waits:=t6 (gP q) q [] x hx
theorem Eff.of {q r q':Qu} {p:Pr} (h:Eff r q' p) (h1:aj r.holds p=aj q.holds p) (h2:ai r p=ai q p):Eff q q' p:=by
 unfold Eff at *
 rw [h1,h2] at h
 exact h
theorem Eff.refl (q:Qu) (p:Pr):Eff q q p:=.inl ⟨rfl,rfl⟩
structure Out (q q':Qu) (p:Pr):Prop where
 ok:av q'=true
 res:q'.res=q.res
 eff:∀r,r≠p→Eff q q' r
 prio:∀x∈q'.waits,x.proc≠p→∃y∈q.waits,y.proc=x.proc∧y.prio=x.prio
theorem aH {q:Qu} (h:av q=true):Sd q:=(dg.1 h).1
theorem nW {q r:Qu} {p:Pr} (h:Sd r) (hr:r.res=q.res) (he:∀s,s≠p→aj r.holds s=aj q.holds s∧ai r s=ai q s) (hp:∀x∈r.waits,x.proc≠p→∃y∈q.waits,y.proc=x.proc∧y.prio=x.prio):Out q (fN r).1 p :=
 ⟨(nV h).1,(nV h).2.trans hr,fun s hs=>(qY h s).of (he s hs).1 (he s hs).2,fun x hx hxp=>hp x (pk hx) hxp⟩
theorem Out.same {q:Qu} (p:Pr) (h:av q=true):Out q q p:=⟨h,rfl,fun r _=>Eff.refl q r,fun x hx _=>⟨x,hx,rfl,rfl⟩⟩
theorem xr {q:Qu} {x:Wt} (s:Pr) (hs:s≠x.proc):ai { q with convs:=q.convs++[x] } s=ai q s:=by
 unfold ai
 dsimp only
 rw [fC,fC,fC]
 have:fK [x] s=none:=by rw [dR];intro y hy;rw [List.mem_singleton] at hy;subst hy;exact fun e=>hs e.symm
 rw [this]
 cases fK q.convs s <;> rfl
theorem rV:∀{l m:List Wt} {s:Pr},l.map (fun x=>(x.proc,x.am))=m.map (fun x=>(x.proc,x.am))→fK l s=fK m s
 | [],[],_,_=>rfl
 | [],_ :: _,_,h=>by simp at h
 | _ :: _,[],_,h=>by simp at h
 | x :: l,y :: m,s,h=>by
  simp only [List.map_cons,List.cons.injEq,Prod.mk.injEq] at h
  rw [b9,b9,h.1.1,h.1.2,rV h.2]
theorem Co {l:List Wt} {w:Wt} {s:Pr} (hs:s≠w.proc):fK (iW l w) s=fK l s:=by
 unfold iW
 have e:∀m:List Wt,fK (m.map jZ) s=fK m s:=fun m=>rV (by rw [List.map_map];rfl)
 rw [fC,b9,decide_eq_false (fun h=>hs h.symm),cond_false,e]
 conv=>rhs;rw [←List.take_append_drop (eD w l l.length) l]
 rw [fC]
theorem zC {q:Qu} {w:Wt} (s:Pr) (hs:s≠w.proc):ai { q with waits:=iW q.waits w } s=ai q s:=by
 unfold ai
 dsimp only
 rw [fC,fC,Co hs]
theorem jE (q:Qu) (p s:Pr):ai { q with convs:=ck q.convs p,waits:=ck q.waits p } s=if s=p then none else ai q s:=by
 unfold ai
 dsimp only
 rw [fC,fC,xq,xq]
 by_cases h:s=p
 ·simp only [if_pos h]
 ·simp only [if_neg h]
theorem qZ {q:Qu} (h:Sd q) {p:Pr} {a:Am} {prio:Int} (hw:ai q p=none) (hf:aC q.res a=true) (hp:fo p=true) (h1:0≤prio∧prio≤7) (hl:q.holds.length+q.waits.length<8) :
  kf q.waits ⟨p,a,prio,0⟩=(0,iW q.waits ⟨p,a,prio,0⟩)∧qN ⟨p,a,prio,0⟩=true:=by
 have hv:qN ⟨p,a,prio,0⟩=true:=DX hp (lr hf) h1 (by simp)
 have hln:gj q.waits=true:=lT.2 ⟨by omega,fun x hx=>(h.wok x hx).1,h.wnd⟩
 have hnone:=dR.1 hw
 have hfd:cq q.waits p<0:=Cj.2 fun x hx=>hnone x (by simp [hx])
 have d1:decide (0≤cq q.waits p)=false:=decide_eq_false (by omega)
 have d2:decide (q.waits.length=8)=false:=decide_eq_false (by omega)
 refine ⟨?_,hv⟩
 unfold kf
 rw [hln,hv]
 simp only [Bool.not_true,Bool.and_self,decide_true,cond_false,d1,d2]
theorem zD {q:Qu} {p:Pr} {a:Am} {prio:Int} (h:(bt q p a prio).2.2=0):Out q (bt q p a prio).1 p:=by
 unfold bt at h ⊢
 cases hS:av q with
 | false=>rw [hS] at h;simp [bN] at h
 | true =>
  have hd:=aH hS
  rw [hS] at h
  simp only [Bool.not_true,cond_false] at h ⊢
  cases hA:fo p && decide (0≤prio) && decide (prio≤7) with
  | false=>rw [hA] at h;simp [bN] at h
  | true =>
   rw [hA] at h
   simp only [Bool.not_true,cond_false] at h ⊢
   simp only [Bool.and_eq_true,decide_eq_true_eq] at hA
   cases hF:aC q.res a with
   | false=>rw [hF] at h;simp [bN] at h
   | true =>
    rw [hF] at h
    simp only [Bool.not_true,cond_false] at h ⊢
    cases hW:ai q p with
    | some b=>rw [hW] at h;simp [bN] at h
    | none =>
     rw [hW] at h
     simp only [Option.isSome_none,cond_false] at h ⊢
     cases hC:aY q.res (aj q.holds p) a with
     | true=>exact Out.same p hS
     | false =>
      rw [hC] at h
      simp only [cond_false] at h ⊢
      cases hZ:aF (aj q.holds p) with
      | false =>
       simp only [Bool.not_false,cond_true]
       exact nW (hd.cons (bq.1 hZ) hW hF hC) rfl (fun s hs=>⟨rfl,xr s hs⟩) (fun x hx _=>⟨x,hx,rfl,rfl⟩)
      | true =>
       rw [hZ] at h
       simp only [Bool.not_true,cond_false] at h ⊢
       by_cases hl:8≤q.holds.length+q.waits.length
       ·rw [decide_eq_true hl] at h;simp [bN] at h
       ·rw [decide_eq_false hl] at h ⊢
        simp only [cond_false] at h ⊢
        obtain ⟨e1,hv⟩:=qZ hd hW hF hA.1.1 ⟨hA.1.2,hA.2⟩ (by omega)
        rw [e1]
        simp only [decide_true,Bool.not_true,cond_false]
        have hz:aj q.holds p=⟨0,0⟩:=of_decide_eq_true hZ
        refine nW (hd.ins hz hW hF hv (by omega)) rfl (fun s hs=>⟨rfl,zC s hs⟩) ?_
        intro x hx hxp
        rcases rT hx with rfl|hx|⟨y,hy,rfl,_,_⟩
        ·exact absurd rfl hxp
        ·exact ⟨x,hx,rfl,rfl⟩
        ·exact ⟨y,hy,rfl,rfl⟩
theorem xt {q:Qu} {p:Pr} (h:(bo q p).2.2=0):Out q (bo q p).1 p:=by
 unfold bo at h ⊢
 cases hS:av q with
 | false=>rw [hS] at h;simp [bN] at h
 | true =>
  have hd:=aH hS
  rw [hS] at h
  simp only [Bool.not_true,cond_false] at h ⊢
  cases hW:(ai q p).isSome with
  | false=>rw [hW] at h;simp [bN] at h
  | true =>
   simp only [Bool.not_true,cond_false]
   exact nW (hd.drop p) rfl (fun s hs=>⟨rfl,by rw [jE,if_neg hs]⟩) (fun x hx _=>⟨x,(ip.1 hx).1,rfl,rfl⟩)
theorem zE {q:Qu} {p:Pr} {a:Am} (h:(bz q p a).2.2=0):Out q (bz q p a).1 p:=by
 unfold bz at h ⊢
 cases hS:av q with
 | false=>rw [hS] at h;simp [bN] at h
 | true =>
  have hd:=aH hS
  rw [hS] at h
  simp only [Bool.not_true,cond_false] at h ⊢
  cases hZ:aF (aj q.holds p) with
  | true=>rw [hZ] at h;simp [bN] at h
  | false =>
   rw [hZ] at h
   simp only [cond_false] at h ⊢
   cases hW:ai q p with
   | some b=>rw [hW] at h;simp [bN] at h
   | none =>
    rw [hW] at h
    simp only [Option.isSome_none,cond_false] at h ⊢
    cases hC:aY q.res (aj q.holds p) a with
    | false=>rw [hC] at h;simp [bN] at h
    | true =>
     simp only [Bool.not_true,cond_false]
     cases hE:decide (aj q.holds p=a) with
     | true=>exact Out.same p hS
     | false =>
      simp only [cond_false]
      exact nW (hd.lower hW (bq.1 hZ) hC) rfl (fun s hs=>⟨by show aj (cM q.holds p a) s=_;rw [eM,if_neg hs],rfl⟩) (fun x hx _=>⟨x,hx,rfl,rfl⟩)
theorem xu {q:Qu} {p:Pr} (h:(bg q p).2.2=0):Out q (bg q p).1 p:=by
 unfold bg at h ⊢
 cases hS:av q with
 | false=>rw [hS] at h;simp [bN] at h
 | true =>
  have hd:=aH hS
  rw [hS] at h
  simp only [Bool.not_true,cond_false] at h ⊢
  cases hH:eF q p with
  | false=>rw [hH] at h;simp [bN] at h
  | true =>
   simp only [Bool.not_true,cond_false]
   refine nW (hd.gone p) rfl (fun s hs=>⟨by show aj (cM q.holds p ⟨0,0⟩) s=_;rw [eM,if_neg hs],?_⟩) (fun x hx _=>⟨x,(ip.1 hx).1,rfl,rfl⟩)
   have:=jE q p s
   rw [if_neg hs] at this
   exact this
end Go.Proofs.YtdaajdflefnjfaaGreat
