/- Part K04 of a proof of statements of chapter 15 (no condition). -/
import Derived.Test.YthpgjkjgkhjjlaaGreatDoorK02
import Derived.Test.YthpgjkjgkhjjlaaGreatDoorK03
import Derived.Laws.IdiomCopy
import Derived.Deep.RegionHeld3
import Derived.Scope
import Derived.Lib.AppendZerosOnto
import Derived.Shelf.SlSortCmp.NoneTotal
set_option linter.unusedVariables false
set_option linter.unusedSimpArgs false
set_option maxRecDepth 100000
set_option maxHeartbeats 64000000
namespace Go.Proofs.YthpgjkjgkhjjlaaGreatDoor
open Go.RowKit Go.Proofs.Tryz
section
variable {α:Type} {E:El α} {w w':World} {l:List α} {base:Nat} {e:TypeId} {size:Nat} {xs:List Value} {g n cap:Nat}
theorem Qf {xs:List Value} {j:Nat} {v:Value} (r:List Value) (h:j+1+r.length<=xs.length):(xs.set j v).take (j+1)++r++(xs.set j v).drop (j+1+r.length)=xs.take j++v :: r++xs.drop (j+(v :: r).length):=by
 have h1:(xs.set j v).take (j+1)=xs.take j++[v]:=by
  rw [List.set_eq_take_append_cons_drop,if_pos (by omega),List.take_append,List.length_take,Nat.min_eq_left (by omega),List.take_of_length_le (by rw [List.length_take];omega),show j+1-j=1 by omega];rfl
 have h2:(xs.set j v).drop (j+1+r.length)=xs.drop (j+(v :: r).length):=by
  rw [List.drop_set_of_lt (by omega),List.length_cons];congr 1
  omega
 rw [h1,h2];simp
theorem fy:∀(vs:List Value) (j:Nat) (w:World) (xs:List Value),w.ownsRow base e size (.slice (some ⟨g,0,none⟩) n cap) n xs->j+vs.length<=xs.length->
  (w.setCells g j vs).ownsRow base e size (.slice (some ⟨g,0,none⟩) n cap) n (xs.take j++vs++xs.drop (j+vs.length))
 | [],j,w,xs,h,_=>by simpa [World.setCells] using h
 | v :: r,j,w,xs,h,hl=>by
  have hl':j+1+r.length<=xs.length:=by simp at hl;omega
  rw [World.setCells,<-Qf r hl'];exact fy r (j+1) _ _ (h.stored j v).1 (by simpa using hl')
theorem mK:∀(vs:List Value) (j:Nat) (w:World) (xs:List Value),w.ownsRow base e size (.slice (some ⟨g,0,none⟩) n cap) n xs->xs.length<=j->
  (w.setCells g j vs).ownsRow base e size (.slice (some ⟨g,0,none⟩) n cap) n xs
 | [],j,w,xs,h,_=>by simpa [World.setCells] using h
 | v :: r,j,w,xs,h,hl=>by
  rw [World.setCells];have:=(h.stored j v).1;rw [List.set_eq_of_length_le hl] at this;exact mK r (j+1) _ _ this (by omega)
theorem cf:∀(vs:List Value) (j:Nat) (w:World) (b:Nat),b≠g->(w.setCells g j vs).heap[b]? = w.heap[b]?
 | [],_,_,_,_=>rfl
 | v :: r,j,w,b,h=>by
  rw [World.setCells,cf r (j+1) _ b h];exact heap_setCell_other w ⟨g,j,none⟩ b v h
theorem cm:∀(vs:List Value) (j:Nat) (w:World),(w.setCells g j vs).heap.size=w.heap.size
 | [],_,_=>rfl
 | v :: r,j,w=>by
  rw [World.setCells,cm r (j+1)];simp [World.setCell]
theorem dm {B:Nat} (hg:B<=g):∀(vs:List Value) (j:Nat) (w':World),Below B w w'->Below B w (w'.setCells g j vs)
 | [],_,_,h=>h
 | v :: r,j,w',h=>by
  rw [World.setCells];exact dm hg r (j+1) _ (h.setCell hg v)
theorem OwnRows.cut (h:OwnRows E e w base (.slice (some ⟨g,0,none⟩) l.length cap) l) {k:Nat} (hk:k<=l.length):OwnRows E e w base (.slice (some ⟨g,0,none⟩) k cap) (l.take k):=by
 obtain ⟨h0,xs,⟨h1,h2⟩,h3⟩:=h;refine ⟨h0,xs.take (k*E.n),?_,h3.take k⟩;rw [List.length_take,Nat.min_eq_left hk];have hle:k*E.n<=l.length*E.n:=Nat.mul_le_mul_right _ hk;refine ⟨by rw [List.length_take,h1,Nat.min_eq_left hle],?_⟩;rcases h2 with ⟨hv,_⟩|⟨g',cap',cur,hv,hg,hh,hnc,hcm,hcs,ht⟩
 ·cases hv
 ·injection hv with e1 _ e3;injection e1 with e1;injection e1 with e1;subst e1;subst e3;refine .inr ⟨_,_,cur,rfl,hg,hh,by omega,hcm,hcs,?_⟩;rw [<-ht,List.take_take,Nat.min_eq_left hle]
theorem OwnRows.setRow (h:OwnRows E e w base (.slice (some ⟨g,0,none⟩) l.length cap) l) {i:Nat} (hi:i<l.length) {y:α} {cs:List Value}
  (hy:E.rep (w.setCells g (i*E.n) cs) (KH (w.setCells g (i*E.n) cs) (.slice (some ⟨g,0,none⟩) l.length cap)) y cs) :
  OwnRows E e (w.setCells g (i*E.n) cs) base (.slice (some ⟨g,0,none⟩) l.length cap) (l.set i y):=by
 have hl:=E.len hy;refine h.setAll hi hy (cm _ _ _) (fun b hb=>cf _ _ _ _ fun e=>hb.2 (by rw [e];rfl)) fun xs hx=>?_;have:=fy cs (i*E.n) w xs hx (by
  rw [hl,hx.1];have:=Nat.mul_le_mul_right E.n (show i+1<=l.length from hi);rw [Nat.add_mul,Nat.one_mul] at this;exact this)
 rwa [hl] at this
theorem OwnRows.off (h:OwnRows E e w base (.slice (some ⟨g,0,none⟩) l.length cap) l) (vs:List Value) {j:Nat} (hj:l.length*E.n<=j):OwnRows E e (w.setCells g j vs) base (.slice (some ⟨g,0,none⟩) l.length cap) l:=by
 obtain ⟨h0,xs,h1,h3⟩:=h;refine ⟨by rw [cm];exact h0,xs,mK vs j w xs h1 (by rw [h1.1];exact hj),h3.same (fun b hb=>cf _ _ _ _ fun e=>hb.2 (by rw [e];rfl)) fun b hb=>⟨by rw [cm];exact hb.1,hb.2⟩⟩
theorem OwnRows.cellAt (h:OwnRows E e w base (.slice (some ⟨g,0,none⟩) l.length cap) l) {j:Nat} (hj:j<cap*E.n):(w.cell? ⟨g,j,none⟩).isSome=true/\w.frozen? ⟨g,j,none⟩=false:=by
 obtain ⟨h0,xs,⟨h1,h2⟩,h3⟩:=h;rcases h2 with ⟨hv,_⟩|⟨g',cap',cur,hv,hg,hh,hnc,hcm,hcs,ht⟩
 ·cases hv
 ·injection hv with e1 _ e3;injection e1 with e1;injection e1 with e1;subst e1;subst e3;refine ⟨?_,frozen_of_row w _ j cur e hh⟩;have:w.cell? ⟨g,j,none⟩=cur[j]?:=by simp [World.cell?,hh]
  rw [this,Array.getElem?_eq_getElem (by rw [hcs];exact hj)];rfl
end
section
variable {α:Type} {E:El α} {w w':World} {l ys:List α} {base:Nat} {e:TypeId} {g cap:Nat}
theorem jh {P:Program} (w:World) (t ty e:TypeId) (k:Nat) (b o dLen dCap:Nat) (a:Addr) (sLen sCap:Nat) (cs:List Value)
  (hu:P.underlying t=some (.slice e)) (hs:(P.info? e).map (·.size)=some k) (hn:cs.length=Nat.min sLen dLen*k)
  (hsrc:∀j v,cs[j]? = some v->w.cell? (a.add j)=some v) (hc:∀j,j<cs.length->(w.cell? ⟨b,o+j,none⟩).isSome=true) (hf:∀j,j<cs.length->w.frozen? ⟨b,o+j,none⟩=false) (h1:∀v∈cs,v.oneCell'=true) :
  (Builtin.copy_ #[t,t] ty #[.slice (some ⟨b,o,none⟩) dLen dCap,.slice (some a) sLen sCap]).run P w = .ok (goInt (Nat.min sLen dLen)) (w.setCells b o cs):=by
 have hl:=run_loadCells_list (P:=P) w a cs hsrc;have hst:=run_storeCells_cells (P:=P) b o cs 0 w (by simpa using hc) (by simpa using hf) h1;cases hq:P.info? e with
 | none=>simp [hq] at hs
 | some i =>
  have hi:i.size=k:=by simpa [hq] using hs
  simp [Builtin.copy_,run_underlying hu,Builtin.lenOf,Builtin.firstCells,sizeOf,typeInfo,hq,hi,<-hn,hl,hst]
theorem mL {P:Program} (w:World) (t ty e:TypeId) (k:Nat) (d a:Option Addr) (dLen dCap sLen sCap:Nat) (hu:P.underlying t=some (.slice e)) (hs:(P.info? e).map (·.size)=some k) (hn:Nat.min sLen dLen=0) :
  (Builtin.copy_ #[t,t] ty #[.slice d dLen dCap,.slice a sLen sCap]).run P w = .ok (goInt 0) w:=by
 cases hq:P.info? e with
 | none=>simp [hq] at hs
 | some i =>
  have hl:∀(x:Addr),(loadCells x 0).run P w = .ok #[] w:=fun x=>by simpa using run_loadCells_list (P:=P) w x [] (by simp)
  cases d <;> cases a <;> simp [Builtin.copy_,run_underlying hu,Builtin.lenOf,Builtin.firstCells,sizeOf,typeInfo,hq,hn,storeCells,hl]
end
structure Qu where
 res:Rs
 holds:List Ho
 convs:List Wt
 waits:List Wt
 gen:Int
def Qu.val (q:Qu) (A1 A2 A3:Option Addr) (c1 c2 c3:Nat):Value:=.agg #[.string q.res.name,.int .i64 q.res.kind,.int .i64 q.res.units,.int .i64 q.res.home,.slice A1 q.holds.length c1,.slice A2 q.convs.length c2,.slice A3 q.waits.length c3,.int .i64 q.gen]
structure QF (w:World) (B:Nat) (A1 A2 A3:Option Addr) (q:Qu):Prop where
 r1:RowsAt gM w (Lo B) A1 q.holds
 r2:RowsAt fK w (Lo B) A2 q.convs
 r3:RowsAt fK w (Lo B) A3 q.waits
 m1:q.holds.length<=maxLen
 m2:q.convs.length<=maxLen
 m3:q.waits.length<=maxLen
 hB:B<=w.heap.size
section
variable {w v v':World} {nm:ByteArray} {kd un h gen:Int} {A1 A2 A3:Option Addr} {n1 n2 n3 c1 c2 c3:Nat}
end
def dD (q:Qu):Option Wt:=match q.convs with|x :: _=>some x | []=>q.waits.head?
theorem Qg:(prog.info? 173).map (fun i=>(i.zero,i.size,i.bytes))=some (some (.agg #[.int .i64 0,.int .i64 0,.int .i64 0,.int .i64 0,.int .i64 0,.int .i64 0,.int .i64 0]),7,56):=by kernel_rfl
theorem KT (n:Nat) (h0:0<n) (hn:n<=1000000) (w:World):∃(G:Nat) (mc:Array Value),n<=G/\G<=maxLen/\mc.size=G*7/\
  ∀ty,(Builtin.append_ #[64,3] ty #[.slice none 0 0,.int .i64 (n:Int)]).run prog w = .ok (.slice (some ⟨w.heap.size,0,none⟩) n G) (w.drew.alloc (.cells mc 173)):=by
 obtain ⟨i0,hi,hz0,hz1,hz2⟩:=info_parts Qg;have hold:(Builtin.firstCells i0.size 0 (.slice none 0 0)).run prog w.drew = .ok #[] w.drew:=rfl;have hbig:(0+n)*i0.bytes<=140737488355328:=by rw [hz2];omega
 have hG:=grownCap_ge w (0+n) 0 173;have hGm:=grownCap_le_maxLen w (0+n) 0 173 (by unfold maxLen;omega);have hr:=fun ty=>Lib.run_append_grow_zeros w 64 3 ty 173 i0 _ .i64 .i64 underlying64 underlying3 hi hz0 none 0 0 [] hold n (by omega) (by rw [hz1];decide) (by omega) (by omega)
   (by rw [hz2];omega) (growslice_fits (by omega) hbig)
 rw [Nat.zero_add] at hr hG hGm;refine ⟨grownCap w n 0 173,#[]++Builtin.zeroCells #[.int .i64 0,.int .i64 0,.int .i64 0,.int .i64 0,.int .i64 0,.int .i64 0,.int .i64 0] n++Builtin.zeroCells #[.int .i64 0,.int .i64 0,.int .i64 0,.int .i64 0,.int .i64 0,.int .i64 0,.int .i64 0] (grownCap w n 0 173-n),hG,hGm,?_,fun ty=>?_⟩
 ·simp [Builtin.zeroCells];omega
 ·have h:=hr ty;exact h
theorem wpList_append_run {P:Program} (w w':World) {ops:Array Oper} {rest:List Oper} {o:Oper} {a:Act} {Q:Exit->Act->World->Prop} (hgd:o.guard=none) (s x:Operand) (t t':TypeId)
  (ho:o.op = .call { callee:=.builtin .append,args:=#[s,x],argTypes:=#[t,t'] }) (v1 v2 r:Value) (hs:a.eval s=v1) (hx:a.eval x=v2) (hrun:(Builtin.append_ #[t,t'] o.type #[v1,v2]).run P w = .ok r w')
  (h:wpList P ops Q rest (a.put o.dst r) w'):wpList P ops Q (o :: rest) a w:=by
 refine wpList_plain hgd fun K hK=>?_;unfold Oper.wp;simp [execOp,ho,resolve,invoke,builtin,hs,hx,hrun,Result.andThen];exact hK _ _ h
theorem KU (n:Nat) (hn:n<=1000000) (w:World):Calls prog 340 #[.slice none 0 0,.int .i64 (n:Int)] w fun e w'=>∃A cap,e = .returned (.slice A 0 cap)/\OwnRows fK 173 w' w.heap.size (.slice A 0 cap) []/\Below w.heap.size w w':=by
 rcases Nat.eq_zero_or_pos n with rfl|h0
 ·go_enter func340,ntmps340
  go_wp2_with fail
  go_ret
  exact ⟨none,0,rfl,OwnRows.nil _ _ _ _ (Nat.le_refl _),Below.refl _ _⟩
 ·obtain ⟨G,mc,hG,hGm,hsz,hrun⟩:=KT n h0 hn w;have HO:Hid (OwnRows fK 173 (w.drew.alloc (.cells mc 173)) w.heap.size (.slice (some ⟨w.heap.size,0,none⟩) 0 G) []):=Lib.hid (OwnRows.made fK 173 w.drew w.heap.size mc G (Nat.le_refl _) hGm hsz);have h0i:(0:Int)<(n:Int):=by omega
  have hw:IntKind.i64.wrap ((n:Int)-0)=(n:Int):=by rw [IntWalk.i64_in _ (by omega)];omega
  have hw0:IntKind.i64.wrap ((0:Int)-0)=0:=rfl;clear hsz
  go_enter func340,ntmps340
  go_wp2_with (at_builtin;refine wpList_append_run w (w.drew.alloc (.cells mc 173)) rfl (.tmp 20) (.tmp 21) 64 3 rfl _ _ _ rfl rfl (hrun _) ?_)
  go_ret
  exact ⟨_,G,rfl,HO.out,Below.al (Below.refl _ _).drew _⟩
def uP (cs ws:List Wt):Nat->List Wt
 | 0=>[]
 | 1=>cs
 | _=>cs++ws
theorem FR (g:Nat) (A2 A3:Option Addr) (c2 c3:Nat) (cs ws:List Wt) (w:World) (B:Nat) (hB:B<=w.heap.size) (h0:w.cell? ⟨g,0,none⟩=some (.slice A2 cs.length c2)) (h1:w.cell? ⟨g,1,none⟩=some (.slice A3 ws.length c3))
  (r2:RowsAt fK w (Lo B) A2 cs) (r3:RowsAt fK w (Lo B) A3 ws) (hl:cs.length+ws.length<=1000000) :
  Calls prog 306 #[.slice (some ⟨g,0,none⟩) 2 2] w (BI fK 173 w (cs++ws)):=by
 have HG:=Lib.hid (fun W=>KU (cs.length+ws.length) hl W);rw [show ((cs.length+ws.length:Nat):Int)=(cs.length:Int)+(ws.length:Int) by omega] at HG;have hgl:g<w.heap.size:=World.block_lt_of_cell? w _ h0;have HR2:=Lib.hid r2;have HR3:=Lib.hid r3;have HH0:=Lib.hid h0;have HH1:=Lib.hid h1;clear r2 r3
 go_enter func306,ntmps306
 go_wp2_with fail
 go_loopg [3,11] 2 (fun m0 v3 v11 wq=>∃j:Nat,v11 = .int .i64 (j:Int)/\j<=2/\2<=j+m0/\v3 = .int .i64 ((uP cs ws j).length:Int)/\wq=w)
 case atStart=>exact ⟨0,rfl,by omega,by omega,rfl,rfl⟩
 case round =>
  obtain ⟨j,rfl,hj,hjm,rfl,rfl⟩:=hrel;have hj3:j=0\/j=1\/j=2:=by omega
  have hw1:IntKind.i64.wrap ((0:Int)+(cs.length:Int))=(cs.length:Int):=by rw [IntWalk.i64_in _ (by omega)];omega
  have hw2:IntKind.i64.wrap ((cs.length:Int)+(ws.length:Int))=(cs.length:Int)+(ws.length:Int):=IntWalk.i64_in _ (by omega);have hn1:¬(cs.length:Int)<0:=by omega
  have hn2:¬(cs.length:Int)+(ws.length:Int)<0:=by omega
  rcases hj3 with rfl|rfl|rfl
  ·simp only [uP,List.length_nil];go_wp2_with fail
   go_roundg (gk-1)
   case measure=>omega
   case rel=>exact ⟨1,by go_num,by omega,by omega,by simp [uP],rfl⟩
  ·simp only [uP];go_wp2_with fail
   go_roundg (gk-1)
   case measure=>omega
   case rel=>exact ⟨2,by go_num,by omega,by omega,by simp [uP],rfl⟩
  ·simp only [uP,List.length_append];rw [show ((cs.length+ws.length:Nat):Int)=(cs.length:Int)+(ws.length:Int) by omega];go_wp2_with fail
   refine (HG.out _).mono ?_;rintro e w1 ⟨A1,cap1,rfl,hown1,hb1⟩;have HO1:=Lib.hid hown1;have HB1:=Lib.hid hb1;clear hown1 hb1 h0 h1;obtain ⟨wo,hwo⟩:∃x,x=wr:=⟨_,rfl⟩;subst hwo;go_wp2_with fail
   go_loopg [6,27] 2 (fun m0 v6 v27 wq=>∃j:Nat,v27 = .int .i64 (j:Int)/\j<=2/\2<=j+m0/\Hid (OwnRows fK 173 wq wo.heap.size v6 (uP cs ws j))/\Hid (Below wo.heap.size wo wq))
   case atStart=>exact ⟨0,rfl,by omega,by omega,HO1,HB1⟩
   case round =>
    obtain ⟨j,rfl,hj,hjm,HO,HB⟩:=hrel;have hj3:j=0\/j=1\/j=2:=by omega
    have h0:=(HB.out.cell (p:=⟨g,0,none⟩) hgl).trans HH0.out;have h1:=(HB.out.cell (p:=⟨g,1,none⟩) hgl).trans HH1.out;have hgl2:g<wr.heap.size:=Nat.lt_of_lt_of_le hgl HB.out.size;rcases hj3 with rfl|rfl|rfl
    ·replace HO:Hid (OwnRows fK 173 wr wo.heap.size u6 []):=Lib.hid HO.out
     go_wp2_with (at_builtin;refine FL Qb rfl (.tmp 31) (.tmp 32) rfl wr wo.heap.size u6 [] cs cs.length rfl A2 c2 rfl HO.out rfl (HR2.out.same (fun b hb=>HB.out.block b (Nat.lt_of_lt_of_le hb hB)) fun b hb=>HO.out.oth (Nat.lt_of_lt_of_le hb hB)) (by first|(unfold maxLen;simp;omega)|(unfold maxLen;omega)) (by first|omega|(simp;omega)) ?_;intro v7 w7 hown7 hb7 hsp7;have HB7:Hid (Below wo.heap.size wo w7):=Lib.hid (HB.out.trans hb7);have HO7:=Lib.hid hown7;clear hown7 hb7 hsp7)
     go_roundg (gk-1)
     case measure=>omega
     case rel=>exact ⟨1,by go_num,by omega,by omega,Lib.hid (by have:=HO7.out;simpa [uP] using this),HB7⟩
    ·replace HO:Hid (OwnRows fK 173 wr wo.heap.size u6 cs):=Lib.hid HO.out
     go_wp2_with (at_builtin;refine FL Qb rfl (.tmp 31) (.tmp 32) rfl wr wo.heap.size u6 cs ws ws.length rfl A3 c3 rfl HO.out rfl (HR3.out.same (fun b hb=>HB.out.block b (Nat.lt_of_lt_of_le hb hB)) fun b hb=>HO.out.oth (Nat.lt_of_lt_of_le hb hB)) (by first|(unfold maxLen;simp;omega)|(unfold maxLen;omega)) (by first|omega|(simp;omega)) ?_;intro v7 w7 hown7 hb7 hsp7;have HB7:Hid (Below wo.heap.size wo w7):=Lib.hid (HB.out.trans hb7);have HO7:=Lib.hid hown7;clear hown7 hb7 hsp7)
     go_roundg (gk-1)
     case measure=>omega
     case rel=>exact ⟨2,by go_num,by omega,by omega,HO7,HB7⟩
    ·go_wp2_with fail
     go_ret
     exact ⟨_,rfl,HO.out,HB.out⟩
def oH (q:Qu):List Pr:=(q.convs++q.waits).map (·.proc)
theorem Jf (q:Qu) (A1 A2 A3:Option Addr) (c1 c2 c3:Nat) (w:World) (B:Nat) (hq:QF w B A1 A2 A3 q) (h8:q.convs.length<=8) (h8':q.waits.length<=8) :
  Calls prog 256 #[q.val A1 A2 A3 c1 c2 c3] w (BI fK 173 w (q.convs++q.waits)):=by
 have HC:=Lib.hid (fun g W (hb:Below w.heap.size w W) h0 h1=>FR g A2 A3 c2 c3 q.convs q.waits W B (Nat.le_trans hq.hB hb.size) h0 h1 (hq.r2.below hb hq.hB (Nat.le_refl _)) (hq.r3.below hb hq.hB (Nat.le_refl _)) (by omega));clear hq;obtain ⟨⟨nm,kd,un,h⟩,hs,cs,ws,gen⟩:=q;unfold Qu.val;dsimp only at HC h8 h8' ⊢
 go_enter func256,ntmps256
 go_wp2_with fail
 refine (HC.out (w.heap.size+1) _ cV (by go_simp) (by go_simp)).mono ?_;rintro e w1 ⟨v1,rfl,hown1,hb1⟩;have HO1:=Lib.hid hown1;have HB1:=Lib.hid hb1;clear hown1 hb1;go_wp2_with fail
 go_ret
 exact ⟨_,rfl,HO1.out.older (by simp;omega),by exact cV⟩
def cK (l:List Wt):List Pr:=l.map (·.proc)
def iT:List Wt->Pr->Option Am
 | [],_=>none
 | x :: l,p=>bif decide (x.proc=p) then some x.am else iT l p
def aj (q:Qu) (p:Pr):Option Am:=iT (q.convs++q.waits) p
theorem du (x:Wt) (l:List Wt) (p:Pr):iT (x :: l) p=bif decide (x.proc=p) then some x.am else iT l p:=rfl
section
open Go.Sort Go.Lib
section
variable {α:Type}
theorem Dn (f:α->List Value) (k:Nat) (hk:∀x,(f x).length=k) (h0:0<k):∀(l:List α) (t:Nat),((l.map f).flatten)[t]? = (l[t / k]?).bind fun x=>(f x)[t % k]?
 | [],t=>by simp
 | x :: l,t=>by
  rw [List.map_cons,List.flatten_cons];rcases Nat.lt_or_ge t k with h|h
  ·rw [List.getElem?_append_left (by rw [hk];exact h),Nat.div_eq_of_lt h,Nat.mod_eq_of_lt h];rfl
  ·rw [List.getElem?_append_right (by rw [hk];exact h),hk,Dn f k hk h0 l (t-k)];obtain ⟨u,rfl⟩:∃u,t=u+k:=⟨t-k,by omega⟩;rw [Nat.add_sub_cancel,Nat.add_div_right _ h0,Nat.add_mod_right];rfl
theorem lB [Inhabited α] (f:α->List Value) (k:Nat) (hk:∀x,(f x).length=k) (h0:0<k) (l:List α):(flatK f k l.toArray).toList=(l.map f).flatten:=by
 apply List.ext_getElem?
 intro t;rw [Dn f k hk h0];rcases Nat.lt_or_ge t (l.length*k) with h|h
 ·have hd:t / k<l.length:=(Nat.div_lt_iff_lt_mul h0).2 h;have hm:t % k<k:=Nat.mod_lt _ h0;rw [Array.getElem?_toList,Array.getElem?_eq_getElem (by simpa using h),<-getElem!_pos _ t (by simpa using h),get_flatK _ _ _ _ (by simpa using h),getElem!_pos _ (t / k) (by simpa using hd),qGg hd,Option.bind_some,getElem!_pos _ (t % k) (by rw [hk];exact hm),qGg (by rw [hk];exact hm)];rfl
 ·have hd:l.length<=t / k:=by
   rw [Nat.le_div_iff_mul_le h0];exact h
  rw [List.getElem?_eq_none hd,Array.getElem?_toList,Array.getElem?_eq_none (by simpa using h)];rfl
variable {n:Nat} {pos:0<n} {f:α->List Value} {len:∀x,(f x).length=n} {one:∀x,∀u∈f x,u.oneCell'=true} {w:World} {S:Nat->Prop} {base:Nat} {e:TypeId} {g cap:Nat} {l:List α}
theorem Reps.plain:∀{l:List α} {xs:List Value},Reps (El.plain n pos f len one) w S l xs->xs=(l.map f).flatten
 | [],xs,h=>h
 | x :: l,xs,h=>by
  obtain ⟨cs,rest,rfl,h1,h2⟩:=h;rw [Reps.plain h2,show cs=f x from h1];rfl
theorem Reps.plain_mk:∀(l:List α),Reps (El.plain n pos f len one) w S l (l.map f).flatten
 | []=>rfl
 | x :: l=>⟨f x,(l.map f).flatten,rfl,rfl,Reps.plain_mk l⟩
theorem OwnRows.holdsK [Inhabited α] (h:OwnRows (El.plain n pos f len one) e w base (.slice (some ⟨g,0,none⟩) l.length cap) l):HoldsK f n w g 0 l.toArray:=by
 intro t ht;rw [size_flatK] at ht;have ht':t<l.length*n:=ht;have hcapn:l.length<=cap:=by
  obtain ⟨A,cap',hA,_,hc,_⟩:=h.form;injection hA with _ _ e3;omega
 have hcell:=h.cellAt (j:=t) (Nat.lt_of_lt_of_le ht' (Nat.mul_le_mul_right _ hcapn));rw [Nat.zero_add];refine ⟨?_,hcell.2⟩;obtain ⟨h0,xs,⟨h1,h2⟩,h3⟩:=h;rcases h2 with ⟨hv,_⟩|⟨g',cap',cur,hv,hg,hh,hnc,hcm,hcs,htk⟩
 ·cases hv
 ·injection hv with e1 _ e3;injection e1 with e1;injection e1 with e1;subst e1;subst e3;have hx:=Reps.plain h3;have hlt:t<cur.size:=by rw [hcs];exact Nat.lt_of_lt_of_le ht' (Nat.mul_le_mul_right _ hcapn)
  have hc:w.cell? ⟨g,t,none⟩=cur[t]?:=by simp [World.cell?,hh]
  have hxt:cur[t]? = xs[t]?:=by
   rw [<-htk,List.getElem?_take,if_pos (show t<l.length*(El.plain n pos f len one).n from ht'),Array.getElem?_toList]
  rw [hc,hxt,hx,<-lB f n len pos l,Array.getElem?_toList,Array.getElem?_eq_getElem (by simpa using ht'),<-getElem!_pos _ t (by simpa using ht')];rfl
theorem OwnRows.sorted [Inhabited α] (h:OwnRows (El.plain n pos f len one) e w base (.slice (some ⟨g,0,none⟩) l.length cap) l) (hg:g<w.heap.size) {l':List α} (hl:l'.length=l.length) (m:Nat) (os:Array Obj) :
  OwnRows (El.plain n pos f len one) e (sortWorldK f n w g 0 m l'.toArray os) base (.slice (some ⟨g,0,none⟩) l.length cap) l':=by
 obtain ⟨h0,xs,⟨h1,h2⟩,h3⟩:=h;have hsz:w.heap.size<=(sortWorldK f n w g 0 m l'.toArray os).heap.size:=by
  simp [sortWorldK,grow,putRowK,putRow,mapBlock]
 refine ⟨Nat.le_trans h0 hsz,(l'.map f).flatten,?_,Reps.plain_mk l'⟩;rw [hl];have hfl:((l'.map f).flatten).length=l.length*n:=by
  rw [<-lB f n len pos l',Array.length_toList,size_flatK];simp [hl]
 refine ⟨hfl,?_⟩;rcases h2 with ⟨hv,_⟩|⟨g',cap',cur,hv,hgb,hh,hnc,hcm,hcs,htk⟩
 ·cases hv
 ·injection hv with e1 _ e3;injection e1 with e1;injection e1 with e1;subst e1;subst e3;have hF:(flatK f n l'.toArray).size=l.length*n:=by simp [hl]
  have hle:l.length*n<=cap*n:=Nat.mul_le_mul_right _ hnc;refine .inr ⟨g,cap,putCells id 0 (flatK f n l'.toArray) cur,rfl,hgb,?_,hnc,hcm,by simp [putCells,hcs],?_⟩
  ·show (w.heap.modify g (onCells (putCells id 0 (flatK f n l'.toArray)))++os)[g]? = _;rw [Array.getElem?_append_left (by simpa using hg),Array.getElem?_modify,if_pos rfl,hh];rfl
  ·rw [<-lB f n len pos l'];apply List.ext_getElem?
   intro t;rw [List.getElem?_take];show (if t<l.length*n then _ else _)=_;split
   ·next ht =>
    rw [Array.getElem?_toList,Array.getElem?_toList];unfold putCells;rw [Array.getElem?_mapIdx,Array.getElem?_eq_getElem (by rw [hcs];exact Nat.lt_of_lt_of_le ht hle),Option.map_some,if_pos ⟨Nat.zero_le _,by rw [hF];omega⟩,Array.getElem?_eq_getElem (by rw [hF];exact ht),Nat.sub_zero,<-getElem!_pos _ t (by rw [hF];exact ht)];rfl
   ·next ht =>
    rw [Array.getElem?_toList,Array.getElem?_eq_none (by rw [hF];omega)]
theorem BP [Inhabited α] {w0:World} {B:Nat} (hb:Go.RowKit.Below B w0 w) (hg:B<=g) (hg2:g<w.heap.size) (m:Nat) (d:Array α) (os:Array Obj):Go.RowKit.Below B w0 (sortWorldK f n w g 0 m d os):=by
 refine hb.trans ⟨rfl,rfl,rfl,by simp [sortWorldK,grow,putRowK,putRow,mapBlock],fun k hk=>?_⟩;show (w.heap.modify g (onCells (putCells id 0 (flatK f n d)))++os)[k]? = _;rw [Array.getElem?_append_left (by simp;omega),Array.getElem?_modify,if_neg (by omega)]
end
end
end Go.Proofs.YthpgjkjgkhjjlaaGreatDoor
