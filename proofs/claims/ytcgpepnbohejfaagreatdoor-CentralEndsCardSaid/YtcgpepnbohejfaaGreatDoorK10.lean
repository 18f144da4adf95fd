/- Part 10 of 56 of the proof of both_hold (no condition). -/
import Derived.Test.YtcgpepnbohejfaaGreatDoorK06
import Derived.Test.YtcgpepnbohejfaaGreatDoorK07
import Derived.Lib.AppendZerosOnto
import Derived.Deep.RegionLaw
set_option linter.unusedVariables false
set_option linter.unusedSimpArgs false
set_option maxRecDepth 100000
set_option maxHeartbeats 64000000
namespace Go.Proofs.YtcgpepnbohejfaaGreatDoor
open Go.RowKit Go.Proofs.Tryz
section
def vb (r:Rs) (l:List Ho) (p:Pr) (a:Am):Bool:=yq r l && j8 p && aC r a
def f5 (r:Rs) (l:List Ho) (p:Pr) (a:Am):Bool:=vb r l p a && yq r (cm l p a)
theorem ln (x:Ho):∀l:List Ho,(lj x l).length=l.length+1
 | []=>rfl
 | h :: l=>by
  rw [gK];cases decide (0<bC h.proc x.proc) <;> simp [ln x l]
theorem Bk (l:List Ho) (p:Pr) (a:Am):(cm l p a).length≤l.length+1:=by
 have:=ll l p;unfold cm;cases aG a
 ·simp [ln];omega
 ·simp;omega
variable {w v v':World} {nm:ByteArray} {kd un h x y z m u:Int}
end
structure Qu where
 res:Rs
 holds:List Ho
 convs:List Wt
 waits:List Wt
 gen:Int
def Qu.val (q:Qu) (A1 A2 A3:Option Addr) (c1 c2 c3:Nat):Value:=.agg #[.string q.res.name,.int .i64 q.res.kind,.int .i64 q.res.units,.int .i64 q.res.home,.slice A1 q.holds.length c1,.slice A2 q.convs.length c2,.slice A3 q.waits.length c3,.int .i64 q.gen]
structure QF (w:World) (B:Nat) (A1 A2 A3:Option Addr) (q:Qu):Prop where
 r1:RowsAt jR w (Lo B) A1 q.holds
 r2:RowsAt fJ w (Lo B) A2 q.convs
 r3:RowsAt fJ w (Lo B) A3 q.waits
 m1:q.holds.length≤maxLen
 m2:q.convs.length≤maxLen
 m3:q.waits.length≤maxLen
 hB:B≤w.heap.size
section
variable {w v v':World} {nm:ByteArray} {kd un h gen:Int} {A1 A2 A3:Option Addr} {n1 n2 n3 c1 c2 c3:Nat}
end
def dm (q:Qu):Option Wt:=match q.convs with|x :: _=>some x | []=>q.waits.head?
def Bl (q:Qu) (k:Nat) (x:Wt):Bool:=decide (dB q.convs x.proc=(k:Int)) && !aG (ao q.holds x.proc) && aC q.res x.am && a8 q.res x.am (ao q.holds x.proc) && !decide (x.am=ao q.holds x.proc) && decide (x.prio=0) && decide (x.passed=0)
def xc (q:Qu):Nat→List Wt→Bool
 | _,[]=>true
 | k,x :: l=>Bl q k x && xc q (k+1) l
def Hi (q:Qu):Bool:=decide (q.convs.length≤8) && xc q 0 q.convs
def xd (q:Qu):List Wt→Bool
 | []=>true
 | x :: l=>aC q.res x.am && aG (ao q.holds x.proc) && xd q l
def Hj (q:Qu):Bool:=fD q.waits && decide (q.holds.length+q.waits.length≤8) && xd q q.waits
def mm (q:Qu):Bool:=jQ q.res && yq q.res q.holds && Hi q && Hj q && decide (0≤q.gen) && decide (q.gen≤1073741824)
def av (q:Qu):Bool:=mm q && match dm q with
 | none=>true
 | some x=>!f5 q.res q.holds x.proc x.am
theorem sj (q:Qu) (k:Nat) (x:Wt) (l:List Wt):xc q k (x :: l)=(Bl q k x && xc q (k+1) l):=rfl
theorem sk (q:Qu) (x:Wt) (l:List Wt):xd q (x :: l)=(aC q.res x.am && aG (ao q.holds x.proc) && xd q l):=rfl
theorem FP:(prog.info? 211).map (fun i=>(i.zero,i.size,i.bytes))=some (some (.agg #[.int .i64 0,.int .i64 0,.int .i64 0,.int .i64 0,.int .i64 0,.int .i64 0,.int .i64 0]),7,56):=by kernel_rfl
theorem Bm (n:Nat) (h0:0<n) (hn:n≤1000000) (w:World):∃(G:Nat) (mc:Array Value),n≤G∧G≤maxLen∧mc.size=G*7∧
  ∀ty,(Builtin.append_ #[56,3] ty #[.slice none 0 0,.int .i64 (n:Int)]).run prog w = .ok (.slice (some ⟨w.heap.size,0,none⟩) n G) (w.drew.alloc (.cells mc 211)):=by
 obtain ⟨i0,hi,hz0,hz1,hz2⟩:=info_parts FP;have hold:(Builtin.firstCells i0.size 0 (.slice none 0 0)).run prog w.drew = .ok #[] w.drew:=rfl;have hbig:(0+n)*i0.bytes≤140737488355328:=by rw [hz2];omega
 have hG:=grownCap_ge w (0+n) 0 211;have hGm:=grownCap_le_maxLen w (0+n) 0 211 (by unfold maxLen;omega);have hr:=fun ty=>Lib.run_append_grow_zeros w 56 3 ty 211 i0 _ .i64 .i64 underlying56 underlying3 hi hz0 none 0 0 [] hold n (by omega) (by rw [hz1];decide) (by omega) (by omega)
   (by rw [hz2];omega) (growslice_fits (by omega) hbig)
 rw [Nat.zero_add] at hr hG hGm;refine ⟨grownCap w n 0 211,#[]++Builtin.zeroCells #[.int .i64 0,.int .i64 0,.int .i64 0,.int .i64 0,.int .i64 0,.int .i64 0,.int .i64 0] n++Builtin.zeroCells #[.int .i64 0,.int .i64 0,.int .i64 0,.int .i64 0,.int .i64 0,.int .i64 0,.int .i64 0] (grownCap w n 0 211-n),hG,hGm,?_,fun ty=>?_⟩
 ·simp [Builtin.zeroCells];omega
 ·have h:=hr ty;exact h
theorem wpList_append_run {P:Program} (w w':World) {ops:Array Oper} {rest:List Oper} {o:Oper} {a:Act} {Q:Exit→Act→World→Prop} (hgd:o.guard=none) (s x:Operand) (t t':TypeId)
  (ho:o.op = .call { callee:=.builtin .append,args:=#[s,x],argTypes:=#[t,t'] }) (v1 v2 r:Value) (hs:a.eval s=v1) (hx:a.eval x=v2) (hrun:(Builtin.append_ #[t,t'] o.type #[v1,v2]).run P w = .ok r w')
  (h:wpList P ops Q rest (a.put o.dst r) w'):wpList P ops Q (o :: rest) a w:=by
 refine wpList_plain hgd fun K hK=>?_;unfold Oper.wp;simp [execOp,ho,resolve,invoke,builtin,hs,hx,hrun,Result.andThen];exact hK _ _ h
theorem Bn (n:Nat) (hn:n≤1000000) (w:World):Calls prog 231 #[.slice none 0 0,.int .i64 (n:Int)] w fun e w'=>∃A cap,e = .returned (.slice A 0 cap)∧OwnRows fJ 211 w' w.heap.size (.slice A 0 cap) []∧Below w.heap.size w w':=by
 rcases Nat.eq_zero_or_pos n with rfl|h0
 ·go_enter func231,ntmps231
  go_wp2_with fail
  go_ret
  exact ⟨none,0,rfl,OwnRows.nil _ _ _ _ (Nat.le_refl _),Below.refl _ _⟩
 ·obtain ⟨G,mc,hG,hGm,hsz,hrun⟩:=Bm n h0 hn w;have HO:Hid (OwnRows fJ 211 (w.drew.alloc (.cells mc 211)) w.heap.size (.slice (some ⟨w.heap.size,0,none⟩) 0 G) []):=Lib.hid (OwnRows.made fJ 211 w.drew w.heap.size mc G (Nat.le_refl _) hGm hsz);have h0i:(0:Int)<(n:Int):=by omega
  have hw:IntKind.i64.wrap ((n:Int)-0)=(n:Int):=by rw [IntWalk.i64_in _ (by omega)];omega
  have hw0:IntKind.i64.wrap ((0:Int)-0)=0:=rfl;clear hsz
  go_enter func231,ntmps231
  go_wp2_with (at_builtin;refine wpList_append_run w (w.drew.alloc (.cells mc 211)) rfl (.tmp 20) (.tmp 21) 56 3 rfl _ _ _ rfl rfl (hrun _) ?_)
  go_ret
  exact ⟨_,G,rfl,HO.out,Below.al (Below.refl _ _).drew _⟩
def m5 (cs ws:List Wt):Nat→List Wt
 | 0=>[]
 | 1=>cs
 | _=>cs++ws
theorem xe (g:Nat) (A2 A3:Option Addr) (c2 c3:Nat) (cs ws:List Wt) (w:World) (B:Nat) (hB:B≤w.heap.size) (h0:w.cell? ⟨g,0,none⟩=some (.slice A2 cs.length c2)) (h1:w.cell? ⟨g,1,none⟩=some (.slice A3 ws.length c3))
  (r2:RowsAt fJ w (Lo B) A2 cs) (r3:RowsAt fJ w (Lo B) A3 ws) (hl:cs.length+ws.length≤1000000) :
  Calls prog 203 #[.slice (some ⟨g,0,none⟩) 2 2] w (tF fJ 211 w (cs++ws)):=by
 have HG:=Lib.hid (fun W=>Bn (cs.length+ws.length) hl W);rw [show ((cs.length+ws.length:Nat):Int)=(cs.length:Int)+(ws.length:Int) by omega] at HG;have hgl:g<w.heap.size:=World.block_lt_of_cell? w _ h0;have HR2:=Lib.hid r2;have HR3:=Lib.hid r3;have HH0:=Lib.hid h0;have HH1:=Lib.hid h1;clear r2 r3
 go_enter func203,ntmps203
 go_wp2_with fail
 go_loopg [3,11] 2 (fun m0 v3 v11 wq=>∃j:Nat,v11 = .int .i64 (j:Int)∧j≤2∧2≤j+m0∧v3 = .int .i64 ((m5 cs ws j).length:Int)∧wq=w)
 case atStart=>exact ⟨0,rfl,by omega,by omega,rfl,rfl⟩
 case round =>
  obtain ⟨j,rfl,hj,hjm,rfl,rfl⟩:=hrel;have hj3:j=0∨j=1∨j=2:=by omega
  have hw1:IntKind.i64.wrap ((0:Int)+(cs.length:Int))=(cs.length:Int):=by rw [IntWalk.i64_in _ (by omega)];omega
  have hw2:IntKind.i64.wrap ((cs.length:Int)+(ws.length:Int))=(cs.length:Int)+(ws.length:Int):=IntWalk.i64_in _ (by omega);have hn1:¬(cs.length:Int)<0:=by omega
  have hn2:¬(cs.length:Int)+(ws.length:Int)<0:=by omega
  rcases hj3 with rfl|rfl|rfl
  ·simp only [m5,List.length_nil];go_wp2_with fail
   go_roundg (gk-1)
   case measure=>omega
   case rel=>exact ⟨1,by go_num,by omega,by omega,by simp [m5],rfl⟩
  ·simp only [m5];go_wp2_with fail
   go_roundg (gk-1)
   case measure=>omega
   case rel=>exact ⟨2,by go_num,by omega,by omega,by simp [m5],rfl⟩
  ·simp only [m5,List.length_append];rw [show ((cs.length+ws.length:Nat):Int)=(cs.length:Int)+(ws.length:Int) by omega];go_wp2_with fail
   refine (HG.out _).mono ?_;rintro e w1 ⟨A1,cap1,rfl,hown1,hb1⟩;have HO1:=Lib.hid hown1;have HB1:=Lib.hid hb1;clear hown1 hb1 h0 h1;obtain ⟨wo,hwo⟩:∃x,x=wr:=⟨_,rfl⟩;subst hwo;go_wp2_with fail
   go_loopg [6,27] 2 (fun m0 v6 v27 wq=>∃j:Nat,v27 = .int .i64 (j:Int)∧j≤2∧2≤j+m0∧Hid (OwnRows fJ 211 wq wo.heap.size v6 (m5 cs ws j))∧Hid (Below wo.heap.size wo wq))
   case atStart=>exact ⟨0,rfl,by omega,by omega,HO1,HB1⟩
   case round =>
    obtain ⟨j,rfl,hj,hjm,HO,HB⟩:=hrel;have hj3:j=0∨j=1∨j=2:=by omega
    have h0:=(HB.out.cell (p:=⟨g,0,none⟩) hgl).trans HH0.out;have h1:=(HB.out.cell (p:=⟨g,1,none⟩) hgl).trans HH1.out;have hgl2:g<wr.heap.size:=Nat.lt_of_lt_of_le hgl HB.out.size;rcases hj3 with rfl|rfl|rfl
    ·replace HO:Hid (OwnRows fJ 211 wr wo.heap.size u6 []):=Lib.hid HO.out
     go_wp2_with (at_builtin;refine wY FJ rfl (.tmp 31) (.tmp 32) rfl wr wo.heap.size u6 [] cs cs.length rfl A2 c2 rfl HO.out rfl (HR2.out.same (fun b hb=>HB.out.block b (Nat.lt_of_lt_of_le hb hB)) fun b hb=>HO.out.oth (Nat.lt_of_lt_of_le hb hB)) (by first|(unfold maxLen;simp;omega)|(unfold maxLen;omega)) (by first|omega|(simp;omega)) ?_;intro v7 w7 hown7 hb7 hsp7;have HB7:Hid (Below wo.heap.size wo w7):=Lib.hid (HB.out.trans hb7);have HO7:=Lib.hid hown7;clear hown7 hb7 hsp7)
     go_roundg (gk-1)
     case measure=>omega
     case rel=>exact ⟨1,by go_num,by omega,by omega,Lib.hid (by have:=HO7.out;simpa [m5] using this),HB7⟩
    ·replace HO:Hid (OwnRows fJ 211 wr wo.heap.size u6 cs):=Lib.hid HO.out
     go_wp2_with (at_builtin;refine wY FJ rfl (.tmp 31) (.tmp 32) rfl wr wo.heap.size u6 cs ws ws.length rfl A3 c3 rfl HO.out rfl (HR3.out.same (fun b hb=>HB.out.block b (Nat.lt_of_lt_of_le hb hB)) fun b hb=>HO.out.oth (Nat.lt_of_lt_of_le hb hB)) (by first|(unfold maxLen;simp;omega)|(unfold maxLen;omega)) (by first|omega|(simp;omega)) ?_;intro v7 w7 hown7 hb7 hsp7;have HB7:Hid (Below wo.heap.size wo w7):=Lib.hid (HB.out.trans hb7);have HO7:=Lib.hid hown7;clear hown7 hb7 hsp7)
     go_roundg (gk-1)
     case measure=>omega
     case rel=>exact ⟨2,by go_num,by omega,by omega,HO7,HB7⟩
    ·go_wp2_with fail
     go_ret
     exact ⟨_,rfl,HO.out,HB.out⟩
def rm (q:Qu):List Pr:=(q.convs++q.waits).map (·.proc)
theorem zL (q:Qu) (A1 A2 A3:Option Addr) (c1 c2 c3:Nat) (w:World) (B:Nat) (hq:QF w B A1 A2 A3 q) (h8:q.convs.length≤8) (h8':q.waits.length≤8) :
  Calls prog 161 #[q.val A1 A2 A3 c1 c2 c3] w (tF fJ 211 w (q.convs++q.waits)):=by
 have HC:=Lib.hid (fun g W (hb:Below w.heap.size w W) h0 h1=>xe g A2 A3 c2 c3 q.convs q.waits W B (Nat.le_trans hq.hB hb.size) h0 h1 (hq.r2.below hb hq.hB (Nat.le_refl _)) (hq.r3.below hb hq.hB (Nat.le_refl _)) (by omega));clear hq;obtain ⟨⟨nm,kd,un,h⟩,hs,cs,ws,gen⟩:=q;unfold Qu.val;dsimp only at HC h8 h8' ⊢
 go_enter func161,ntmps161
 go_wp2_with fail
 refine (HC.out (w.heap.size+1) _ bO (by go_simp) (by go_simp)).mono ?_;rintro e w1 ⟨v1,rfl,hown1,hb1⟩;have HO1:=Lib.hid hown1;have HB1:=Lib.hid hb1;clear hown1 hb1;go_wp2_with fail
 go_ret
 exact ⟨_,rfl,HO1.out.older (by simp;omega),by exact bO⟩
def bZ (l:List Wt):List Pr:=l.map (·.proc)
def fx:List Wt→Pr→Option Am
 | [],_=>none
 | x :: l,p=>bif decide (x.proc=p) then some x.am else fx l p
def ai (q:Qu) (p:Pr):Option Am:=fx (q.convs++q.waits) p
theorem cd (x:Wt) (l:List Wt) (p:Pr):fx (x :: l) p=bif decide (x.proc=p) then some x.am else fx l p:=rfl
def ef (q:Qu):List Pr:=gL (c8 q.holds++rm q)
def bR (n:ByteArray):Nat→List Qu→Int
 | _,[]=>-1
 | k,q :: l=>bif q.res.name.toList == n.toList then (k:Int) else bR n (k+1) l
theorem eR (n:ByteArray) (k:Nat) (q:Qu) (l:List Qu):bR n k (q :: l)=bif q.res.name.toList == n.toList then (k:Int) else bR n (k+1) l:=rfl
def jS:List Qu→List Pr
 | []=>[]
 | q :: l=>ef q++jS l
def fy (q:Qu):Prop:=q.holds.length≤8∧q.convs.length≤8∧q.waits.length≤8
theorem oE {q:Qu} (h:fy q):(ef q).length≤24:=by
 unfold ef;have h1:=zN (c8 q.holds++rm q);have h2:(c8 q.holds++rm q).length=q.holds.length+(q.convs.length+q.waits.length):=by simp [c8,rm,bZ]
 have:=h.1;have:=h.2.1;have:=h.2.2;omega
theorem vg:∀(l:List Qu),(∀q∈l,fy q)→(jS l).length≤l.length*24
 | [],_=>by simp [jS]
 | q :: l,h=>by
  have h1:=vg l fun x hx=>h x (by simp [hx]);have h2:=oE (h q (by simp));simp only [jS,List.length_append,List.length_cons];omega
def aB (l:List Qu):List Pr:=gL (jS l)
def Bq (p:Option ByteArray) (n:ByteArray):Bool:=match p with|none=>true|some m=>Op.bytesLess m.toList n.toList
def jT:Option ByteArray→List Qu→Bool
 | _,[]=>true
 | p,q :: l=>av q && Bq p q.res.name && jT (some q.res.name) l
theorem du (p:Option ByteArray) (q:Qu) (l:List Qu):jT p (q :: l)=(av q && Bq p q.res.name && jT (some q.res.name) l):=rfl
def f7 (l:List Qu):Bool:=decide (l.length≤8) && jT none l
def sq (l:List Qu) (k:Nat):Option ByteArray:=if k=0 then none else (l[k-1]?).map (·.res.name)
theorem xh (l:List Qu):sq l 0=none:=rfl
theorem oF {l:List Qu} {k:Nat} {x:Qu} (h:k<l.length) (hx:l[k]=x):sq l (k+1)=some x.res.name:=by
 unfold sq;rw [if_neg (by omega),Nat.add_sub_cancel,List.getElem?_eq_getElem h,hx];rfl
theorem zO {l:List Qu} {k:Nat} {x:Qu} (h0:0<k) (h:k-1<l.length) (hx:l[k-1]=x):sq l k=some x.res.name:=by
 unfold sq;rw [if_neg (by omega),List.getElem?_eq_getElem h,hx];rfl
def Fo (p:Option Pr) (x:Pr):Bool:=match p with|none=>true|some y=>decide (bC y x<0)
theorem xv (r:Rs) (p:Option Pr) (x:Ho) (l:List Ho):rl r p (x :: l)=(j8 x.proc && aC r x.am && Fo p x.proc && rl r (some x.proc) l):=by cases p <;> rfl
theorem yC {p:Option Pr} {x:Pr}:Fo p x=true↔∀q,p=some q→fC q x:=by
 cases p with
 | none=>simp [Fo]
 | some q=>simp [Fo,fL]
theorem vy (r:Rs):∀(l:List Ho) (p:Option Pr),rl r p l=true↔(∀x∈l,j8 x.proc=true∧aC r x.am=true)∧(c8 l).Pairwise fC∧∀q,p=some q→∀x∈l,fC q x.proc
 | [],p=>by simp [rl,c8]
 | x :: l,p=>by
  rw [xv];simp only [Bool.and_eq_true,vy r l,yC];constructor
  ·rintro ⟨⟨⟨h1,h2⟩,h3⟩,h4,h5,h6⟩;refine ⟨?_,?_,?_⟩
   ·intro y hy;rcases List.mem_cons.1 hy with rfl|hy
    ·exact ⟨h1,h2⟩
    ·exact h4 y hy
   ·show (x.proc :: c8 l).Pairwise fC;refine List.pairwise_cons.2 ⟨?_,h5⟩;intro y hy;obtain ⟨z,hz,rfl⟩:=List.mem_map.1 hy;exact h6 _ rfl z hz
   ·intro q hq y hy;rcases List.mem_cons.1 hy with rfl|hy
    ·exact h3 q hq
    ·exact cX (h3 q hq) (h6 _ rfl y hy)
  ·rintro ⟨h1,h2,h3⟩;have h2':(x.proc :: c8 l).Pairwise fC:=h2;obtain ⟨h4,h5⟩:=List.pairwise_cons.1 h2';refine ⟨⟨h1 x (by simp),fun q hq=>h3 q hq x (by simp)⟩,fun y hy=>h1 y (by simp [hy]),h5,?_⟩;intro q hq y hy;injection hq with hq;subst hq;exact h4 _ (List.mem_map.2 ⟨y,hy,rfl⟩)
def kn:List Am→Int
 | []=>0
 | a :: l=>a.units+kn l
def BS (a b:Am):Bool:=aG a || aG b || iX a.mode b.mode
theorem BT (a b:Am):BS a b=BS b a:=by
 unfold BS;rw [gJ,Bool.or_comm (aG a)]
theorem ko {r:Rs} {a:Am} (h:aX r a=true) (hk:r.kind=2):0≤a.units:=(i3 h (by omega)).2.1
theorem nj {r:Rs} (hk:r.kind=2):∀{l:List Am},(∀a∈l,aX r a=true)→0≤kn l
 | [],_=>Int.le_refl _
 | a :: l,h=>by
  have h1:=ko (h a (by simp)) hk;have h2:=nj hk (l:=l) fun b hb=>h b (by simp [hb]);show 0≤a.units+kn l;omega
theorem Af (a:Am) (l:List Am):iF a l=false↔∀b∈l,BS b a=true:=by
 unfold iF BS;rw [List.any_eq_false];constructor
 ·intro h b hb;have:=h b hb;have e:=gJ b.mode a.mode;cases h1:aG a <;> cases h2:aG b <;> simp_all
 ·intro h b hb;have:=h b hb;have e:=gJ b.mode a.mode;cases h1:aG a <;> cases h2:aG b <;> simp_all
theorem kq {r:Rs}:∀(l:List Am) (s:Int) (pre:List Am),dw r s pre l=true↔(∀a∈l,aX r a=true)∧(r.kind=2→l≠[]→s+kn l≤r.units)∧(r.kind≠2→l.Pairwise (fun a b=>BS a b=true)∧∀a∈l,∀b∈pre,BS b a=true)
 | [],s,pre=>by simp [dw]
 | a :: l,s,pre=>by
  rw [iZ,Bool.and_eq_true];by_cases hk:r.kind=2
  ·rw [if_pos hk,Bool.and_eq_true,decide_eq_true_eq,kq l];constructor
   ·rintro ⟨h1,h2,h3,h4,_⟩;refine ⟨?_,?_,fun h=>absurd hk h⟩
    ·intro b hb;rcases List.mem_cons.1 hb with rfl|hb
     ·exact h1
     ·exact h3 b hb
    ·intro _ _;show s+(a.units+kn l)≤r.units;cases l with
     | nil=>show s+(a.units+0)≤r.units;omega
     | cons b m=>have:=h4 hk (by simp);omega
   ·rintro ⟨h1,h2,_⟩;have h3:s+(a.units+kn l)≤r.units:=h2 hk (by simp);have h4:=nj hk (l:=l) fun b hb=>h1 b (by simp [hb]);exact ⟨h1 a (by simp),by omega,fun b hb=>h1 b (by simp [hb]),fun _ _=>by omega,fun h=>absurd hk h⟩
  ·rw [if_neg hk,Bool.and_eq_true,kq l,Bool.not_eq_true',Af];constructor
   ·rintro ⟨h1,h2,h3,_,h5⟩;obtain ⟨h6,h7⟩:=h5 hk;refine ⟨?_,fun h=>absurd h hk,fun _=>⟨List.pairwise_cons.2 ⟨fun b hb=>h7 b hb a (by simp),h6⟩,?_⟩⟩
    ·intro b hb;rcases List.mem_cons.1 hb with rfl|hb
     ·exact h1
     ·exact h3 b hb
    ·intro b hb c hc;rcases List.mem_cons.1 hb with rfl|hb
     ·exact h2 c hc
     ·exact h7 b hb c (by simp [hc])
   ·rintro ⟨h1,_,h3⟩;obtain ⟨h4,h5⟩:=h3 hk;obtain ⟨h6,h7⟩:=List.pairwise_cons.1 h4;refine ⟨h1 a (by simp),h5 a (by simp),fun b hb=>h1 b (by simp [hb]),fun h=>absurd h hk,fun _=>⟨h7,?_⟩⟩;intro b hb c hc;rcases List.mem_append.1 hc with hc|hc
    ·exact h5 b (by simp [hb]) c hc
    ·rw [List.mem_singleton] at hc;subst hc;exact h6 b hb
structure Comp (r:Rs) (l:List Am):Prop where
 shp:aU r=true
 prm:∀a∈l,aX r a=true
 sum:r.kind=2→kn l≤r.units
 ok:r.kind≠2→l.Pairwise (fun a b=>BS a b=true)
theorem sI {r:Rs} {l:List Am}:f0 r l=true↔Comp r l:=by
 unfold f0;rw [Bool.and_eq_true,kq];constructor
 ·rintro ⟨h0,h1,h2,h3⟩;refine ⟨h0,h1,fun hk=>?_,fun hk=>(h3 hk).1⟩;cases l with
  | nil =>
   have:=bQ h0;show (0:Int)≤r.units;omega
  | cons a m=>have:=h2 hk (by simp);omega
 ·rintro ⟨h0,h1,h2,h3⟩;exact ⟨h0,h1,fun hk _=>by have:=h2 hk;omega,fun hk=>⟨h3 hk,fun _ _ _ hb=>absurd hb (by simp)⟩⟩
theorem Ag {l l':List Am} (h:l.Perm l'):kn l=kn l':=by
 induction h with
 | nil=>rfl
 | cons a _ ih=>show a.units+_=a.units+_;rw [ih]
 | swap a b l=>show b.units+(a.units+kn l)=a.units+(b.units+kn l);omega
 | trans _ _ h1 h2=>exact h1.trans h2
theorem Comp.perm {r:Rs} {l l':List Am} (h:Comp r l) (p:l.Perm l'):Comp r l' :=
 ⟨h.shp,fun a ha=>h.prm a (p.mem_iff.2 ha),fun hk=>by rw [←Ag p];exact h.sum hk,fun hk=>(p.pairwise_iff (fun {a b} hab=>by rw [BT];exact hab)).1 (h.ok hk)⟩
theorem Comp.tail {r:Rs} {a:Am} {l:List Am} (h:Comp r (a :: l)):Comp r l :=
 ⟨h.shp,fun b hb=>h.prm b (by simp [hb]),fun hk=>by
  have h1:a.units+kn l≤r.units:=h.sum hk;have h2:=ko (h.prm a (by simp)) hk;omega,fun hk=>(List.pairwise_cons.1 (h.ok hk)).2⟩
theorem Ah {r:Rs} {a b c:Am} (hk:r.kind=1) (h:a8 r a b=true) (ho:BS a c=true):BS b c=true:=by
 unfold a8 at h;simp only [hk,if_true,Bool.and_eq_true,Bool.or_eq_true,Bool.not_eq_true'] at h;unfold BS at ho ⊢;simp only [Bool.or_eq_true] at ho ⊢;rcases h.2 with h1|⟨h1,h2⟩
 ·exact .inl (.inl h1)
 ·rcases ho with (h3|h3)|h3
  ·rw [h1] at h3;cases h3
  ·exact .inl (.inr h3)
  ·refine .inr ?_;unfold cS at h2;unfold iX at h3 ⊢;simp only [Bool.and_eq_true,Bool.or_eq_true,Bool.not_eq_true',decide_eq_true_eq,decide_eq_false_iff_not] at h2 h3 ⊢;obtain ⟨⟨h4,h5⟩,h6⟩:=h2;obtain ⟨⟨⟨⟨h7,h8⟩,h9⟩,h10⟩,h11⟩:=h3;unfold bM at *
   simp only [Bool.and_eq_true,decide_eq_true_eq] at *
   refine ⟨⟨⟨⟨h5,h8⟩,?_⟩,h10⟩,?_⟩ <;> omega
theorem Comp.lower {r:Rs} {a b:Am} {l:List Am} (h:Comp r (a :: l)) (hc:a8 r a b=true):Comp r (b :: l):=by
 have hp:aX r b=true:=by unfold a8 at hc;simp only [Bool.and_eq_true] at hc;exact hc.1.2
 refine ⟨h.shp,?_,fun hk=>?_,fun hk=>?_⟩
 ·intro x hx;rcases List.mem_cons.1 hx with rfl|hx
  ·exact hp
  ·exact h.prm x (by simp [hx])
 ·have h1:a.units+kn l≤r.units:=h.sum hk;have h2:=ko (h.prm a (by simp)) hk;show b.units+kn l≤r.units;unfold a8 at hc;rw [if_neg (show ¬r.kind=1 by omega)] at hc;simp only [Bool.and_eq_true,Bool.or_eq_true,decide_eq_true_eq] at hc;rcases hc.2 with h3|h3
  ·unfold aG at h3;have h4:=of_decide_eq_true h3;rw [h4];show 0+kn l≤r.units;omega
  ·omega
 ·have hk1:r.kind=1:=by have:=bQ h.shp;omega
  obtain ⟨h1,h2⟩:=List.pairwise_cons.1 (h.ok hk);exact List.pairwise_cons.2 ⟨fun c hc2=>Ah hk1 hc (h1 c hc2),h2⟩
theorem pf (l:List Ho) (p q:Pr):ao (eB l p) q=if q=p then ⟨0,0⟩ else ao l q:=by
 induction l with
 | nil=>simp [eB,ao]
 | cons x l ih =>
  rw [ml];by_cases hx:x.proc=p
  ·rw [decide_eq_true hx,cond_true,ih];by_cases hq:q=p
   ·rw [if_pos hq,if_pos hq]
   ·rw [if_neg hq,if_neg hq];show _=bif decide (x.proc=q) then _ else _;rw [decide_eq_false (fun e=>hq (e.symm.trans hx)),cond_false]
  ·rw [decide_eq_false hx,cond_false];show (bif decide (x.proc=q) then x.am else ao (eB l p) q)=_;rw [ih];by_cases hq:q=p
   ·rw [if_pos hq,if_pos hq,decide_eq_false (fun e=>hx (e.trans hq)),cond_false]
   ·rw [if_neg hq,if_neg hq];rfl
theorem vz (x:Ho) (q:Pr):∀l:List Ho,(∀y∈l,y.proc≠x.proc)→ao (lj x l) q=if q=x.proc then x.am else ao l q
 | [],_=>by
  show (bif decide (x.proc=q) then x.am else ⟨0,0⟩)=_;by_cases h:q=x.proc
  ·rw [if_pos h,decide_eq_true h.symm];rfl
  ·rw [if_neg h,decide_eq_false (fun e=>h e.symm)];rfl
 | y :: l,hl=>by
  have hy:=hl y (by simp);rw [gK];cases decide (0<bC y.proc x.proc) with
  | true =>
   show (bif decide (x.proc=q) then x.am else ao (y :: l) q)=_;by_cases h:q=x.proc
   ·rw [if_pos h,decide_eq_true h.symm];rfl
   ·rw [if_neg h,decide_eq_false (fun e=>h e.symm)];rfl
  | false =>
   show (bif decide (y.proc=q) then y.am else ao (lj x l) q)=_;rw [vz x q l fun z hz=>hl z (by simp [hz])];by_cases h:q=x.proc
   ·rw [if_pos h,if_pos h,decide_eq_false (fun e=>hy (e.trans h)),cond_false]
   ·rw [if_neg h,if_neg h];rfl
theorem yD {l:List Ho} {p:Pr}:∀y∈eB l p,y.proc≠p:=by
 intro y hy;have:=(List.mem_filter.1 hy).2;simpa using this
theorem dZ (l:List Ho) (p:Pr) (a:Am) (q:Pr):ao (cm l p a) q=if q=p then a else ao l q:=by
 unfold cm;cases hz:aG a with
 | true =>
  rw [cond_true,pf];have:a=⟨0,0⟩:=of_decide_eq_true hz;rw [this]
 | false =>
  rw [cond_false,vz ⟨p,a⟩ q _ yD];show (if q=p then a else ao (eB l p) q)=_;by_cases h:q=p
  ·rw [if_pos h,if_pos h]
  ·rw [if_neg h,if_neg h,pf,if_neg h]
theorem jD (x:Ho):∀l:List Ho,(lj x l).Perm (x :: l)
 | []=>List.Perm.refl _
 | y :: l=>by
  rw [gK];cases decide (0<bC y.proc x.proc) with
  | true=>exact List.Perm.refl _
  | false=>exact ((jD x l).cons y).trans (List.Perm.swap x y l)
theorem vA {x:Ho}:∀{l:List Ho},(c8 l).Pairwise fC→(∀y∈l,y.proc≠x.proc)→(c8 (lj x l)).Pairwise fC
 | [],_,_=>by simp [lj,c8]
 | y :: l,h,hn=>by
  have h':(y.proc :: c8 l).Pairwise fC:=h;obtain ⟨h1,h2⟩:=List.pairwise_cons.1 h';rw [gK];have hyx:=hn y (by simp);cases hc:decide (0<bC y.proc x.proc) with
  | true =>
   have hlt:fC x.proc y.proc:=by
    rcases fK x.proc y.proc with h3|h3|h3
    ·exact h3
    ·exact absurd h3.symm hyx
    ·have:=(fL _ _).2 h3;have:=of_decide_eq_true hc;omega
   refine List.pairwise_cons.2 ⟨?_,h⟩;intro z hz;rcases List.mem_cons.1 (show z∈y.proc :: c8 l from hz) with rfl|hz
   ·exact hlt
   ·exact cX hlt (h1 z hz)
  | false =>
   have hlt:fC y.proc x.proc:=by
    rcases fK x.proc y.proc with h3|h3|h3
    ·have h4:0<bC y.proc x.proc:=by
      rcases dd y.proc x.proc with ⟨h5,_⟩|⟨h5,_⟩|⟨_,h6⟩
      ·exact absurd h3 (jv h5)
      ·exact absurd h5 hyx
      ·omega
     rw [decide_eq_true h4] at hc;cases hc
    ·exact absurd h3.symm hyx
    ·exact h3
   show (y.proc :: c8 (lj x l)).Pairwise fC;refine List.pairwise_cons.2 ⟨?_,vA h2 fun z hz=>hn z (by simp [hz])⟩;intro z hz;obtain ⟨u,hu,rfl⟩:=List.mem_map.1 hz;rcases List.mem_cons.1 ((jD x l).mem_iff.1 hu) with rfl|hu
   ·exact hlt
   ·exact h1 _ (List.mem_map.2 ⟨u,hu,rfl⟩)
theorem jc {l:List Ho} {p:Pr} (h:ao l p≠⟨0,0⟩):∃x∈l,x.proc=p∧x.am=ao l p:=by
 induction l with
 | nil=>exact absurd rfl h
 | cons x l ih =>
  by_cases hx:x.proc=p
  ·refine ⟨x,by simp,hx,?_⟩;show x.am=bif decide (x.proc=p) then x.am else ao l p;rw [decide_eq_true hx];rfl
  ·have e:ao (x :: l) p=ao l p:=by
    show (bif decide (x.proc=p) then x.am else ao l p)=_;rw [decide_eq_false hx];rfl
   rw [e] at h ⊢;obtain ⟨y,h1,h2⟩:=ih h;exact ⟨y,by simp [h1],h2⟩
structure Hv (r:Rs) (l:List Ho):Prop where
 shp:aU r=true
 len:l.length≤8
 fit:∀x∈l,j8 x.proc=true∧aC r x.am=true
 asc:(c8 l).Pairwise fC
 cmp:Comp r (gp l)
theorem yE {r:Rs} {l:List Ho}:yq r l=true↔Hv r l:=by
 unfold yq;simp only [Bool.and_eq_true,decide_eq_true_eq,vy,sI];constructor
 ·rintro ⟨⟨⟨h1,h2⟩,h3,h4,_⟩,h5⟩;exact ⟨h1,h2,h3,h4,h5⟩
 ·rintro ⟨h1,h2,h3,h4,h5⟩;exact ⟨⟨⟨h1,h2⟩,h3,h4,fun q hq=>by cases hq⟩,h5⟩
theorem mz {l:List Ho} {x:Ho} (ha:(c8 l).Pairwise fC) (hx:x∈l):l.Perm (x :: eB l x.proc):=by
 induction l with
 | nil=>cases hx
 | cons y l ih =>
  have ha':(y.proc :: c8 l).Pairwise fC:=ha;obtain ⟨h1,h2⟩:=List.pairwise_cons.1 ha';rw [ml];rcases List.mem_cons.1 hx with rfl|hx
  ·rw [decide_eq_true rfl,cond_true];have:eB l x.proc=l:=by
    unfold eB;rw [List.filter_eq_self];intro z hz;have h3:=h1 z.proc (List.mem_map.2 ⟨z,hz,rfl⟩);have h4:z.proc≠x.proc:=fun e=>bI _ (e▸h3);simpa using h4
   rw [this]
  ·have h3:=h1 x.proc (List.mem_map.2 ⟨x,hx,rfl⟩);have h4:y.proc≠x.proc:=fun e=>bI _ (e▸h3);rw [decide_eq_false h4,cond_false];exact ((ih h2 hx).cons y).trans (List.Perm.swap x y _)
theorem vB {l:List Ho} (p:Pr) (h:(c8 l).Pairwise fC):(c8 (eB l p)).Pairwise fC:=by
 unfold c8 eB;exact h.sublist ((List.filter_sublist).map _)
theorem BU {l:List Ho} {p:Pr} (h:∀x∈l,x.proc≠p):eB l p=l:=by
 unfold eB;rw [List.filter_eq_self];intro x hx;simpa using h x hx
theorem Hv.fil {r:Rs} {l:List Ho} (h:Hv r l) (p:Pr):Hv r (eB l p):=by
 refine ⟨h.shp,Nat.le_trans (ll l p) h.len,fun x hx=>h.fit x (List.mem_filter.1 hx).1,vB p h.asc,?_⟩;by_cases hp:∃x∈l,x.proc=p
 ·obtain ⟨x,hx,rfl⟩:=hp;exact (h.cmp.perm ((mz h.asc hx).map _)).tail
 ·rw [BU fun x hx e=>hp ⟨x,hx,e⟩];exact h.cmp
theorem Hv.lower {r:Rs} {l:List Ho} (h:Hv r l) {p:Pr} {a:Am} (hc:a8 r (ao l p) a=true) (h0:ao l p≠⟨0,0⟩):Hv r (cm l p a)∧(cm l p a).length≤l.length:=by
 unfold cm;cases hz:aG a with
 | true=>exact ⟨h.fil p,ll l p⟩
 | false =>
  obtain ⟨x,hx,hp,ham⟩:=jc h0;subst hp;rw [←ham] at hc;have hs:=mz h.asc hx;have hl:(eB l x.proc).length+1=l.length:=by rw [hs.length_eq];rfl
  have hlen:(lj ⟨x.proc,a⟩ (eB l x.proc)).length=l.length:=by rw [ln,hl]
  rw [cond_false];refine ⟨⟨h.shp,by rw [hlen];exact h.len,?_,vA (vB _ h.asc) yD,?_⟩,Nat.le_of_eq hlen⟩
  ·intro y hy;rcases List.mem_cons.1 ((jD _ _).mem_iff.1 hy) with rfl|hy
   ·refine ⟨(h.fit x hx).1,?_⟩;unfold a8 aX at hc;simp only [Bool.and_eq_true,Bool.or_eq_true] at hc;rcases hc.1.2.2 with h1|h1
    ·rw [hz] at h1;cases h1
    ·exact h1
   ·exact h.fit y (List.mem_filter.1 hy).1
  ·have h1:Comp r (x.am :: gp (eB l x.proc)):=h.cmp.perm (hs.map _);have h2:=h1.lower hc;exact h2.perm (by have:=(jD ⟨x.proc,a⟩ (eB l x.proc)).symm.map Ho.am;exact this)
theorem jd {p:Pr}:∀{l:List Wt} {k:Nat},(∀x∈l,x.proc≠p)→fZ p k l = -1
 | [],_,_=>rfl
 | x :: l,k,h=>by
  rw [ew,decide_eq_false (h x (by simp)),cond_false];exact jd fun y hy=>h y (by simp [hy])
theorem nk {p:Pr}:∀{l:List Wt} {k:Nat},(∃x∈l,x.proc=p)→(k:Int)≤fZ p k l∧fZ p k l<(k:Int)+l.length
 | [],_,h=>by obtain ⟨_,h,_⟩:=h;cases h
 | x :: l,k,h=>by
  rw [ew];by_cases hx:x.proc=p
  ·rw [decide_eq_true hx,cond_true,List.length_cons];omega
  ·rw [decide_eq_false hx,cond_false,List.length_cons];have h2:∃y∈l,y.proc=p:=by
    obtain ⟨y,hy,e⟩:=h;rcases List.mem_cons.1 hy with rfl|hy
    ·exact absurd e hx
    ·exact ⟨y,hy,e⟩
   have:=nk (k:=k+1) h2;omega
theorem Ai {l:List Wt} {p:Pr}:dB l p<0↔∀x∈l,x.proc≠p:=by
 constructor
 ·intro h x hx e;have:=(nk (k:=0) ⟨x,hx,e⟩).1;unfold dB at h;omega
 ·intro h;unfold dB;rw [jd h];omega
theorem pg:∀(l:List Wt) (k:Nat) (all:List Wt) (pre:List Wt),all=pre++l→k=pre.length→(bZ pre).Nodup→((∀j (h:j<l.length),dB all l[j].proc=((k+j:Nat):Int))↔(bZ all).Nodup)
 | [],k,all,pre,hall,_,hp=>by
  subst hall;simpa using hp
 | x :: l,k,all,pre,hall,hk,hp=>by
  have hx:dB all x.proc=(k:Int)↔∀y∈pre,y.proc≠x.proc:=by
   have gen:∀(pre:List Wt) (k0:Nat),fZ x.proc k0 (pre++x :: l)=((k0+pre.length:Nat):Int)↔∀y∈pre,y.proc≠x.proc:=by
    intro pre;induction pre with
    | nil=>intro k0;simp [ew]
    | cons y pre ih =>
     intro k0;rw [List.cons_append,ew,List.length_cons];by_cases hy:y.proc=x.proc
     ·rw [decide_eq_true hy,cond_true];constructor
      ·intro h;omega
      ·intro h;exact absurd hy (h y (by simp))
     ·rw [decide_eq_false hy,cond_false];have h1:=ih (k0+1);have e1:((k0+(pre.length+1):Nat):Int)=((k0+1+pre.length:Nat):Int):=by omega
      rw [e1,h1];constructor
      ·intro h z hz;rcases List.mem_cons.1 hz with rfl|hz
       ·exact hy
       ·exact h z hz
      ·intro h z hz;exact h z (by simp [hz])
   rw [hall,hk];have:=gen pre 0
   rwa [Nat.zero_add] at this
  have ih:=fun hp2=>pg l (k+1) all (pre++[x]) (by rw [hall];simp) (by simp [hk]) hp2;have hpx:(bZ (pre++[x])).Nodup↔∀y∈pre,y.proc≠x.proc:=by
   unfold bZ at hp ⊢;rw [List.map_append,List.nodup_append];constructor
   ·rintro ⟨_,_,h⟩ y hy;exact h y.proc (List.mem_map.2 ⟨y,hy,rfl⟩) x.proc (by simp)
   ·intro h;refine ⟨hp,by simp,?_⟩;intro a ha b hb;obtain ⟨y,hy,rfl⟩:=List.mem_map.1 ha;simp at hb;subst hb;exact h y hy
  constructor
  ·intro h;have h0:dB all x.proc=(k:Int):=by have:=h 0 (by simp);simpa using this
   refine (ih (hpx.2 (hx.1 h0))).1 fun j hj=>?_;have:=h (j+1) (by simp;omega);simp only [List.getElem_cons_succ] at this;rw [this];omega
  ·intro h j hj;have h1:(bZ (pre++[x])).Nodup:=by
    have e:bZ all=bZ (pre++[x])++bZ l:=by rw [hall];simp [bZ]
    rw [e] at h;exact (List.nodup_append.1 h).1
   cases j with
   | zero=>simpa using hx.2 (hpx.1 h1)
   | succ j =>
    have:=(ih h1).2 h j (by simp at hj;omega);simp only [List.getElem_cons_succ];rw [this];omega
theorem nl (l:List Wt):(∀j (h:j<l.length),dB l l[j].proc=((j:Nat):Int))↔(bZ l).Nodup:=by
 have:=pg l 0 l [] rfl rfl (by simp [bZ]);simpa using this
theorem vC (all:List Wt):∀(l:List Wt) (k:Nat),uX all k l=true↔(∀x∈l,rk x=true)∧∀j (h:j<l.length),dB all l[j].proc=((k+j:Nat):Int)
 | [],k=>by simp [uX]
 | x :: l,k=>by
  rw [mj];simp only [Bool.and_eq_true,decide_eq_true_eq,vC all l];constructor
  ·rintro ⟨⟨h1,h2⟩,h3,h4⟩;refine ⟨?_,?_⟩
   ·intro y hy;rcases List.mem_cons.1 hy with rfl|hy
    ·exact h1
    ·exact h3 y hy
   ·intro j hj;cases j with
    | zero=>simpa using h2
    | succ j =>
     have:=h4 j (by simp at hj;omega);simp only [List.getElem_cons_succ];rw [this];omega
  ·rintro ⟨h1,h2⟩;refine ⟨⟨h1 x (by simp),by have:=h2 0 (by simp);simpa using this⟩,fun y hy=>h1 y (by simp [hy]),fun j hj=>?_⟩;have:=h2 (j+1) (by simp;omega);simp only [List.getElem_cons_succ] at this;rw [this];omega
theorem sJ {l:List Wt}:fD l=true↔l.length≤8∧(∀x∈l,rk x=true)∧(bZ l).Nodup:=by
 unfold fD;simp only [Bool.and_eq_true,decide_eq_true_eq,vC,Nat.zero_add,nl]
structure CvOk (r:Rs) (hs:List Ho) (x:Wt):Prop where
 held:ao hs x.proc≠⟨0,0⟩
 fit:aC r x.am=true
 cov:a8 r x.am (ao hs x.proc)=true
 ne:x.am≠ao hs x.proc
 prio:x.prio=0
 passed:x.passed=0
theorem bb {a:Am}:aG a=false↔a≠⟨0,0⟩:=by unfold aG;simp
theorem vD (q:Qu):∀(l:List Wt) (k:Nat),xc q k l=true↔(∀x∈l,CvOk q.res q.holds x)∧∀j (h:j<l.length),dB q.convs l[j].proc=((k+j:Nat):Int)
 | [],k=>by simp [xc]
 | x :: l,k=>by
  rw [sj,Bool.and_eq_true,vD q l];have h0:Bl q k x=true↔CvOk q.res q.holds x∧dB q.convs x.proc=(k:Int):=by
   unfold Bl;simp only [Bool.and_eq_true,decide_eq_true_eq,Bool.not_eq_true',bb,decide_eq_false_iff_not];constructor
   ·rintro ⟨⟨⟨⟨⟨⟨h1,h2⟩,h3⟩,h4⟩,h5⟩,h6⟩,h7⟩;exact ⟨⟨h2,h3,h4,h5,h6,h7⟩,h1⟩
   ·rintro ⟨⟨h2,h3,h4,h5,h6,h7⟩,h1⟩;exact ⟨⟨⟨⟨⟨⟨h1,h2⟩,h3⟩,h4⟩,h5⟩,h6⟩,h7⟩
  rw [h0];constructor
  ·rintro ⟨⟨h1,h2⟩,h3,h4⟩;refine ⟨?_,?_⟩
   ·intro y hy;rcases List.mem_cons.1 hy with rfl|hy
    ·exact h1
    ·exact h3 y hy
   ·intro j hj;cases j with
    | zero=>simpa using h2
    | succ j =>
     have:=h4 j (by simp at hj;omega);simp only [List.getElem_cons_succ];rw [this];omega
  ·rintro ⟨h1,h2⟩;refine ⟨⟨h1 x (by simp),by have:=h2 0 (by simp);simpa using this⟩,fun y hy=>h1 y (by simp [hy]),fun j hj=>?_⟩;have:=h2 (j+1) (by simp;omega);simp only [List.getElem_cons_succ] at this;rw [this];omega
theorem vE (q:Qu):∀l:List Wt,xd q l=true↔∀x∈l,aC q.res x.am=true∧ao q.holds x.proc=⟨0,0⟩
 | []=>by simp [xd]
 | x :: l=>by
  rw [sk];simp only [Bool.and_eq_true,vE q l];have hz:aG (ao q.holds x.proc)=true↔ao q.holds x.proc=⟨0,0⟩:=by unfold aG;simp
  rw [hz];constructor
  ·rintro ⟨⟨h1,h2⟩,h3⟩ y hy;rcases List.mem_cons.1 hy with rfl|hy
   ·exact ⟨h1,h2⟩
   ·exact h3 y hy
  ·intro h;exact ⟨h x (by simp),fun y hy=>h y (by simp [hy])⟩
structure Sd (q:Qu):Prop where
 res:jQ q.res=true
 hv:Hv q.res q.holds
 clen:q.convs.length≤8
 cnd:(bZ q.convs).Nodup
 cok:∀x∈q.convs,CvOk q.res q.holds x
 wlen:q.holds.length+q.waits.length≤8
 wnd:(bZ q.waits).Nodup
 wok:∀x∈q.waits,rk x=true∧aC q.res x.am=true∧ao q.holds x.proc=⟨0,0⟩
 gen:0≤q.gen∧q.gen≤1073741824
theorem ph {q:Qu}:mm q=true↔Sd q:=by
 unfold mm Hi Hj;simp only [Bool.and_eq_true,decide_eq_true_eq,yE,vD,vE,sJ,Nat.zero_add,nl];constructor
 ·rintro ⟨⟨⟨⟨⟨h1,h2⟩,h3,h4,h5⟩,⟨⟨h6,h7,h8⟩,h9⟩,h10⟩,h11⟩,h12⟩;exact ⟨h1,h2,h3,h5,h4,h9,h8,fun x hx=>⟨h7 x hx,h10 x hx⟩,h11,h12⟩
 ·rintro ⟨h1,h2,h3,h5,h4,h9,h8,h7,h11,h12⟩;exact ⟨⟨⟨⟨⟨h1,h2⟩,h3,h4,h5⟩,⟨⟨by omega,fun x hx=>(h7 x hx).1,h8⟩,h9⟩,fun x hx=>(h7 x hx).2⟩,h11⟩,h12⟩
theorem Sd.noboth {q:Qu} (h:Sd q) {x y:Wt} (hx:x∈q.convs) (hy:y∈q.waits):x.proc≠y.proc:=fun e=>by
 have h1:=(h.cok x hx).held;rw [e,(h.wok y hy).2.2] at h1;exact h1 rfl
def gc (q:Qu) (x:Wt):Qu:=match q.convs with
 | _ :: l=>{ q with convs:=l,holds:=cm q.holds x.proc x.am }
 | []=>{ q with waits:=q.waits.tail,holds:=cm q.holds x.proc x.am }
theorem ua {l:List Ho} {p:Pr} {a:Am} (ha:(c8 l).Pairwise fC) (h0:ao l p≠⟨0,0⟩):(cm l p a).length≤l.length:=by
 obtain ⟨x,hx,hp,_⟩:=jc h0;subst hp;have hs:=(mz ha hx).length_eq;rw [List.length_cons] at hs;unfold cm;cases aG a with
 | true=>rw [cond_true];omega
 | false=>rw [cond_false,ln];omega
theorem Eh {r:Rs} {l:List Ho} {p:Pr} {a:Am} (h:f5 r l p a=true):Hv r (cm l p a):=by
 unfold f5 at h;rw [Bool.and_eq_true] at h;exact yE.1 h.2
theorem CvOk.set {r:Rs} {hs:List Ho} {x:Wt} {p:Pr} {a:Am} (h:CvOk r hs x) (hp:x.proc≠p):CvOk r (cm hs p a) x:=by
 have e:ao (cm hs p a) x.proc=ao hs x.proc:=by rw [dZ,if_neg hp]
 exact ⟨by rw [e];exact h.held,h.fit,by rw [e];exact h.cov,by rw [e];exact h.ne,h.prio,h.passed⟩
theorem Sd.pop {q:Qu} (h:Sd q) {x:Wt} (hx:dm q=some x) (hr:f5 q.res q.holds x.proc x.am=true):Sd (gc q x):=by
 obtain ⟨res,hs,cs,ws,gen⟩:=q;unfold dm at hx;unfold gc;have hv:=Eh hr;cases cs with
 | cons c l =>
  injection hx with hx;subst hx;have hn:(c.proc :: bZ l).Nodup:=h.cnd;rw [List.nodup_cons] at hn;refine ⟨h.res,hv,by have:=h.clen;simp at this;show l.length≤8;omega,hn.2,?_,?_,h.wnd,?_,h.gen⟩
  ·intro y hy;exact (h.cok y (by simp [hy])).set fun e=>hn.1 (e▸List.mem_map.2 ⟨y,hy,rfl⟩)
  ·have h1:=ua (a:=c.am) h.hv.asc (h.cok c (by simp)).held;have h2:=h.wlen;show (cm hs c.proc c.am).length+ws.length≤8;simp only at h1 h2;omega
  ·intro y hy;refine ⟨(h.wok y hy).1,(h.wok y hy).2.1,?_⟩;show ao (cm hs c.proc c.am) y.proc=_;rw [dZ,if_neg (fun e=>h.noboth (x:=c) (by simp) hy e.symm)];exact (h.wok y hy).2.2
 | nil =>
  cases ws with
  | nil=>cases hx
  | cons c l =>
   have hx':some c=some x:=hx;injection hx' with hx';subst hx';have hn:(c.proc :: bZ l).Nodup:=h.wnd;rw [List.nodup_cons] at hn;refine ⟨h.res,hv,by simp,by simp [bZ],fun y hy=>absurd hy (by simp),?_,hn.2,?_,h.gen⟩
   ·have h1:=Bk hs c.proc c.am;have h2:=h.wlen;show (cm hs c.proc c.am).length+l.length≤8;simp only [List.length_cons] at h2;omega
   ·intro y hy;have hy':y∈l:=hy;refine ⟨(h.wok y (by simp [hy'])).1,(h.wok y (by simp [hy'])).2.1,?_⟩;show ao (cm hs c.proc c.am) y.proc=_;rw [dZ,if_neg (show ¬y.proc=c.proc from fun e=>hn.1 (e▸List.mem_map.2 ⟨y,hy',rfl⟩))];exact (h.wok y (by simp [hy'])).2.2
def d5:Nat→Qu→List Ho→Qu×List Ho
 | 0,q,acc=>(q,acc)
 | n+1,q,acc=>match dm q with
  | none=>(q,acc)
  | some x=>bif f5 q.res q.holds x.proc x.am then d5 n (gc q x) (acc++[⟨x.proc,x.am⟩]) else (q,acc)
def fF (q:Qu):Nat:=q.convs.length+q.waits.length
def lC (q:Qu):Qu×List Ho:=d5 (fF q) q []
theorem xw {q:Qu} {x:Wt} (hx:dm q=some x):fF (gc q x)+1=fF q:=by
 obtain ⟨res,hs,cs,ws,gen⟩:=q;unfold dm at hx;unfold gc fF;cases cs with
 | cons c l=>simp;omega
 | nil =>
  cases ws with
  | nil=>cases hx
  | cons c l=>simp
theorem cr {q:Qu}:av q=true↔Sd q∧∀x,dm q=some x→f5 q.res q.holds x.proc x.am=false:=by
 unfold av;rw [Bool.and_eq_true,ph];cases dm q with
 | none=>simp
 | some x=>simp
theorem BV (q:Qu) (x:Wt):(gc q x).gen=q.gen∧(gc q x).res=q.res:=by
 unfold gc;cases q.convs <;> exact ⟨rfl,rfl⟩
theorem j5:∀(n:Nat) (q:Qu) (acc:List Ho),Sd q→fF q≤n→av (d5 n q acc).1=true∧(d5 n q acc).1.gen=q.gen∧(d5 n q acc).1.res=q.res
 | 0,q,acc,h,hn=>by
  refine ⟨cr.2 ⟨h,fun x hx=>?_⟩,rfl,rfl⟩;have:=xw (show dm q=some x from hx);omega
 | n+1,q,acc,h,hn=>by
  unfold d5;cases hx:dm q with
  | none=>exact ⟨cr.2 ⟨h,fun x hx2=>by rw [hx] at hx2;cases hx2⟩,rfl,rfl⟩
  | some x =>
   dsimp only;cases hr:f5 q.res q.holds x.proc x.am with
   | false =>
    rw [cond_false];refine ⟨cr.2 ⟨h,fun y hy=>?_⟩,rfl,rfl⟩;rw [hx] at hy;injection hy with hy;subst hy;exact hr
   | true =>
    rw [cond_true];have h1:=xw hx;have h2:=j5 n (gc q x) (acc++[⟨x.proc,x.am⟩]) (h.pop hx hr) (by omega);have h3:=BV q x;exact ⟨h2.1,h2.2.1.trans h3.1,h2.2.2.trans h3.2⟩
theorem dg {q:Qu} (h:Sd q):av (lC q).1=true∧(lC q).1.gen=q.gen∧(lC q).1.res=q.res:=j5 _ q [] h (Nat.le_refl _)
def dn (q:Qu):Qu×List Ho:=({ (lC q).1 with gen:=aJ q.gen },(lC q).2)
theorem lD {n:Int}:1≤aJ n∧aJ n≤1073741824:=by unfold aJ;split <;> omega
theorem Sd.regen {q:Qu} (h:Sd q) {g:Int} (hg:0≤g∧g≤1073741824):Sd { q with gen:=g }:=⟨h.res,h.hv,h.clen,h.cnd,h.cok,h.wlen,h.wnd,h.wok,hg⟩
theorem lE {q:Qu} (h:Sd q):av (dn q).1=true∧(dn q).1.res=q.res:=by
 have h1:=dg h;obtain ⟨h2,h3⟩:=cr.1 h1.1;refine ⟨cr.2 ⟨h2.regen (by have:=lD (n:=q.gen);omega),fun x hx=>h3 x hx⟩,h1.2.2⟩
def mA (a b:Int):Int:=bif cS 1 a && cS 1 b then 1 else bif cS 2 a && cS 2 b then 2 else bif cS 3 a && cS 3 b then 3 else bif cS 4 a && cS 4 b then 4 else bif cS 5 a && cS 5 b then 5 else 0
def bN (r:Rs) (a b:Am):Am:=bif aX r a && aX r b then (bif a8 r a b then a else bif a8 r b a then b else ⟨mA a.mode b.mode,0⟩) else ⟨0,0⟩
theorem Gb {h a:Int} (h1:bM h=true) (h2:bM a=true) (hc:cS h a=false) :
  bM (bif cS a h then a else mA h a)=true∧cS (bif cS a h then a else mA h a) h=true∧cS (bif cS a h then a else mA h a) a=true∧(bif cS a h then a else mA h a)≠h:=by
 unfold bM at h1 h2;simp only [Bool.and_eq_true,decide_eq_true_eq] at h1 h2;have e1:h=1∨h=2∨h=3∨h=4∨h=5:=by omega
 have e2:a=1∨a=2∨a=3∨a=4∨a=5:=by omega
 rcases e1 with rfl|rfl|rfl|rfl|rfl <;> rcases e2 with rfl|rfl|rfl|rfl|rfl <;> first|(exact absurd hc (by decide))|decide
theorem cw {r:Rs} {a:Am} (h:aC r a=true):aX r a=true:=by
 have h2:=h;unfold aC at h2;unfold aX;rw [Bool.and_eq_true] at h2 ⊢;exact ⟨h2.1,by rw [h,Bool.or_true]⟩
theorem dC {r:Rs} {a:Am} (h:aC r a=true):aG a=false:=by
 rw [bb];rintro rfl;unfold aC bM at h;simp at h
theorem pi {r:Rs} {a:Am} (h:aC r a=true):a8 r a a=true:=by
 have hp:=cw h;have hz:=dC h;unfold a8;rw [hp,hz];unfold aC at h;by_cases hk:r.kind=1
 ·rw [if_pos hk] at h;rw [if_pos hk];simp only [Bool.and_eq_true] at h;unfold cS;simp [h.2.1]
 ·simp [hk]
theorem yF {r:Rs} {h a:Am} (h1:aC r h=true) (h2:aC r a=true) (hc:a8 r h a=false) :
  aC r (bN r h a)=true∧a8 r (bN r h a) h=true∧a8 r (bN r h a) a=true∧bN r h a≠h:=by
 have p1:=cw h1;have p2:=cw h2;have z1:=dC h1;have z2:=dC h2;have hs:aU r=true:=by unfold aC at h1;rw [Bool.and_eq_true] at h1;exact h1.1
 unfold bN;rw [p1,p2,hc];simp only [Bool.and_true,cond_true,cond_false];rcases bQ hs with ⟨hk,_⟩|⟨hk,_⟩
 ·obtain ⟨hm,hu⟩:=h;obtain ⟨am,au⟩:=a;have f1:=h1;have f2:=h2;unfold aC at f1 f2;rw [if_pos hk] at f1 f2;simp only [Bool.and_eq_true,decide_eq_true_eq] at f1 f2;obtain ⟨_,m1,rfl⟩:=f1;obtain ⟨_,m2,rfl⟩:=f2;have cv:∀x y:Int,bM x=true→bM y=true→a8 r ⟨x,0⟩ ⟨y,0⟩=cS x y:=by
   intro x y hx hy;have ft:∀z:Int,bM z=true→aC r ⟨z,0⟩=true:=by intro z hz;unfold aC;rw [if_pos hk,hs,hz];rfl
   have p3:=cw (ft x hx);have p4:=cw (ft y hy);have z3:=dC (ft x hx);have z4:=dC (ft y hy);unfold a8;rw [p3,p4,z3,z4,if_pos hk];rfl
  rw [cv _ _ m1 m2] at hc;obtain ⟨s1,s2,s3,s4⟩:=Gb m1 m2 hc;rw [cv _ _ m2 m1];have e:(bif cS am hm then (⟨am,0⟩:Am) else ⟨mA hm am,0⟩)=⟨bif cS am hm then am else mA hm am,0⟩:=by cases cS am hm <;> rfl
  rw [e,cv _ _ s1 m1,cv _ _ s1 m2];refine ⟨?_,s2,s3,?_⟩
  ·unfold aC;rw [if_pos hk,hs,s1];rfl
  ·intro h;injection h with h;exact s4 h
 ·have hk1:¬r.kind=1:=by omega
  have hc2:h.units<a.units:=by
   unfold a8 at hc;rw [p1,p2,z1,z2,if_neg hk1] at hc;simpa using hc
  have c2:a8 r a h=true:=by
   unfold a8;rw [p1,p2,z1,z2,if_neg hk1];simp;omega
  rw [c2,cond_true];exact ⟨h2,c2,pi h2,fun e=>by rw [e] at hc2;omega⟩
def gt (x:Wt):Wt:={ x with passed:=x.passed+1 }
def je (w:Wt) (l:List Wt):Nat→Nat
 | 0=>0
 | n+1=>match l[n]? with
  | none=>n+1
  | some x=>bif decide (x.prio<w.prio) && decide (x.passed<3) then je w l n else n+1
def gS (l:List Wt) (w:Wt):List Wt:=l.take (je w l l.length)++w :: (l.drop (je w l l.length)).map gt
theorem yG (w:Wt) (l:List Wt):∀n,je w l n≤n
 | 0=>Nat.le_refl _
 | n+1=>by
  unfold je;cases l[n]? with
  | none=>exact Nat.le_refl _
  | some x =>
   dsimp only;cases decide (x.prio<w.prio) && decide (x.passed<3) with
   | true=>have:=yG w l n;simp only [cond_true];omega
   | false=>exact Nat.le_refl _
theorem sK (w:Wt) (l:List Wt):∀n j x,je w l n≤j→j<n→l[j]? = some x→x.prio<w.prio∧x.passed<3
 | 0,_,_,_,h,_=>absurd h (by omega)
 | n+1,j,x,hk,hj,hx=>by
  unfold je at hk;by_cases hjn:j=n
  ·subst hjn;rw [hx] at hk;dsimp only at hk;cases hc:decide (x.prio<w.prio) && decide (x.passed<3) with
   | true=>simpa using hc
   | false=>rw [hc] at hk;simp only [cond_false] at hk;omega
  ·cases hn:l[n]? with
   | none=>rw [hn] at hk;dsimp only at hk;omega
   | some y =>
    rw [hn] at hk;dsimp only at hk;cases hc:decide (y.prio<w.prio) && decide (y.passed<3) with
    | true=>rw [hc] at hk;exact sK w l n j x hk (by omega) hx
    | false=>rw [hc] at hk;simp only [cond_false] at hk;omega
theorem vF (l:List Wt) (w:Wt):(gS l w).length=l.length+1:=by
 unfold gS;have:=yG w l l.length;simp;omega
theorem xy (l:List Wt) (w:Wt):(bZ (gS l w)).Perm (w.proc :: bZ l):=by
 have e:bZ (gS l w)=bZ (l.take (je w l l.length))++w.proc :: bZ (l.drop (je w l l.length)):=by
  unfold gS bZ;rw [List.map_append,List.map_cons,List.map_map];rfl
 have e2:bZ l=bZ (l.take (je w l l.length))++bZ (l.drop (je w l l.length)):=by
  unfold bZ;rw [←List.map_append,List.take_append_drop]
 rw [e]
 conv=>rhs;rw [e2]
 exact List.perm_middle
theorem pj {l:List Wt} {w x:Wt} (hx:x∈gS l w):x=w∨x∈l∨∃y∈l,x=gt y∧y.prio<w.prio∧y.passed<3:=by
 unfold gS at hx;rcases List.mem_append.1 hx with hx|hx
 ·exact .inr (.inl (List.mem_of_mem_take hx))
 ·rcases List.mem_cons.1 hx with hx|hx
  ·exact .inl hx
  ·obtain ⟨y,hy,rfl⟩:=List.mem_map.1 hx;obtain ⟨j,hj,e⟩:=List.mem_iff_getElem.1 hy;rw [List.getElem_drop] at e;rw [List.length_drop] at hj;have h1:=sK w l l.length (je w l l.length+j) y (by omega) (by omega) (by rw [List.getElem?_eq_getElem (by omega),e]);exact .inr (.inr ⟨y,List.mem_of_mem_drop hy,rfl,h1⟩)
theorem dv {l:List Wt} {p:Pr}:fx l p=none↔∀x∈l,x.proc≠p:=by
 induction l with
 | nil=>simp [fx]
 | cons x l ih =>
  rw [cd];by_cases hx:x.proc=p
  ·rw [decide_eq_true hx,cond_true];constructor
   ·intro h;cases h
   ·intro h;exact absurd hx (h x (by simp))
  ·rw [decide_eq_false hx,cond_false,ih];constructor
   ·intro h y hy;rcases List.mem_cons.1 hy with rfl|hy
    ·exact hx
    ·exact h y hy
   ·intro h y hy;exact h y (by simp [hy])
theorem Aj {l:List Wt} {p:Pr} {a:Am} (h:fx l p=some a):∃x∈l,x.proc=p∧x.am=a:=by
 induction l with
 | nil=>cases h
 | cons x l ih =>
  rw [cd] at h;by_cases hx:x.proc=p
  ·rw [decide_eq_true hx,cond_true] at h;injection h with h;exact ⟨x,by simp,hx,h⟩
  ·rw [decide_eq_false hx,cond_false] at h;obtain ⟨y,h1,h2⟩:=ih h;exact ⟨y,by simp [h1],h2⟩
theorem d7 (l m:List Wt) (p:Pr):fx (l++m) p=match fx l p with|some a=>some a|none=>fx m p:=by
 induction l with
 | nil=>rfl
 | cons x l ih =>
  rw [List.cons_append,cd,cd];cases decide (x.proc=p) with
  | true=>rfl
  | false=>exact ih
theorem pk {l:List Wt} {x:Wt} (hn:(bZ l).Nodup) (hx:x∈l):fx l x.proc=some x.am:=by
 induction l with
 | nil=>cases hx
 | cons y l ih =>
  have hn':(y.proc :: bZ l).Nodup:=hn;rw [List.nodup_cons] at hn';rw [cd];rcases List.mem_cons.1 hx with rfl|hx
  ·rw [decide_eq_true rfl];rfl
  ·have:y.proc≠x.proc:=fun e=>hn'.1 (e▸List.mem_map.2 ⟨x,hx,rfl⟩);rw [decide_eq_false this,cond_false];exact ih hn'.2 hx
theorem Sd.nd {q:Qu} (h:Sd q):(bZ (q.convs++q.waits)).Nodup:=by
 unfold bZ;rw [List.map_append,List.nodup_append];refine ⟨h.cnd,h.wnd,?_⟩;intro a ha b hb;obtain ⟨x,hx,rfl⟩:=List.mem_map.1 ha;obtain ⟨y,hy,rfl⟩:=List.mem_map.1 hb;exact h.noboth hx hy
theorem Ei {q:Qu} (h:Sd q) {x:Wt} (hx:dm q=some x) (p:Pr):(p≠x.proc∧ao (gc q x).holds p=ao q.holds p∧ai (gc q x) p=ai q p)∨(p=x.proc∧ai q p=some x.am∧ao (gc q x).holds p=x.am∧ai (gc q x) p=none):=by
 have hn:=h.nd;obtain ⟨res,hs,cs,ws,gen⟩:=q;unfold dm at hx;unfold gc ai;cases cs with
 | cons c l =>
  injection hx with hx;subst hx;have hn':(c.proc :: bZ (l++ws)).Nodup:=hn;rw [List.nodup_cons] at hn';dsimp only;rw [List.cons_append,cd,dZ];by_cases hp:p=c.proc
  ·subst hp;refine .inr ⟨rfl,by rw [decide_eq_true rfl];rfl,by rw [if_pos rfl],?_⟩;rw [dv];intro y hy e;exact hn'.1 (e▸List.mem_map.2 ⟨y,hy,rfl⟩)
  ·exact .inl ⟨hp,by rw [if_neg hp],by rw [decide_eq_false (fun e=>hp e.symm)];rfl⟩
 | nil =>
  cases ws with
  | nil=>cases hx
  | cons c l =>
   have hx':some c=some x:=hx;injection hx' with hx';subst hx';have hn':(c.proc :: bZ l).Nodup:=hn;rw [List.nodup_cons] at hn';dsimp only;rw [List.nil_append,List.nil_append,List.tail_cons,cd,dZ];by_cases hp:p=c.proc
   ·subst hp;refine .inr ⟨rfl,by rw [decide_eq_true rfl];rfl,by rw [if_pos rfl],?_⟩;rw [dv];intro y hy e;exact hn'.1 (e▸List.mem_map.2 ⟨y,hy,rfl⟩)
   ·exact .inl ⟨hp,by rw [if_neg hp],by rw [decide_eq_false (fun e=>hp e.symm)];rfl⟩
theorem yH:∀(n:Nat) (q:Qu) (acc:List Ho),Sd q→∀p,(ao (d5 n q acc).1.holds p=ao q.holds p∧ai (d5 n q acc).1 p=ai q p)∨∃a,ai q p=some a∧ao (d5 n q acc).1.holds p=a∧ai (d5 n q acc).1 p=none
 | 0,q,acc,_,p=>.inl ⟨rfl,rfl⟩
 | n+1,q,acc,h,p=>by
  unfold d5;cases hx:dm q with
  | none=>exact .inl ⟨rfl,rfl⟩
  | some x =>
   dsimp only;cases hr:f5 q.res q.holds x.proc x.am with
   | false=>exact .inl ⟨rfl,rfl⟩
   | true =>
    rw [cond_true];have h1:=yH n (gc q x) (acc++[⟨x.proc,x.am⟩]) (h.pop hx hr) p;rcases Ei h hx p with ⟨_,h2,h3⟩|⟨_,h2,h3,h4⟩
    ·rw [h2,h3] at h1;exact h1
    ·rcases h1 with ⟨h5,h6⟩|⟨a,h5,_⟩
     ·exact .inr ⟨x.am,h2,h5.trans h3,h6.trans h4⟩
     ·rw [h4] at h5;cases h5
theorem sL:∀(n:Nat) (q:Qu) (acc:List Ho),∀x∈(d5 n q acc).1.waits,x∈q.waits
 | 0,q,acc,x,hx=>hx
 | n+1,q,acc,x,hx=>by
  unfold d5 at hx;cases hh:dm q with
  | none=>rw [hh] at hx;exact hx
  | some y =>
   rw [hh] at hx;dsimp only at hx;cases hr:f5 q.res q.holds y.proc y.am with
   | false=>rw [hr] at hx;exact hx
   | true =>
    rw [hr,cond_true] at hx;have h1:=sL n (gc q y) _ x hx;unfold gc at h1;split at h1
    ·exact h1
    ·exact List.mem_of_mem_tail h1
def iI:Qu:=⟨⟨⟨#[]⟩,0,0,0⟩,[],[],[],0⟩
def bV (l:List Wt) (p:Pr):List Wt:=l.filter fun x=>!decide (x.proc=p)
theorem ge {l:List Wt} {p:Pr} {x:Wt}:x∈bV l p↔x∈l∧x.proc≠p:=by unfold bV;simp
theorem yI {l:List Wt} (p:Pr) (h:(bZ l).Nodup):(bZ (bV l p)).Nodup:=h.sublist ((List.filter_sublist).map _)
theorem gT (l:List Wt) (p:Pr):(bV l p).length≤l.length:=List.length_filter_le _ _
theorem vG (l:List Wt) (p r:Pr):fx (bV l p) r=if r=p then none else fx l r:=by
 by_cases hr:r=p
 ·rw [if_pos hr,dv];intro x hx e;exact (ge.1 hx).2 (e.trans hr)
 ·rw [if_neg hr];induction l with
  | nil=>rfl
  | cons x l ih =>
   rw [cd];unfold bV at ih ⊢;rw [List.filter_cons];by_cases hx:x.proc=p
   ·rw [decide_eq_true hx,Bool.not_true,if_neg (by simp),ih,decide_eq_false (fun e=>hr (e.symm.trans hx)),cond_false]
   ·rw [decide_eq_false hx,Bool.not_false,if_pos rfl,cd,ih]
def jU (l:List Wt) (w:Wt):Int×List Wt :=
 bif !fD l then (2,[]) else bif !(rk w && decide (w.passed=0)) then (1,[]) else bif decide (0≤dB l w.proc) then (11,[]) else bif decide (l.length=8) then (4,[]) else (0,gS l w)
def ic (r:Qu×List Ho):Qu×List Ho×Int:=(r.1,r.2,0)
def bP (e:Int):Qu×List Ho×Int:=(iI,[],e)
def bv (q:Qu) (p:Pr) (a:Am) (prio:Int):Qu×List Ho×Int :=
 bif !av q then bP 2 else
 bif !(j8 p && decide (0≤prio) && decide (prio≤7)) then bP 1 else
 bif !aC q.res a then bP 12 else
 bif (ai q p).isSome then bP 14 else
 bif a8 q.res (ao q.holds p) a then ic (q,[]) else
 bif !aG (ao q.holds p) then ic (dn { q with convs:=q.convs++[⟨p,bN q.res (ao q.holds p) a,0,0⟩] }) else
 bif decide (8≤q.holds.length+q.waits.length) then bP 4 else
 bif !decide ((jU q.waits ⟨p,a,prio,0⟩).1=0) then bP (jU q.waits ⟨p,a,prio,0⟩).1 else
 ic (dn { q with waits:=(jU q.waits ⟨p,a,prio,0⟩).2 })
def be (q:Qu) (p:Pr):Qu×List Ho×Int :=
 bif !av q then bP 2 else bif !(ai q p).isSome then bP 10 else ic (dn { q with convs:=bV q.convs p,waits:=bV q.waits p })
def bk (q:Qu) (p:Pr) (a:Am):Qu×List Ho×Int :=
 bif !av q then bP 2 else bif aG (ao q.holds p) then bP 10 else bif (ai q p).isSome then bP 14 else bif !a8 q.res (ao q.holds p) a then bP 12 else
 bif decide (ao q.holds p=a) then ic (q,[]) else ic (dn { q with holds:=cm q.holds p a })
def eQ (q:Qu) (p:Pr):Bool:=(ai q p).isSome || !aG (ao q.holds p)
def aV (q:Qu) (p:Pr):Qu×List Ho×Int :=
 bif !av q then bP 2 else bif !eQ q p then bP 10 else ic (dn { q with holds:=cm q.holds p ⟨0,0⟩,convs:=bV q.convs p,waits:=bV q.waits p })
theorem gf {l m:List Pr} (hn:l.Nodup) (hs:∀x∈l,x∈m):l.length≤m.length:=by
 induction l generalizing m with
 | nil=>exact Nat.zero_le _
 | cons x l ih =>
  rw [List.nodup_cons] at hn;have hx:=hs x (by simp);have h1:=ih (m:=m.erase x) hn.2 fun y hy=>(List.mem_erase_of_ne (fun (e:y=x)=>hn.1 (e▸hy))).2 (hs y (by simp [hy]));have h2:=List.length_erase_of_mem hx;have h3:=List.length_pos_of_mem hx;rw [List.length_cons];omega
theorem Sd.cons {q:Qu} (h:Sd q) {p:Pr} {a:Am} (hh:ao q.holds p≠⟨0,0⟩) (hw:ai q p=none) (hf:aC q.res a=true) (hc:a8 q.res (ao q.holds p) a=false) :
  Sd { q with convs:=q.convs++[⟨p,bN q.res (ao q.holds p) a,0,0⟩] }:=by
 have hnone:=dv.1 hw;obtain ⟨x,hx,hxp,hxa⟩:=jc hh;have hfh:aC q.res (ao q.holds p)=true:=by rw [←hxa];exact (h.hv.fit x hx).2
 obtain ⟨j1,j2,j3,j4⟩:=yF hfh hf hc;have hnp:∀y∈q.convs,y.proc≠p:=fun y hy=>hnone y (by simp [hy]);have hnd:(bZ (q.convs++[⟨p,bN q.res (ao q.holds p) a,0,0⟩])).Nodup:=by
  unfold bZ;rw [List.map_append,List.nodup_append];refine ⟨h.cnd,by simp,?_⟩;intro u hu v hv;obtain ⟨y,hy,rfl⟩:=List.mem_map.1 hu;simp at hv;subst hv;exact hnp y hy
 have hcok:∀y∈q.convs++[⟨p,bN q.res (ao q.holds p) a,0,0⟩],CvOk q.res q.holds y:=by
  intro y hy;rcases List.mem_append.1 hy with hy|hy
  ·exact h.cok y hy
  ·rw [List.mem_singleton] at hy;subst hy;exact ⟨hh,j1,j2,j4,rfl,rfl⟩
 refine ⟨h.res,h.hv,?_,hnd,hcok,h.wlen,h.wnd,h.wok,h.gen⟩;have hsub:∀u∈bZ (q.convs++[⟨p,bN q.res (ao q.holds p) a,0,0⟩]),u∈c8 q.holds:=by
  intro u hu;obtain ⟨y,hy,rfl⟩:=List.mem_map.1 hu;obtain ⟨z,hz,hzp,_⟩:=jc (hcok y hy).held;exact List.mem_map.2 ⟨z,hz,hzp⟩
 have h1:=gf hnd hsub;have h2:=h.hv.len;unfold bZ c8 at h1;rw [List.length_map,List.length_map] at h1;exact Nat.le_trans h1 h2
theorem jf {r:Rs} {a:Am} (h:aC r a=true):br a=true:=by
 have hs:aU r=true:=by unfold aC at h;rw [Bool.and_eq_true] at h;exact h.1
 unfold aC at h;unfold br;rcases bQ hs with ⟨hk,_⟩|⟨hk,h1,h2⟩
 ·rw [if_pos hk] at h;simp only [Bool.and_eq_true,decide_eq_true_eq] at h;simp [h.2.1,h.2.2]
 ·rw [if_neg (by omega)] at h;simp only [Bool.and_eq_true,decide_eq_true_eq] at h;simp only [Bool.or_eq_true,Bool.and_eq_true,decide_eq_true_eq];exact .inr ⟨⟨h.2.1.1,h.2.1.2⟩,by omega⟩
theorem Ak {x:Wt} (h:rk x=true):j8 x.proc=true∧br x.am=true∧(0≤x.prio∧x.prio≤7)∧(0≤x.passed∧x.passed≤3):=by
 unfold rk at h;simp only [Bool.and_eq_true,decide_eq_true_eq] at h;exact ⟨h.1.1.1.1.1,h.1.1.1.1.2,⟨h.1.1.1.2,h.1.1.2⟩,h.1.2,h.2⟩
theorem BW {x:Wt} (h1:j8 x.proc=true) (h2:br x.am=true) (h3:0≤x.prio∧x.prio≤7) (h4:0≤x.passed∧x.passed≤3):rk x=true:=by
 unfold rk;simp only [Bool.and_eq_true,decide_eq_true_eq];exact ⟨⟨⟨⟨⟨h1,h2⟩,h3.1⟩,h3.2⟩,h4.1⟩,h4.2⟩
theorem Sd.ins {q:Qu} (h:Sd q) {w:Wt} (hh:ao q.holds w.proc=⟨0,0⟩) (hw:ai q w.proc=none) (hf:aC q.res w.am=true) (hv:rk w=true) (hl:q.holds.length+q.waits.length<8) :
  Sd { q with waits:=gS q.waits w }:=by
 have hnone:=dv.1 hw;refine ⟨h.res,h.hv,h.clen,h.cnd,h.cok,?_,?_,?_,h.gen⟩
 ·show q.holds.length+(gS q.waits w).length≤8;rw [vF];omega
 ·refine (xy q.waits w).nodup_iff.2 (List.nodup_cons.2 ⟨?_,h.wnd⟩);intro hm;obtain ⟨y,hy,e⟩:=List.mem_map.1 hm;exact hnone y (by simp [hy]) e
 ·intro x hx;rcases pj hx with rfl|hx|⟨y,hy,rfl,h1,h2⟩
  ·exact ⟨hv,hf,hh⟩
  ·exact h.wok x hx
  ·have h3:=h.wok y hy;obtain ⟨v1,v2,v3,v4⟩:=Ak h3.1;exact ⟨BW (x:=gt y) v1 v2 v3 ⟨by show 0≤y.passed+1;omega,by show y.passed+1≤3;omega⟩,h3.2⟩
theorem Sd.drop {q:Qu} (h:Sd q) (p:Pr):Sd { q with convs:=bV q.convs p,waits:=bV q.waits p } :=
 ⟨h.res,h.hv,Nat.le_trans (gT _ _) h.clen,yI p h.cnd,fun x hx=>h.cok x (ge.1 hx).1,by have h1:=h.wlen;have h2:=gT q.waits p;show q.holds.length+(bV q.waits p).length≤8;omega,yI p h.wnd,fun x hx=>h.wok x (ge.1 hx).1,h.gen⟩
theorem Sd.lower {q:Qu} (h:Sd q) {p:Pr} {a:Am} (hw:ai q p=none) (h0:ao q.holds p≠⟨0,0⟩) (hc:a8 q.res (ao q.holds p) a=true):Sd { q with holds:=cm q.holds p a }:=by
 have hnone:=dv.1 hw;obtain ⟨h1,h2⟩:=h.hv.lower hc h0;refine ⟨h.res,h1,h.clen,h.cnd,fun x hx=>(h.cok x hx).set (hnone x (by simp [hx])),?_,h.wnd,?_,h.gen⟩
 ·have:=h.wlen;show (cm q.holds p a).length+q.waits.length≤8;omega
 ·intro x hx;refine ⟨(h.wok x hx).1,(h.wok x hx).2.1,?_⟩;show ao (cm q.holds p a) x.proc=_;rw [dZ,if_neg (hnone x (by simp [hx]))];exact (h.wok x hx).2.2
theorem Al (l:List Ho) (p:Pr):cm l p ⟨0,0⟩=eB l p:=by unfold cm aG;simp
theorem Sd.gone {q:Qu} (h:Sd q) (p:Pr):Sd { q with holds:=cm q.holds p ⟨0,0⟩,convs:=bV q.convs p,waits:=bV q.waits p }:=by
 have hd:=h.drop p;rw [Al];have hg:∀r,r≠p→ao (eB q.holds p) r=ao q.holds r:=fun r hr=>by rw [pf,if_neg hr]
 refine ⟨h.res,h.hv.fil p,hd.clen,hd.cnd,?_,?_,hd.wnd,?_,h.gen⟩
 ·intro x hx;have hx':=ge.1 hx;have h1:=h.cok x hx'.1;exact ⟨by rw [hg _ hx'.2];exact h1.held,h1.fit,by rw [hg _ hx'.2];exact h1.cov,by rw [hg _ hx'.2];exact h1.ne,h1.prio,h1.passed⟩
 ·have h1:=ll q.holds p;have h2:=hd.wlen;show (eB q.holds p).length+(bV q.waits p).length≤8;have h3:q.holds.length+(bV q.waits p).length≤8:=h2;omega
 ·intro x hx;have hx':=ge.1 hx;have h1:=h.wok x hx'.1;exact ⟨h1.1,h1.2.1,by rw [hg _ hx'.2];exact h1.2.2⟩
def Eff (q q':Qu) (p:Pr):Prop:=(ao q'.holds p=ao q.holds p∧ai q' p=ai q p)∨∃a,ai q p=some a∧ao q'.holds p=a∧ai q' p=none
theorem oa {q:Qu} (h:Sd q) (p:Pr):Eff q (dn q).1 p:=by
 have:=yH (fF q) q [] h p;exact this
theorem mB {q:Qu} {x:Wt} (hx:x∈(dn q).1.waits):x∈q.waits:=sL (fF q) q [] x hx
theorem Eff.of {q r q':Qu} {p:Pr} (h:Eff r q' p) (h1:ao r.holds p=ao q.holds p) (h2:ai r p=ai q p):Eff q q' p:=by
 unfold Eff at *
 rw [h1,h2] at h;exact h
theorem Eff.refl (q:Qu) (p:Pr):Eff q q p:=.inl ⟨rfl,rfl⟩
structure Out (q q':Qu) (p:Pr):Prop where
 ok:av q'=true
 res:q'.res=q.res
 eff:∀r,r≠p→Eff q q' r
 prio:∀x∈q'.waits,x.proc≠p→∃y∈q.waits,y.proc=x.proc∧y.prio=x.prio
theorem aF {q:Qu} (h:av q=true):Sd q:=(cr.1 h).1
theorem lF {q r:Qu} {p:Pr} (h:Sd r) (hr:r.res=q.res) (he:∀s,s≠p→ao r.holds s=ao q.holds s∧ai r s=ai q s) (hp:∀x∈r.waits,x.proc≠p→∃y∈q.waits,y.proc=x.proc∧y.prio=x.prio):Out q (dn r).1 p :=
 ⟨(lE h).1,(lE h).2.trans hr,fun s hs=>(oa h s).of (he s hs).1 (he s hs).2,fun x hx hxp=>hp x (mB hx) hxp⟩
theorem Out.same {q:Qu} (p:Pr) (h:av q=true):Out q q p:=⟨h,rfl,fun r _=>Eff.refl q r,fun x hx _=>⟨x,hx,rfl,rfl⟩⟩
theorem vH {q:Qu} {x:Wt} (s:Pr) (hs:s≠x.proc):ai { q with convs:=q.convs++[x] } s=ai q s:=by
 unfold ai;dsimp only;rw [d7,d7,d7];have:fx [x] s=none:=by rw [dv];intro y hy;rw [List.mem_singleton] at hy;subst hy;exact fun e=>hs e.symm
 rw [this];cases fx q.convs s <;> rfl
theorem pm:∀{l m:List Wt} {s:Pr},l.map (fun x=>(x.proc,x.am))=m.map (fun x=>(x.proc,x.am))→fx l s=fx m s
 | [],[],_,_=>rfl
 | [],_ :: _,_,h=>by simp at h
 | _ :: _,[],_,h=>by simp at h
 | x :: l,y :: m,s,h=>by
  simp only [List.map_cons,List.cons.injEq,Prod.mk.injEq] at h;rw [cd,cd,h.1.1,h.1.2,pm h.2]
theorem An {l:List Wt} {w:Wt} {s:Pr} (hs:s≠w.proc):fx (gS l w) s=fx l s:=by
 unfold gS;have e:∀m:List Wt,fx (m.map gt) s=fx m s:=fun m=>pm (by rw [List.map_map];rfl);rw [d7,cd,decide_eq_false (fun h=>hs h.symm),cond_false,e]
 conv=>rhs;rw [←List.take_append_drop (je w l l.length) l]
 rw [d7]
theorem xz {q:Qu} {w:Wt} (s:Pr) (hs:s≠w.proc):ai { q with waits:=gS q.waits w } s=ai q s:=by
 unfold ai;dsimp only;rw [d7,d7,An hs]
theorem iq (q:Qu) (p s:Pr):ai { q with convs:=bV q.convs p,waits:=bV q.waits p } s=if s=p then none else ai q s:=by
 unfold ai;dsimp only;rw [d7,d7,vG,vG];by_cases h:s=p
 ·simp only [if_pos h]
 ·simp only [if_neg h]
theorem ob {q:Qu} (h:Sd q) {p:Pr} {a:Am} {prio:Int} (hw:ai q p=none) (hf:aC q.res a=true) (hp:j8 p=true) (h1:0≤prio∧prio≤7) (hl:q.holds.length+q.waits.length<8) :
  jU q.waits ⟨p,a,prio,0⟩=(0,gS q.waits ⟨p,a,prio,0⟩)∧rk ⟨p,a,prio,0⟩=true:=by
 have hv:rk ⟨p,a,prio,0⟩=true:=BW hp (jf hf) h1 (by simp);have hln:fD q.waits=true:=sJ.2 ⟨by omega,fun x hx=>(h.wok x hx).1,h.wnd⟩;have hnone:=dv.1 hw;have hfd:dB q.waits p<0:=Ai.2 fun x hx=>hnone x (by simp [hx]);have d1:decide (0≤dB q.waits p)=false:=decide_eq_false (by omega);have d2:decide (q.waits.length=8)=false:=decide_eq_false (by omega);refine ⟨?_,hv⟩;unfold jU;rw [hln,hv];simp only [Bool.not_true,Bool.and_self,decide_true,cond_false,d1,d2]
theorem xA {q:Qu} {p:Pr} {a:Am} {prio:Int} (h:(bv q p a prio).2.2=0):Out q (bv q p a prio).1 p:=by
 unfold bv at h ⊢;cases hS:av q with
 | false=>rw [hS] at h;simp [bP] at h
 | true =>
  have hd:=aF hS;rw [hS] at h;simp only [Bool.not_true,cond_false] at h ⊢;cases hA:j8 p && decide (0≤prio) && decide (prio≤7) with
  | false=>rw [hA] at h;simp [bP] at h
  | true =>
   rw [hA] at h;simp only [Bool.not_true,cond_false] at h ⊢;simp only [Bool.and_eq_true,decide_eq_true_eq] at hA;cases hF:aC q.res a with
   | false=>rw [hF] at h;simp [bP] at h
   | true =>
    rw [hF] at h;simp only [Bool.not_true,cond_false] at h ⊢;cases hW:ai q p with
    | some b=>rw [hW] at h;simp [bP] at h
    | none =>
     rw [hW] at h;simp only [Option.isSome_none,cond_false] at h ⊢;cases hC:a8 q.res (ao q.holds p) a with
     | true=>exact Out.same p hS
     | false =>
      rw [hC] at h;simp only [cond_false] at h ⊢;cases hZ:aG (ao q.holds p) with
      | false =>
       simp only [Bool.not_false,cond_true];exact lF (hd.cons (bb.1 hZ) hW hF hC) rfl (fun s hs=>⟨rfl,vH s hs⟩) (fun x hx _=>⟨x,hx,rfl,rfl⟩)
      | true =>
       rw [hZ] at h;simp only [Bool.not_true,cond_false] at h ⊢;by_cases hl:8≤q.holds.length+q.waits.length
       ·rw [decide_eq_true hl] at h;simp [bP] at h
       ·rw [decide_eq_false hl] at h ⊢;simp only [cond_false] at h ⊢;obtain ⟨e1,hv⟩:=ob hd hW hF hA.1.1 ⟨hA.1.2,hA.2⟩ (by omega);rw [e1];simp only [decide_true,Bool.not_true,cond_false];have hz:ao q.holds p=⟨0,0⟩:=of_decide_eq_true hZ;refine lF (hd.ins hz hW hF hv (by omega)) rfl (fun s hs=>⟨rfl,xz s hs⟩) ?_;intro x hx hxp;rcases pj hx with rfl|hx|⟨y,hy,rfl,_,_⟩
        ·exact absurd rfl hxp
        ·exact ⟨x,hx,rfl,rfl⟩
        ·exact ⟨y,hy,rfl,rfl⟩
theorem vI {q:Qu} {p:Pr} (h:(be q p).2.2=0):Out q (be q p).1 p:=by
 unfold be at h ⊢;cases hS:av q with
 | false=>rw [hS] at h;simp [bP] at h
 | true =>
  have hd:=aF hS;rw [hS] at h;simp only [Bool.not_true,cond_false] at h ⊢;cases hW:(ai q p).isSome with
  | false=>rw [hW] at h;simp [bP] at h
  | true =>
   simp only [Bool.not_true,cond_false];exact lF (hd.drop p) rfl (fun s hs=>⟨rfl,by rw [iq,if_neg hs]⟩) (fun x hx _=>⟨x,(ge.1 hx).1,rfl,rfl⟩)
theorem xB {q:Qu} {p:Pr} {a:Am} (h:(bk q p a).2.2=0):Out q (bk q p a).1 p:=by
 unfold bk at h ⊢;cases hS:av q with
 | false=>rw [hS] at h;simp [bP] at h
 | true =>
  have hd:=aF hS;rw [hS] at h;simp only [Bool.not_true,cond_false] at h ⊢;cases hZ:aG (ao q.holds p) with
  | true=>rw [hZ] at h;simp [bP] at h
  | false =>
   rw [hZ] at h;simp only [cond_false] at h ⊢;cases hW:ai q p with
   | some b=>rw [hW] at h;simp [bP] at h
   | none =>
    rw [hW] at h;simp only [Option.isSome_none,cond_false] at h ⊢;cases hC:a8 q.res (ao q.holds p) a with
    | false=>rw [hC] at h;simp [bP] at h
    | true =>
     simp only [Bool.not_true,cond_false];cases hE:decide (ao q.holds p=a) with
     | true=>exact Out.same p hS
     | false =>
      simp only [cond_false];exact lF (hd.lower hW (bb.1 hZ) hC) rfl (fun s hs=>⟨by show ao (cm q.holds p a) s=_;rw [dZ,if_neg hs],rfl⟩) (fun x hx _=>⟨x,hx,rfl,rfl⟩)
theorem vJ {q:Qu} {p:Pr} (h:(aV q p).2.2=0):Out q (aV q p).1 p:=by
 unfold aV at h ⊢;cases hS:av q with
 | false=>rw [hS] at h;simp [bP] at h
 | true =>
  have hd:=aF hS;rw [hS] at h;simp only [Bool.not_true,cond_false] at h ⊢;cases hH:eQ q p with
  | false=>rw [hH] at h;simp [bP] at h
  | true =>
   simp only [Bool.not_true,cond_false];refine lF (hd.gone p) rfl (fun s hs=>⟨by show ao (cm q.holds p ⟨0,0⟩) s=_;rw [dZ,if_neg hs],?_⟩) (fun x hx _=>⟨x,(ge.1 hx).1,rfl,rfl⟩);have:=iq q p s;rw [if_neg hs] at this;exact this
end Go.Proofs.YtcgpepnbohejfaaGreatDoor
