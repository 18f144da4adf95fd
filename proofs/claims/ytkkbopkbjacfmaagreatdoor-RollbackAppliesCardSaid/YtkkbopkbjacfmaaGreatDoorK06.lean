/- Part K06 of a proof of statements of chapter 15 (no condition). -/
import Derived.Test.YtkkbopkbjacfmaaGreatDoorK04
import Derived.Test.YtkkbopkbjacfmaaGreatDoorK03
import Derived.Deep.RegionHeld3
import Derived.Scope
import Derived.Lib.AppendZerosOnto
set_option linter.unusedVariables false
set_option linter.unusedSimpArgs false
set_option maxRecDepth 100000
set_option maxHeartbeats 64000000
namespace Go.Proofs.YtkkbopkbjacfmaaGreatDoor
open Go.RowKit Go.Proofs.Tryz
def eW (l:List Ho) (p:Pr):List Ho:=l.filter fun h=>!decide (h.proc=p)
def nr (x:Ho):List Ho->List Ho
 | []=>[x]
 | h :: l=>bif decide (0<bH h.proc x.proc) then x :: h :: l else h :: nr x l
def cE (l:List Ho) (p:Pr) (a:Am):List Ho:=bif aJ a then eW l p else nr ⟨p,a⟩ (eW l p)
theorem mI (h:Ho) (l:List Ho) (p:Pr):eW (h :: l) p=bif decide (h.proc=p) then eW l p else h :: eW l p:=by
 unfold eW;rw [List.filter_cons];cases decide (h.proc=p) <;> rfl
theorem ip (x h:Ho) (l:List Ho):nr x (h :: l)=bif decide (0<bH h.proc x.proc) then x :: h :: l else h :: nr x l:=rfl
theorem oO (l:List Ho) (p:Pr):(eW l p).length<=l.length:=List.length_filter_le _ _
structure Qu where
 res:Rs
 holds:List Ho
 convs:List Wt
 waits:List Wt
 gen:Int
def Qu.val (q:Qu) (A1 A2 A3:Option Addr) (c1 c2 c3:Nat):Value:=.agg #[.string q.res.name,.int .i64 q.res.kind,.int .i64 q.res.units,.int .i64 q.res.home,.slice A1 q.holds.length c1,.slice A2 q.convs.length c2,.slice A3 q.waits.length c3,.int .i64 q.gen]
structure QF (w:World) (B:Nat) (A1 A2 A3:Option Addr) (q:Qu):Prop where
 r1:RowsAt g8 w (Lo B) A1 q.holds
 r2:RowsAt gc w (Lo B) A2 q.convs
 r3:RowsAt gc w (Lo B) A3 q.waits
 m1:q.holds.length<=maxLen
 m2:q.convs.length<=maxLen
 m3:q.waits.length<=maxLen
 hB:B<=w.heap.size
section
variable {w v v':World} {nm:ByteArray} {kd un h gen:Int} {A1 A2 A3:Option Addr} {n1 n2 n3 c1 c2 c3:Nat}
end
def dv (q:Qu):Option Wt:=match q.convs with|x :: _=>some x | []=>q.waits.head?
theorem MY:(prog.info? 154).map (fun i=>(i.zero,i.size,i.bytes))=some (some (.agg #[.int .i64 0,.int .i64 0,.int .i64 0,.int .i64 0,.int .i64 0,.int .i64 0,.int .i64 0]),7,56):=by kernel_rfl
theorem G5 (n:Nat) (h0:0<n) (hn:n<=1000000) (w:World):∃(G:Nat) (mc:Array Value),n<=G/\G<=maxLen/\mc.size=G*7/\
  ∀ty,(Builtin.append_ #[76,3] ty #[.slice none 0 0,.int .i64 (n:Int)]).run prog w = .ok (.slice (some ⟨w.heap.size,0,none⟩) n G) (w.drew.alloc (.cells mc 154)):=by
 obtain ⟨i0,hi,hz0,hz1,hz2⟩:=info_parts MY;have hold:(Builtin.firstCells i0.size 0 (.slice none 0 0)).run prog w.drew = .ok #[] w.drew:=rfl;have hbig:(0+n)*i0.bytes<=140737488355328:=by rw [hz2];omega
 have hG:=grownCap_ge w (0+n) 0 154;have hGm:=grownCap_le_maxLen w (0+n) 0 154 (by unfold maxLen;omega);have hr:=fun ty=>Lib.run_append_grow_zeros w 76 3 ty 154 i0 _ .i64 .i64 underlying76 underlying3 hi hz0 none 0 0 [] hold n (by omega) (by rw [hz1];decide) (by omega) (by omega)
   (by rw [hz2];omega) (growslice_fits (by omega) hbig)
 rw [Nat.zero_add] at hr hG hGm;refine ⟨grownCap w n 0 154,#[]++Builtin.zeroCells #[.int .i64 0,.int .i64 0,.int .i64 0,.int .i64 0,.int .i64 0,.int .i64 0,.int .i64 0] n++Builtin.zeroCells #[.int .i64 0,.int .i64 0,.int .i64 0,.int .i64 0,.int .i64 0,.int .i64 0,.int .i64 0] (grownCap w n 0 154-n),hG,hGm,?_,fun ty=>?_⟩
 ·simp [Builtin.zeroCells];omega
 ·have h:=hr ty;exact h
theorem oQ {P:Program} (w w':World) {ops:Array Oper} {rest:List Oper} {o:Oper} {a:Act} {Q:Exit->Act->World->Prop} (hgd:o.guard=none) (s x:Operand) (t t':TypeId)
  (ho:o.op = .call { callee:=.builtin .append,args:=#[s,x],argTypes:=#[t,t'] }) (v1 v2 r:Value) (hs:a.eval s=v1) (hx:a.eval x=v2) (hrun:(Builtin.append_ #[t,t'] o.type #[v1,v2]).run P w = .ok r w')
  (h:wpList P ops Q rest (a.put o.dst r) w'):wpList P ops Q (o :: rest) a w:=by
 refine wpList_plain hgd fun K hK=>?_;unfold Oper.wp;simp [execOp,ho,resolve,invoke,builtin,hs,hx,hrun,Result.andThen];exact hK _ _ h
theorem G6 (n:Nat) (hn:n<=1000000) (w:World):Calls prog 286 #[.slice none 0 0,.int .i64 (n:Int)] w fun e w'=>∃A cap,e = .returned (.slice A 0 cap)/\OwnRows gc 154 w' w.heap.size (.slice A 0 cap) []/\Below w.heap.size w w':=by
 rcases Nat.eq_zero_or_pos n with rfl|h0
 ·go_enter func286,ntmps286
  go_wp2_with fail
  go_ret
  exact ⟨none,0,rfl,OwnRows.nil _ _ _ _ (Nat.le_refl _),Below.refl _ _⟩
 ·obtain ⟨G,mc,hG,hGm,hsz,hrun⟩:=G5 n h0 hn w;have HO:Hid (OwnRows gc 154 (w.drew.alloc (.cells mc 154)) w.heap.size (.slice (some ⟨w.heap.size,0,none⟩) 0 G) []):=Lib.hid (OwnRows.made gc 154 w.drew w.heap.size mc G (Nat.le_refl _) hGm hsz);have h0i:(0:Int)<(n:Int):=by omega
  have hw:IntKind.i64.wrap ((n:Int)-0)=(n:Int):=by rw [IntWalk.i64_in _ (by omega)];omega
  have hw0:IntKind.i64.wrap ((0:Int)-0)=0:=rfl;clear hsz
  go_enter func286,ntmps286
  go_wp2_with (at_builtin;refine oQ w (w.drew.alloc (.cells mc 154)) rfl (.tmp 20) (.tmp 21) 76 3 rfl _ _ _ rfl rfl (hrun _) ?_)
  go_ret
  exact ⟨_,G,rfl,HO.out,Below.al (Below.refl _ _).drew _⟩
def sr (cs ws:List Wt):Nat->List Wt
 | 0=>[]
 | 1=>cs
 | _=>cs++ws
theorem Cg (g:Nat) (A2 A3:Option Addr) (c2 c3:Nat) (cs ws:List Wt) (w:World) (B:Nat) (hB:B<=w.heap.size) (h0:w.cell? ⟨g,0,none⟩=some (.slice A2 cs.length c2)) (h1:w.cell? ⟨g,1,none⟩=some (.slice A3 ws.length c3))
  (r2:RowsAt gc w (Lo B) A2 cs) (r3:RowsAt gc w (Lo B) A3 ws) (hl:cs.length+ws.length<=1000000) :
  Calls prog 197 #[.slice (some ⟨g,0,none⟩) 2 2] w (iz gc 154 w (cs++ws)):=by
 have HG:=Lib.hid (fun W=>G6 (cs.length+ws.length) hl W);rw [show ((cs.length+ws.length:Nat):Int)=(cs.length:Int)+(ws.length:Int) by omega] at HG;have hgl:g<w.heap.size:=World.block_lt_of_cell? w _ h0;have HR2:=Lib.hid r2;have HR3:=Lib.hid r3;have HH0:=Lib.hid h0;have HH1:=Lib.hid h1;clear r2 r3
 go_enter func197,ntmps197
 go_wp2_with fail
 go_loopg [3,11] 2 (fun m0 v3 v11 wq=>∃j:Nat,v11 = .int .i64 (j:Int)/\j<=2/\2<=j+m0/\v3 = .int .i64 ((sr cs ws j).length:Int)/\wq=w)
 case atStart=>exact ⟨0,rfl,by omega,by omega,rfl,rfl⟩
 case round =>
  obtain ⟨j,rfl,hj,hjm,rfl,rfl⟩:=hrel;have hj3:j=0\/j=1\/j=2:=by omega
  have hw1:IntKind.i64.wrap ((0:Int)+(cs.length:Int))=(cs.length:Int):=by rw [IntWalk.i64_in _ (by omega)];omega
  have hw2:IntKind.i64.wrap ((cs.length:Int)+(ws.length:Int))=(cs.length:Int)+(ws.length:Int):=IntWalk.i64_in _ (by omega);have hn1:¬(cs.length:Int)<0:=by omega
  have hn2:¬(cs.length:Int)+(ws.length:Int)<0:=by omega
  rcases hj3 with rfl|rfl|rfl
  ·simp only [sr,List.length_nil];go_wp2_with fail
   go_roundg (gk-1)
   case measure=>omega
   case rel=>exact ⟨1,by go_num,by omega,by omega,by simp [sr],rfl⟩
  ·simp only [sr];go_wp2_with fail
   go_roundg (gk-1)
   case measure=>omega
   case rel=>exact ⟨2,by go_num,by omega,by omega,by simp [sr],rfl⟩
  ·simp only [sr,List.length_append];rw [show ((cs.length+ws.length:Nat):Int)=(cs.length:Int)+(ws.length:Int) by omega];go_wp2_with fail
   refine (HG.out _).mono ?_;rintro e w1 ⟨A1,cap1,rfl,hown1,hb1⟩;have HO1:=Lib.hid hown1;have HB1:=Lib.hid hb1;clear hown1 hb1 h0 h1;obtain ⟨wo,hwo⟩:∃x,x=wr:=⟨_,rfl⟩;subst hwo;go_wp2_with fail
   go_loopg [6,27] 2 (fun m0 v6 v27 wq=>∃j:Nat,v27 = .int .i64 (j:Int)/\j<=2/\2<=j+m0/\Hid (OwnRows gc 154 wq wo.heap.size v6 (sr cs ws j))/\Hid (Below wo.heap.size wo wq))
   case atStart=>exact ⟨0,rfl,by omega,by omega,HO1,HB1⟩
   case round =>
    obtain ⟨j,rfl,hj,hjm,HO,HB⟩:=hrel;have hj3:j=0\/j=1\/j=2:=by omega
    have h0:=(HB.out.cell (p:=⟨g,0,none⟩) hgl).trans HH0.out;have h1:=(HB.out.cell (p:=⟨g,1,none⟩) hgl).trans HH1.out;have hgl2:g<wr.heap.size:=Nat.lt_of_lt_of_le hgl HB.out.size;rcases hj3 with rfl|rfl|rfl
    ·replace HO:Hid (OwnRows gc 154 wr wo.heap.size u6 []):=Lib.hid HO.out
     go_wp2_with (at_builtin;refine lJ GQ rfl (.tmp 31) (.tmp 32) rfl wr wo.heap.size u6 [] cs cs.length rfl A2 c2 rfl HO.out rfl (HR2.out.same (fun b hb=>HB.out.block b (Nat.lt_of_lt_of_le hb hB)) fun b hb=>HO.out.oth (Nat.lt_of_lt_of_le hb hB)) (by first|(unfold maxLen;simp;omega)|(unfold maxLen;omega)) (by first|omega|(simp;omega)) ?_;intro v7 w7 hown7 hb7 hsp7;have HB7:Hid (Below wo.heap.size wo w7):=Lib.hid (HB.out.trans hb7);have HO7:=Lib.hid hown7;clear hown7 hb7 hsp7)
     go_roundg (gk-1)
     case measure=>omega
     case rel=>exact ⟨1,by go_num,by omega,by omega,Lib.hid (by have:=HO7.out;simpa [sr] using this),HB7⟩
    ·replace HO:Hid (OwnRows gc 154 wr wo.heap.size u6 cs):=Lib.hid HO.out
     go_wp2_with (at_builtin;refine lJ GQ rfl (.tmp 31) (.tmp 32) rfl wr wo.heap.size u6 cs ws ws.length rfl A3 c3 rfl HO.out rfl (HR3.out.same (fun b hb=>HB.out.block b (Nat.lt_of_lt_of_le hb hB)) fun b hb=>HO.out.oth (Nat.lt_of_lt_of_le hb hB)) (by first|(unfold maxLen;simp;omega)|(unfold maxLen;omega)) (by first|omega|(simp;omega)) ?_;intro v7 w7 hown7 hb7 hsp7;have HB7:Hid (Below wo.heap.size wo w7):=Lib.hid (HB.out.trans hb7);have HO7:=Lib.hid hown7;clear hown7 hb7 hsp7)
     go_roundg (gk-1)
     case measure=>omega
     case rel=>exact ⟨2,by go_num,by omega,by omega,HO7,HB7⟩
    ·go_wp2_with fail
     go_ret
     exact ⟨_,rfl,HO.out,HB.out⟩
def nu (q:Qu):List Pr:=(q.convs++q.waits).map (·.proc)
theorem Fi (q:Qu) (A1 A2 A3:Option Addr) (c1 c2 c3:Nat) (w:World) (B:Nat) (hq:QF w B A1 A2 A3 q) (h8:q.convs.length<=8) (h8':q.waits.length<=8) :
  Calls prog 109 #[q.val A1 A2 A3 c1 c2 c3] w (iz gc 154 w (q.convs++q.waits)):=by
 have HC:=Lib.hid (fun g W (hb:Below w.heap.size w W) h0 h1=>Cg g A2 A3 c2 c3 q.convs q.waits W B (Nat.le_trans hq.hB hb.size) h0 h1 (hq.r2.below hb hq.hB (Nat.le_refl _)) (hq.r3.below hb hq.hB (Nat.le_refl _)) (by omega));clear hq;obtain ⟨⟨nm,kd,un,h⟩,hs,cs,ws,gen⟩:=q;unfold Qu.val;dsimp only at HC h8 h8' ⊢
 go_enter func109,ntmps109
 go_wp2_with fail
 refine (HC.out (w.heap.size+1) _ fp (by go_simp) (by go_simp)).mono ?_;rintro e w1 ⟨v1,rfl,hown1,hb1⟩;have HO1:=Lib.hid hown1;have HB1:=Lib.hid hb1;clear hown1 hb1;go_wp2_with fail
 go_ret
 exact ⟨_,rfl,HO1.out.older (by simp;omega),by exact fp⟩
def bR (l:List Wt):List Pr:=l.map (·.proc)
def go:List Wt->Pr->Option Am
 | [],_=>none
 | x :: l,p=>bif decide (x.proc=p) then some x.am else go l p
def ah (q:Qu) (p:Pr):Option Am:=go (q.convs++q.waits) p
theorem cr (x:Wt) (l:List Wt) (p:Pr):go (x :: l) p=bif decide (x.proc=p) then some x.am else go l p:=rfl
end Go.Proofs.YtkkbopkbjacfmaaGreatDoor
