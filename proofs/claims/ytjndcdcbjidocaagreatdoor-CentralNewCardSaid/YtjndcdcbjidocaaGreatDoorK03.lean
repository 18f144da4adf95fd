/- Part 3 of 35 of the proof of centralNew_holds (no condition). -/
import Derived.Test.YtjndcdcbjidocaaGreatDoorK02
import Derived.Lib.AppendZerosOnto
import Derived.Lib.SlicesCompact
import Derived.Sort.LotA
import Derived.Shelf.SlSortCmp.NoneTotal
import Derived.Ground.SlsfProg
import Derived.Shelf.SlGeneric
import Derived.Shelf.SlLaysF0
import Derived.Shelf.RegionOpenPlain
import Derived.Lib.SliceRun
import Derived.Laws.BitsAllLaws
import Derived.Deep.RegionLaw
import Derived.Deep.MidRow
import Derived.Laws.CopyRow
set_option linter.unusedVariables false
set_option linter.unusedSimpArgs false
set_option maxRecDepth 100000
set_option maxHeartbeats 64000000
namespace Go.Proofs.YtjndcdcbjidocaaGreatDoor
open Go.RowKit Go.Proofs.Tryz
theorem GC:(prog.info? 171).map (fun i=>(i.zero,i.size,i.bytes))=some (some (.agg #[.int .i64 0,.int .i64 0,.int .i64 0,.int .i64 0,.int .i64 0,.int .i64 0,.int .i64 0]),7,56):=by kernel_rfl
theorem By (n:Nat) (h0:0<n) (hn:n≤1000000) (w:World):∃(G:Nat) (mc:Array Value),n≤G∧G≤maxLen∧mc.size=G*7∧
  ∀ty,(Builtin.append_ #[79,3] ty #[.slice none 0 0,.int .i64 (n:Int)]).run prog w = .ok (.slice (some ⟨w.heap.size,0,none⟩) n G) (w.drew.alloc (.cells mc 171)):=by
 obtain ⟨i0,hi,hz0,hz1,hz2⟩:=info_parts GC
 have hold:(Builtin.firstCells i0.size 0 (.slice none 0 0)).run prog w.drew = .ok #[] w.drew:=rfl
 have hbig:(0+n)*i0.bytes≤140737488355328:=by rw [hz2];omega
 have hG:=grownCap_ge w (0+n) 0 171
 have hGm:=grownCap_le_maxLen w (0+n) 0 171 (by unfold maxLen;omega)
 have hr:=fun ty=>Lib.run_append_grow_zeros w 79 3 ty 171 i0 _ .i64 .i64 underlying79 underlying3 hi hz0 none 0 0 [] hold n (by omega) (by rw [hz1];decide) (by omega) (by omega)
   (by rw [hz2];omega) (growslice_fits (by omega) hbig)
 rw [Nat.zero_add] at hr hG hGm
 refine ⟨grownCap w n 0 171,#[]++Builtin.zeroCells #[.int .i64 0,.int .i64 0,.int .i64 0,.int .i64 0,.int .i64 0,.int .i64 0,.int .i64 0] n++Builtin.zeroCells #[.int .i64 0,.int .i64 0,.int .i64 0,.int .i64 0,.int .i64 0,.int .i64 0,.int .i64 0] (grownCap w n 0 171-n),hG,hGm,?_,fun ty=>?_⟩
 ·simp [Builtin.zeroCells]
  omega
 ·have h:=hr ty
  exact h
theorem wpList_append_run {P:Program} (w w':World) {ops:Array Oper} {rest:List Oper} {o:Oper} {a:Act} {Q:Exit→Act→World→Prop} (hgd:o.guard=none) (s x:Operand) (t t':TypeId)
  (ho:o.op = .call { callee:=.builtin .append,args:=#[s,x],argTypes:=#[t,t'] }) (v1 v2 r:Value) (hs:a.eval s=v1) (hx:a.eval x=v2) (hrun:(Builtin.append_ #[t,t'] o.type #[v1,v2]).run P w = .ok r w')
  (h:wpList P ops Q rest (a.put o.dst r) w'):wpList P ops Q (o :: rest) a w:=by
 refine wpList_plain hgd fun K hK=>?_
 unfold Oper.wp
 simp [execOp,ho,resolve,invoke,builtin,hs,hx,hrun,Result.andThen]
 exact hK _ _ h
theorem Bz (n:Nat) (hn:n≤1000000) (w:World):Calls prog 311 #[.slice none 0 0,.int .i64 (n:Int)] w fun e w'=>∃A cap,e = .returned (.slice A 0 cap)∧OwnRows eZ 171 w' w.heap.size (.slice A 0 cap) []∧Below w.heap.size w w':=by
 rcases Nat.eq_zero_or_pos n with rfl|h0
 ·go_enter func311,ntmps311
  go_wp2_with fail
  go_ret
  exact ⟨none,0,rfl,OwnRows.nil _ _ _ _ (Nat.le_refl _),Below.refl _ _⟩
 ·obtain ⟨G,mc,hG,hGm,hsz,hrun⟩:=By n h0 hn w
  have HO:Hid (OwnRows eZ 171 (w.drew.alloc (.cells mc 171)) w.heap.size (.slice (some ⟨w.heap.size,0,none⟩) 0 G) []):=Lib.hid (OwnRows.made eZ 171 w.drew w.heap.size mc G (Nat.le_refl _) hGm hsz)
  have h0i:(0:Int)<(n:Int):=by omega
  have hw:IntKind.i64.wrap ((n:Int)-0)=(n:Int):=by rw [IntWalk.i64_in _ (by omega)];omega
  have hw0:IntKind.i64.wrap ((0:Int)-0)=0:=rfl
  clear hsz
  go_enter func311,ntmps311
  go_wp2_with (at_builtin;refine wpList_append_run w (w.drew.alloc (.cells mc 171)) rfl (.tmp 20) (.tmp 21) 79 3 rfl _ _ _ rfl rfl (hrun _) ?_)
  go_ret
  exact ⟨_,G,rfl,HO.out,Below.al (Below.refl _ _).drew _⟩
def nV (cs ws:List Wt):Nat→List Wt
 | 0=>[]
 | 1=>cs
 | _=>cs++ws
theorem xg (g:Nat) (A2 A3:Option Addr) (c2 c3:Nat) (cs ws:List Wt) (w:World) (B:Nat) (hB:B≤w.heap.size) (h0:w.cell? ⟨g,0,none⟩=some (.slice A2 cs.length c2)) (h1:w.cell? ⟨g,1,none⟩=some (.slice A3 ws.length c3))
  (r2:RowsAt eZ w (Lo B) A2 cs) (r3:RowsAt eZ w (Lo B) A3 ws) (hl:cs.length+ws.length≤1000000) :
  Calls prog 261 #[.slice (some ⟨g,0,none⟩) 2 2] w (o9 eZ 171 w (cs++ws)):=by
 have HG:=Lib.hid (fun W=>Bz (cs.length+ws.length) hl W)
 rw [show ((cs.length+ws.length:Nat):Int)=(cs.length:Int)+(ws.length:Int) by omega] at HG
 have hgl:g<w.heap.size:=World.block_lt_of_cell? w _ h0
 have HR2:=Lib.hid r2
 have HR3:=Lib.hid r3
 have HH0:=Lib.hid h0
 have HH1:=Lib.hid h1
 clear r2 r3
 go_enter func261,ntmps261
 go_wp2_with fail
 go_loopg [3,11] 2 (fun m0 v3 v11 wq=>∃j:Nat,v11 = .int .i64 (j:Int)∧j≤2∧2≤j+m0∧v3 = .int .i64 ((nV cs ws j).length:Int)∧wq=w)
 case atStart=>exact ⟨0,rfl,by omega,by omega,rfl,rfl⟩
 case round =>
  obtain ⟨j,rfl,hj,hjm,rfl,rfl⟩:=hrel
  have hj3:j=0∨j=1∨j=2:=by omega
  have hw1:IntKind.i64.wrap ((0:Int)+(cs.length:Int))=(cs.length:Int):=by rw [IntWalk.i64_in _ (by omega)];omega
  have hw2:IntKind.i64.wrap ((cs.length:Int)+(ws.length:Int))=(cs.length:Int)+(ws.length:Int):=IntWalk.i64_in _ (by omega)
  have hn1:¬(cs.length:Int)<0:=by omega
  have hn2:¬(cs.length:Int)+(ws.length:Int)<0:=by omega
  rcases hj3 with rfl|rfl|rfl
  ·simp only [nV,List.length_nil]
   go_wp2_with fail
   go_roundg (gk-1)
   case measure=>omega
   case rel=>exact ⟨1,by go_num,by omega,by omega,by simp [nV],rfl⟩
  ·simp only [nV]
   go_wp2_with fail
   go_roundg (gk-1)
   case measure=>omega
   case rel=>exact ⟨2,by go_num,by omega,by omega,by simp [nV],rfl⟩
  ·simp only [nV,List.length_append]
   rw [show ((cs.length+ws.length:Nat):Int)=(cs.length:Int)+(ws.length:Int) by omega]
   go_wp2_with fail
   refine (HG.out _).mono ?_
   rintro e w1 ⟨A1,cap1,rfl,hown1,hb1⟩
   have HO1:=Lib.hid hown1
   have HB1:=Lib.hid hb1
   clear hown1 hb1 h0 h1
   obtain ⟨wo,hwo⟩:∃x,x=wr:=⟨_,rfl⟩
   subst hwo
   go_wp2_with fail
   go_loopg [6,27] 2 (fun m0 v6 v27 wq=>∃j:Nat,v27 = .int .i64 (j:Int)∧j≤2∧2≤j+m0∧Hid (OwnRows eZ 171 wq wo.heap.size v6 (nV cs ws j))∧Hid (Below wo.heap.size wo wq))
   case atStart=>exact ⟨0,rfl,by omega,by omega,HO1,HB1⟩
   case round =>
    obtain ⟨j,rfl,hj,hjm,HO,HB⟩:=hrel
    have hj3:j=0∨j=1∨j=2:=by omega
    have h0:=(HB.out.cell (p:=⟨g,0,none⟩) hgl).trans HH0.out
    have h1:=(HB.out.cell (p:=⟨g,1,none⟩) hgl).trans HH1.out
    have hgl2:g<wr.heap.size:=Nat.lt_of_lt_of_le hgl HB.out.size
    rcases hj3 with rfl|rfl|rfl
    ·replace HO:Hid (OwnRows eZ 171 wr wo.heap.size u6 []):=Lib.hid HO.out
     go_wp2_with (at_builtin;refine tg Gx rfl (.tmp 31) (.tmp 32) rfl wr wo.heap.size u6 [] cs cs.length rfl A2 c2 rfl HO.out rfl (HR2.out.same (fun b hb=>HB.out.block b (Nat.lt_of_lt_of_le hb hB)) fun b hb=>HO.out.oth (Nat.lt_of_lt_of_le hb hB)) (by first|(unfold maxLen;simp;omega)|(unfold maxLen;omega)) (by first|omega|(simp;omega)) ?_;intro v7 w7 hown7 hb7 hsp7;have HB7:Hid (Below wo.heap.size wo w7):=Lib.hid (HB.out.trans hb7);have HO7:=Lib.hid hown7;clear hown7 hb7 hsp7)
     go_roundg (gk-1)
     case measure=>omega
     case rel=>exact ⟨1,by go_num,by omega,by omega,Lib.hid (by have:=HO7.out;simpa [nV] using this),HB7⟩
    ·replace HO:Hid (OwnRows eZ 171 wr wo.heap.size u6 cs):=Lib.hid HO.out
     go_wp2_with (at_builtin;refine tg Gx rfl (.tmp 31) (.tmp 32) rfl wr wo.heap.size u6 cs ws ws.length rfl A3 c3 rfl HO.out rfl (HR3.out.same (fun b hb=>HB.out.block b (Nat.lt_of_lt_of_le hb hB)) fun b hb=>HO.out.oth (Nat.lt_of_lt_of_le hb hB)) (by first|(unfold maxLen;simp;omega)|(unfold maxLen;omega)) (by first|omega|(simp;omega)) ?_;intro v7 w7 hown7 hb7 hsp7;have HB7:Hid (Below wo.heap.size wo w7):=Lib.hid (HB.out.trans hb7);have HO7:=Lib.hid hown7;clear hown7 hb7 hsp7)
     go_roundg (gk-1)
     case measure=>omega
     case rel=>exact ⟨2,by go_num,by omega,by omega,HO7,HB7⟩
    ·go_wp2_with fail
     go_ret
     exact ⟨_,rfl,HO.out,HB.out⟩
def lF (q:Qu):List Pr:=(q.convs++q.waits).map (·.proc)
theorem zT (q:Qu) (A1 A2 A3:Option Addr) (c1 c2 c3:Nat) (w:World) (B:Nat) (hq:QF w B A1 A2 A3 q) (h8:q.convs.length≤8) (h8':q.waits.length≤8) :
  Calls prog 199 #[q.val A1 A2 A3 c1 c2 c3] w (o9 eZ 171 w (q.convs++q.waits)):=by
 have HC:=Lib.hid (fun g W (hb:Below w.heap.size w W) h0 h1=>xg g A2 A3 c2 c3 q.convs q.waits W B (Nat.le_trans hq.hB hb.size) h0 h1 (hq.r2.below hb hq.hB (Nat.le_refl _)) (hq.r3.below hb hq.hB (Nat.le_refl _)) (by omega))
 clear hq
 obtain ⟨⟨nm,kd,un,h⟩,hs,cs,ws,gen⟩:=q
 unfold Qu.val
 dsimp only at HC h8 h8' ⊢
 go_enter func199,ntmps199
 go_wp2_with fail
 refine (HC.out (w.heap.size+1) _ aU (by go_simp) (by go_simp)).mono ?_
 rintro e w1 ⟨v1,rfl,hown1,hb1⟩
 have HO1:=Lib.hid hown1
 have HB1:=Lib.hid hb1
 clear hown1 hb1
 go_wp2_with fail
 go_ret
 exact ⟨_,rfl,HO1.out.older (by simp;omega),by exact aU⟩
def bN (l:List Wt):List Pr:=l.map (·.proc)
def f5:List Wt→Pr→Option Am
 | [],_=>none
 | x :: l,p=>bif decide (x.proc=p) then some x.am else f5 l p
def ap (q:Qu) (p:Pr):Option Am:=f5 (q.convs++q.waits) p
theorem cr (x:Wt) (l:List Wt) (p:Pr):f5 (x :: l) p=bif decide (x.proc=p) then some x.am else f5 l p:=rfl
instance:Inhabited Pr:=⟨It⟩
theorem gh (p q:Pr):fq p q∨p=q∨fq q p:=by
 rcases cM p q with ⟨h,_⟩|⟨h,_⟩|⟨h,_⟩
 ·exact Or.inl h
 ·exact Or.inr (Or.inl h)
 ·exact Or.inr (Or.inr h)
theorem gi (p q:Pr):bt p q<0↔fq p q:=by
 rcases cM p q with ⟨h,e⟩|⟨h,e⟩|⟨h,e⟩ <;> rw [e]
 ·exact ⟨fun _=>h,fun _=>by decide⟩
 ·subst h;exact ⟨fun c=>absurd c (by decide),fun c=>absurd c (bp _)⟩
 ·exact ⟨fun c=>absurd c (by decide),fun c=>absurd h (jZ c)⟩
def D2 (l:List Pr):Prop:=l.Pairwise fq
theorem jB (d:Array Pr):∀m x,x∈Go.Lib.compactUpTo d m↔∃j,j<m∧d[j]! = x
 | 0,x=>by simp [Go.Lib.compactUpTo]
 | m+1,x=>by
  rw [Go.Lib.compactUpTo_succ,List.mem_append,jB d m x]
  by_cases h:Go.Lib.keeps d m=true
  ·rw [if_pos h,List.mem_singleton]
   constructor
   ·rintro (⟨j,hj,e⟩|e)
    ·exact ⟨j,by omega,e⟩
    ·exact ⟨m,by omega,e.symm⟩
   ·rintro ⟨j,hj,e⟩
    rcases Nat.lt_or_ge j m with h1|h1
    ·exact Or.inl ⟨j,h1,e⟩
    ·have:j=m:=by omega
     subst this
     exact Or.inr e.symm
  ·rw [if_neg h]
   have hk:¬(m=0∨d[m]!≠d[m-1]!):=by simpa [Go.Lib.keeps] using h
   have h0:m≠0:=fun e=>hk (Or.inl e)
   have he:d[m]! = d[m-1]!:=Classical.byContradiction fun e=>hk (Or.inr e)
   constructor
   ·rintro (⟨j,hj,e⟩|e)
    ·exact ⟨j,by omega,e⟩
    ·cases e
   ·rintro ⟨j,hj,e⟩
    rcases Nat.lt_or_ge j m with h1|h1
    ·exact Or.inl ⟨j,h1,e⟩
    ·have:j=m:=by omega
     subst this
     exact Or.inl ⟨j-1,by omega,he.symm.trans e⟩
theorem nW (d:Array Pr) (hs:∀i j,i<j→j<d.size→¬fq d[j]! d[i]!):∀m,m≤d.size→D2 (Go.Lib.compactUpTo d m)
 | 0,_=>by simp [Go.Lib.compactUpTo,D2]
 | m+1,hm=>by
  have ih:=nW d hs m (by omega)
  rw [Go.Lib.compactUpTo_succ]
  by_cases h:Go.Lib.keeps d m=true
  ·rw [if_pos h]
   unfold D2 at *
   rw [List.pairwise_append]
   refine ⟨ih,by simp,fun x hx y hy=>?_⟩
   rw [List.mem_singleton.1 hy]
   obtain ⟨j,hj,rfl⟩:=(jB d m x).1 hx
   have hk:m=0∨d[m]!≠d[m-1]!:=by simpa [Go.Lib.keeps] using h
   have hne:d[m]!≠d[m-1]!:=hk.resolve_left (by omega)
   rcases gh d[j]! d[m]! with h1|h1|h1
   ·exact h1
   ·exfalso
    have a1:¬fq d[m]! d[m-1]!:=hs (m-1) m (by omega) (by omega)
    rcases Nat.lt_or_ge j (m-1) with h2|h2
    ·have a2:=hs j (m-1) h2 (by omega)
     rw [h1] at a2
     rcases gh d[m]! d[m-1]! with h3|h3|h3
     ·exact a1 h3
     ·exact hne h3
     ·exact a2 h3
    ·have:j=m-1:=by omega
     subst this
     exact hne h1.symm
   ·exact absurd h1 (hs j m hj (by omega))
  ·rw [if_neg h,List.append_nil]
   exact ih
def dj (l:List Pr):List Pr:=Go.Lib.compact (l.mergeSort fun x y=>!decide (bt y x<0))
theorem ct (l:List Pr) (x:Pr):x∈dj l↔x∈l:=by
 unfold dj Go.Lib.compact
 rw [jB]
 have hp:=List.mergeSort_perm l fun x y=>!decide (bt y x<0)
 rw [←hp.mem_iff]
 constructor
 ·rintro ⟨j,hj,rfl⟩
  rw [getElem!_pos _ j (by simpa using hj)]
  simp
 ·intro h
  obtain ⟨j,hj,rfl⟩:=List.getElem_of_mem h
  exact ⟨j,hj,by rw [getElem!_pos _ j (by simpa using hj)];simp⟩
theorem ij (l:List Pr):D2 (dj l):=by
 unfold dj Go.Lib.compact
 have hp:(l.mergeSort fun x y=>!decide (bt y x<0)).Pairwise fun x y=>(!decide (bt y x<0))=true:=by
  apply List.pairwise_mergeSort
  ·intro a b c h1 h2
   simp only [Bool.not_eq_true',decide_eq_false_iff_not,gi] at *
   intro h3
   rcases gh b c with h|h|h
   ·exact h1 (cq h h3)
   ·subst h;exact h1 h3
   ·exact h2 h
  ·intro a b
   simp only [Bool.or_eq_true,Bool.not_eq_true',decide_eq_false_iff_not,gi]
   rcases gh a b with h|h|h
   ·exact Or.inl (jZ h)
   ·subst h;exact Or.inl (bp _)
   ·exact Or.inr (jZ h)
 generalize (l.mergeSort fun x y=>!decide (bt y x<0))=M at *
 refine nW _ ?_ _ (by simp)
 intro i j hij hj
 have hj':j<M.length:=by simpa using hj
 rw [getElem!_pos _ j hj,getElem!_pos _ i (by omega)]
 have:=List.pairwise_iff_getElem.1 hp i j (by omega) hj' hij
 simp only [Bool.not_eq_true',decide_eq_false_iff_not,gi] at this
 simpa using this
theorem nc (l:List Pr):(dj l).length≤l.length:=by
 unfold dj Go.Lib.compact Go.Lib.compactUpTo
 rw [List.length_map]
 refine Nat.le_trans (List.length_filter_le _ _) ?_
 simp
theorem toZ:∀{l l':List Pr},D2 l→D2 l'→(∀x,x∈l↔x∈l')→l=l'
 | [],[],_,_,_=>rfl
 | [],y :: l',_,_,h=>absurd ((h y).2 (by simp)) (by simp)
 | x :: l,[],_,_,h=>absurd ((h x).1 (by simp)) (by simp)
 | x :: l,y :: l',ha,hb,h=>by
  unfold D2 at ha hb
  rw [List.pairwise_cons] at ha hb
  have hxy:x=y:=by
   rcases List.mem_cons.1 ((h x).1 (by simp)) with e|e
   ·exact e
   ·rcases List.mem_cons.1 ((h y).2 (by simp)) with e'|e'
    ·exact e'.symm
    ·exact absurd (cq (hb.1 x e) (ha.1 y e')) (bp _)
  subst hxy
  rw [toZ (l:=l) (l':=l') ha.2 hb.2 fun z=>⟨fun hz=>?_,fun hz=>?_⟩]
  ·rcases List.mem_cons.1 ((h z).1 (List.mem_cons_of_mem _ hz)) with e|e
   ·subst e;exact absurd (ha.1 z hz) (bp _)
   ·exact e
  ·rcases List.mem_cons.1 ((h z).2 (List.mem_cons_of_mem _ hz)) with e|e
   ·subst e;exact absurd (hb.1 z hz) (bp _)
   ·exact e
def gP (x:Pr) (L:List Pr) (k:Nat):List Pr:=L.take k++x :: L.drop k
theorem pi (x:Pr) (L:List Pr) (k:Nat):(gP x L k).length=L.length+1:=by
 unfold gP
 rw [List.length_append,List.length_cons,List.length_take,List.length_drop]
 omega
theorem BA (x:Pr) (L:List Pr) (k:Nat) (y:Pr):y∈gP x L k↔y=x∨y∈L:=by
 unfold gP
 rw [List.mem_append,List.mem_cons]
 have:y∈L↔y∈L.take k∨y∈L.drop k:=by rw [←List.mem_append,List.take_append_drop]
 rw [this]
 constructor
 ·rintro (h|h|h)
  ·exact Or.inr (Or.inl h)
  ·exact Or.inl h
  ·exact Or.inr (Or.inr h)
 ·rintro (h|h|h)
  ·exact Or.inr (Or.inl h)
  ·exact Or.inl h
  ·exact Or.inr (Or.inr h)
theorem BB {x:Pr} {L:List Pr} {k:Nat} (ha:D2 L) (hk:k≤L.length) (hd:∀y∈L.drop k,fq x y) (ht:k=0∨∃h:k-1<L.length,fq L[k-1] x):D2 (gP x L k):=by
 unfold gP D2 at *
 rw [List.pairwise_append]
 refine ⟨ha.sublist (List.take_sublist _ _),List.pairwise_cons.2 ⟨hd,ha.sublist (List.drop_sublist _ _)⟩,fun a h1 b h2=>?_⟩
 have hax:fq a x:=by
  obtain ⟨i,hi,rfl⟩:=List.getElem_of_mem h1
  rw [List.length_take] at hi
  rcases ht with rfl|⟨h,hlt⟩
  ·omega
  ·rw [List.getElem_take]
   rcases Nat.lt_or_ge i (k-1) with h3|h3
   ·exact cq (List.pairwise_iff_getElem.1 ha i (k-1) (by omega) (by omega) h3) hlt
   ·have:i=k-1:=by omega
    subst this
    exact hlt
 rcases List.mem_cons.1 h2 with rfl|h2
 ·exact hax
 ·exact cq hax (hd b h2)
theorem zU {l:List Pr} {x:Pr} {k j:Nat} (hk:k<l.length) (hx:l[k]=x) (hj:j≤(dj (l.take k)).length) (hd:∀y∈(dj (l.take k)).drop j,fq x y) (ht:j=0∨∃h:j-1<(dj (l.take k)).length,fq (dj (l.take k))[j-1] x) :
  gP x (dj (l.take k)) j=dj (l.take (k+1)):=by
 refine toZ (BB (ij _) hj hd ht) (ij _) fun y=>?_
 rw [BA,ct,ct,List.take_add_one,List.getElem?_eq_getElem hk,hx]
 simp [or_comm]
theorem zV {l:List Pr} {x:Pr} {k:Nat} (hk:k<l.length) (hx:l[k]=x) (hm:x∈dj (l.take k)):dj (l.take k)=dj (l.take (k+1)):=by
 refine toZ (ij _) (ij _) fun y=>?_
 rw [ct] at hm
 rw [ct,ct,List.take_add_one,List.getElem?_eq_getElem hk,hx]
 simp only [Option.toList_some,List.mem_append,List.mem_singleton]
 constructor
 ·exact Or.inl
 ·rintro (h|rfl)
  ·exact h
  ·exact hm
theorem zW {x:Pr} {L:List Pr} {j:Nat} (h0:0<j) (hj:j≤L.length):((gP x L j).set (j-1) x).set j (L[j-1]'(by omega))=gP x L (j-1):=by
 obtain ⟨i,rfl⟩:∃i,j=i+1:=⟨j-1,by omega⟩
 simp only [Nat.add_sub_cancel]
 unfold gP
 have hl:(L.take i).length=i:=by rw [List.length_take];omega
 rw [List.take_add_one,List.getElem?_eq_getElem (show i<L.length by omega),List.drop_eq_getElem_cons (show i<L.length by omega)]
 simp only [Option.toList_some,List.append_assoc,List.singleton_append]
 rw [List.set_append_right _ _ (by omega),hl,Nat.sub_self,List.set_cons_zero,List.set_append_right _ _ (by omega),hl]
 simp
theorem Ed {x:Pr} {L:List Pr} {j:Nat} (hj:j≤L.length):(gP x L j)[j]'(by rw [pi];omega)=x:=by
 unfold gP
 rw [List.getElem_append_right (by rw [List.length_take];omega)]
 simp [List.length_take,Nat.min_eq_left hj]
theorem vh {x:Pr} {L:List Pr} {j:Nat} (h0:0<j) (hj:j≤L.length):(gP x L j)[j-1]'(by rw [pi];omega)=L[j-1]'(by omega):=by
 unfold gP
 rw [List.getElem_append_left (by rw [List.length_take];omega),List.getElem_take]
section
variable {α:Type} {E:El α} {e:TypeId}
theorem xh {P:Program} {t:TypeId} {by_:Nat} (T:ElTB P E t e by_) {ops:Array Oper} {o:Oper} {a:Act} {w:World} {K:Act→World→Prop} {Q:Exit→Act→World→Prop} {E':Prop} (hgd:o.guard=none) (s x:Operand)
  (ho:o.op = .call { callee:=.builtin .append,args:=#[s,x],argTypes:=#[t,t] })
  (base:Nat) (v:Value) (l ns:List α) (n:Nat) (hn:ns.length=n) (A:Option Addr) (c:Nat) (hs:a.eval s=v) (hown:OwnRows E e w base v l) (hx:a.eval x = .slice A n c) (hr:RowsAt E w (oK w v) A ns) (hl:l.length+n≤maxLen) (hlb:(l.length+n)*by_≤140737488355328)
  (h:∀v' w',OwnRows E e w' base v' (l++ns)→Below base w w'→m4 w w' v v'→K (a.put o.dst v') w') :
  if Region.wanted o (yielded ops a.tmps)=true then Oper.wp P o a w K Q else E':=by
 have hw:Region.wanted o (yielded ops a.tmps)=true:=by simp [Region.wanted,hgd]
 rw [if_pos hw]
 subst hn
 obtain ⟨xs,hx1,hx2⟩:=hr
 obtain ⟨v',w',hrun,h1,h2,h3⟩:=m5 T w o.type base v l ns A c hown xs hx1 (fun h0=>by
  obtain ⟨b,off,hA,_,hc⟩:=hx2 h0
  exact ⟨b,off,hA,hc⟩) hl hlb
 unfold Oper.wp execOp
 simp only [ho,resolve,invoke,builtin,Sem.run_bind,Sem.run_pure,Result.andThen_ok,List.map_toArray,List.map_cons,List.map_nil,hs,hx,hrun]
 exact h v' w' h1 h2 h3
section
variable {n:Nat} {pos:0<n} {f:α→List Value} {len:∀x,(f x).length=n} {one:∀x,∀u∈f x,u.oneCell'=true}
end
end
section
open Go.Sort Go.Lib
section
variable {α:Type}
theorem vi (f:α→List Value) (k:Nat) (hk:∀x,(f x).length=k) (h0:0<k):∀(l:List α) (t:Nat),((l.map f).flatten)[t]? = (l[t / k]?).bind fun x=>(f x)[t % k]?
 | [],t=>by simp
 | x :: l,t=>by
  rw [List.map_cons,List.flatten_cons]
  rcases Nat.lt_or_ge t k with h|h
  ·rw [List.getElem?_append_left (by rw [hk];exact h),Nat.div_eq_of_lt h,Nat.mod_eq_of_lt h]
   rfl
  ·rw [List.getElem?_append_right (by rw [hk];exact h),hk,vi f k hk h0 l (t-k)]
   obtain ⟨u,rfl⟩:∃u,t=u+k:=⟨t-k,by omega⟩
   rw [Nat.add_sub_cancel,Nat.add_div_right _ h0,Nat.add_mod_right]
   rfl
theorem iQ [Inhabited α] (f:α→List Value) (k:Nat) (hk:∀x,(f x).length=k) (h0:0<k) (l:List α):(flatK f k l.toArray).toList=(l.map f).flatten:=by
 apply List.ext_getElem?
 intro t
 rw [vi f k hk h0]
 rcases Nat.lt_or_ge t (l.length*k) with h|h
 ·have hd:t / k<l.length:=(Nat.div_lt_iff_lt_mul h0).2 h
  have hm:t % k<k:=Nat.mod_lt _ h0
  rw [Array.getElem?_toList,Array.getElem?_eq_getElem (by simpa using h),←getElem!_pos _ t (by simpa using h),get_flatK _ _ _ _ (by simpa using h),getElem!_pos _ (t / k) (by simpa using hd),List.getElem?_eq_getElem hd,Option.bind_some,getElem!_pos _ (t % k) (by rw [hk];exact hm),List.getElem?_eq_getElem (by rw [hk];exact hm)]
  rfl
 ·have hd:l.length≤t / k:=by
   rw [Nat.le_div_iff_mul_le h0]
   exact h
  rw [List.getElem?_eq_none hd,Array.getElem?_toList,Array.getElem?_eq_none (by simpa using h)]
  rfl
variable {n:Nat} {pos:0<n} {f:α→List Value} {len:∀x,(f x).length=n} {one:∀x,∀u∈f x,u.oneCell'=true} {w:World} {S:Nat→Prop} {base:Nat} {e:TypeId} {g cap:Nat} {l:List α}
theorem Reps.plain:∀{l:List α} {xs:List Value},Reps (El.plain n pos f len one) w S l xs→xs=(l.map f).flatten
 | [],xs,h=>h
 | x :: l,xs,h=>by
  obtain ⟨cs,rest,rfl,h1,h2⟩:=h
  rw [Reps.plain h2,show cs=f x from h1]
  rfl
theorem Reps.plain_mk:∀(l:List α),Reps (El.plain n pos f len one) w S l (l.map f).flatten
 | []=>rfl
 | x :: l=>⟨f x,(l.map f).flatten,rfl,rfl,Reps.plain_mk l⟩
theorem OwnRows.holdsK [Inhabited α] (h:OwnRows (El.plain n pos f len one) e w base (.slice (some ⟨g,0,none⟩) l.length cap) l):HoldsK f n w g 0 l.toArray:=by
 intro t ht
 rw [size_flatK] at ht
 have ht':t<l.length*n:=ht
 have hcapn:l.length≤cap:=by
  obtain ⟨A,cap',hA,_,hc,_⟩:=h.form
  injection hA with _ _ e3
  omega
 have hcell:=h.cellAt (j:=t) (Nat.lt_of_lt_of_le ht' (Nat.mul_le_mul_right _ hcapn))
 rw [Nat.zero_add]
 refine ⟨?_,hcell.2⟩
 obtain ⟨h0,xs,⟨h1,h2⟩,h3⟩:=h
 rcases h2 with ⟨hv,_⟩|⟨g',cap',cur,hv,hg,hh,hnc,hcm,hcs,htk⟩
 ·cases hv
 ·injection hv with e1 _ e3
  injection e1 with e1
  injection e1 with e1
  subst e1
  subst e3
  have hx:=Reps.plain h3
  have hlt:t<cur.size:=by rw [hcs];exact Nat.lt_of_lt_of_le ht' (Nat.mul_le_mul_right _ hcapn)
  have hc:w.cell? ⟨g,t,none⟩=cur[t]?:=by simp [World.cell?,hh]
  have hxt:cur[t]? = xs[t]?:=by
   rw [←htk,List.getElem?_take,if_pos (show t<l.length*(El.plain n pos f len one).n from ht'),Array.getElem?_toList]
  rw [hc,hxt,hx,←iQ f n len pos l,Array.getElem?_toList,Array.getElem?_eq_getElem (by simpa using ht'),←getElem!_pos _ t (by simpa using ht')]
  rfl
theorem OwnRows.sorted [Inhabited α] (h:OwnRows (El.plain n pos f len one) e w base (.slice (some ⟨g,0,none⟩) l.length cap) l) (hg:g<w.heap.size) {l':List α} (hl:l'.length=l.length) (m:Nat) (os:Array Obj) :
  OwnRows (El.plain n pos f len one) e (sortWorldK f n w g 0 m l'.toArray os) base (.slice (some ⟨g,0,none⟩) l.length cap) l':=by
 obtain ⟨h0,xs,⟨h1,h2⟩,h3⟩:=h
 have hsz:w.heap.size≤(sortWorldK f n w g 0 m l'.toArray os).heap.size:=by
  simp [sortWorldK,grow,putRowK,putRow,mapBlock]
 refine ⟨Nat.le_trans h0 hsz,(l'.map f).flatten,?_,Reps.plain_mk l'⟩
 rw [hl]
 have hfl:((l'.map f).flatten).length=l.length*n:=by
  rw [←iQ f n len pos l',Array.length_toList,size_flatK]
  simp [hl]
 refine ⟨hfl,?_⟩
 rcases h2 with ⟨hv,_⟩|⟨g',cap',cur,hv,hgb,hh,hnc,hcm,hcs,htk⟩
 ·cases hv
 ·injection hv with e1 _ e3
  injection e1 with e1
  injection e1 with e1
  subst e1
  subst e3
  have hF:(flatK f n l'.toArray).size=l.length*n:=by simp [hl]
  have hle:l.length*n≤cap*n:=Nat.mul_le_mul_right _ hnc
  refine .inr ⟨g,cap,putCells id 0 (flatK f n l'.toArray) cur,rfl,hgb,?_,hnc,hcm,by simp [putCells,hcs],?_⟩
  ·show (w.heap.modify g (onCells (putCells id 0 (flatK f n l'.toArray)))++os)[g]? = _
   rw [Array.getElem?_append_left (by simpa using hg),Array.getElem?_modify,if_pos rfl,hh]
   rfl
  ·rw [←iQ f n len pos l']
   apply List.ext_getElem?
   intro t
   rw [List.getElem?_take]
   show (if t<l.length*n then _ else _)=_
   split
   ·next ht =>
    rw [Array.getElem?_toList,Array.getElem?_toList]
    unfold putCells
    rw [Array.getElem?_mapIdx,Array.getElem?_eq_getElem (by rw [hcs];exact Nat.lt_of_lt_of_le ht hle),Option.map_some,if_pos ⟨Nat.zero_le _,by rw [hF];omega⟩,Array.getElem?_eq_getElem (by rw [hF];exact ht),Nat.sub_zero,←getElem!_pos _ t (by rw [hF];exact ht)]
    rfl
   ·next ht =>
    rw [Array.getElem?_toList,Array.getElem?_eq_none (by rw [hF];omega)]
theorem tq [Inhabited α] {w0:World} {B:Nat} (hb:Go.RowKit.Below B w0 w) (hg:B≤g) (hg2:g<w.heap.size) (m:Nat) (d:Array α) (os:Array Obj):Go.RowKit.Below B w0 (sortWorldK f n w g 0 m d os):=by
 refine hb.trans ⟨rfl,rfl,rfl,by simp [sortWorldK,grow,putRowK,putRow,mapBlock],fun k hk=>?_⟩
 show (w.heap.modify g (onCells (putCells id 0 (flatK f n d)))++os)[k]? = _
 rw [Array.getElem?_append_left (by simp;omega),Array.getElem?_modify,if_neg (by omega)]
end
end
end Go.Proofs.YtjndcdcbjidocaaGreatDoor
namespace Go.Proofs
open Go.Shelf
def Tryz.sortProcs_ren:Go.Shelf.Ren:=⟨fun|6=>127|15=>190|14=>200|28=>254|29=>255|20=>262|21=>263|22=>264|23=>265|24=>266|25=>267|26=>268|27=>269|46=>312|47=>304|48=>305|49=>313|50=>314|57=>329|n=>n,fun|22=>75|24=>35|25=>73|3=>3|39=>203|0=>0|53=>248|55=>250|4=>4|46=>241|45=>240|50=>245|5=>5|9=>9|66=>277|70=>272|76=>297|77=>262|n=>n,fun|n=>n⟩
theorem Tryz.sortProcs:Go.Proofs.SlLaysF0.n6 Tryz.prog Tryz.sortProcs_ren:={
 mixed:=by kernel_rfl
 f6:=⟨Tryz.f127.name,by decide,Tryz.func127.trans (congrArg some (by kernel_rfl))⟩
 f14:=⟨Tryz.f200.name,by decide,Tryz.func200.trans (congrArg some (by kernel_rfl))⟩
 f15:=Tryz.func190.trans (congrArg some (by kernel_rfl))
 f20:=⟨Tryz.f262.name,by decide,Tryz.func262.trans (congrArg some (by kernel_rfl))⟩
 f21:=⟨Tryz.f263.name,by decide,Tryz.func263.trans (congrArg some (by kernel_rfl))⟩
 f22:=⟨Tryz.f264.name,by decide,Tryz.func264.trans (congrArg some (by kernel_rfl))⟩
 f23:=⟨Tryz.f265.name,by decide,Tryz.func265.trans (congrArg some (by kernel_rfl))⟩
 f24:=⟨Tryz.f266.name,by decide,Tryz.func266.trans (congrArg some (by kernel_rfl))⟩
 f25:=⟨Tryz.f267.name,by decide,Tryz.func267.trans (congrArg some (by kernel_rfl))⟩
 f26:=⟨Tryz.f268.name,by decide,Tryz.func268.trans (congrArg some (by kernel_rfl))⟩
 f27:=⟨Tryz.f269.name,by decide,Tryz.func269.trans (congrArg some (by kernel_rfl))⟩
 f28:=Tryz.func254.trans (congrArg some (by kernel_rfl))
 f29:=Tryz.func255.trans (congrArg some (by kernel_rfl))
 f46:=⟨Tryz.f312.name,by decide,Tryz.func312.trans (congrArg some (by kernel_rfl))⟩
 f47:=Tryz.func304.trans (congrArg some (by kernel_rfl))
 f48:=Tryz.func305.trans (congrArg some (by kernel_rfl))
 f49:=⟨Tryz.f313.name,by decide,Tryz.func313.trans (congrArg some (by kernel_rfl))⟩
 f50:=⟨Tryz.f314.name,by decide,Tryz.func314.trans (congrArg some (by kernel_rfl))⟩
 f57:=⟨Tryz.f329.name,by decide,Tryz.func329.trans (congrArg some (by kernel_rfl))⟩
 t0:=Tryz.underlying0
 a0:=Tryz.isAgg0
 z0:=Tryz.sizeOf0
 v0:=Tryz.zeroValue0
 t3:=Tryz.underlying3
 a3:=Tryz.isAgg3
 z3:=Tryz.sizeOf3
 v3:=Tryz.zeroValue3
 t4:=Tryz.underlying4
 a4:=Tryz.isAgg4
 z4:=Tryz.sizeOf4
 v4:=Tryz.zeroValue4
 t5:=Tryz.underlying5
 a5:=Tryz.isAgg5
 z5:=Tryz.sizeOf5
 v5:=Tryz.zeroValue5
 t9:=Tryz.underlying9
 a9:=Tryz.isAgg9
 z9:=Tryz.sizeOf9
 v9:=Tryz.zeroValue9
 t22:=Tryz.underlying75
 a22:=Tryz.isAgg75
 z22:=Tryz.sizeOf75
 v22:=Tryz.zeroValue75
 t25:=Tryz.underlying73
 a25:=Tryz.isAgg73
 z25:=Tryz.sizeOf73
 v25:=Tryz.zeroValue73
 t39:=Tryz.underlying203
 a39:=Tryz.isAgg203
 z39:=Tryz.sizeOf203
 v39:=Tryz.zeroValue203
 t45:=Tryz.underlying240
 a45:=Tryz.isAgg240
 z45:=Tryz.sizeOf240
 v45:=Tryz.zeroValue240
 t46:=Tryz.underlying241
 a46:=Tryz.isAgg241
 z46:=Tryz.sizeOf241
 v46:=Tryz.zeroValue241
 t50:=Tryz.underlying245
 a50:=Tryz.isAgg245
 z50:=Tryz.sizeOf245
 v50:=Tryz.zeroValue245
 t53:=Tryz.underlying248
 a53:=Tryz.isAgg248
 z53:=Tryz.sizeOf248
 v53:=Tryz.zeroValue248
 t55:=Tryz.underlying250
 a55:=Tryz.isAgg250
 z55:=Tryz.sizeOf250
 v55:=Tryz.zeroValue250
 t66:=Tryz.underlying277
 a66:=Tryz.isAgg277
 z66:=Tryz.sizeOf277
 v66:=Tryz.zeroValue277
 t70:=Tryz.underlying272
 a70:=Tryz.isAgg272
 z70:=Tryz.sizeOf272
 v70:=Tryz.zeroValue272
 t76:=Tryz.underlying297
 a76:=Tryz.isAgg297
 z76:=Tryz.sizeOf297
 v76:=Tryz.zeroValue297
 t77:=Tryz.underlying262
 a77:=Tryz.isAgg262
 z77:=Tryz.sizeOf262
 v77:=Tryz.zeroValue262 }
end Go.Proofs
namespace Go.Proofs.YtjndcdcbjidocaaGreatDoor
open Go.RowKit Go.Proofs.Tryz
section
open Go.Shelf
theorem xi (a b c x y z:Int) (w:World):Calls prog 47 #[.agg #[.int .i64 a,.int .i64 b,.int .i64 c],.agg #[.int .i64 x,.int .i64 y,.int .i64 z]] w fun e w'=>e = .returned (.int .i64 (bt ⟨a,b,c⟩ ⟨x,y,z⟩))∧∃os,w'=Go.Sort.grow w os:=by
 have i0:∀w:World,(Instr.index 100 (.agg #[.int .i64 a,.int .i64 b,.int .i64 c]) (.int .i64 0)).run prog w = .ok (.int .i64 a) w:=fun _=>by kernel_rfl
 have i1:∀w:World,(Instr.index 100 (.agg #[.int .i64 a,.int .i64 b,.int .i64 c]) (.int .i64 1)).run prog w = .ok (.int .i64 b) w:=fun _=>by kernel_rfl
 have i2:∀w:World,(Instr.index 100 (.agg #[.int .i64 a,.int .i64 b,.int .i64 c]) (.int .i64 2)).run prog w = .ok (.int .i64 c) w:=fun _=>by kernel_rfl
 obtain ⟨r,hr⟩:∃r,bt ⟨a,b,c⟩ ⟨x,y,z⟩=r:=⟨_,rfl⟩
 rw [hr]
 have HR:=Lib.hid hr
 clear hr
 go_enter func47,ntmps47
 go_wp2
 go_rounds 4
 all_goals go_ret
 all_goals refine ⟨jY ?_,_,by rw [Go.Sort.alloc_eq_grow,Go.Sort.alloc_eq_grow,Go.Sort.grow_grow]⟩
 all_goals rw [←HR.out]
 all_goals rcases cM ⟨a,b,c⟩ ⟨x,y,z⟩ with ⟨h,e⟩|⟨h,e⟩|⟨h,e⟩ <;> rw [e] <;> first|rfl|(exfalso;unfold fq at h;simp only at h;omega)|(exfalso;simp only [Pr.mk.injEq] at h;omega)
theorem BC (p q:Pr) (w:World):Calls prog 24 #[p.val,q.val] w fun e w'=>e = .returned (.int .i64 (bt p q))∧∃os,w'=Go.Sort.grow w os:=by
 obtain ⟨a,b,c⟩:=p
 obtain ⟨x,y,z⟩:=q
 have HC:=Lib.hid (fun w=>xi a b c x y z w)
 obtain ⟨r,hr⟩:∃r,bt ⟨a,b,c⟩ ⟨x,y,z⟩=r:=⟨_,rfl⟩
 rw [hr] at HC ⊢
 clear hr
 unfold Pr.val
 go_enter func24,ntmps24
 go_wp2_with fail
 refine (HC.out _).mono ?_
 rintro e w1 ⟨rfl,os,rfl⟩
 go_wp2
 go_ret
 exact ⟨rfl,_,by rw [Go.Sort.alloc_eq_grow,Go.Sort.alloc_eq_grow,Go.Sort.grow_grow,Go.Sort.grow_grow]⟩
theorem pj {x y:Pr}:ltOf bt x y=true↔fq x y:=by
 unfold ltOf
 rw [decide_eq_true_iff,gi]
theorem rX {x y:Pr}:ltOf bt x y=false↔¬fq x y:=by
 unfold ltOf
 rw [decide_eq_false_iff_not,gi]
theorem BD:Go.Sort.SWO (ltOf bt) where
 irrefl x:=rX.2 (bp x)
 trans x y z h1 h2:=pj.2 (cq (pj.1 h1) (pj.1 h2))
 ntrans x y z h1 h2:=by
  rw [rX] at *
  intro h3
  rcases gh x y with h|h|h
  ·exact h1 h
  ·subst h;exact h2 h3
  ·exact h2 (cq h h3)
theorem xj (x y:Pr) (h1:ltOf bt x y=false) (h2:ltOf bt y x=false):x=y:=by
 unfold ltOf at h1 h2
 rw [decide_eq_false_iff_not,gi] at h1 h2
 rcases gh x y with h|h|h
 ·exact absurd h h1
 ·exact h
 ·exact absurd h h2
theorem tt {w0:World} {base:Nat} {v:Value} {l:List Pr} (w:World) (hown:OwnRows eY 35 w base v l) (hb:Below base w0 w) (hsz:l.length<4611686018427387904) :
  Calls prog 127 #[v,.func (.func 24) #[] #[]] w fun e w'=>e = .returned (.tuple #[])∧OwnRows eY 35 w' base v (l.mergeSort fun x y=>!decide (bt y x<0))∧Below base w0 w':=by
 rcases Nat.eq_zero_or_pos l.length with h0|h0
 ·obtain ⟨A,cap,rfl,_,_,_,_⟩:=hown.form2
  obtain rfl:=List.eq_nil_of_length_eq_zero h0
  refine (AnyF.slices_SortFunc_none { sortProcs with } A cap _ w).mono ?_
  rintro e w' ⟨rfl,rfl⟩
  exact ⟨rfl,by simpa using hown,hb⟩
 ·obtain ⟨g,cap,rfl,hg,hg2,_,_,_,_⟩:=hown.addr h0
  have eg:∀args w,(callFunc 24 args).run prog w = .ok (.enter 24 args) w:=enters_of func24 (by kernel_rfl) rfl
  have hcmp:CmpLays prog 24 #[] Pr.cells 3 bt g 0 l.toArray.size w:=fun _ _ _ _ x y=>(BC x y _).mono fun e w' ⟨he,os,hw⟩=>⟨he,0,os,hw⟩
  have:=AnyQ.slices_SortFunc_total sortProcs 3 isAgg35 sizeOf35 Pr.cells (fun _=>rfl) (by intro x u hu;simp [Pr.cells] at hu;rcases hu with rfl|rfl|rfl <;> rfl) bt BD 24 #[] g 0 cap l.toArray w eg hcmp hown.holdsK hg2 hsz xj
  refine Calls.mono this ?_
  rintro e w' ⟨rfl,n,os,rfl⟩
  exact ⟨rfl,hown.sorted hg2 (by simp) n os,tq hb hg hg2 n _ os⟩
end
section
open Go.Lib
theorem jg {P:Program} (w:World) (t e:TypeId) (z:Value) (ht:P.underlying t=some (.slice e)) (hv:∀w,(zeroValue e).run P w = .ok z w) (h1:∀u∈z.cells.toList,u.oneCell'=true) (h0:0<z.cells.size) (b o n c:Nat) (hn:0<n)
  (hc:∀j,j<n*z.cells.size→(w.cell? ⟨b,o+j,none⟩).isSome=true∧w.frozen? ⟨b,o+j,none⟩=false) :
  ∃vs,∀ty,(Builtin.clear_ #[t] ty #[.slice (some ⟨b,o,none⟩) n c]).run P w = .ok (.tuple #[]) (w.setCells b o vs):=by
 have hl:(Builtin.zeroCells z.cells n).toList.length=n*z.cells.size:=by simp [Builtin.zeroCells]
 have hm:∀v∈(Builtin.zeroCells z.cells n).toList,v.oneCell'=true:=by
  intro v hv
  simp only [Builtin.zeroCells,Array.toList_map,List.mem_map] at hv
  obtain ⟨i,_,rfl⟩:=hv
  have hi:i % z.cells.size<z.cells.size:=Nat.mod_lt _ h0
  rw [getElem!_pos z.cells _ hi]
  exact h1 _ (by simp)
 have hst:=run_storeCells_cells (P:=P) b o (Builtin.zeroCells z.cells n).toList 0 w (fun j hj=>(hc j (by rw [←hl];exact hj)).1) (fun j hj=>(hc j (by rw [←hl];exact hj)).2) hm
 simp only [Nat.add_zero] at hst
 obtain ⟨m,rfl⟩:∃m,n=m+1:=⟨n-1,by omega⟩
 exact ⟨_,fun ty=>by simp [Builtin.clear_,run_underlying ht,hv,hst];rfl⟩
theorem vj {d dk:List Pr} {k:Nat} (h:CompInv d.toArray d.length k dk.toArray):dk.take k=compact d:=by
 have hs:dk.length=d.length:=by simpa using h.size
 apply List.ext_getElem?
 intro j
 unfold compact
 have hk:=h.lt
 rcases Nat.lt_or_ge j k with hj|hj
 ·rw [h.low j hj,List.getElem?_take,if_pos hj,List.getElem?_eq_getElem (by omega),getElem!_pos _ j (by simp;omega)]
  simp
 ·rw [List.getElem?_eq_none (by rw [List.length_take];omega),List.getElem?_eq_none (by rw [h.len];exact hj)]
theorem vl {d:List Pr} {j:Nat} (hj:j<d.length) (h0:0<j) {x y:Pr} (hx:d[j]=x) (hy:d[j-1]=y):keeps d.toArray j=decide (x≠y):=by
 unfold keeps
 rw [getElem!_pos _ j (by simpa using hj),getElem!_pos _ (j-1) (by simp;omega)]
 have:j≠0:=by omega
 simp [this,hx,hy]
theorem rY {d dk:List Pr} {m k:Nat} (h:CompInv d.toArray m k dk.toArray) (hm:m<dk.length) {x y:Pr} (hx:dk[m]=x) (hy:dk[m-1]'(by omega)=y):keeps d.toArray m=decide (x≠y):=by
 have hs:dk.length=d.length:=by simpa using h.size
 have hk:=h.lt
 have e1:=h.high m (by omega)
 have e2:=h.high (m-1) (by omega)
 rw [getElem!_pos _ m (by simpa using hm),getElem!_pos _ m (by simp;omega)] at e1
 rw [getElem!_pos _ (m-1) (by simp;omega),getElem!_pos _ (m-1) (by simp;omega)] at e2
 simp only [List.getElem_toArray] at e1 e2
 exact vl (by omega) (by omega) (e1.symm.trans hx) (e2.symm.trans hy)
theorem vm {w0:World} {base:Nat} {v:Value} {l:List Pr} (w:World) (hown:OwnRows eY 35 w base v l) (hb:Below base w0 w) (hsz:l.length≤281474976710656) :
  Calls prog 128 #[v] w fun e w'=>∃v',e = .returned v'∧OwnRows eY 35 w' base v' (compact l)∧Below base w0 w':=by
 rcases Nat.lt_or_ge l.length 2 with h2|h2
 ·have hc:compact l=l:=compact_all l fun j hj=>keeps_lt_one _ j (by omega)
  obtain ⟨A,cap,rfl,_,_,_,_⟩:=hown.form2
  rw [hc]
  have HOWN:=Lib.hid hown
  have h2i:(l.length:Int)<2:=by omega
  have HB:=Lib.hid hb
  clear hown hc hb
  go_enter func128,ntmps128
  go_wp2_with fail
  go_ret
  exact ⟨_,rfl,HOWN.out,HB.out⟩
 ·obtain ⟨g,cap,rfl,hg,hg2,hncap,hcm,hfz,hr⟩:=hown.addr (by omega)
  have HR:=Lib.hid hr
  have HOWN:=Lib.hid hown
  have HB:=Lib.hid hb
  have HG:=Lib.hid hg
  have h2i:¬(l.length:Int)<2:=by omega
  clear hr hown hb hfz hg
  go_enter func128,ntmps128
  go_wp2_with fail
  go_loopg [3] l.length (fun m v wq=>∃k q:Nat,1≤k∧k≤l.length∧l.length-k≤m∧v = .int .i64 (k:Int)∧wq=w.drewN q∧Hid (∀j,j<k→keeps l.toArray j=true))
  case atStart=>exact ⟨1,0,Nat.le_refl _,by omega,by omega,rfl,rfl,Lib.hid (keeps_lt_one _)⟩
  case round =>
   obtain ⟨k,q,hk1,hk,hm,rfl,rfl,hall⟩:=hrel
   by_cases hlt:k<l.length
   ·obtain ⟨⟨a,b,c⟩,hx⟩:∃x,l[k]=x:=⟨_,rfl⟩
    obtain ⟨⟨x,y,z⟩,hy⟩:∃x,l[k-1]=x:=⟨_,rfl⟩
    obtain ⟨g',off,hA,_,hc0,hc1,hc2⟩:=jt HR.out hlt hx
    injection hA with hA
    injection hA with e1 e2
    subst e1
    subst e2
    obtain ⟨g',off,hA,_,hd0,hd1,hd2⟩:=jt HR.out (by omega) hy
    injection hA with hA
    injection hA with e1 e2
    subst e1
    subst e2
    simp only [Nat.zero_add] at hc0 hc1 hc2 hd0 hd1 hd2
    have HK:=Lib.hid (vl hlt (by omega) hx hy)
    clear hx hy
    have hlti:(k:Int)<(l.length:Int):=by omega
    have hw1:IntKind.i64.wrap ((k:Int)-1)=((k-1:Nat):Int):=by rw [IntWalk.i64_in _ (by omega)];omega
    obtain ⟨_,k2,k3⟩:=F4 a b c x y z
    obtain ⟨qq,hq⟩:∃q,decide ((⟨a,b,c⟩:Pr)=⟨x,y,z⟩)=q:=⟨_,rfl⟩
    rw [hq] at k2
    have HQ:=Lib.hid hq
    clear hq
    cases qq with
    | false =>
     go_wp2_with fail
     go_quiet (fail)
     go_wp2_with fail
     go_roundg (l.length-(k+1))
     case measure=>omega
     case rel=>exact ⟨k+1,_,by omega,by omega,Nat.le_refl _,by go_num,rfl,Lib.hid (fun j hj=>by
      rcases Nat.lt_or_ge j k with h|h
      ·exact hall.out j h
      ·obtain rfl:j=k:=by omega
       rw [HK.out]
       exact decide_eq_true (of_decide_eq_false HQ.out))⟩
    | true =>
     have HEQ:(⟨a,b,c⟩:Pr)=⟨x,y,z⟩:=of_decide_eq_true HQ.out
     have HKF:Hid (keeps l.toArray k=false):=Lib.hid (by rw [HK.out];exact decide_eq_false fun h=>h HEQ)
     have hct:=(vg underlying75 (e:=35) (z:=.agg #[.int .i64 0,.int .i64 0,.int .i64 0]) (sz:=3) (by_:=24) (by kernel_rfl) (some ⟨g,0,none⟩) l.length cap k hk hncap).2
     rw [show m8 (some ⟨g,0,none⟩) cap k 3=some ⟨g,k*3,none⟩ by unfold m8;rw [if_neg (by omega),Option.map_some,cL,Nat.zero_add]] at hct
     go_wp2_with fail
     go_quiet (fail)
     go_wp2_with fail
     clear hc0 hc1 hc2 hd0 hd1 hd2 k2 k3 HEQ hw1
     go_loopg [3,5] l.length (fun m v5 v6 wq=>∃(kk k2:Nat) (dk:List Pr),v5 = .int .i64 (kk:Int)∧v6 = .int .i64 (k2:Int)∧1≤k2∧k+k2≤l.length∧l.length-(k+k2)≤m∧g<wq.heap.size∧dk.length=l.length∧Hid (OwnRows eY 35 wq base (.slice (some ⟨g,0,none⟩) l.length cap) dk)∧Hid (Below base w0 wq)∧Hid (CompInv l.toArray (k+k2) kk dk.toArray))
     case atStart=>exact ⟨k,1,l,rfl,rfl,Nat.le_refl _,by omega,by omega,hg2,rfl,Lib.hid (HOWN.out.below (B:=w.heap.size) (bL (Below.refl _ _) _) (Nat.le_refl _)),Lib.hid (bL HB.out _),Lib.hid (CompInv.start hall.out HKF.out)⟩
     case round =>
      obtain ⟨kk,k2,dk,rfl,rfl,h1,hle,hm2,hgw,hdk,HO,HBW,HI⟩:=hrel
      have hkk:=HI.out.lt
      have HO':OwnRows eY 35 wr base (.slice (some ⟨g,0,none⟩) dk.length cap) dk:=by rw [hdk];exact HO.out
      obtain ⟨g',cap',hv,_,_,_,_,hfz,hr⟩:=HO'.addr (by omega)
      injection hv with hv _ hv3
      injection hv with hv
      injection hv with hv
      subst hv
      subst hv3
      by_cases hlt2:k+k2<l.length
      ·obtain ⟨⟨a',b',c'⟩,hx⟩:∃x,dk[k+k2]=x:=⟨_,rfl⟩
       obtain ⟨⟨x',y',z'⟩,hy⟩:∃x,dk[k+k2-1]=x:=⟨_,rfl⟩
       obtain ⟨⟨s',t',u'⟩,hz⟩:∃x,dk[kk]=x:=⟨_,rfl⟩
       obtain ⟨_,_,hA,_,hc0,hc1,hc2⟩:=jt hr (by omega) hx
       injection hA with hA
       injection hA with e1 e2
       subst e1
       subst e2
       obtain ⟨_,_,hA,_,hd0,hd1,hd2⟩:=jt hr (by omega) hy
       injection hA with hA
       injection hA with e1 e2
       subst e1
       subst e2
       obtain ⟨_,_,hA,_,he0,he1,he2⟩:=jt hr (by omega) hz
       injection hA with hA
       injection hA with e1 e2
       subst e1
       subst e2
       rw [show 0+(k+k2)*3=k*3+k2*3 by omega] at hc0 hc1 hc2
       rw [show 0+(k+k2-1)*3=k*3+(k2-1)*3 by omega] at hd0 hd1 hd2
       simp only [Nat.zero_add] at he0 he1 he2
       have hfz0:=hfz (kk*3)
       have hfz1:=hfz (kk*3+1)
       have hfz2:=hfz (kk*3+2)
       have HX:=Lib.hid (And.intro hx hy)
       clear hr hx hy hz hfz HO'
       have hlti2:(k2:Int)<((l.length-k:Nat):Int):=by omega
       have hw1:IntKind.i64.wrap ((k2:Int)-1)=((k2-1:Nat):Int):=by rw [IntWalk.i64_in _ (by omega)];omega
       obtain ⟨k1,_,k3⟩:=F4 a' b' c' x' y' z'
       obtain ⟨qq,hq⟩:∃q,decide ((⟨a',b',c'⟩:Pr)=⟨x',y',z'⟩)=q:=⟨_,rfl⟩
       rw [hq] at k1
       have HQ2:=Lib.hid hq
       clear hq
       cases qq with
       | true =>
        simp only [Bool.not_true] at k1
        go_wp2_with fail
        go_quiet (fail)
        go_wp2_with fail
        go_roundg (l.length-(k+(k2+1)))
        case measure=>omega
        case rel =>
         have HKF2:Hid (keeps l.toArray (k+k2)=false):=Lib.hid (by
          rw [rY HI.out (by omega) HX.out.1 HX.out.2]
          exact decide_eq_false fun h=>h (of_decide_eq_true HQ2.out))
         exact ⟨kk,k2+1,dk,rfl,by go_num,by omega,by omega,Nat.le_refl _,by simpa using hgw,hdk,Lib.hid (HO.out.below (B:=wr.heap.size) (bL (Below.refl _ _) _) (Nat.le_refl _)),Lib.hid (bL HBW.out _),Lib.hid (HI.out.skip HKF2.out)⟩
       | false =>
        simp only [Bool.not_false] at k1
        go_wp2_with fail
        go_quiet (fail)
        go_wp2_with fail
        go_roundg (l.length-(k+(k2+1)))
        case measure=>omega
        case rel =>
         have HKT:Hid (keeps l.toArray (k+k2)=true):=Lib.hid (by
          rw [rY HI.out (by omega) HX.out.1 HX.out.2]
          exact decide_eq_true (of_decide_eq_false HQ2.out))
         have HO2:Hid (OwnRows eY 35 ((wr.drewN nq).setCells g (kk*3) [.int .i64 a',.int .i64 b',.int .i64 c']) base (.slice (some ⟨g,0,none⟩) l.length cap) (dk.set kk ⟨a',b',c'⟩)):=Lib.hid (by
          have h1:OwnRows eY 35 (wr.drewN nq) base (.slice (some ⟨g,0,none⟩) dk.length cap) dk:=by
           rw [hdk]
           exact HO.out.below (B:=wr.heap.size) (bL (Below.refl _ _) _) (Nat.le_refl _)
          rw [←hdk]
          exact h1.setRow (by omega) rfl)
         have HB2:Hid (Below base w0 ((wr.drewN nq).setCells g (kk*3) [.int .i64 a',.int .i64 b',.int .i64 c'])):=Lib.hid (cN HG.out _ _ _ (bL HBW.out _))
         have HI2:Hid (CompInv l.toArray (k+(k2+1)) (kk+1) (dk.set kk ⟨a',b',c'⟩).toArray):=Lib.hid (by
          have:=HI.out.keep (by simp;omega) HKT.out
          rw [←HI.out.high (k+k2) (by omega),getElem!_pos _ (k+k2) (by simp;omega),List.getElem_toArray,HX.out.1,List.setIfInBounds_toArray] at this
          exact this)
         exact ⟨kk+1,k2+1,_,by go_num,by go_num,by omega,by omega,Nat.le_refl _,by simpa using hgw,by rw [List.length_set];exact hdk,HO2,HB2,HI2⟩
      ·have hend:k+k2=l.length:=by omega
       have hlti2:¬(k2:Int)<((l.length-k:Nat):Int):=by omega
       obtain ⟨vs,hcl⟩:=jg (P:=prog) wr 75 35 (.agg #[.int .i64 0,.int .i64 0,.int .i64 0]) underlying75 (fun w=>by kernel_rfl) (by intro u hu;simp [Value.cells] at hu;rcases hu with rfl|rfl|rfl <;> rfl) (by decide) g (kk*3) (l.length-kk) (cap-kk) (by omega) (fun j hj=>by
        have hj':j<(l.length-kk)*3:=hj
        exact HO'.cellAt (by show kk*3+j<cap*3;omega))
       have hct1:=(vg underlying75 (e:=35) (z:=.agg #[.int .i64 0,.int .i64 0,.int .i64 0]) (sz:=3) (by_:=24) (by kernel_rfl) (some ⟨g,0,none⟩) l.length cap kk (by omega) hncap)
       obtain ⟨hct1,hct2⟩:=hct1
       rw [show m8 (some ⟨g,0,none⟩) cap kk 3=some ⟨g,kk*3,none⟩ by unfold m8;rw [if_neg (by omega),Option.map_some,cL,Nat.zero_add]] at hct2
       have HEND:Hid (OwnRows eY 35 (wr.setCells g (kk*3) vs) base (.slice (some ⟨g,0,none⟩) kk cap) (compact l)):=Lib.hid (by
        have h1:=HO'.cut (k:=kk) (by omega)
        have h2:(dk.take kk).length=kk:=by rw [List.length_take];omega
        have h3:=OwnRows.off (g:=g) (cap:=cap) (l:=dk.take kk) (by rw [h2];exact h1) vs (j:=kk*3) (by rw [h2];exact Nat.le_refl _)
        rw [h2] at h3
        rw [←vj (by rw [←hend];exact HI.out)]
        exact h3)
       have HBE:Hid (Below base w0 (wr.setCells g (kk*3) vs)):=Lib.hid (cN HG.out _ _ _ HBW.out)
       clear hfz hr HO'
       go_wp2_with fail
       go_ret
       exact ⟨_,rfl,HEND.out,HBE.out⟩
   ·have hkl:k=l.length:=by omega
    have HC:Hid (compact l=l):=Lib.hid (compact_all l fun j hj=>hall.out j (by omega))
    have hlti:¬(k:Int)<(l.length:Int):=by omega
    have HOQ:=Lib.hid (HOWN.out.below (B:=w.heap.size) (bL (Below.refl _ _) q) (Nat.le_refl _))
    have HBQ:=Lib.hid (bL HB.out q)
    go_wp2_with fail
    go_ret
    exact ⟨_,rfl,by rw [HC.out];exact HOQ.out,HBQ.out⟩
end
theorem rf (A:Option Addr) (cap:Nat) (l:List Pr) (w:World) (hm:l.length≤68719476736) (hr:RowsAt eY w (Lo w.heap.size) A l) :
  Calls prog 56 #[.slice A l.length cap] w (o9 eY 35 w (dj l)):=by
 have HR:Hid (RowsAt eY w (oK w (.slice none 0 0)) A l):=Lib.hid (hr.same (fun b hb=>rfl) fun b hb=>⟨hb,fun e=>by cases e⟩)
 have HN:Hid (OwnRows eY 35 w w.heap.size (.slice none 0 0) []):=Lib.hid (OwnRows.nil _ _ _ _ (Nat.le_refl _))
 have HL:Hid (dj l=Lib.compact (l.mergeSort fun x y=>!decide (bt y x<0))):=Lib.hid rfl
 rw [HL.out]
 have HM:=Lib.hid hm
 clear hr hm HL
 go_enter func56,ntmps56
 go_wp2_with (at_builtin;refine tg Jx rfl (.const (.slice none 0 0)) (.tmp 4) rfl _ w.heap.size _ [] l l.length rfl A cap rfl HN.out rfl HR.out (by have:=HM.out;simp [maxLen];omega) (by have:=HM.out;simp;omega) ?_;intro v1 w1 hown1 hb1 _;rw [List.nil_append] at hown1;have HOWN1:=Lib.hid hown1;have HB1:=Lib.hid hb1;clear hown1 hb1)
 refine (tt _ HOWN1.out HB1.out (by have:=HM.out;omega)).mono ?_
 rintro e w2 ⟨rfl,hown2,hb2⟩
 have HOWN2:=Lib.hid hown2
 have HB2:=Lib.hid hb2
 clear hown2 hb2
 go_wp2_with fail
 refine (vm _ HOWN2.out HB2.out (by rw [List.length_mergeSort];have:=HM.out;omega)).mono ?_
 rintro e w3 ⟨v3,rfl,hown3,hb3⟩
 have HOWN3:=Lib.hid hown3
 have HB3:=Lib.hid hb3
 clear hown3 hb3
 go_wp2_with fail
 go_ret
 exact ⟨_,rfl,HOWN3.out,HB3.out⟩
def eM (q:Qu):List Pr:=dj (cw q.holds++lF q)
def Jz:El Qu where
 n:=8
 pos:=by decide
 rep:=fun w S q cs=>∃A1 A2 A3 c1 c2 c3,cs=[.string q.res.name,.int .i64 q.res.kind,.int .i64 q.res.units,.int .i64 q.res.home,.slice A1 q.holds.length c1,.slice A2 q.convs.length c2,.slice A3 q.waits.length c3,.int .i64 q.gen]∧
  q.holds.length≤maxLen∧q.convs.length≤maxLen∧q.waits.length≤maxLen∧RowsAt ga w S A1 q.holds∧RowsAt eZ w S A2 q.convs∧RowsAt eZ w S A3 q.waits
 len:=fun h=>by obtain ⟨A1,A2,A3,c1,c2,c3,rfl,_⟩:=h;rfl
 one:=fun h=>by obtain ⟨A1,A2,A3,c1,c2,c3,rfl,_⟩:=h;intro u hu;simp at hu;rcases hu with rfl|rfl|rfl|rfl|rfl|rfl|rfl|rfl <;> rfl
 same:=fun h hk hS=>by
  obtain ⟨A1,A2,A3,c1,c2,c3,e,h1,h2,h3,h4,h5,h6⟩:=h
  exact ⟨A1,A2,A3,c1,c2,c3,e,h1,h2,h3,h4.same hk hS,h5.same hk hS,h6.same hk hS⟩
def bi (n:ByteArray):Nat→List Qu→Int
 | _,[]=>-1
 | k,q :: l=>bif q.res.name.toList == n.toList then (k:Int) else bi n (k+1) l
theorem eN (n:ByteArray) (k:Nat) (q:Qu) (l:List Qu):bi n k (q :: l)=bif q.res.name.toList == n.toList then (k:Int) else bi n (k+1) l:=rfl
def jC:List Qu→List Pr
 | []=>[]
 | q :: l=>eM q++jC l
def eO (q:Qu):Prop:=q.holds.length≤8∧q.convs.length≤8∧q.waits.length≤8
theorem lG {q:Qu} (h:eO q):(eM q).length≤24:=by
 unfold eM
 have h1:=nc (cw q.holds++lF q)
 have h2:(cw q.holds++lF q).length=q.holds.length+(q.convs.length+q.waits.length):=by simp [cw,lF,bN]
 have:=h.1
 have:=h.2.1
 have:=h.2.2
 omega
theorem pk:∀(l:List Qu),(∀q∈l,eO q)→(jC l).length≤l.length*24
 | [],_=>by simp [jC]
 | q :: l,h=>by
  have h1:=pk l fun x hx=>h x (by simp [hx])
  have h2:=lG (h q (by simp))
  simp only [jC,List.length_append,List.length_cons]
  omega
def aF (l:List Qu):List Pr:=dj (jC l)
def xb (p:Option ByteArray) (n:ByteArray):Bool:=match p with|none=>true|some m=>Op.bytesLess m.toList n.toList
def lf:Option ByteArray→List Qu→Bool
 | _,[]=>true
 | p,q :: l=>ax q && xb p q.res.name && lf (some q.res.name) l
theorem dH (p:Option ByteArray) (q:Qu) (l:List Qu):lf p (q :: l)=(ax q && xb p q.res.name && lf (some q.res.name) l):=rfl
def fy (l:List Qu):Bool:=decide (l.length≤8) && lf none l
def pm (l:List Qu) (k:Nat):Option ByteArray:=if k=0 then none else (l[k-1]?).map (·.res.name)
theorem pn (l:List Qu):pm l 0=none:=rfl
theorem iR {l:List Qu} {k:Nat} {x:Qu} (h:k<l.length) (hx:l[k]=x):pm l (k+1)=some x.res.name:=by
 unfold pm
 rw [if_neg (by omega),Nat.add_sub_cancel,List.getElem?_eq_getElem h,hx]
 rfl
theorem rZ {l:List Qu} {k:Nat} {x:Qu} (h0:0<k) (h:k-1<l.length) (hx:l[k-1]=x):pm l k=some x.res.name:=by
 unfold pm
 rw [if_neg (by omega),List.getElem?_eq_getElem h,hx]
 rfl
section
inductive Ex where
 | mk (k:Int) (atom:Tm) (kids:List Ex)
namespace Ex
def k:Ex→Int | .mk k _ _=>k
def atom:Ex→Tm | .mk _ a _=>a
def kids:Ex→List Ex | .mk _ _ l=>l
theorem ind {P:Ex→Prop} (h:∀k a l,(∀x∈l,P x)→P (.mk k a l)):∀x,P x:=by
 intro x
 refine Ex.rec (motive_1:=P) (motive_2:=fun l=>∀x∈l,P x) h (fun x hx=>absurd hx (by simp)) (fun x l h1 h2 y hy=>?_) x
 rcases List.mem_cons.1 hy with rfl|hy
 ·exact h1
 ·exact h2 _ hy
end Ex
def Ex.val (x:Ex) (A:Option Addr) (cap:Nat):Value:=.agg #[.int .i64 x.k,.string x.atom.name,.int .i64 x.atom.am.mode,.int .i64 x.atom.am.units,.slice A x.kids.length cap]
def Ex.zero:Ex:=.mk 0 ⟨⟨#[]⟩,Am.zero⟩ []
def mY:Nat→El Ex
 | 0=>{ n:=5,pos:=by decide,rep:=fun _ _ _ _=>False,len:=fun h=>h.elim,one:=fun h=>h.elim,same:=fun h _ _=>h.elim }
 | d+1=>{
  n:=5
  pos:=by decide
  rep:=fun w S x cs=>∃A cap,cs=[.int .i64 x.k,.string x.atom.name,.int .i64 x.atom.am.mode,.int .i64 x.atom.am.units,.slice A x.kids.length cap]∧x.kids.length≤cap∧cap≤maxLen∧RowsAt (mY d) w S A x.kids
  len:=fun h=>by obtain ⟨A,cap,rfl,_⟩:=h;rfl
  one:=fun h=>by obtain ⟨A,cap,rfl,_⟩:=h;intro u hu;simp at hu;rcases hu with rfl|rfl|rfl|rfl|rfl <;> rfl
  same:=fun h hk hS=>by
   obtain ⟨A,cap,e,h1,h2,h3⟩:=h
   exact ⟨A,cap,e,h1,h2,h3.same hk hS⟩ }
section
variable {w:World} {S:Nat→Prop} {A:Option Addr} {i d:Nat}
theorem me {l:List Ex} {k:Int} {n:ByteArray} {m u:Int} {ks:List Ex} (h:RowsAt (mY d) w S A l) (hi:i<l.length) (hx:l[i] = .mk k ⟨n,⟨m,u⟩⟩ ks) :
  ∃g off A' cap,A=some ⟨g,off,none⟩∧S g∧w.cell? ⟨g,off+i*5,none⟩=some (.int .i64 k)∧w.cell? ⟨g,off+i*5+1,none⟩=some (.string n)∧w.cell? ⟨g,off+i*5+2,none⟩=some (.int .i64 m)∧w.cell? ⟨g,off+i*5+3,none⟩=some (.int .i64 u)∧w.cell? ⟨g,off+i*5+4,none⟩=some (.slice A' ks.length cap)∧ks.length≤cap∧cap≤maxLen∧∃d',d=d'+1∧RowsAt (mY d') w S A' ks:=by
 cases d with
 | zero =>
  obtain ⟨g,off,cs,_,_,hc,_⟩:=h.getx hi hx
  exact hc.elim
 | succ d' =>
  obtain ⟨g,off,cs,hA,hS,hc,hd⟩:=h.getx hi hx
  obtain ⟨A',cap,rfl,h1,h2,h3⟩:=hc
  exact ⟨g,off,A',cap,hA,hS,hd 0 (show 0<5 by decide),hd 1 (show 1<5 by decide),hd 2 (show 2<5 by decide),hd 3 (show 3<5 by decide),hd 4 (show 4<5 by decide),h1,h2,d',rfl,h3⟩
end
mutual
def Ex.cnt:Ex→Nat
 | .mk _ _ l=>1+gQ l
def gQ:List Ex→Nat
 | []=>0
 | x :: l=>x.cnt+gQ l
end
mutual
def Ex.dep:Ex→Nat
 | .mk _ _ l=>1+lH l
def lH:List Ex→Nat
 | []=>0
 | x :: l=>max x.dep (lH l)
end
theorem Ex.dep_mk (k:Int) (a:Tm) (l:List Ex):(Ex.mk k a l).dep=1+lH l:=rfl
theorem Ex.cnt_mk (k:Int) (a:Tm) (l:List Ex):(Ex.mk k a l).cnt=1+gQ l:=rfl
theorem r7 (x:Ex) (l:List Ex):lH (x :: l)=max x.dep (lH l):=rfl
theorem eT (x:Ex) (l:List Ex):gQ (x :: l)=x.cnt+gQ l:=rfl
theorem Ex.dep_pos (x:Ex):0<x.dep:=by cases x;rw [Ex.dep_mk];omega
theorem Ex.cnt_pos (x:Ex):0<x.cnt:=by cases x;rw [Ex.cnt_mk];omega
theorem nX:∀l:List Ex,l.length≤gQ l
 | []=>Nat.zero_le _
 | x :: l=>by have:=nX l;have:=x.cnt_pos;rw [eT,List.length_cons];omega
def qX (x:Ex):Bool:=decide (x.dep≤4) && decide (x.cnt≤24)
mutual
def gj:Ex→Nat→Nat→Nat×Nat
 | .mk _ _ l,lev,n=>if 4<lev∨24<n+1 then (0,n+1) else gB l lev (n+1) 0
def gB:List Ex→Nat→Nat→Nat→Nat×Nat
 | [],_,n,d=>(d+1,n)
 | x :: l,lev,n,d=>if (gj x (lev+1) n).1=0 then (0,(gj x (lev+1) n).2) else gB l lev (gj x (lev+1) n).2 (max d (gj x (lev+1) n).1)
end
theorem tu (k:Int) (a:Tm) (l:List Ex) (lev n:Nat):gj (.mk k a l) lev n=if 4<lev∨24<n+1 then (0,n+1) else gB l lev (n+1) 0:=rfl
theorem zX (lev n d:Nat):gB [] lev n d=(d+1,n):=rfl
theorem lI (x:Ex) (l:List Ex) (lev n d:Nat):gB (x :: l) lev n d=if (gj x (lev+1) n).1=0 then (0,(gj x (lev+1) n).2) else gB l lev (gj x (lev+1) n).2 (max d (gj x (lev+1) n).1):=rfl
theorem tw:∀(x:Ex) (lev n:Nat),(x.dep+lev≤5∧n+x.cnt≤24∧gj x lev n=(x.dep,n+x.cnt))∨(¬(x.dep+lev≤5∧n+x.cnt≤24)∧(gj x lev n).1=0∧((gj x lev n).2≤25∨(gj x lev n).2≤n+1)):=by
 refine Ex.ind (fun k a l ih=>?_)
 have hl:∀(m:List Ex) (lev n d:Nat),(∀x∈m,x∈l)→lev≤4→n≤24→(lH m+lev≤4∧n+gQ m≤24∧gB m lev n d=(max d (lH m)+1,n+gQ m))∨(¬(lH m+lev≤4∧n+gQ m≤24)∧(gB m lev n d).1=0∧(gB m lev n d).2≤25):=by
  intro m
  induction m with
  | nil=>intro lev n d _ h1 h2;exact .inl ⟨by simpa [lH] using h1,by simpa [gQ] using h2,by rw [zX];simp [lH,gQ]⟩
  | cons x m ihm =>
   intro lev n d hm h1 h2
   rw [lI,r7,eT]
   have hx0:=x.dep_pos
   rcases ih x (hm x (by simp)) (lev+1) n with ⟨a1,a2,a3⟩|⟨a1,a2,a3⟩
   ·rw [a3]
    rw [if_neg (by show ¬x.dep=0;omega)]
    rcases ihm lev (n+x.cnt) (max d x.dep) (fun y hy=>hm y (by simp [hy])) h1 a2 with ⟨b1,b2,b3⟩|⟨b1,b2,b3⟩
    ·exact .inl ⟨by omega,by omega,by rw [b3];congr 1 <;> omega⟩
    ·exact .inr ⟨by omega,b2,b3⟩
   ·rw [if_pos a2]
    exact .inr ⟨by omega,rfl,by show (gj x (lev+1) n).2≤25;omega⟩
 intro lev n
 rw [tu,Ex.dep_mk,Ex.cnt_mk]
 by_cases hc:4<lev∨24<n+1
 ·rw [if_pos hc]
  exact .inr ⟨by omega,rfl,.inr (Nat.le_refl _)⟩
 ·rw [if_neg hc]
  rcases hl l lev (n+1) 0 (fun _ h=>h) (by omega) (by omega) with ⟨b1,b2,b3⟩|⟨b1,b2,b3⟩
  ·exact .inl ⟨by omega,by omega,by rw [b3];congr 1 <;> omega⟩
  ·exact .inr ⟨by omega,b2,.inl b3⟩
theorem yw (x:Ex):(gj x 1 0).1=if qX x then x.dep else 0:=by
 unfold qX
 rcases tw x 1 0 with ⟨a1,a2,a3⟩|⟨a1,a2,_⟩
 ·rw [a3];simp;omega
 ·rw [a2,if_neg];simp;omega
mutual
def fN:Ex→Nat→Nat×Nat
 | .mk _ _ l,dp=>if 4<dp∨24<l.length then (25,0) else iS l dp 1 0
def iS:List Ex→Nat→Nat→Nat→Nat×Nat
 | [],_,n,d=>(n,d+1)
 | x :: l,dp,n,d=>if 24<n+(fN x (dp+1)).1 then (25,0) else iS l dp (n+(fN x (dp+1)).1) (if d<(fN x (dp+1)).2 then (fN x (dp+1)).2 else d)
end
theorem vn (k:Int) (a:Tm) (l:List Ex) (dp:Nat):fN (.mk k a l) dp=if 4<dp∨24<l.length then (25,0) else iS l dp 1 0:=rfl
theorem xk (dp n d:Nat):iS [] dp n d=(n,d+1):=rfl
theorem nY (x:Ex) (l:List Ex) (dp n d:Nat):iS (x :: l) dp n d=if 24<n+(fN x (dp+1)).1 then (25,0) else iS l dp (n+(fN x (dp+1)).1) (if d<(fN x (dp+1)).2 then (fN x (dp+1)).2 else d):=rfl
theorem po:∀(x:Ex) (dp:Nat),(x.dep+dp≤5∧x.cnt≤24∧fN x dp=(x.cnt,x.dep))∨(¬(x.dep+dp≤5∧x.cnt≤24)∧fN x dp=(25,0)):=by
 refine Ex.ind (fun k a l ih=>?_)
 have hl:∀(m:List Ex) (dp n d:Nat),(∀x∈m,x∈l)→dp≤4→n≤24→(lH m+dp≤4∧n+gQ m≤24∧iS m dp n d=(n+gQ m,max d (lH m)+1))∨(¬(lH m+dp≤4∧n+gQ m≤24)∧iS m dp n d=(25,0)):=by
  intro m
  induction m with
  | nil=>intro dp n d _ h1 h2;exact .inl ⟨by simpa [lH] using h1,by simpa [gQ] using h2,by rw [xk];simp [lH,gQ]⟩
  | cons x m ihm =>
   intro dp n d hm h1 h2
   rw [nY,r7,eT]
   have hx0:=x.dep_pos
   rcases ih x (hm x (by simp)) (dp+1) with ⟨a1,a2,a3⟩|⟨a1,a3⟩
   ·rw [a3]
    by_cases hn:24<n+x.cnt
    ·rw [if_pos hn]
     exact .inr ⟨by omega,rfl⟩
    ·rw [if_neg hn]
     rcases ihm dp (n+x.cnt) (if d<x.dep then x.dep else d) (fun y hy=>hm y (by simp [hy])) h1 (by omega) with ⟨b1,b2,b3⟩|⟨b1,b2⟩
     ·refine .inl ⟨by omega,by omega,?_⟩
      rw [b3]
      congr 1
      ·omega
      ·split <;> omega
     ·exact .inr ⟨by omega,b2⟩
   ·rw [a3,if_pos (by show 24<n+25;omega)]
    exact .inr ⟨by omega,rfl⟩
 intro dp
 rw [vn,Ex.dep_mk,Ex.cnt_mk]
 have hlen:=nX l
 by_cases hc:4<dp∨24<l.length
 ·rw [if_pos hc]
  exact .inr ⟨by omega,rfl⟩
 ·rw [if_neg hc]
  rcases hl l dp 1 0 (fun _ h=>h) (by omega) (by omega) with ⟨b1,b2,b3⟩|⟨b1,b3⟩
  ·exact .inl ⟨by omega,by omega,by rw [b3];congr 1;omega⟩
  ·exact .inr ⟨by omega,b3⟩
theorem BE (x:Ex):(24<(fN x 1).1) = ¬qX x=true:=by
 unfold qX
 rcases po x 1 with ⟨a1,a2,a3⟩|⟨a1,a3⟩ <;> rw [a3] <;> simp <;> omega
end
structure But (g:Nat) (w w':World):Prop where
 os:w'.os=w.os
 tape:w'.tape=w.tape
 output:w'.output=w.output
 size:w.heap.size≤w'.heap.size
 block:∀k,k<w.heap.size→k≠g→w'.heap[k]? = w.heap[k]?
section
variable {g:Nat} {a b c w w':World}
theorem But.refl (g:Nat) (w:World):But g w w:=⟨rfl,rfl,rfl,Nat.le_refl _,fun _ _ _=>rfl⟩
theorem But.trans (h:But g a b) (k:But g b c):But g a c :=
 ⟨k.os.trans h.os,k.tape.trans h.tape,k.output.trans h.output,Nat.le_trans h.size k.size,fun i hi hg=>(k.block i (Nat.lt_of_lt_of_le hi h.size) hg).trans (h.block i hi hg)⟩
theorem But.of (h:Below a.heap.size a b):But g a b:=⟨h.os,h.tape,h.output,h.size,fun i hi _=>h.block i hi⟩
theorem But.grow (h:But g a b) (k:Below b.heap.size b c):But g a c:=h.trans (But.of k)
theorem But.al (h:But g a w) (o:Obj):But g a (w.alloc o):=h.grow (Below.al (Below.refl _ _) o)
theorem But.drewN (h:But g a w) (n:Nat):But g a (w.drewN n):=⟨h.os,h.tape,h.output,h.size,h.block⟩
theorem But.drew (h:But g a w):But g a w.drew:=⟨h.os,h.tape,h.output,h.size,h.block⟩
theorem But.st {p:Addr} {u:Value} (h:But g a w) (hp:p.block=g∨a.heap.size≤p.block):But g a (w.setCell p u) :=
 ⟨h.os,h.tape,h.output,by simpa using h.size,fun i hi hg=>(Below.heap_setCell w p u i (by omega)).trans (h.block i hi hg)⟩
theorem But.below {B:Nat} (h:But g a b) (hB:B≤g) (hB2:B≤a.heap.size):Below B a b:=⟨h.os,h.tape,h.output,h.size,fun i hi=>h.block i (by omega) (by omega)⟩
theorem But.cell (h:But g a b) {k o:Nat} (hk:k<a.heap.size) (hg:k≠g):b.cell? ⟨k,o,none⟩=a.cell? ⟨k,o,none⟩:=World.cell?_of_block (a:=⟨k,o,none⟩) (h.block k hk hg)
theorem But.frozen (h:But g a b) {k o:Nat} (hk:k<a.heap.size) (hg:k≠g):b.frozen? ⟨k,o,none⟩=a.frozen? ⟨k,o,none⟩:=by
 unfold World.frozen?
 rw [show b.heap[k]? = a.heap[k]? from h.block k hk hg]
theorem But.cells (h:But g a b):(∀k o,k<a.heap.size→k≠g→b.cell? ⟨k,o,none⟩=a.cell? ⟨k,o,none⟩)∧(∀k o,k<a.heap.size→k≠g→b.frozen? ⟨k,o,none⟩=a.frozen? ⟨k,o,none⟩):=⟨fun _ _ hk hg=>h.cell hk hg,fun _ _ hk hg=>h.frozen hk hg⟩
theorem But.tot (h:Below a.heap.size a b) (hg:a.heap.size≤g) (k:But g b c):Below a.heap.size a c :=
 h.trans (k.below hg h.size)
theorem RowsAt.but {α:Type} {E:El α} {A:Option Addr} {l:List α} {B B':Nat} (h:RowsAt E w (Lo B) A l) (hb:But g w w') (hB:B≤w.heap.size) (hg:B≤g) (hB2:B≤B'):RowsAt E w' (Lo B') A l :=
 h.below (hb.below hg hB) (Nat.le_refl _) hB2
theorem OwnRows.but {α:Type} {E:El α} {e:TypeId} {v:Value} {l:List α} {base:Nat} (h:OwnRows E e w base v l) (hb:But g w w') (hg:v.ownBlock≠some g) (hr:∀xs,Reps E w (oK w v) l xs→Reps E w' (oK w' v) l xs):OwnRows E e w' base v l:=by
 obtain ⟨h0,xs,⟨h1,h2⟩,h3⟩:=h
 refine ⟨Nat.le_trans h0 hb.size,xs,⟨h1,?_⟩,hr xs h3⟩
 rcases h2 with hn|⟨b,cap,cur,hv,hb2,hh,rest⟩
 ·exact .inl hn
 ·refine .inr ⟨b,cap,cur,hv,hb2,?_,rest⟩
  rw [hb.block b (Array.getElem?_eq_some_iff.1 hh).1 (fun e=>hg (by rw [hv,←e];rfl))]
  exact hh
end
def Iv (w:World) (g:Nat) (t:TypeId) (v:Value) (n:Int) (e:Ending) (w':World):Prop:=e = .returned v∧But g w w'∧Blk w' g t #[.int .i64 n]
structure PS (X:Nat→Prop) (w w':World) (v v':Value):Prop where
 os:w'.os=w.os
 tape:w'.tape=w.tape
 output:w'.output=w.output
 size:w.heap.size≤w'.heap.size
 block:∀k,k<w.heap.size→¬X k→v.ownBlock≠some k→w'.heap[k]? = w.heap[k]?∧v'.ownBlock≠some k
section
variable {X:Nat→Prop} {a b c w w':World} {u v v':Value} {base:Nat}
theorem PS.refl (X:Nat→Prop) (w:World) (v:Value):PS X w w v v:=⟨rfl,rfl,rfl,Nat.le_refl _,fun _ _ _ h=>⟨rfl,h⟩⟩
theorem PS.trans (h:PS X a b u v) (k:PS X b c v v'):PS X a c u v' :=
 ⟨k.os.trans h.os,k.tape.trans h.tape,k.output.trans h.output,Nat.le_trans h.size k.size,fun i hi hx hu =>
  have h1:=h.block i hi hx hu
  have h2:=k.block i (Nat.lt_of_lt_of_le hi h.size) hx h1.2
  ⟨h2.1.trans h1.1,h2.2⟩⟩
theorem PS.of (v:Value) (h:Below w.heap.size w w'):PS X w w' v v:=⟨h.os,h.tape,h.output,h.size,fun i hi _ hu=>⟨h.block i hi,hu⟩⟩
theorem PS.grow (h:PS X a b u v) (k:Below b.heap.size b c):PS X a c u v:=h.trans (PS.of v k)
theorem PS.push (h:Below base w w') (hs:m4 w w' v v'):PS X w w' v v':=⟨h.os,h.tape,h.output,h.size,fun i hi _ hu=>hs i ⟨hi,hu⟩⟩
theorem PS.st {p:Addr} {z:Value} (h:PS X a b u v) (hp:X p.block):PS X a (b.setCell p z) u v :=
 ⟨h.os,h.tape,h.output,by simpa using h.size,fun i hi hx hu=>⟨(Below.heap_setCell b p z i (fun e=>hx (by rw [e];exact hp))).trans (h.block i hi hx hu).1,(h.block i hi hx hu).2⟩⟩
theorem PS.below {B:Nat} (h:PS X a b u v) (hu:∀k,u.ownBlock=some k→B≤k) (hX:∀k,X k→B≤k) (hB:B≤a.heap.size):Below B a b :=
 ⟨h.os,h.tape,h.output,h.size,fun k hk=>(h.block k (Nat.lt_of_lt_of_le hk hB) (fun hx=>Nat.not_le_of_lt hk (hX k hx)) (fun e=>Nat.not_le_of_lt hk (hu k e))).1⟩
theorem PS.none (h:PS X a b (.slice none 0 0) v) (hX:∀k,k<a.heap.size→¬X k):Below a.heap.size a b :=
 ⟨h.os,h.tape,h.output,h.size,fun k hk=>(h.block k hk (hX k hk) (fun e=>by cases e)).1⟩
theorem PS.mono {Y:Nat→Prop} (h:PS X a b u v) (hXY:∀k,X k→Y k):PS Y a b u v:=⟨h.os,h.tape,h.output,h.size,fun k hk hy hu=>h.block k hk (fun hx=>hy (hXY k hx)) hu⟩
end
theorem Ee (w:World) (a p:Addr) (v:Value):(w.setCell a v).frozen? p=w.frozen? p:=World.frozen?_setCell _ _ _ _
theorem BF {w:World} {g o:Nat} {u v:Value} (h:w.cell? ⟨g,o,none⟩=some u):(w.setCell ⟨g,o,none⟩ v).cell? ⟨g,o,none⟩=some v:=by
 unfold World.cell? at h ⊢
 simp only [World.setCell,Array.getElem?_modify] at h ⊢
 cases hh:w.heap[g]? with
 | none=>rw [hh] at h;cases h
 | some ob =>
  rw [hh] at h
  cases ob with
  | cells cs t fr =>
   have ho:o<cs.size:=by
    simp at h
    exact (Array.getElem?_eq_some_iff.1 h).1
   simp [ho]
  | _=>simp at h
theorem OwnRows.far {α:Type} {E:El α} {e:TypeId} {w:World} {base p:Nat} {v u:Value} {l:List α} (h:OwnRows E e w base v l) (hp:v.ownBlock≠some p) (hr:∀xs,Reps E w (oK w v) l xs→Reps E (w.setCell ⟨p,0,none⟩ u) (oK w v) l xs):OwnRows E e (w.setCell ⟨p,0,none⟩ u) base v l:=by
 refine OwnRows.but (g:=p) h (But.st (But.refl _ _) (.inl rfl)) hp fun xs hx=>?_
 have:=hr xs hx
 exact this.same (fun _ _=>rfl) fun b hb=>⟨by simpa using hb.1,hb.2⟩
structure AtP {α:Type} (E:El α) (e:TypeId) (w:World) (p base:Nat) (v:Value) (l:List α):Prop where
 cell:w.cell? ⟨p,0,none⟩=some v
 froz:w.frozen? ⟨p,0,none⟩=false
 own:OwnRows E e w base v l
 ne:v.ownBlock≠some p
section
variable {α:Type} {e:TypeId} {n:Nat} {pos:0<n} {f:α→List Value} {len:∀x,(f x).length=n} {one:∀x,∀u∈f x,u.oneCell'=true}
theorem yx {w w':World} {S S':Nat→Prop}:∀{l:List α} {xs:List Value},Reps (El.plain n pos f len one) w S l xs→Reps (El.plain n pos f len one) w' S' l xs
 | [],_,h=>h
 | _ :: _,_,h=>by
  obtain ⟨cs,rest,rfl,h1,h2⟩:=h
  exact ⟨cs,rest,rfl,h1,yx h2⟩
theorem OwnRows.ps {X:Nat→Prop} {w w':World} {base:Nat} {v u u':Value} {l:List α} (h:OwnRows (El.plain n pos f len one) e w base v l) (hp:PS X w w' u u') (hv:∀k,v.ownBlock=some k→¬X k∧u.ownBlock≠some k):OwnRows (El.plain n pos f len one) e w' base v l:=by
 obtain ⟨h0,xs,⟨h1,h2⟩,h3⟩:=h
 refine ⟨Nat.le_trans h0 hp.size,xs,⟨h1,?_⟩,yx h3⟩
 rcases h2 with hn|⟨b,cap,cur,hv2,hb2,hh,rest⟩
 ·exact .inl hn
 ·refine .inr ⟨b,cap,cur,hv2,hb2,?_,rest⟩
  have hq:=hv b (by rw [hv2];rfl)
  rw [(hp.block b (Array.getElem?_eq_some_iff.1 hh).1 hq.1 hq.2).1]
  exact hh
theorem AtP.store {w:World} {p base:Nat} {v u:Value} {l:List α} (h:OwnRows (El.plain n pos f len one) e w base v l) (ne:v.ownBlock≠some p) (hc:w.cell? ⟨p,0,none⟩=some u) (hf:w.frozen? ⟨p,0,none⟩=false):AtP (El.plain n pos f len one) e (w.setCell ⟨p,0,none⟩ v) p base v l :=
 ⟨BF hc,(Ee _ _ _ _).trans hf,h.far ne fun _ hx=>yx hx,ne⟩
theorem AtP.below {w w':World} {p base:Nat} {v:Value} {l:List α} (h:AtP (El.plain n pos f len one) e w p base v l) (hb:Below w.heap.size w w') (hp:p<w.heap.size):AtP (El.plain n pos f len one) e w' p base v l :=
 ⟨(hb.cell (p:=⟨p,0,none⟩) hp).trans h.cell,(hb.frozen (p:=⟨p,0,none⟩) hp).trans h.froz,h.own.below hb (Nat.le_refl _),h.ne⟩
end
end Go.Proofs.YtjndcdcbjidocaaGreatDoor
