/- Part 21 of 56 of the proof of both_hold (no condition). -/
import Derived.Test.YtcgpepnbohejfaaGreatDoorK20
import Derived.Shelf.Small.Bits
import Derived.Shelf.Small.Strs
import Derived.Shelf.Strconv.Itoa0
set_option linter.unusedVariables false
set_option linter.unusedSimpArgs false
set_option maxRecDepth 100000
set_option maxHeartbeats 64000000
namespace Go.Proofs.YtcgpepnbohejfaaGreatDoor
open Go.RowKit Go.Proofs.Tryz
theorem jt {e:MapEntry}:∀{l:List (Value×Value)} {i:Nat},e∈dO i l↔∃j,l[j]? = some (e.key,e.val)∧e.born=i+j
 | [],i=>by simp [dO]
 | x :: l,i=>by
  show e∈(⟨x.1,x.2,i⟩ :: dO (i+1) l)↔_;rw [List.mem_cons,jt];constructor
  ·rintro (rfl|⟨j,h1,h2⟩)
   ·exact ⟨0,rfl,rfl⟩
   ·exact ⟨j+1,by simpa using h1,by omega⟩
  ·rintro ⟨j,h1,h2⟩;cases j with
   | zero =>
    have h1:some x=some (e.key,e.val):=h1;injection h1 with h1;subst h1;exact .inl (by cases e;simp_all)
   | succ j=>exact .inr ⟨j,by simpa using h1,by omega⟩
theorem tw:∀{l:List (Value×Value)} {i:Nat},((dO i l).map (·.born)).Nodup∧∀x∈dO i l,i≤x.born
 | [],i=>by simp [dO]
 | x :: l,i=>by
  obtain ⟨h1,h2⟩:=tw (l:=l) (i:=i+1);constructor
  ·show (i :: (dO (i+1) l).map (·.born)).Nodup;refine List.nodup_cons.2 ⟨fun h=>?_,h1⟩;obtain ⟨y,hy,e⟩:=List.mem_map.1 h;have:=h2 y hy;omega
  ·intro y hy;rcases List.mem_cons.1 hy with rfl|hy
   ·exact Nat.le_refl _
   ·exact Nat.le_of_succ_le (h2 y hy)
section
variable {P:Program} {nt:Nat} {Ks:List Nat} {Q:Exit→Mst→Prop} {s:Mst} {o o2:Oper} {L:List (Value×Value)}
theorem tx {t k r K E:Nat} {x:Operand} (ht:P.underlying t=some (.map K E)) (ho:o.op = .range t x) (hdk:o.dst=some r) (hx:s.ev x = .c (.own k)) (hk:s.h k=some (.mp L)):LOp P o s [k] ⟨.c (.own r),[(r,some (.it k L.length []))],[r]⟩:=by
 intro c st ρ a w hr h1 h2 h3 h4;have e1:=h1 x (by simp [ho,Op.operands]);have hv1:=hr.ev x;rw [e1,hx] at hv1;have hv1:a.eval x=ρ k:=hv1;have hk':=(h2 k (by simp [aD])).trans hk;obtain ⟨g,hg,hb⟩:=hr.hp k _ hk';have hfr:st.f r=true:=h3 r (by simp [aD]);have hkr:r≠k:=fun e=>by rw [e,hr.nfh hk'] at hfr;cases hfr
 have hkk:∀k':Nat,ax [(r,some (Box.it k L.length []))] k'=true→k'=r:=fun k' h=>by
  simp only [ax,Bool.or_false] at h;exact (Nat.eq_of_beq_eq_true h).symm
 refine Oper.wp_value (v:=.pointer (some ⟨w.heap.size,0,none⟩)) (w':=w.alloc (.mapIter (some g) L.length #[] L.length)) ?_ ⟨upd ρ r (.pointer (some ⟨w.heap.size,0,none⟩)),hr.app (e:=⟨.c (.own r),[(r,some (.it k L.length []))],[r]⟩) h4 (fun k' h=>?_) (fun k' h=>?_) (fun k' h=>.inl ?_) (Frx.alloc _ _ _) (fun k' bx g' h _ hg'=>?_) (fun k1 k2 _ _ _ h h' _ _ _ _=>?_) (fun k' h=>.inl ?_) (fun k1 k2 bx h hp hx=>?_) (fun k2 bx h hp=>?_) ?_⟩
 ·have hl:(dO 0 L).toArray.size=L.length∨True:=.inr trivial;unfold execOp;rw [ho];have hb':=hb;unfold i7 at hb';simp [Instr.range,hv1,hg,run_underlying ht,MapKept.run_getObj_map hb',Result.andThen]
 ·have:k'=r:=by simp [aD] at h;exact h.symm
  subst this;exact ⟨hfr,by simp [ax]⟩
 ·exact de (by simpa [aD] using h)
 ·rw [hkk k' h];simp [aD]
 ·rw [hkk k' h,aI] at hg';injection hg' with hg';subst hg';exact ⟨by simp,.inl (Nat.le_refl _)⟩
 ·rw [hkk k1 h,hkk k2 h']
 ·have:k'=r:=by simp [TV.has,V0.has,D.has] at h;exact h.symm
  subst this;simp [aD]
 ·rw [hkk k2 h] at hp;simp only [hput,Nat.beq_refl,cond_true,Option.some.injEq] at hp;subst hp;simp only [Box.has] at hx;rw [←Nat.eq_of_beq_eq_true hx];exact .inr (hr.nfh hk')
 ·rw [hkk k2 h] at hp ⊢;simp only [hput,Nat.beq_refl,cond_true,Option.some.injEq] at hp;subst hp;rw [aI];refine ⟨_,g,rfl,?_,(MapKept.heap_alloc w _).1⟩;rw [de (by cases h9:r.beq k with|false=>rfl|true=>exact absurd (Nat.eq_of_beq_eq_true h9) hkr),hg]
 ·exact (aI _ _ _).symm
theorem mU {r k n j:Nat} {x:Operand} {seen:List Nat} {y:V0} {key val:Value} (ho:o.op = .entry x) (hx:s.ev x = .c (.own r)) (hr0:s.h r=some (.it k n (seen++[j]))) (hk:s.h k=some (.mp L)) (hn:n=L.length) (hj:L[j]? = some (key,val)) (hy:∀w F ρ,y.rep w F ρ val) (hyn:∀i,y.has i=false):LOp P o s [r,k] ⟨.tup [.one (.sc key),y],[],[]⟩ :=
 bi fun c st ρ a w hr h1 h2=>by
  have e1:=h1 x (by simp [ho,Op.operands]);have hv1:=hr.ev x;rw [e1,hx] at hv1;have hv1:a.eval x=ρ r:=hv1;obtain ⟨g,m,hg,hm,hit⟩:=hr.hp r _ ((h2 r (by simp [aD])).trans hr0);obtain ⟨g',hg',hb⟩:=hr.hp k _ ((h2 k (by simp [aD])).trans hk);have em:m=g':=by rw [hm] at hg';injection hg' with h;injection h
  subst em;subst hn;have hmem:(⟨key,val,j⟩:MapEntry)∈dO 0 L:=jt.2 ⟨j,hj,by simp⟩;have hrun:=run_entry_at (P:=P) w g m L.length seen.toArray (dO 0 L).toArray L.length ⟨key,val,j⟩ (by rw [hit];simp) hb (by simpa using hmem) (by simpa using tw.1);refine ⟨.tuple #[key,val],?_,⟨[key,val],rfl,rfl,hy _ _ _,trivial⟩,fun i hi=>?_⟩
  ·unfold execOp;rw [ho];simp only [hv1,hg,Sem.run_bind,hrun,Result.andThen_ok,Sem.run_pure]
  ·have hi:(V0.has i (.one (.sc key)) || (y.has i || false))=true:=hi;rw [hyn i] at hi;cases hi
theorem zi {id t t2 r k n:Nat} {x:Operand} {seen:List Nat} (ho:o.op = .next x false) (hg:o.guard=none) (hd:o.dst=some t) (ho2:o2.op = .extract (.tmp t) 0) (hg2:o2.guard=none) (hd2:o2.dst=some t2) (ht:Nat.blt t nt=true) (ht2:Nat.blt t2 nt=true)
  (hx:s.ev x = .c (.own r)) (hr0:s.h r=some (.it k n seen)) (hk:s.h k=some (.mp L)) (hn:n=L.length)
  (h1:∀j,j<n→j ∉ seen→Q .normal ((s.app (some t) ⟨.tup [.one (.sc (.bool true)),.one .any,.one .any],[(r,some (.it k n (seen++[j])))],[]⟩).app (some t2) ⟨.b true,[],[]⟩))
  (h2:(∀j,j<n→j∈seen)→Q .normal ((s.app (some t) ⟨.tup [.one (.sc (.bool false))],[],[]⟩).app (some t2) ⟨.b false,[],[]⟩)):AW P nt Ks (.region id [o,o2].toArray false) Q s:=by
 intro c ρ a w hc _ hr;subst hc;subst hn;have hv1:=hr.ev x;rw [hx] at hv1;have hv1:a.eval x=ρ r:=hv1;obtain ⟨g,m,hg0,hm,hit⟩:=hr.hp r _ hr0;obtain ⟨g',hg',hb⟩:=hr.hp k _ hk;have em:m=g':=by rw [hm] at hg';injection hg' with h;injection h
 subst em;have hdt:∀d,o.dst=some d→d<c.nt:=fun d h=>by rw [hd] at h;injection h with h;subst h;exact Nat.le_of_ble_eq_true ht
 have hdt2:∀d,o2.dst=some d→d<c.nt:=fun d h=>by rw [hd2] at h;injection h with h;subst h;exact Nat.le_of_ble_eq_true ht2
 have hkb:kb (ρ r)=some g:=by rw [hg0];rfl
 have hkk:∀(b:Box) (k':Nat),ax [(r,some b)] k'=true→k'=r:=fun b k' h=>by
  simp only [ax,Bool.or_false] at h;exact (Nat.eq_of_beq_eq_true h).symm
 have fin:∀(s1:Mst) (a1:Act) (w1:World) (b:Bool) (l:List V0),Rp c s1 ρ a1 w1→s1.t t = .tup (.one (.sc (.bool b)) :: l)→Q .normal (s1.app (some t2) ⟨.b b,[],[]⟩)→wpList P [o,o2].toArray (fun e a' w'=>∃s' ρ',Q e s'∧Rp c s' ρ' a' w') [o2] a1 w1:=by
  intro s1 a1 w1 b l hr1 h9 hq;have hl:=nh (P:=P) (o:=o2) (s:=s1) (x:=.tmp t) (i:=0) (y:=.one (.sc (.bool b))) ho2 h9 rfl;refine wpList_step fun K' hK'=>?_;have hw:Region.wanted o2 (yielded [o,o2].toArray a1.tmps)=true:=by unfold Region.wanted;rw [hg2]
  rw [if_pos hw];refine Oper.wp_post (hl c s1 ρ a1 w1 hr1 (fun _ _=>rfl) (fun _ _=>rfl) (fun k hk=>by simp [aD] at hk) hdt2) ?_;rintro a' w' ⟨ρ',hr'⟩;rw [hd2] at hr';exact hK' _ _ (wpList_nil ⟨_,ρ',hq,hr'⟩)
 refine wp_region_lit (wpList_step fun K' hK'=>?_);have hw:Region.wanted o (yielded [o,o2].toArray a.tmps)=true:=by unfold Region.wanted;rw [hg]
 rw [if_pos hw];have hnx:=run_next_at (P:=P) w o.type g m L.length L.length seen.toArray (dO 0 L).toArray L.length hit hb (fun x hx=>by
  obtain ⟨j,h,e⟩:=jt.1 (by simpa using hx);have:=(List.getElem?_eq_some_iff.1 h).1;omega) (Nat.le_refl _)
 rcases hnx with ⟨h0,hrun⟩|⟨e,he,w1,hw1,hrun⟩
 ·refine Oper.wp_value (v:=.tuple #[.bool false]) (w':=w) ?_ (hK' _ _ (fin (s.app (some t) ⟨.tup [.one (.sc (.bool false))],[],[]⟩) _ _ false [] ?_ ?_ (h2 fun j hj=>?_)))
  ·unfold execOp;rw [ho];simp only [hv1,hg0,Sem.run_bind,hrun,Result.andThen_ok,Sem.run_pure]
  ·rw [hd];exact hr.app (e:=⟨.tup [.one (.sc (.bool false))],[],[]⟩) (fun d h=>hdt d (hd.trans h)) (fun k hk=>by simp [aD] at hk) (fun _ _=>rfl) (fun k hk=>by simp [ax] at hk) (Frx.refl _ _) (fun k bx g hk=>by simp [ax] at hk) (fun k k' b b' g hk=>by simp [ax] at hk) (fun k h=>by simp [TV.has,V0.has,D.has] at h) (fun k k' bx hk=>by simp [ax] at hk) (fun k bx hk=>by simp [ax] at hk) ⟨[.bool false],rfl,rfl,trivial⟩
  ·simp [Mst.app,iO]
  ·have hle:leftOf (dO 0 L).toArray seen.toArray = #[]:=Array.eq_empty_of_size_eq_zero h0;have hmem:(⟨(L[j]).1,(L[j]).2,j⟩:MapEntry)∈dO 0 L:=jt.2 ⟨j,List.getElem?_eq_getElem hj,by simp⟩;unfold leftOf at hle;rw [Array.filter_eq_empty_iff] at hle;have:=hle _ (by simpa using hmem);simpa using this
 ·obtain ⟨he1,he2⟩:e∈dO 0 L∧e.born ∉ seen:=by unfold leftOf at he;simpa using he
  obtain ⟨j,hj,ej⟩:=jt.1 he1;rw [Nat.zero_add] at ej;have hjl:=(List.getElem?_eq_some_iff.1 hj).1;have hr1:Rp c s ρ a w1:=by
   rcases hw1 with rfl|rfl
   ·exact hr
   ·exact hr.drew
  have hit1:w1.heap[g]? = some (.mapIter (some m) L.length seen.toArray L.length):=by rcases hw1 with rfl|rfl <;> exact hit
  have hset:=MapKept.heap_set (o':=.mapIter (some m) L.length (seen.toArray.push e.born) L.length) hit1;have hlt:g<w1.heap.size:=(Array.getElem?_eq_some_iff.1 hit1).1;have hkr:k≠r:=fun e=>by rw [e,hr0] at hk;cases hk
  refine Oper.wp_value (v:=.tuple #[.bool true,e.key,e.val]) (w':=ChangeMaps.setBlock w1 g (.mapIter (some m) L.length (seen.toArray.push e.born) L.length)) ?_ (hK' _ _ (fin (s.app (some t) ⟨.tup [.one (.sc (.bool true)),.one .any,.one .any],[(r,some (.it k L.length (seen++[j])))],[]⟩) _ _ true [.one .any,.one .any] ?_ ?_ (h1 j hjl (ej▸he2))))
  ·unfold execOp;rw [ho];simp only [hv1,hg0,Sem.run_bind,hrun,Result.andThen_ok,Sem.run_pure]
  ·rw [hd];refine hr1.app (e:=⟨.tup [.one (.sc (.bool true)),.one .any,.one .any],[(r,some (.it k L.length (seen++[j])))],[]⟩) (fun d h=>hdt d (hd.trans h)) (fun k hk=>by simp [aD] at hk) (fun _ _=>rfl) (fun k' h=>.inr (by rw [hkk _ k' h];exact hr.nfh hr0)) ⟨rfl,rfl,rfl,by simp [ChangeMaps.setBlock],fun b hlt hn=>hset.2 b fun e=>hn ⟨r,_,by simp [ax],hr0,by rw [hkb,e]⟩⟩ ?_ ?_ (fun k h=>by simp [TV.has,V0.has,D.has] at h) ?_ ?_ ⟨[.bool true,e.key,e.val],rfl,rfl,trivial,trivial,trivial⟩
   ·intro k' bx g' h _ hg';rw [hkk _ k' h,hkb] at hg';injection hg' with hg';subst hg';exact ⟨by simpa [ChangeMaps.setBlock] using hlt,.inr ⟨r,_,by simp [ax],hr0,hkb⟩⟩
   ·intro k1 k2 _ _ _ h h' _ _ _ _;rw [hkk _ k1 h,hkk _ k2 h']
   ·intro k1 k2 bx h hp hx;rw [hkk _ k2 h] at hp;simp only [hput,Nat.beq_refl,cond_true,Option.some.injEq] at hp;subst hp;simp only [Box.has] at hx;rw [←Nat.eq_of_beq_eq_true hx];exact .inr (hr.nfh hk)
   ·intro k2 bx h hp;rw [hkk _ k2 h] at hp ⊢;simp only [hput,Nat.beq_refl,cond_true,Option.some.injEq] at hp;subst hp;refine ⟨g,m,hg0,hm,?_⟩;have:(ChangeMaps.setBlock w1 g (.mapIter (some m) L.length (seen.toArray.push e.born) L.length)).heap[g]? = some (.mapIter (some m) L.length (seen.toArray.push e.born) L.length):=hset.1;rw [this,ej];simp
  ·simp [Mst.app,iO]
end
theorem GL (g:Lg) (i j:Nat) (hi:i≤g.entries.length) (hj:j≤g.saves.length) (h1:g.entries.length≤100000) (h2:g.saves.length≤100000) {E':List En} {S':List Sv} (hE:g.entries.take i=E') (hS:g.saves.take j=S'):FSpec prog 135 [g.a,.one (.sc (.int .i64 i)),.one (.sc (.int .i64 j))] [] [1,2] (.v (.ag [.own 1,.own 2])) [(1,some (.arr 172 rx E')),(2,some (.arr 199 rg S'))]:=by
 refine aT func135 ?_;have hEl:E'.length≤100000:=by rw [←hE];simp;omega
 have hSl:S'.length≤100000:=by rw [←hS];simp;omega
 have hE2:(g.entries.take i).drop 0=E':=hE;have hS2:(g.saves.take j).drop 0=S':=hS;repeat' (first|refine af ?_ ?_|(refine aa 14 rfl ?_;first|refine sx (pe rfl rfl rfl (.inr ⟨rfl,rfl⟩) rfl rfl (Nat.zero_le _) hi hE2) ?_|refine sx (pe rfl rfl rfl (.inr ⟨rfl,rfl⟩) rfl rfl (Nat.zero_le _) hj hS2) ?_)|refine ae ?_|exact ah|refine ab fun hb=>?_|(refine ct (qf [(1,12),(2,18)]) ?_;exact aw))
end Go.Proofs.YtcgpepnbohejfaaGreatDoor
namespace Go.Proofs
open Go.Shelf
def Tryz.lays106_ren:Go.Shelf.Ren:=⟨fun|106=>154|213=>199|265=>230|n=>n,fun|9=>9|3=>3|n=>n,fun|n=>n⟩
theorem Tryz.lays106:Go.Proofs.Lays.n106 Tryz.prog Tryz.lays106_ren:={
 mixed:=by kernel_rfl
 f106:=Tryz.func154.trans (congrArg some (by kernel_rfl))
 f213:=Tryz.func199.trans (congrArg some (by kernel_rfl))
 f265:=Tryz.func230.trans (congrArg some (by kernel_rfl))
 t3:=Tryz.underlying3
 a3:=Tryz.isAgg3
 z3:=Tryz.sizeOf3
 v3:=Tryz.zeroValue3
 t9:=Tryz.underlying9
 a9:=Tryz.isAgg9
 z9:=Tryz.sizeOf9
 v9:=Tryz.zeroValue9 }
open Go.RowKit in
theorem Tryz.strings_Compare (a b:ByteArray) (w:World) :
  Calls Tryz.prog 154 #[.string a,.string b] w fun e w'=>e = .returned (.int .i64 (Lib.compareBytes a.data.toList b.data.toList))∧w'=w:=Any.strings_Compare Tryz.lays106 a b w
end Go.Proofs
namespace Go.Proofs
open Go.Shelf
def Tryz.sortAtoms_ren:Go.Shelf.Ren:=⟨fun|6=>107|15=>153|14=>152|28=>197|29=>198|20=>189|21=>190|22=>191|23=>192|24=>193|25=>194|26=>195|27=>196|46=>225|47=>226|48=>227|49=>228|50=>229|57=>238|n=>n,fun|22=>99|24=>44|25=>177|3=>3|39=>184|0=>0|53=>251|55=>253|4=>4|46=>245|45=>244|50=>228|5=>5|9=>9|66=>274|70=>239|76=>283|77=>163|n=>n,fun|n=>n⟩
theorem Tryz.sortAtoms:Go.Proofs.SlLaysF0.n6 Tryz.prog Tryz.sortAtoms_ren:={
 mixed:=by kernel_rfl
 f6:=⟨Tryz.f107.name,by decide,Tryz.func107.trans (congrArg some (by kernel_rfl))⟩
 f14:=⟨Tryz.f152.name,by decide,Tryz.func152.trans (congrArg some (by kernel_rfl))⟩
 f15:=Tryz.func153.trans (congrArg some (by kernel_rfl))
 f20:=⟨Tryz.f189.name,by decide,Tryz.func189.trans (congrArg some (by kernel_rfl))⟩
 f21:=⟨Tryz.f190.name,by decide,Tryz.func190.trans (congrArg some (by kernel_rfl))⟩
 f22:=⟨Tryz.f191.name,by decide,Tryz.func191.trans (congrArg some (by kernel_rfl))⟩
 f23:=⟨Tryz.f192.name,by decide,Tryz.func192.trans (congrArg some (by kernel_rfl))⟩
 f24:=⟨Tryz.f193.name,by decide,Tryz.func193.trans (congrArg some (by kernel_rfl))⟩
 f25:=⟨Tryz.f194.name,by decide,Tryz.func194.trans (congrArg some (by kernel_rfl))⟩
 f26:=⟨Tryz.f195.name,by decide,Tryz.func195.trans (congrArg some (by kernel_rfl))⟩
 f27:=⟨Tryz.f196.name,by decide,Tryz.func196.trans (congrArg some (by kernel_rfl))⟩
 f28:=Tryz.func197.trans (congrArg some (by kernel_rfl))
 f29:=Tryz.func198.trans (congrArg some (by kernel_rfl))
 f46:=⟨Tryz.f225.name,by decide,Tryz.func225.trans (congrArg some (by kernel_rfl))⟩
 f47:=Tryz.func226.trans (congrArg some (by kernel_rfl))
 f48:=Tryz.func227.trans (congrArg some (by kernel_rfl))
 f49:=⟨Tryz.f228.name,by decide,Tryz.func228.trans (congrArg some (by kernel_rfl))⟩
 f50:=⟨Tryz.f229.name,by decide,Tryz.func229.trans (congrArg some (by kernel_rfl))⟩
 f57:=⟨Tryz.f238.name,by decide,Tryz.func238.trans (congrArg some (by kernel_rfl))⟩
 t0:=Tryz.underlying0
 a0:=Tryz.isAgg0
 z0:=Tryz.sizeOf0
 v0:=Tryz.zeroValue0
 t3:=Tryz.underlying3
 a3:=Tryz.isAgg3
 z3:=Tryz.sizeOf3
 v3:=Tryz.zeroValue3
 t4:=Tryz.underlying4
 a4:=Tryz.isAgg4
 z4:=Tryz.sizeOf4
 v4:=Tryz.zeroValue4
 t5:=Tryz.underlying5
 a5:=Tryz.isAgg5
 z5:=Tryz.sizeOf5
 v5:=Tryz.zeroValue5
 t9:=Tryz.underlying9
 a9:=Tryz.isAgg9
 z9:=Tryz.sizeOf9
 v9:=Tryz.zeroValue9
 t22:=Tryz.underlying99
 a22:=Tryz.isAgg99
 z22:=Tryz.sizeOf99
 v22:=Tryz.zeroValue99
 t25:=Tryz.underlying177
 a25:=Tryz.isAgg177
 z25:=Tryz.sizeOf177
 v25:=Tryz.zeroValue177
 t39:=Tryz.underlying184
 a39:=Tryz.isAgg184
 z39:=Tryz.sizeOf184
 v39:=Tryz.zeroValue184
 t45:=Tryz.underlying244
 a45:=Tryz.isAgg244
 z45:=Tryz.sizeOf244
 v45:=Tryz.zeroValue244
 t46:=Tryz.underlying245
 a46:=Tryz.isAgg245
 z46:=Tryz.sizeOf245
 v46:=Tryz.zeroValue245
 t50:=Tryz.underlying228
 a50:=Tryz.isAgg228
 z50:=Tryz.sizeOf228
 v50:=Tryz.zeroValue228
 t53:=Tryz.underlying251
 a53:=Tryz.isAgg251
 z53:=Tryz.sizeOf251
 v53:=Tryz.zeroValue251
 t55:=Tryz.underlying253
 a55:=Tryz.isAgg253
 z55:=Tryz.sizeOf253
 v55:=Tryz.zeroValue253
 t66:=Tryz.underlying274
 a66:=Tryz.isAgg274
 z66:=Tryz.sizeOf274
 v66:=Tryz.zeroValue274
 t70:=Tryz.underlying239
 a70:=Tryz.isAgg239
 z70:=Tryz.sizeOf239
 v70:=Tryz.zeroValue239
 t76:=Tryz.underlying283
 a76:=Tryz.isAgg283
 z76:=Tryz.sizeOf283
 v76:=Tryz.zeroValue283
 t77:=Tryz.underlying163
 a77:=Tryz.isAgg163
 z77:=Tryz.sizeOf163
 v77:=Tryz.zeroValue163 }
end Go.Proofs
namespace Go.Proofs.YtcgpepnbohejfaaGreatDoor
open Go.RowKit Go.Proofs.Tryz
section
open Go.Shelf Go.Sort
def ia (a b:ByteArray):Int:=Lib.compareBytes a.data.toList b.data.toList
theorem zk:∀{l m:List UInt8},(Lib.compareBytes l m<0↔l<m)∧(Lib.compareBytes l m=0↔l=m)
 | [],[]=>by simp [Lib.compareBytes]
 | [],_ :: _=>by simp [Lib.compareBytes]
 | _ :: _,[]=>by simp [Lib.compareBytes]
 | a :: l,b :: m=>by
  obtain ⟨h1,h2⟩:=zk (l:=l) (m:=m);rw [List.cons_lt_cons_iff];unfold Lib.compareBytes;by_cases ha:a<b
  ·simp [ha];intro e;subst e;exact absurd ha (UInt8.lt_irrefl _)
  ·by_cases hb:b<a
   ·simp [ha,hb];constructor <;> (intro e;subst e;exact absurd hb (UInt8.lt_irrefl _))
   ·have e:a=b:=UInt8.le_antisymm (UInt8.not_lt.1 hb) (UInt8.not_lt.1 ha);subst e;simp [h1,h2]
theorem EZ {a b:ByteArray}:ia a b<0↔jE a b=true:=by
 unfold ia jE;rw [bytesLess_eq,decide_eq_true_eq,zk.1,ByteArray.toList_eq,ByteArray.toList_eq]
theorem tz (a b:ByteArray):ltOf ia a b=jE a b:=by
 unfold ltOf;rw [Bool.eq_iff_iff,decide_eq_true_iff,EZ]
theorem go:Go.Sort.SWO (ltOf ia) where
 irrefl x:=by rw [tz];exact dH x
 trans x y z h1 h2:=by rw [tz] at *;exact fU h1 h2
 ntrans x y z h1 h2:=by
  rw [tz] at *
  cases h:jE x z with
  | false=>rfl
  | true =>
   exfalso;by_cases e:x=y
   ·subst e;rw [h] at h2;cases h2
   ·have h3:=lH h1 e;rw [fU h3 h] at h2;cases h2
theorem x4 (x y:ByteArray) (h1:ltOf ia x y=false) (h2:ltOf ia y x=false):x=y:=by
 rw [tz] at *
 by_cases e:x=y
 ·exact e
 ·rw [lH h1 e] at h2;cases h2
def Fw (h:ByteArray→Am) (n:ByteArray):List Value:=[.string n,.int .i64 (h n).mode,.int .i64 (h n).units]
def mi (h:ByteArray→Am) (n:ByteArray):Tm:=⟨n,h n⟩
theorem AK (x y:Tm) (w:World):Calls prog 108 #[.agg x.cells.toArray,.agg y.cells.toArray] w fun e w'=>e = .returned (.int .i64 (ia x.name y.name))∧∃os,w'=Go.Sort.grow w os:=by
 have HC:=Lib.hid (fun w=>strings_Compare x.name y.name w);obtain ⟨n,⟨m,u⟩⟩:=x;obtain ⟨n',⟨m',u'⟩⟩:=y;unfold Tm.cells;dsimp only
 go_enter func108,ntmps108
 go_wp2_with fail
 refine (HC.out _).mono ?_;rintro e w1 ⟨rfl,rfl⟩;go_wp2
 go_ret
 exact ⟨rfl,_,by rw [Go.Sort.alloc_eq_grow,Go.Sort.alloc_eq_grow,Go.Sort.grow_grow]⟩
def dM (N:List ByteArray):List ByteArray:=N.mergeSort fun x y=>!(ltOf ia) y x
theorem AL (h:ByteArray→Am) (N:List ByteArray) (hl:N.length≤100000) (w:World) {v:Value} {F:Nat→Prop} {xs:List Value} (h1:w.ownsRow 0 44 c7.n v (N.map (mi h)).length xs) (h2:Reps c7 w F (N.map (mi h)) xs) :
  Calls prog 107 #[v,.func (.func 108) #[] #[]] w fun e w'=>e = .returned (.tuple #[])∧(Frx w w' fun b=>kb v=some b)∧∃ys,w'.ownsRow 0 44 c7.n v ((dM N).map (mi h)).length ys∧∀F',Reps c7 w' F' ((dM N).map (mi h)) ys:=by
 have hxs:xs=(N.map (Fw h)).flatten:=by
  rw [Reps.plain h2,List.map_map];rfl
 have hl':(N.map (mi h)).length=N.length:=by simp
 have one:∀x,∀u∈Fw h x,u.oneCell'=true:=by intro x u hu;simp [Fw] at hu;rcases hu with rfl|rfl|rfl <;> rfl
 have hrep:∀(w:World) (F:Nat→Prop) (M:List ByteArray),Reps c7 w F (M.map (mi h)) (M.map (Fw h)).flatten:=fun w F M=>by
  have this:Reps c7 w F (M.map (mi h)) ((M.map (mi h)).map Tm.cells).flatten:=Reps.plain_mk _;rw [List.map_map] at this;exact this
 have hown:OwnRows (El.plain 3 (by decide) (Fw h) (fun _=>rfl) one) 44 w 0 v N:=⟨Nat.zero_le _,xs,by rw [←hl'];exact h1,by rw [hxs];exact Reps.plain_mk N⟩;rcases Nat.eq_zero_or_pos N.length with h0|h0
 ·obtain ⟨A,cap,rfl,_,_,_,_⟩:=hown.form2;obtain rfl:=List.eq_nil_of_length_eq_zero h0;refine (AnyF.slices_SortFunc_none { sortAtoms with } A cap _ w).mono ?_;rintro e w' ⟨rfl,rfl⟩;exact ⟨rfl,Frx.refl _ _,xs,by simpa [dM] using h1,fun F'=>by rw [hxs];simpa [dM] using hrep w' F' []⟩
 ·obtain ⟨g,cap,rfl,hg,hg2,_,_,_,_⟩:=hown.addr h0;have eg:∀args w,(callFunc 108 args).run prog w = .ok (.enter 108 args) w:=enters_of func108 (by kernel_rfl) rfl;have hcmp:CmpLays prog 108 #[] (Fw h) 3 ia g 0 N.toArray.size w:=fun _ _ _ _ x y=>(AK (mi h x) (mi h y) _).mono fun e w' ⟨he,os,hw⟩=>⟨he,0,os,hw⟩;have:=AnyQ.slices_SortFunc_total sortAtoms 3 isAgg44 sizeOf44 (Fw h) (fun _=>rfl) one ia go 108 #[] g 0 cap N.toArray w eg hcmp hown.holdsK hg2 (by simp;omega) x4;refine Calls.mono this ?_;rintro e w' ⟨rfl,n,os,rfl⟩;have hs:=hown.sorted hg2 (l':=dM N) (by simp [dM]) n os;have hb:∀b,b<w.heap.size→b≠g→(sortWorldK (Fw h) 3 w g 0 n (dM N).toArray os).heap[b]? = w.heap[b]?:=fun b hb hn=>by
   show (w.heap.modify g _++os)[b]? = _;rw [Array.getElem?_append_left (by simpa using hb),Array.getElem?_modify,if_neg (fun e=>hn e.symm)]
  refine ⟨rfl,⟨rfl,rfl,rfl,by simp [sortWorldK,grow,putRowK,putRow,mapBlock],fun b hlt hn=>hb b hlt fun e=>hn (by rw [e];rfl)⟩,?_⟩;obtain ⟨_,ys,h3,h4⟩:=hs;refine ⟨ys,?_,fun F'=>?_⟩
  ·rw [List.length_map];have e9:(dM N).length=N.length:=by simp [dM]
   rw [e9] at h3 ⊢;exact h3
  ·rw [Reps.plain h4];exact hrep _ F' (dM N)
theorem Da (h:ByteArray→Am) (N:List ByteArray) (hl:N.length≤100000):FSpec prog 107 [.one (.own 0),.one (.sc (.func (.func 108) #[] #[]))] [(0,.arr 44 c7 (N.map (mi h)))] [] (.tup []) [(0,some (.arr 44 c7 ((dM N).map (mi h))))]:=by
 refine ⟨fun b W=>by kernel_rfl,fun q c st ρ a w vs hr hinj hargs hhin hus=>?_⟩
 match vs,hargs with
 | [v,f],⟨h0,h1,_⟩ =>
  obtain rfl:v=ρ (q 0):=h0;obtain rfl:f = .func (.func 108) #[] #[]:=h1;have hk:=hhin 0 _ rfl;obtain ⟨xs,hx1,hx2⟩:=hr.hp (q 0) _ hk;refine (AL h N hl w hx1 hx2).mono ?_;rintro e w' ⟨rfl,hf,ys,hy1,hy2⟩;refine ⟨_,rfl,fun dst hdst=>⟨ρ,?_⟩⟩;have hkk:∀k':Nat,ax [(q 0,some (Box.arr 44 c7 ((dM N).map (mi h))))] k'=true→k'=q 0:=fun k' h=>by
   simp only [ax,Bool.or_false] at h;exact (Nat.eq_of_beq_eq_true h).symm
  refine hr.app (e:=⟨.tup [],[(q 0,some (.arr 44 c7 ((dM N).map (mi h))))],[]⟩) hdst (fun k h=>by simp [aD] at h) (fun _ _=>rfl) (fun k' h=>.inr (by rw [hkk k' h];exact hr.nfh hk)) ⟨hf.os,hf.tape,hf.output,hf.size,fun b hlt hn=>hf.keep b hlt fun e=>hn ⟨q 0,_,by simp [ax],hk,e⟩⟩ ?_ ?_ (fun k h=>by simp [TV.has] at h) ?_ ?_ ⟨[],rfl,trivial⟩
  ·intro k' bx g' h _ hg';rw [hkk k' h] at hg';exact ⟨Nat.lt_of_lt_of_le (hr.ltb hk hg') hf.size,.inr ⟨q 0,_,by simp [ax],hk,hg'⟩⟩
  ·intro k1 k2 _ _ _ h h' _ _ _ _;rw [hkk k1 h,hkk k2 h']
  ·intro k1 k2 bx h hp hx;rw [hkk k2 h] at hp;simp only [hput,Nat.beq_refl,cond_true,Option.some.injEq] at hp;subst hp;simp [Box.has] at hx
  ·intro k2 bx h hp;rw [hkk k2 h] at hp ⊢;simp only [hput,Nat.beq_refl,cond_true,Option.some.injEq] at hp;subst hp;exact ⟨ys,hy1,hy2 _⟩
end
theorem wJ {l:List En} {N:List ByteArray} (h:N.Perm ((dR l).map (·.1))):dM N=bS l:=by
 have hnd:N.Nodup:=(h.nodup_iff).2 (fR l [] (by simp));have hp:=List.mergeSort_perm N fun x y=>!(ltOf ia) y x;have hs:(dM N).Pairwise fun a b=>(!(ltOf ia) b a)=true:=List.pairwise_mergeSort (fun a b c h1 h2=>by
  simp only [Bool.not_eq_true'] at *
  exact go.ntrans c b a h2 h1) (fun a b=>by
  cases h1:ltOf ia b a with
  | false=>rfl
  | true =>
   cases h2:ltOf ia a b with
   | false=>rfl
   | true=>have:=go.trans _ _ _ h1 h2;rw [go.irrefl] at this;cases this) N
 have hn2:(dM N).Nodup:=(hp.nodup_iff).2 hnd;refine qh ?_ (eV l) fun x=>?_
 ·refine (hs.and hn2).imp fun {a b} ⟨h1,h2⟩=>?_;rw [tz,Bool.not_eq_true'] at h1;exact lH h1 (fun e=>h2 e.symm)
 ·show x∈N.mergeSort (fun x y=>!(ltOf ia) y x)↔_;rw [hp.mem_iff,h.mem_iff,dj];show x∈(dA [] l).map (·.1)↔_;rw [iD];simp
theorem Ig (g:Lg) (n:Int) {R:Lg×List Tm×Int} (hR:dq g n=R):FSpec prog 89 [g.a,.one (.sc (.int .i64 n))] [] [] (Jj R) []:=by
 refine aT func89 ?_;obtain ⟨v,hv⟩:∃v,pt g.entries g.saves=v:=⟨_,rfl⟩;have kV:=zh g.entries g.saves hv;have hV:sQ g=v:=hv;cases v with
 | false =>
  obtain rfl:R=(.zero,[],2):=by rw [←hR];simp [dq,hV]
  repeat' (first|refine af ?_ ?_|refine aa 9 rfl (cB [] (kV) ?_)|refine ae ?_|exact ah|refine ab fun hb=>?_|(refine fB (qf []) ?_;exact aw))
 | true =>
  obtain ⟨h1,h2⟩:=gv hV;have hat:=CL hv;by_cases hf:n≠0∧aQ n 0 g.saves<0
  case pos =>
   obtain ⟨hn0,hf⟩:=hf;obtain rfl:R=(.zero,[],10):=by rw [←hR];simp [dq,hV,hn0,hf]
   have kP:=mT g.saves n rfl;repeat' (first|refine af ?_ ?_|(refine aa 9 rfl ?_;first|(refine cB [] (kV) ?_)|(refine cB [] (kP) ?_))|refine ae ?_|exact ah|refine ab fun hb=>?_|(refine fB (qf []) ?_;exact aw))
  obtain ⟨a,sv,hX,ha,hsv,hcase⟩:∃(a sv:Nat),bW g n=⟨g.entries.take a,g.saves.take sv⟩∧a≤g.entries.length∧sv≤g.saves.length∧((n=0∧a=0∧sv=0)∨(n≠0∧∃(i:Nat) (lab:Int),g.saves[i]? = some (⟨lab,(a:Int)⟩:Sv)∧aQ n 0 g.saves=(i:Int)∧sv=i+1)):=by
   by_cases hn:n=0
   ·exact ⟨0,0,by simp [bW,hn],by omega,by omega,.inl ⟨hn,rfl,rfl⟩⟩
   ·obtain ⟨i,hi,he,_⟩:=ji (n:=n) (l:=g.saves) (k:=0) (by by_cases h:aQ n 0 g.saves<0;exact absurd ⟨hn,h⟩ hf;omega);have he2:aQ n 0 g.saves=(i:Int):=by rw [he];simp
    have:=hat _ (List.getElem_mem hi);have e9:((g.saves[i].at_.toNat:Nat):Int)=g.saves[i].at_:=Int.toNat_of_nonneg this.1;exact ⟨g.saves[i].at_.toNat,i+1,by simp [bW,hn,he2,hi,List.getD_eq_getElem?_getD],by omega,by omega,.inr ⟨hn,i,g.saves[i].label,by rw [e9];exact List.getElem?_eq_getElem hi,he2,rfl⟩⟩
  have hl1:(g.entries.take a).length=a:=by simp;omega
  obtain ⟨E',hE'⟩:∃E',g.entries.take a=E':=⟨_,rfl⟩;obtain ⟨S',hS'⟩:∃S',g.saves.take sv=S':=⟨_,rfl⟩;obtain ⟨D',hD'⟩:∃D',g.entries.drop a=D':=⟨_,rfl⟩;have hD2:g.entries.drop ((a:Int)).toNat=D':=by rw [Int.toNat_natCast];exact hD'
  obtain ⟨H,hH⟩:∃H:ByteArray→Am,ay E'=H:=⟨_,rfl⟩;obtain ⟨M,hM⟩:∃M,(bS D').map (mi H)=M:=⟨_,rfl⟩;obtain rfl:R=(⟨E',S'⟩,M,0):=by
   rw [←hR,←hM];unfold dq;rw [hX,hV,hl1,hE',hS',hD'];rcases hcase with ⟨rfl,_⟩|⟨h0,i,_,hi,he,_⟩
   ·simp [mi,←hH]
   ·have hi0:¬((i:Int)<0):=by omega
    simp [h0,he,hi0,mi,←hH]
  have kC:=GL g a sv ha hsv (by omega) (by omega) hE' hS';have k1:=zg E';have k2:=zg D';have hg:∀x,mR x (dR E')=H x:=fun x=>by rw [fY,hH]
  obtain ⟨m,hm⟩:∃m,dR D'=m:=⟨_,rfl⟩;have hfin:∀seen:List Nat,seen.Nodup→(∀j∈seen,j<m.length)→(∀j,j<m.length→j∈seen)→(dM (gx m seen)).map (mi H)=M:=fun seen q1 q2 q3=>by
   rw [←hM,←wJ (N:=gx m seen) (by rw [hm];exact wI q1 q2 q3)]
  have hm9:m.length≤100000:=by
   have q1:=me D';have q2:=fq D' [];have q3:D'.length≤72:=by rw [←hD'];simp;omega
   rw [hm] at q1;unfold bS at q1;simp at q2;omega
  rw [hm] at k2;generalize dR E'=m0 at *
  clear hR hf hX hV hv hat hl1 hM hm hH hE' hS' hD';rcases hcase with ⟨rfl,rfl,rfl⟩|⟨h0,i,lab,hi,he,rfl⟩
  case' inl =>
   repeat' (first|refine af ?_ ?_|(refine aa 9 rfl ?_;first|(refine cB [] (kV) ?_)|(refine cH (qf [(1,1001),(2,1002)]) (kC) ?_))|((fail_if_success (first|refine lP 10 ?_|refine lQ 10 ?_));refine ae ?_)|exact ah|refine ab fun hb=>?_)
  case' inr =>
   have kP:=mT g.saves n he;have hi9:i<g.saves.length:=(List.getElem?_eq_some_iff.1 hi).1;repeat' (first|refine af ?_ ?_|(refine aa 9 rfl ?_;first|(refine cB [] (kV) ?_)|(refine cB [] (kP) ?_)|(refine cH (qf [(1,1001),(2,1002)]) (kC) ?_))|((fail_if_success (first|refine lP 10 ?_|refine lQ 10 ?_));refine ae ?_)|exact ah|refine ab fun hb=>?_)
  all_goals
   refine gB 1001 rfl ?_;refine gB 1002 rfl ?_;repeat' (first|refine af ?_ ?_|(refine aa 9 rfl ?_;first|(refine cH (qf [(0,1003)]) (k1) ?_)|(refine cH (qf [(0,1004)]) (k2) ?_))|(refine aa 14 rfl ?_;first|refine sx (kx (z:=((0:Nat):Int)) rfl rfl rfl rfl (by omega) (by omega) hD2) ?_|refine sx (kx (z:=(a:Int)) rfl rfl rfl rfl (by omega) (by omega) hD2) ?_)|(refine aa 25 rfl ?_;refine sx (tx qg rfl rfl rfl rfl) ?_)|refine ae ?_|exact ah|refine ab fun hb=>?_)
   refine cZ 12 1000 44 c7 rfl rfl rfl ?_;refine ak (fun seen:List Nat=>seen.Nodup∧∀j∈seen,j<m.length) (fun seen=>cq [4,10,47,1000,1003,1004] [(4,.c (.ptr 4 0)),(10,.c (.ptr 10 0)),(11,.c (.own 1003)),(12,.c (.own 1000)),(47,.c (.own 47))] [(4,.box 64 [.sc (.slice none 0 0),.sc (.slice none 0 0)]),(10,.box 64 [.sl rx E',.sl rg S']),(47,.it 1004 (uG m).length seen),(1000,.arr 44 c7 ((gx m seen).map (mi H))),(1003,.mp (uG m0)),(1004,.mp (uG m))]) (fun seen=>m.length-seen.length) [] ⟨by simp,by simp⟩ a7 ?_;rintro seen ⟨hn,hs⟩;refine oT (zi (L:=uG m) (n:=(uG m).length) rfl rfl rfl rfl rfl rfl rfl rfl rfl rfl rfl rfl (fun j hj hjs=>?_) (fun hall=>?_))
   ·have hj:j<m.length:=by simpa [iM] using hj
    obtain ⟨x,hx⟩:∃x,m[j]? = some x:=⟨_,List.getElem?_eq_getElem hj⟩;have hx2:(uG m)[j]? = some (.string x.1,GH x.2):=by simp [iM,hx]
    have hT:=AM (seen:=seen) hx;have hls:=ib hn hs;have hn2:(seen++[j]).Nodup:=List.nodup_append.2 ⟨hn,by simp,fun b hb c hc=>by rw [List.mem_singleton] at hc;subst hc;exact fun e=>hjs (e▸hb)⟩;have hs2:∀k∈seen++[j],k<m.length:=fun k hk=>by
     rcases List.mem_append.1 hk with hk|hk
     ·exact hs k hk
     ·rw [List.mem_singleton] at hk;subst hk;exact hj
    have hls2:=ib hn2 hs2;have hcl:((gx m seen).map (mi H)).length≤100000:=by
     unfold gx;have:=List.length_filterMap_le (fun j=>m[j]?) seen;simp;omega
    generalize hC:(gx m seen).map (mi H)=C at *
    show AW _ _ _ _ _ _;repeat' (first|refine af ?_ ?_|(refine aa 8 rfl ?_;refine bh (ap rfl rfl (aH rfl rfl) (aL [mi H x.1] rfl rfl rfl rfl) rfl aK aK) rfl rfl rfl ?_)|(refine aa 23 rfl ?_;refine sx (jO _ _ qg xZ uJ rfl rfl rfl rfl (hg x.1)) ?_)|(refine aa 27 rfl ?_;refine sx (mU (y:=x.2.a) rfl rfl rfl rfl rfl hx2 (fun _ _ _=>⟨_,rfl,rfl,rfl,trivial⟩) (fun _=>rfl)) ?_)|refine ae ?_|exact ah|refine ab fun hb=>?_)
    refine ⟨seen++[j],⟨hn2,hs2⟩,by simp at hls2 ⊢;omega,?_⟩;rw [hT,List.map_append,hC];exact bw (qf [(1000,59)])
   ·have hM:=hfin seen hn hs fun j hj=>hall j (by simpa [iM] using hj);have kS:=Da H (gx m seen) (by
     unfold gx;have:=List.length_filterMap_le (fun j=>m[j]?) seen;have:=ib hn hs;simp;omega)
    rw [hM] at kS;show AW _ _ _ _ _ _;repeat' (first|refine af ?_ ?_|refine aa 9 rfl (cH (qf [(0,1000)]) (kS) ?_)|refine ae ?_|exact ah|refine ab fun hb=>?_|(refine fB (qf []) ?_;exact aw))
theorem c6 (g:Lg):FSpec prog 65 [g.a] [] [] (.b (sQ g)) []:=zh g.entries g.saves rfl
theorem uL (g:Lg) (h1:g.entries.length≤72) (h2:g.saves.length≤4):FSpec prog 135 [g.a,.one (.sc (.int .i64 (g.entries.length:Nat))),.one (.sc (.int .i64 (g.saves.length:Nat)))] [] [1,2] (.v (.ag [.own 1,.own 2])) [(1,some (.arr 172 rx g.entries)),(2,some (.arr 199 rg g.saves))]:=GL g g.entries.length g.saves.length (Nat.le_refl _) (Nat.le_refl _) (by omega) (by omega) (List.take_length ..) (List.take_length ..)
theorem Ih (g:Lg) (h1:g.entries.length≤72) (h2:g.saves.length≤4):FSpec prog 135 [g.a,.one (.sc (.int .i64 0)),.one (.sc (.int .i64 (g.saves.length:Nat)))] [] [1,2] (.v (.ag [.own 1,.own 2])) [(1,some (.arr 172 rx [])),(2,some (.arr 199 rg g.saves))]:=GL g 0 g.saves.length (by omega) (Nat.le_refl _) (by omega) (by omega) rfl (List.take_length ..)
theorem Db (g:Lg) (e:En) {R:Lg×Int} (hR:eG g e=R):FSpec prog 214 [g.a,e.a] [] [] (H9 R) []:=by
 refine aT func214 ?_;cases hV:sQ g with
 | false =>
  obtain rfl:R=(.zero,2):=by rw [←hR];simp [eG,hV]
  repeat' (first|refine af ?_ ?_|refine aa 9 rfl (cB [] (c6 g) ?_)|refine ae ?_|exact ah|refine ab fun hb=>?_|(refine gC (qf []) ?_;exact aw))
 | true =>
  obtain ⟨h1,h2⟩:=gv hV;cases hV2:sQ ⟨g.entries++[e],g.saves⟩ with
  | false =>
   obtain rfl:R=(.zero,1):=by rw [←hR];simp [eG,hV,hV2]
   repeat' (first|refine af ?_ ?_|(refine aa 8 rfl ?_;refine bh (ap rfl rfl (aH rfl rfl) (aL [e] rfl rfl rfl rfl) rfl aK aK) rfl rfl rfl ?_)|(refine aa 9 rfl ?_;first|(refine cB [] (c6 g) ?_)|(refine cH (qf [(1,1000),(2,1001)]) (uL g h1 h2) ?_)|(refine cB [23,1001] (c6 ⟨g.entries++[e],g.saves⟩) ?_))|refine ae ?_|exact ah|refine ab fun hb=>?_|(refine gC (qf []) ?_;exact aw))
  | true =>
   obtain rfl:R=(⟨g.entries++[e],g.saves⟩,0):=by rw [←hR];simp [eG,hV,hV2]
   repeat' (first|refine af ?_ ?_|(refine aa 8 rfl ?_;refine bh (ap rfl rfl (aH rfl rfl) (aL [e] rfl rfl rfl rfl) rfl aK aK) rfl rfl rfl ?_)|(refine aa 9 rfl ?_;first|(refine cB [] (c6 g) ?_)|(refine cH (qf [(1,1000),(2,1001)]) (uL g h1 h2) ?_)|(refine cB [23,1001] (c6 ⟨g.entries++[e],g.saves⟩) ?_))|refine ae ?_|exact ah|refine ab fun hb=>?_|(refine gC (qf []) ?_;exact aw))
theorem GM (g:Lg) (n:Int) {R:Lg×Int} (hR:d8 g n=R):FSpec prog 88 [g.a,.one (.sc (.int .i64 n))] [] [] (H9 R) []:=by
 refine aT func88 ?_;cases hV:sQ g with
 | false =>
  obtain rfl:R=(.zero,2):=by rw [←hR];simp [d8,hV]
  repeat' (first|refine af ?_ ?_|refine aa 9 rfl (cB [] (c6 g) ?_)|refine ae ?_|exact ah|refine ab fun hb=>?_|(refine gC (qf []) ?_;exact aw))
 | true =>
  obtain ⟨h1,h2⟩:=gv hV;by_cases hn:1≤n∧n≤99
  case neg =>
   obtain rfl:R=(.zero,1):=by
    rw [←hR];unfold d8;rw [hV];have:(decide (1≤n) && decide (n≤99))=false:=by rw [Bool.and_eq_false_iff];simp;omega
    rw [this];rfl
   repeat' (first|refine af ?_ ?_|refine aa 9 rfl (cB [] (c6 g) ?_)|refine ae ?_|exact ah|refine ab fun hb=>?_|(refine gC (qf []) ?_;exact aw))
  obtain ⟨hn1,hn2⟩:=hn;by_cases hf:0≤aQ n 0 g.saves
  case pos =>
   obtain rfl:R=(.zero,11):=by rw [←hR];simp [d8,hV,hn1,hn2,hf]
   repeat' (first|refine af ?_ ?_|(refine aa 9 rfl ?_;first|(refine cB [] (c6 g) ?_)|(refine cB [] (mT g.saves n rfl) ?_))|refine ae ?_|exact ah|refine ab fun hb=>?_|(refine gC (qf []) ?_;exact aw))
  by_cases h4:g.saves.length=4
  case pos =>
   obtain rfl:R=(.zero,4):=by rw [←hR];simp [d8,hV,hn1,hn2,hf,h4]
   repeat' (first|refine af ?_ ?_|(refine aa 9 rfl ?_;first|(refine cB [] (c6 g) ?_)|(refine cB [] (mT g.saves n rfl) ?_))|refine ae ?_|exact ah|refine ab fun hb=>?_|(refine gC (qf []) ?_;exact aw))
  obtain rfl:R=(⟨g.entries,g.saves++[⟨n,g.entries.length⟩]⟩,0):=by rw [←hR];simp [d8,hV,hn1,hn2,hf,h4]
  repeat' (first|refine af ?_ ?_|(refine aa 8 rfl ?_;refine bh (ap rfl rfl (aH rfl rfl) (aL [⟨n,g.entries.length⟩] rfl rfl rfl rfl) rfl aK aK) rfl rfl rfl ?_)|(refine aa 9 rfl ?_;first|(refine cB [] (c6 g) ?_)|(refine cB [] (mT g.saves n rfl) ?_)|(refine cH (qf [(1,1000),(2,1001)]) (uL g h1 h2) ?_))|refine ae ?_|exact ah|refine ab fun hb=>?_|(refine gC (qf []) ?_;exact aw))
theorem GN (g:Lg) (n:ByteArray) {R:Lg×Bool} (hR:gU g n=R):FSpec prog 86 [g.a,.one (.sc (.string n))] [] [] (Ic R) []:=by
 refine aT func86 ?_;cases hV:sQ g with
 | false =>
  obtain rfl:R=(.zero,false):=by rw [←hR];simp [gU,hV]
  repeat' (first|refine af ?_ ?_|refine aa 9 rfl (cB [] (c6 g) ?_)|refine ae ?_|exact ah|refine ab fun hb=>?_|(refine gC (qf []) ?_;exact aw))
 | true =>
  obtain ⟨h1,h2⟩:=gv hV;have hat:=CL hV;obtain ⟨E,hE⟩:∃E,g.entries=E:=⟨_,rfl⟩;obtain ⟨S,hS⟩:∃S,g.saves=S:=⟨_,rfl⟩;have kC:=Ih g h1 h2;repeat' (first|refine af ?_ ?_|(refine aa 9 rfl ?_;first|(refine cB [] (c6 g) ?_)|(refine cH (qf [(1,1000),(2,1001)]) (kC) ?_))|refine ae ?_|exact ah|refine ab fun hb=>?_)
  have hX:fh g n=⟨E.filter (oth n),S.map (iT n E E.length)⟩:=by
   unfold fh;rw [←hE,←hS];congr 1
   refine List.map_congr_left fun x hx=>?_;obtain ⟨k1,k2⟩:=hat x hx;exact (ET k1 k2).symm
  have hatS:∀x∈S,0≤x.at_∧x.at_≤E.length:=by rw [←hE,←hS];exact hat
  have hst:gU g n=bif decide ((E.filter (oth n)).length=E.length) then (.zero,false) else (⟨E.filter (oth n),S.map (iT n E E.length)⟩,true):=by
   unfold gU;rw [hV,hX,hE];rfl
  rw [hst] at hR;have hf72:∀i,((E.take i).filter (oth n)).length≤i:=fun i=>by
   have:=List.length_filter_le (oth n) (E.take i);rw [List.length_take] at this;omega
  have hE72:E.length≤72:=by rw [←hE];exact h1
  have hS4:S.length≤4:=by rw [←hS];exact h2
  clear hat hst hX h1 hb;refine ak (fun i=>i≤E.length) (fun i=>cq [2,4,6,1000,1001] [(1,.c (.sc (.string n))),(2,.c (.ptr 2 0)),(4,.c (.ptr 4 0)),(6,.c (.ptr 6 0)),(21,.c (.sl rx E)),(22,.i E.length),(23,.i i)] [(2,.box 64 [.sl rx E,.sl rg S]),(4,.box 64 [.sc (.slice none 0 0),.sc (.slice none 0 0)]),(6,.box 64 [.own 1000,.own 1001]),(1000,.arr 172 rx ((E.take i).filter (oth n))),(1001,.arr 199 rg (S.map (iT n E i)))]) (fun i=>E.length-i) 0 (Nat.zero_le _) (by rw [show iT n E 0=id from funext (CM n E),List.map_id];subst hE hS;exact a7) ?_;rintro i hi;try dsimp only at *
  by_cases hlt:i<E.length
  case neg =>
   obtain rfl:i=E.length:=by omega
   rw [List.take_length];by_cases hfl:(E.filter (oth n)).length=E.length
   ·obtain rfl:R=(.zero,false):=by rw [←hR,decide_eq_true hfl];rfl
    repeat' (first|refine af ?_ ?_|refine ae ?_|exact ah|(refine ab fun hb=>?_;first|(exact absurd (Int.ofNat.inj hb) (by omega))|skip)|(refine gC (qf []) ?_;exact aw))
   ·obtain rfl:R=(⟨E.filter (oth n),S.map (iT n E E.length)⟩,true):=by rw [←hR,decide_eq_false hfl];rfl
    repeat' (first|refine af ?_ ?_|refine ae ?_|exact ah|(refine ab fun hb=>?_;first|(exact absurd (Int.ofNat.inj hb) hfl)|skip)|(refine gC (qf []) ?_;exact aw))
  obtain ⟨e,he⟩:∃e,E[i]=e:=⟨_,rfl⟩;have hge:E[i]? = some e:=by rw [List.getElem?_eq_getElem hlt,he]
  by_cases hnm:e.name.toList=n.toList
  case neg =>
   have ho:oth n e=true:=by simp [oth,aZ,hnm]
   have hf1:=hf72 i;repeat' (first|refine af ?_ ?_|(refine aa 8 rfl ?_;refine bh (ap rfl rfl (aH rfl rfl) (aL [e] rfl rfl rfl rfl) rfl aK aK) rfl rfl rfl ?_)|refine ae ?_|exact ah|refine ab fun hb=>?_)
   refine ⟨i+1,by omega,by omega,?_⟩;have e1:(E.take (i+1)).filter (oth n)=(E.take i).filter (oth n)++[e]:=by rw [List.take_succ_eq_append_getElem hlt,he,List.filter_append];simp [ho]
   have e2:S.map (iT n E (i+1))=S.map (iT n E i):=List.map_congr_left fun x _=>CN hlt (by rw [he];exact ho) x;rw [e1,e2];exact bw (qf [(1000,36)])
  have ho:oth n e=false:=by simp [oth,aZ,hnm]
  have ho':oth n E[i]=false:=by rw [he];exact ho
  have e1:(E.take (i+1)).filter (oth n)=(E.take i).filter (oth n):=by rw [List.take_succ_eq_append_getElem hlt,he,List.filter_append];simp [ho]
  repeat' (first|refine af ?_ ?_|refine ae ?_|exact ah|refine ab fun hb=>?_)
  refine ak (fun k=>k≤S.length) (fun k=>cq [2,4,6,1000,1001] [(1,.c (.sc (.string n))),(2,.c (.ptr 2 0)),(4,.c (.ptr 4 0)),(6,.c (.ptr 6 0)),(7,.i i),(21,.c (.sl rx E)),(22,.i E.length),(23,.i i),(39,.c (.sl rg S)),(40,.i S.length),(41,.i k)] [(2,.box 64 [.sl rx E,.sl rg S]),(4,.box 64 [.sc (.slice none 0 0),.sc (.slice none 0 0)]),(6,.box 64 [.own 1000,.own 1001]),(1000,.arr 172 rx ((E.take i).filter (oth n))),(1001,.arr 199 rg (zb n E S i k))]) (fun k=>S.length-k) 0 (Nat.zero_le _) (by rw [CP];exact a7) ?_;rintro k hk;try dsimp only at *
  have hdl:=uC (n:=n) (E:=E) (S:=S) (i:=i) (k:=k);by_cases hlk:k<S.length
  case neg =>
   have hend:=EU (n:=n) (E:=E) (S:=S) (i:=i) (k:=k) (by omega);rw [hend] at hdl ⊢;clear hend;repeat' (first|refine af ?_ ?_|refine ae ?_|exact ah|refine ab fun hb=>?_)
   refine ⟨i+1,by omega,by omega,?_⟩;rw [e1];exact a7
  obtain ⟨x,hx⟩:∃x,S[k]=x:=⟨_,rfl⟩;have hgx:S[k]? = some x:=by rw [List.getElem?_eq_getElem hlk,hx]
  have hgd:=CQ (n:=n) (E:=E) (i:=i) hlk;rw [hx] at hgd;obtain ⟨k1,k2⟩:=hatS x (hx▸List.getElem_mem hlk);have hyb:=xT (n:=n) (E:=E) (i:=i) k1;obtain ⟨y,hy⟩:∃y,iT n E i x=y:=⟨_,rfl⟩;by_cases hgt:(i:Int)<x.at_
  ·have hz:iT n E (i+1) x=⟨x.label,y.at_-1⟩:=by rw [CO hlt ho' hgt,hy]
   have hyl:y.label=x.label:=by rw [←hy];rfl
   rw [hy] at hgd hyb;have hset:=zc (i:=i) (n:=n) (E:=E) hlk (z:=⟨y.label,y.at_-1⟩) (by rw [hx,hz,hyl]);repeat' (first|refine af ?_ ?_|refine ae ?_|(refine aa 4 rfl ?_;refine bc (aA (z:=⟨y.label,y.at_-1⟩) rfl rfl rfl rfl hgd rfl rfl rfl rfl (Nat.le_of_ble_eq_true rfl) rfl rfl) rfl rfl rfl ?_)|exact ah|refine ab fun hb=>?_)
   refine ⟨k+1,by omega,by omega,?_⟩;rw [←hset];exact a7
  ·have hsm:=CR (n:=n) (E:=E) (i:=i) hlk (by rw [hx];exact ES (by omega));repeat' (first|refine af ?_ ?_|refine ae ?_|exact ah|refine ab fun hb=>?_)
   refine ⟨k+1,by omega,by omega,?_⟩;rw [←hsm];exact a7
theorem AY {N:List ByteArray} (hnd:N.Nodup):nX (dM N):=by
 have hp:=List.mergeSort_perm N fun x y=>!(ltOf ia) y x;have hs:(dM N).Pairwise fun a b=>(!(ltOf ia) b a)=true:=List.pairwise_mergeSort (fun a b c h1 h2=>by
  simp only [Bool.not_eq_true'] at *
  exact go.ntrans c b a h2 h1) (fun a b=>by
  cases h1:ltOf ia b a with
  | false=>rfl
  | true =>
   cases h2:ltOf ia a b with
   | false=>rfl
   | true=>have:=go.trans _ _ _ h1 h2;rw [go.irrefl] at this;cases this) N
 have hn2:(dM N).Nodup:=(hp.nodup_iff).2 hnd;refine (hs.and hn2).imp fun {a b} ⟨h1,h2⟩=>?_;rw [tz,Bool.not_eq_true'] at h1;exact lH h1 (fun e=>h2 e.symm)
theorem AZ {N:List ByteArray} {x:ByteArray}:x∈dM N↔x∈N:=(List.mergeSort_perm N fun x y=>!(ltOf ia) y x).mem_iff
theorem gy {β:Type} {z:β} {x:ByteArray×β}:∀{m:List (ByteArray×β)},(m.map (·.1)).Nodup→x∈m→lc z x.1 m=x.2
 | y :: m,hn,hx=>by
  obtain ⟨h1,h2⟩:=List.nodup_cons.1 hn;show (bif aZ y.1 x.1 then y.2 else lc z x.1 m)=x.2;rcases List.mem_cons.1 hx with rfl|hx
  ·rw [aP.2 rfl];rfl
  ·rw [bJ.2 (fun e=>h1 (by show y.1∈m.map (·.1);rw [e];exact List.mem_map.2 ⟨x,hx,rfl⟩))];exact gy h2 hx
def zx (m:List (ByteArray×Am)) (seen:List Nat):List ByteArray:=((seen.filterMap fun j=>m[j]?).filter fun x=>!aG x.2).map (·.1)
theorem Fd {m:List (ByteArray×Am)} {seen:List Nat} {j:Nat} {x:ByteArray×Am} (h:m[j]? = some x):zx m (seen++[j])=zx m seen++bif aG x.2 then [] else [x.1]:=by
 unfold zx;rw [List.filterMap_append,List.filter_append,List.map_append];congr 1
 cases hz:aG x.2 <;> simp [h,hz]
theorem Dk (m:List (ByteArray×Am)) (seen:List Nat):(zx m seen).length≤seen.length:=by
 unfold zx;rw [List.length_map];exact Nat.le_trans (List.length_filter_le _ _) (List.length_filterMap_le _ _)
theorem GY {l:List En} {m:List (ByteArray×Am)} (hm:dR l=m) {seen:List Nat} (hn:seen.Nodup) (hs:∀j∈seen,j<m.length) (ha:∀j,j<m.length→j∈seen):dM (zx m seen)=(bS l).filter fun n=>!aG (ay l n):=by
 have hk:(m.map (·.1)).Nodup:=by rw [←hm];exact fR l [] (by simp)
 have hsub:(zx m seen).Sublist (gx m seen):=List.Sublist.map _ List.filter_sublist;have hnd:(zx m seen).Nodup:=hsub.nodup ((wI hn hs ha).nodup_iff.2 hk);refine qh (AY hnd) ((eV l).filter _) fun x=>?_;rw [AZ,List.mem_filter,dj];unfold zx;rw [List.mem_map];constructor
 ·rintro ⟨y,hy,rfl⟩;obtain ⟨hy1,hy2⟩:=List.mem_filter.1 hy;obtain ⟨j,_,hj⟩:=List.mem_filterMap.1 hy1;have hym:y∈m:=List.mem_of_getElem? hj;have hg:mR y.1 m=y.2:=gy hk hym;rw [←hm,fY] at hg;refine ⟨?_,by rw [hg];exact hy2⟩;have h3:y.1∈(dA [] l).map (·.1):=List.mem_map.2 ⟨y,by show y∈dR l;rw [hm];exact hym,rfl⟩;rw [iD] at h3;simpa using h3
 ·rintro ⟨h1,h2⟩;have h3:x∈(dA [] l).map (·.1):=(iD l []).2 (.inr h1);obtain ⟨y,hy,rfl⟩:=List.mem_map.1 h3;have hym:y∈m:=by rw [←hm];exact hy
  obtain ⟨j,hj,e⟩:=List.getElem_of_mem hym;have hg:mR y.1 m=y.2:=gy hk hym;rw [←hm,fY] at hg;refine ⟨y,List.mem_filter.2 ⟨List.mem_filterMap.2 ⟨j,ha j hj,by rw [List.getElem?_eq_getElem hj,e]⟩,?_⟩,rfl⟩;rw [←hg];exact h2
theorem Dl (g:Lg):eH g=((bS g.entries).filter fun n=>!aG (ay g.entries n)).map (mi (ay g.entries)):=by
 unfold eH;rw [List.filter_map];rfl
theorem Dm (g:Lg) (hl:g.entries.length≤72) {R:List Tm} (hR:eH g=R):FSpec prog 66 [g.a] [] [] (.c (.sl c7 R)) []:=by
 refine aT func66 ?_;obtain ⟨H,hH⟩:∃H:ByteArray→Am,ay g.entries=H:=⟨_,rfl⟩;have k2:=zg g.entries;obtain ⟨m,hm⟩:∃m,dR g.entries=m:=⟨_,rfl⟩;have hfin:∀seen:List Nat,seen.Nodup→(∀j∈seen,j<m.length)→(∀j,j<m.length→j∈seen)→(dM (zx m seen)).map (mi H)=R:=fun seen q1 q2 q3=>by
  rw [←hR,Dl,GY hm q1 q2 q3,hH]
 have hgm:∀(j:Nat) (x:ByteArray×Am),m[j]? = some x→x.2=H x.1:=fun j x hx=>by
  have hk:(m.map (·.1)).Nodup:=by rw [←hm];exact fR g.entries [] (by simp)
  have hg:mR x.1 m=x.2:=gy hk (List.mem_of_getElem? hx);rw [←hg,←hm,fY,hH]
 have hm9:m.length≤100000:=by
  have q1:=me g.entries;have q2:=fq g.entries [];rw [hm] at q1;unfold bS at q1;simp at q2;omega
 rw [hm] at k2;clear hR hm hH;repeat' (first|refine af ?_ ?_|refine aa 9 rfl (cH (qf [(0,1004)]) (k2) ?_)|(refine aa 25 rfl ?_;refine sx (tx qg rfl rfl rfl rfl) ?_)|refine ae ?_|exact ah|refine ab fun hb=>?_)
 refine cZ 3 1000 44 c7 rfl rfl rfl ?_;refine ak (fun seen:List Nat=>seen.Nodup∧∀j∈seen,j<m.length) (fun seen=>cq [9,1000,1004] [(3,.c (.own 1000)),(9,.c (.own 9))] [(9,.it 1004 (uG m).length seen),(1000,.arr 44 c7 ((zx m seen).map (mi H))),(1004,.mp (uG m))]) (fun seen=>m.length-seen.length) [] ⟨by simp,by simp⟩ a7 ?_;rintro seen ⟨hn,hs⟩;refine oT (zi (L:=uG m) (n:=(uG m).length) rfl rfl rfl rfl rfl rfl rfl rfl rfl rfl rfl rfl (fun j hj hjs=>?_) (fun hall=>?_))
 ·have hj:j<m.length:=by simpa [iM] using hj
  obtain ⟨x,hx⟩:∃x,m[j]? = some x:=⟨_,List.getElem?_eq_getElem hj⟩;have hT:=Fd (seen:=seen) hx;have hxe:=hgm j x hx;obtain ⟨n,a⟩:=x;obtain rfl:a=H n:=hxe;have hx2:(uG m)[j]? = some (.string n,GH (H n)):=by simp [iM,hx]
  dsimp only at hT;have hls:=ib hn hs;have hn2:(seen++[j]).Nodup:=List.nodup_append.2 ⟨hn,by simp,fun b hb c hc=>by rw [List.mem_singleton] at hc;subst hc;exact fun e=>hjs (e▸hb)⟩;have hs2:∀k∈seen++[j],k<m.length:=fun k hk=>by
   rcases List.mem_append.1 hk with hk|hk
   ·exact hs k hk
   ·rw [List.mem_singleton] at hk;subst hk;exact hj
  have hls2:=ib hn2 hs2;have hcl:((zx m seen).map (mi H)).length≤100000:=by
   have:=Dk m seen;rw [List.length_map];omega
  generalize hC:(zx m seen).map (mi H)=C at *
  show AW _ _ _ _ _ _;by_cases hz:H n=⟨0,0⟩
  ·rw [hz,show aG ⟨0,0⟩=true from rfl,cond_true,List.append_nil] at hT;repeat' (first|refine af ?_ ?_|(refine aa 27 rfl ?_;refine sx (mU (y:=(H n).a) rfl rfl rfl rfl rfl hx2 (fun _ _ _=>⟨_,rfl,rfl,rfl,trivial⟩) (fun _=>rfl)) ?_)|refine ae ?_|exact ah|(refine ab fun hb=>?_;first|(exact absurd hz hb)|skip))
   refine ⟨seen++[j],⟨hn2,hs2⟩,by simp at hls2 ⊢;omega,?_⟩;rw [hT,hC];exact a7
  ·rw [bb.2 hz,cond_false] at hT;repeat' (first|refine af ?_ ?_|(refine aa 8 rfl ?_;refine bh (ap rfl rfl (aH rfl rfl) (aL [mi H n] rfl rfl rfl rfl) rfl aK aK) rfl rfl rfl ?_)|(refine aa 27 rfl ?_;refine sx (mU (y:=(H n).a) rfl rfl rfl rfl rfl hx2 (fun _ _ _=>⟨_,rfl,rfl,rfl,trivial⟩) (fun _=>rfl)) ?_)|refine ae ?_|exact ah|(refine ab fun hb=>?_;first|(exact absurd hb hz)|skip))
   refine ⟨seen++[j],⟨hn2,hs2⟩,by simp at hls2 ⊢;omega,?_⟩;rw [hT,List.map_append,hC];exact bw (qf [(1000,23)])
 ·have hM:=hfin seen hn hs fun j hj=>hall j (by simpa [iM] using hj);have kS:=Da H (zx m seen) (by
   have:=Dk m seen;have:=ib hn hs;omega)
  rw [hM] at kS;show AW _ _ _ _ _ _;repeat' (first|refine af ?_ ?_|refine aa 9 rfl (cH (qf [(0,1000)]) (kS) ?_)|refine ae ?_|exact ah|refine ab fun hb=>?_|exact bB|fail)
theorem Hb {α:Type} {E:El α} [J:Dp E] {w:World} {F F':Nat→Prop} {ρ ρ':Nat→Value} {k n:Nat} {e:TypeId} {m:List α} {cs:List D} (hb:(Box.box e cs).rep w F ρ (ρ k)) (hm:m.flatMap J.deep=cs) (hF:∀b,F b→F' b) (hF':∀g,kb (ρ k)=some g→F' g) (hn:m.length=n∧n≤maxLen) {v:Value} (hv:(D.slb k n).rep w F ρ v):(D.sl E m).rep w F' ρ' v:=by
 subst hm;obtain ⟨g,hg,rfl⟩:=hv;obtain ⟨g',vs,e1,h3,h4,_⟩:=hb;rw [hg] at e1;injection e1 with e1;injection e1 with e1;injection e1 with e1;subst e1;exact ⟨_,_,by rw [hn.1],⟨Nat.le_of_eq hn.1,hn.2⟩,vs,(dW h4).same (fun _ _=>rfl) hF,fun _=>⟨g,0,rfl,hF' g (by rw [hg];rfl),fun j u hu=>by rw [Nat.zero_add];exact h3.cellx j (by simpa using hu)⟩⟩
theorem FSpec.lit {P:Program} {f:FuncId} {α:Type} {E:El α} [J:Dp E] {l:List α} {n:Nat} {e:TypeId} {cs:List D} {res:TV} (h:FSpec P f [.one (.sl E l)] [] [] res []) (hl:l.flatMap J.deep=cs) (hn:l.length=n) (hm:n≤maxLen):FSpec P f [.one (.slb 0 n)] [(0,.box e cs)] [] res [(0,none)]:=by
 refine ⟨h.en,fun q c st ρ a w vs hr hq hargs hin hfree=>?_⟩;have hk:=hin 0 _ rfl;have hb:(Box.box e cs).rep w (Fz c st.h ρ w) (fun k=>ρ (q k)) (ρ (q 0)):=(Box.rep_ren (q:=q) (ρ':=fun k=>ρ (q k)) fun _ _=>rfl).1 (hr.hp _ _ hk);have hkk:∀k':Nat,ax [(q 0,(none:Option Box))] k'=true→k'=q 0:=fun k' h=>by
  simp only [ax,Bool.or_false] at h;exact (Nat.eq_of_beq_eq_true h).symm
 have hno:∀k',k'=q 0→hput [(q 0,(none:Option Box))] st.h k'=none:=fun k' e=>by subst e;simp [hput]
 have h2:=hr.app (ρ':=ρ) (w':=w) (dst:=none) (v:=undef) (e:=⟨.c .any,[(q 0,none)],[]⟩) (fun d hd=>by cases hd)
  (fun k' hk=>by simp [aD] at hk) (fun k' _=>rfl) (fun k' h=>.inr (by rw [hkk k' h];exact hr.nfh hk)) (Frx.refl _ _)
  (fun k' bx g h hp _=>by rw [hno k' (hkk k' h)] at hp;cases hp) (fun k1 k2 b b' g h1 h2 _ _ _ _=>by rw [hkk k1 h1,hkk k2 h2]) (fun k' hk=>by simp [TV.has,V0.has,D.has] at hk)
  (fun k1 k2 bx h hp _=>by rw [hno k2 (hkk k2 h)] at hp;cases hp) (fun k2 bx h hp=>by rw [hno k2 (hkk k2 h)] at hp;cases hp) trivial
 match vs,hargs with
 | [v],⟨hv,_⟩ =>
  have hv:(D.slb (q 0) n).rep w (Fz c st.h ρ w) ρ v:=hv;obtain ⟨g,hg,hv⟩:=hv;have hs:(D.sl E l).rep w (Fz c (hput [(q 0,(none:Option Box))] st.h) ρ w) ρ v:=Hb (F':=Fz c (hput [(q 0,(none:Option Box))] st.h) ρ w) (ρ:=fun k=>ρ (q k)) (k:=0) hb hl (fun b hb=>⟨hb.1,hb.2.1,fun k bx hk' he=>by
    by_cases e9:k=q 0
    ·rw [hno k e9] at hk';cases hk'
    ·have:hput [(q 0,(none:Option Box))] st.h k=st.h k:=bD (by
      cases h8:ax [(q 0,(none:Option Box))] k with
      | false=>rfl
      | true=>exact absurd (hkk k h8) e9)
     rw [this] at hk';exact hb.2.2 k bx hk' he⟩)
   (fun g' hg'=>⟨(hr.inb (q 0) _ g' hk hg').imp (c.hX g') id,hr.ltb hk hg',fun k bx hk' he=>by
    by_cases e9:k=q 0
    ·rw [hno k e9] at hk';cases hk'
    ·have:hput [(q 0,(none:Option Box))] st.h k=st.h k:=bD (by
      cases h8:ax [(q 0,(none:Option Box))] k with
      | false=>rfl
      | true=>exact absurd (hkk k h8) e9)
     rw [this] at hk';exact e9 (hr.dis k (q 0) bx _ g' hk' hk he hg')⟩) ⟨hn,hm⟩ ⟨g,hg,hv⟩
  refine (h.ca q c _ ρ a w [v] h2 (fun k k' hk _ _=>by simp [aj,aD] at hk) ⟨hs,trivial⟩ (fun k b hb=>by cases hb) (fun k hk=>by simp [aD] at hk)).mono ?_;rintro e' w' ⟨v',rfl,hk9⟩;refine ⟨v',rfl,fun dst hd=>?_⟩;obtain ⟨ρ',hr'⟩:=hk9 dst hd;refine ⟨ρ',?_⟩;have he:(st.app none ⟨.c .any,[(q 0,none)],[]⟩).app dst ⟨res.ren q,dx q [],[].map q⟩=st.app dst ⟨res.ren q,dx q [(0,none)],[].map q⟩:=by
   simp [Mst.app,dx,hput,iO,aD]
  rw [←he];exact hr'
theorem Dx (l:List Int) {b:Bool} (hb0:decide (l.length≤300)=b):FSpec prog 5 [.one (.sl ov l)] [] [] (.b b) []:=by
 refine aT func5 ?_;repeat' (first|refine af ?_ ?_|refine ae ?_|exact ah|refine ab fun hb=>?_)
 refine fm ?_;rw [←hb0];congr 1
 exact decide_eq_decide.2 (by omega)
end Go.Proofs.YtcgpepnbohejfaaGreatDoor
