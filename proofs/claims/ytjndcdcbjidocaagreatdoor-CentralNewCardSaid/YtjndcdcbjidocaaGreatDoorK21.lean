/- Part 21 of 35 of the proof of centralNew_holds (no condition). -/
import Derived.Test.YtjndcdcbjidocaaGreatDoorK20
import Derived.Shelf.Small.Bits
import Derived.Shelf.Small.Strs
import Derived.Shelf.Strconv.Itoa0
set_option linter.unusedVariables false
set_option linter.unusedSimpArgs false
set_option maxRecDepth 100000
set_option maxHeartbeats 64000000
namespace Go.Proofs.YtjndcdcbjidocaaGreatDoor
open Go.RowKit Go.Proofs.Tryz
theorem HW (g:Lg) (i j:Nat) (hi:i≤g.entries.length) (hj:j≤g.saves.length) (h1:g.entries.length≤100000) (h2:g.saves.length≤100000) {E':List En} {S':List Sv} (hE:g.entries.take i=E') (hS:g.saves.take j=S'):FSpec prog 226 [g.a,.one (.sc (.int .i64 i)),.one (.sc (.int .i64 j))] [] [1,2] (.v (.ag [.own 1,.own 2])) [(1,some (.arr 141 jP E')),(2,some (.arr 143 lw S'))]:=by
 refine aS func226 ?_
 have hEl:E'.length≤100000:=by rw [←hE];simp;omega
 have hSl:S'.length≤100000:=by rw [←hS];simp;omega
 have hE2:(g.entries.take i).drop 0=E':=hE
 have hS2:(g.saves.take j).drop 0=S':=hS
 repeat' (first
  | refine ah ?_ ?_
  | (refine aa 14 rfl ?_;first|refine sx (pP rfl rfl rfl (.inr ⟨rfl,rfl⟩) rfl rfl (Nat.zero_le _) hi hE2) ?_|refine sx (pP rfl rfl rfl (.inr ⟨rfl,rfl⟩) rfl rfl (Nat.zero_le _) hj hS2) ?_)
  | refine af ?_
  | exact ai|refine ae fun hb=>?_
  | (refine aE (qf [(1,12),(2,18)]) ?_;exact ab))
end Go.Proofs.YtjndcdcbjidocaaGreatDoor
namespace Go.Proofs
open Go.Shelf
def Tryz.lays106_ren:Go.Shelf.Ren:=⟨fun|106=>191|213=>256|265=>308|n=>n,fun|9=>9|3=>3|n=>n,fun|n=>n⟩
theorem Tryz.lays106:Go.Proofs.Lays.n106 Tryz.prog Tryz.lays106_ren:={
 mixed:=by kernel_rfl
 f106:=Tryz.func191.trans (congrArg some (by kernel_rfl))
 f213:=Tryz.func256.trans (congrArg some (by kernel_rfl))
 f265:=Tryz.func308.trans (congrArg some (by kernel_rfl))
 t3:=Tryz.underlying3
 a3:=Tryz.isAgg3
 z3:=Tryz.sizeOf3
 v3:=Tryz.zeroValue3
 t9:=Tryz.underlying9
 a9:=Tryz.isAgg9
 z9:=Tryz.sizeOf9
 v9:=Tryz.zeroValue9 }
open Go.RowKit in
theorem Tryz.strings_Compare (a b:ByteArray) (w:World) :
  Calls Tryz.prog 191 #[.string a,.string b] w fun e w'=>e = .returned (.int .i64 (Lib.compareBytes a.data.toList b.data.toList))∧w'=w:=Any.strings_Compare Tryz.lays106 a b w
end Go.Proofs
namespace Go.Proofs
open Go.Shelf
def Tryz.sortAtoms_ren:Go.Shelf.Ren:=⟨fun|6=>112|15=>190|14=>189|28=>254|29=>255|20=>246|21=>247|22=>248|23=>249|24=>250|25=>251|26=>252|27=>253|46=>303|47=>304|48=>305|49=>306|50=>307|57=>328|n=>n,fun|22=>103|24=>39|25=>152|3=>3|39=>203|0=>0|53=>248|55=>250|4=>4|46=>241|45=>240|50=>245|5=>5|9=>9|66=>277|70=>272|76=>297|77=>262|n=>n,fun|n=>n⟩
theorem Tryz.sortAtoms:Go.Proofs.SlLaysF0.n6 Tryz.prog Tryz.sortAtoms_ren:={
 mixed:=by kernel_rfl
 f6:=⟨Tryz.f112.name,by decide,Tryz.func112.trans (congrArg some (by kernel_rfl))⟩
 f14:=⟨Tryz.f189.name,by decide,Tryz.func189.trans (congrArg some (by kernel_rfl))⟩
 f15:=Tryz.func190.trans (congrArg some (by kernel_rfl))
 f20:=⟨Tryz.f246.name,by decide,Tryz.func246.trans (congrArg some (by kernel_rfl))⟩
 f21:=⟨Tryz.f247.name,by decide,Tryz.func247.trans (congrArg some (by kernel_rfl))⟩
 f22:=⟨Tryz.f248.name,by decide,Tryz.func248.trans (congrArg some (by kernel_rfl))⟩
 f23:=⟨Tryz.f249.name,by decide,Tryz.func249.trans (congrArg some (by kernel_rfl))⟩
 f24:=⟨Tryz.f250.name,by decide,Tryz.func250.trans (congrArg some (by kernel_rfl))⟩
 f25:=⟨Tryz.f251.name,by decide,Tryz.func251.trans (congrArg some (by kernel_rfl))⟩
 f26:=⟨Tryz.f252.name,by decide,Tryz.func252.trans (congrArg some (by kernel_rfl))⟩
 f27:=⟨Tryz.f253.name,by decide,Tryz.func253.trans (congrArg some (by kernel_rfl))⟩
 f28:=Tryz.func254.trans (congrArg some (by kernel_rfl))
 f29:=Tryz.func255.trans (congrArg some (by kernel_rfl))
 f46:=⟨Tryz.f303.name,by decide,Tryz.func303.trans (congrArg some (by kernel_rfl))⟩
 f47:=Tryz.func304.trans (congrArg some (by kernel_rfl))
 f48:=Tryz.func305.trans (congrArg some (by kernel_rfl))
 f49:=⟨Tryz.f306.name,by decide,Tryz.func306.trans (congrArg some (by kernel_rfl))⟩
 f50:=⟨Tryz.f307.name,by decide,Tryz.func307.trans (congrArg some (by kernel_rfl))⟩
 f57:=⟨Tryz.f328.name,by decide,Tryz.func328.trans (congrArg some (by kernel_rfl))⟩
 t0:=Tryz.underlying0
 a0:=Tryz.isAgg0
 z0:=Tryz.sizeOf0
 v0:=Tryz.zeroValue0
 t3:=Tryz.underlying3
 a3:=Tryz.isAgg3
 z3:=Tryz.sizeOf3
 v3:=Tryz.zeroValue3
 t4:=Tryz.underlying4
 a4:=Tryz.isAgg4
 z4:=Tryz.sizeOf4
 v4:=Tryz.zeroValue4
 t5:=Tryz.underlying5
 a5:=Tryz.isAgg5
 z5:=Tryz.sizeOf5
 v5:=Tryz.zeroValue5
 t9:=Tryz.underlying9
 a9:=Tryz.isAgg9
 z9:=Tryz.sizeOf9
 v9:=Tryz.zeroValue9
 t22:=Tryz.underlying103
 a22:=Tryz.isAgg103
 z22:=Tryz.sizeOf103
 v22:=Tryz.zeroValue103
 t25:=Tryz.underlying152
 a25:=Tryz.isAgg152
 z25:=Tryz.sizeOf152
 v25:=Tryz.zeroValue152
 t39:=Tryz.underlying203
 a39:=Tryz.isAgg203
 z39:=Tryz.sizeOf203
 v39:=Tryz.zeroValue203
 t45:=Tryz.underlying240
 a45:=Tryz.isAgg240
 z45:=Tryz.sizeOf240
 v45:=Tryz.zeroValue240
 t46:=Tryz.underlying241
 a46:=Tryz.isAgg241
 z46:=Tryz.sizeOf241
 v46:=Tryz.zeroValue241
 t50:=Tryz.underlying245
 a50:=Tryz.isAgg245
 z50:=Tryz.sizeOf245
 v50:=Tryz.zeroValue245
 t53:=Tryz.underlying248
 a53:=Tryz.isAgg248
 z53:=Tryz.sizeOf248
 v53:=Tryz.zeroValue248
 t55:=Tryz.underlying250
 a55:=Tryz.isAgg250
 z55:=Tryz.sizeOf250
 v55:=Tryz.zeroValue250
 t66:=Tryz.underlying277
 a66:=Tryz.isAgg277
 z66:=Tryz.sizeOf277
 v66:=Tryz.zeroValue277
 t70:=Tryz.underlying272
 a70:=Tryz.isAgg272
 z70:=Tryz.sizeOf272
 v70:=Tryz.zeroValue272
 t76:=Tryz.underlying297
 a76:=Tryz.isAgg297
 z76:=Tryz.sizeOf297
 v76:=Tryz.zeroValue297
 t77:=Tryz.underlying262
 a77:=Tryz.isAgg262
 z77:=Tryz.sizeOf262
 v77:=Tryz.zeroValue262 }
end Go.Proofs
namespace Go.Proofs.YtjndcdcbjidocaaGreatDoor
open Go.RowKit Go.Proofs.Tryz
section
open Go.Shelf Go.Sort
def iJ (a b:ByteArray):Int:=Lib.compareBytes a.data.toList b.data.toList
theorem zt:∀{l m:List UInt8},(Lib.compareBytes l m<0↔l<m)∧(Lib.compareBytes l m=0↔l=m)
 | [],[]=>by simp [Lib.compareBytes]
 | [],_ :: _=>by simp [Lib.compareBytes]
 | _ :: _,[]=>by simp [Lib.compareBytes]
 | a :: l,b :: m=>by
  obtain ⟨h1,h2⟩:=zt (l:=l) (m:=m)
  rw [List.cons_lt_cons_iff]
  unfold Lib.compareBytes
  by_cases ha:a<b
  ·simp [ha]
   intro e;subst e;exact absurd ha (UInt8.lt_irrefl _)
  ·by_cases hb:b<a
   ·simp [ha,hb]
    constructor <;> (intro e;subst e;exact absurd hb (UInt8.lt_irrefl _))
   ·have e:a=b:=UInt8.le_antisymm (UInt8.not_lt.1 hb) (UInt8.not_lt.1 ha)
    subst e
    simp [h1,h2]
theorem FG {a b:ByteArray}:iJ a b<0↔iM a b=true:=by
 unfold iJ iM
 rw [bytesLess_eq,decide_eq_true_eq,zt.1,ByteArray.toList_eq,ByteArray.toList_eq]
theorem s9 (a b:ByteArray):ltOf iJ a b=iM a b:=by
 unfold ltOf
 rw [Bool.eq_iff_iff,decide_eq_true_iff,FG]
theorem gN:Go.Sort.SWO (ltOf iJ) where
 irrefl x:=by rw [s9];exact dW x
 trans x y z h1 h2:=by rw [s9] at *;exact fC h1 h2
 ntrans x y z h1 h2:=by
  rw [s9] at *
  cases h:iM x z with
  | false=>rfl
  | true =>
   exfalso
   by_cases e:x=y
   ·subst e;rw [h] at h2;cases h2
   ·have h3:=mw h1 e
    rw [fC h3 h] at h2
    cases h2
theorem yi (x y:ByteArray) (h1:ltOf iJ x y=false) (h2:ltOf iJ y x=false):x=y:=by
 rw [s9] at *
 by_cases e:x=y
 ·exact e
 ·rw [mw h1 e] at h2;cases h2
def Gi (h:ByteArray→Am) (n:ByteArray):List Value:=[.string n,.int .i64 (h n).mode,.int .i64 (h n).units]
def mZ (h:ByteArray→Am) (n:ByteArray):Tm:=⟨n,h n⟩
theorem A5 (x y:Tm) (w:World):Calls prog 113 #[.agg x.cells.toArray,.agg y.cells.toArray] w fun e w'=>e = .returned (.int .i64 (iJ x.name y.name))∧∃os,w'=Go.Sort.grow w os:=by
 have HC:=Lib.hid (fun w=>strings_Compare x.name y.name w)
 obtain ⟨n,⟨m,u⟩⟩:=x
 obtain ⟨n',⟨m',u'⟩⟩:=y
 unfold Tm.cells
 dsimp only
 go_enter func113,ntmps113
 go_wp2_with fail
 refine (HC.out _).mono ?_
 rintro e w1 ⟨rfl,rfl⟩
 go_wp2
 go_ret
 exact ⟨rfl,_,by rw [Go.Sort.alloc_eq_grow,Go.Sort.alloc_eq_grow,Go.Sort.grow_grow]⟩
def d7 (N:List ByteArray):List ByteArray:=N.mergeSort fun x y=>!(ltOf iJ) y x
theorem A6 (h:ByteArray→Am) (N:List ByteArray) (hl:N.length≤100000) (w:World) {v:Value} {F:Nat→Prop} {xs:List Value} (h1:w.ownsRow 0 39 bV.n v (N.map (mZ h)).length xs) (h2:Reps bV w F (N.map (mZ h)) xs) :
  Calls prog 112 #[v,.func (.func 113) #[] #[]] w fun e w'=>e = .returned (.tuple #[])∧(Frx w w' fun b=>kb v=some b)∧∃ys,w'.ownsRow 0 39 bV.n v ((d7 N).map (mZ h)).length ys∧∀F',Reps bV w' F' ((d7 N).map (mZ h)) ys:=by
 have hxs:xs=(N.map (Gi h)).flatten:=by
  rw [Reps.plain h2,List.map_map]
  rfl
 have hl':(N.map (mZ h)).length=N.length:=by simp
 have one:∀x,∀u∈Gi h x,u.oneCell'=true:=by intro x u hu;simp [Gi] at hu;rcases hu with rfl|rfl|rfl <;> rfl
 have hrep:∀(w:World) (F:Nat→Prop) (M:List ByteArray),Reps bV w F (M.map (mZ h)) (M.map (Gi h)).flatten:=fun w F M=>by
  have this:Reps bV w F (M.map (mZ h)) ((M.map (mZ h)).map Tm.cells).flatten:=Reps.plain_mk _
  rw [List.map_map] at this
  exact this
 have hown:OwnRows (El.plain 3 (by decide) (Gi h) (fun _=>rfl) one) 39 w 0 v N:=⟨Nat.zero_le _,xs,by rw [←hl'];exact h1,by rw [hxs];exact Reps.plain_mk N⟩
 rcases Nat.eq_zero_or_pos N.length with h0|h0
 ·obtain ⟨A,cap,rfl,_,_,_,_⟩:=hown.form2
  obtain rfl:=List.eq_nil_of_length_eq_zero h0
  refine (AnyF.slices_SortFunc_none { sortAtoms with } A cap _ w).mono ?_
  rintro e w' ⟨rfl,rfl⟩
  exact ⟨rfl,Frx.refl _ _,xs,by simpa [d7] using h1,fun F'=>by rw [hxs];simpa [d7] using hrep w' F' []⟩
 ·obtain ⟨g,cap,rfl,hg,hg2,_,_,_,_⟩:=hown.addr h0
  have eg:∀args w,(callFunc 113 args).run prog w = .ok (.enter 113 args) w:=enters_of func113 (by kernel_rfl) rfl
  have hcmp:CmpLays prog 113 #[] (Gi h) 3 iJ g 0 N.toArray.size w:=fun _ _ _ _ x y=>(A5 (mZ h x) (mZ h y) _).mono fun e w' ⟨he,os,hw⟩=>⟨he,0,os,hw⟩
  have:=AnyQ.slices_SortFunc_total sortAtoms 3 isAgg39 sizeOf39 (Gi h) (fun _=>rfl) one iJ gN 113 #[] g 0 cap N.toArray w eg hcmp hown.holdsK hg2 (by simp;omega) yi
  refine Calls.mono this ?_
  rintro e w' ⟨rfl,n,os,rfl⟩
  have hs:=hown.sorted hg2 (l':=d7 N) (by simp [d7]) n os
  have hb:∀b,b<w.heap.size→b≠g→(sortWorldK (Gi h) 3 w g 0 n (d7 N).toArray os).heap[b]? = w.heap[b]?:=fun b hb hn=>by
   show (w.heap.modify g _++os)[b]? = _
   rw [Array.getElem?_append_left (by simpa using hb),Array.getElem?_modify,if_neg (fun e=>hn e.symm)]
  refine ⟨rfl,⟨rfl,rfl,rfl,by simp [sortWorldK,grow,putRowK,putRow,mapBlock],fun b hlt hn=>hb b hlt fun e=>hn (by rw [e];rfl)⟩,?_⟩
  obtain ⟨_,ys,h3,h4⟩:=hs
  refine ⟨ys,?_,fun F'=>?_⟩
  ·rw [List.length_map]
   have e9:(d7 N).length=N.length:=by simp [d7]
   rw [e9] at h3 ⊢
   exact h3
  ·rw [Reps.plain h4]
   exact hrep _ F' (d7 N)
theorem DK (h:ByteArray→Am) (N:List ByteArray) (hl:N.length≤100000):FSpec prog 112 [.one (.own 0),.one (.sc (.func (.func 113) #[] #[]))] [(0,.arr 39 bV (N.map (mZ h)))] [] (.tup []) [(0,some (.arr 39 bV ((d7 N).map (mZ h))))]:=by
 refine ⟨fun b W=>by kernel_rfl,fun q c st ρ a w vs hr hinj hargs hhin hus=>?_⟩
 match vs,hargs with
 | [v,f],⟨h0,h1,_⟩ =>
  obtain rfl:v=ρ (q 0):=h0
  obtain rfl:f = .func (.func 113) #[] #[]:=h1
  have hk:=hhin 0 _ rfl
  obtain ⟨xs,hx1,hx2⟩:=hr.hp (q 0) _ hk
  refine (A6 h N hl w hx1 hx2).mono ?_
  rintro e w' ⟨rfl,hf,ys,hy1,hy2⟩
  refine ⟨_,rfl,fun dst hdst=>⟨ρ,?_⟩⟩
  have hkk:∀k':Nat,aA [(q 0,some (Box.arr 39 bV ((d7 N).map (mZ h))))] k'=true→k'=q 0:=fun k' h=>by
   simp only [aA,Bool.or_false] at h
   exact (Nat.eq_of_beq_eq_true h).symm
  refine hr.app (e:=⟨.tup [],[(q 0,some (.arr 39 bV ((d7 N).map (mZ h))))],[]⟩) hdst (fun k h=>by simp [aI] at h) (fun _ _=>rfl) (fun k' h=>.inr (by rw [hkk k' h];exact hr.nfh hk)) ⟨hf.os,hf.tape,hf.output,hf.size,fun b hlt hn=>hf.keep b hlt fun e=>hn ⟨q 0,_,by simp [aA],hk,e⟩⟩ ?_ ?_ (fun k h=>by simp [TV.has] at h) ?_ ?_ ⟨[],rfl,trivial⟩
  ·intro k' bx g' h _ hg'
   rw [hkk k' h] at hg'
   exact ⟨Nat.lt_of_lt_of_le (hr.ltb hk hg') hf.size,.inr ⟨q 0,_,by simp [aA],hk,hg'⟩⟩
  ·intro k1 k2 _ _ _ h h' _ _ _ _
   rw [hkk k1 h,hkk k2 h']
  ·intro k1 k2 bx h hp hx
   rw [hkk k2 h] at hp
   simp only [hput,Nat.beq_refl,cond_true,Option.some.injEq] at hp
   subst hp
   simp [Box.has] at hx
  ·intro k2 bx h hp
   rw [hkk k2 h] at hp ⊢
   simp only [hput,Nat.beq_refl,cond_true,Option.some.injEq] at hp
   subst hp
   exact ⟨ys,hy1,hy2 _⟩
end
theorem wO {β:Type} (n:ByteArray) (a:β):∀l:List (ByteArray×β),(dG n a l).map (·.1)=bif dB n (l.map (·.1)) then l.map (·.1) else l.map (·.1)++[n]
 | []=>rfl
 | x :: l=>by
  have ih:=wO n a l
  unfold dG
  show _=bif (aY x.1 n || dB n (l.map (·.1))) then x.1 :: l.map (·.1) else x.1 :: l.map (·.1)++[n]
  cases aY x.1 n with
  | true=>rfl
  | false =>
   show x.1 :: (dG n a l).map (·.1)=_
   rw [ih,Bool.false_or]
   cases dB n (l.map (·.1)) <;> rfl
theorem gt:∀(l:List En) (m:List (ByteArray×Am)),(m.map (·.1)).Nodup→((dL m l).map (·.1)).Nodup
 | [],_,h=>h
 | e :: l,m,h=>by
  refine gt l (dG e.name e.after m) ?_
  rw [wO]
  cases hh:dB e.name (m.map (·.1)) with
  | true=>exact h
  | false =>
   rw [cond_false]
   refine List.nodup_append.2 ⟨h,by simp,fun a ha b hb=>?_⟩
   rw [List.mem_singleton] at hb
   subst hb
   intro e9
   subst e9
   rw [fS.2 ha] at hh
   cases hh
theorem jd {x:ByteArray}:∀(l:List En) (m:List (ByteArray×Am)),x∈(dL m l).map (·.1)↔x∈m.map (·.1)∨∃e∈l,e.name=x
 | [],m=>by simp [dL]
 | e :: l,m=>by
  show x∈(dL (dG e.name e.after m) l).map (·.1)↔_
  rw [jd l,←fS,uv,Bool.or_eq_true,aZ,fS]
  constructor
  ·rintro ((h|h)|⟨f,h1,h2⟩)
   ·exact .inr ⟨e,by simp,h⟩
   ·exact .inl h
   ·exact .inr ⟨f,by simp [h1],h2⟩
  ·rintro (h|⟨f,h1,h2⟩)
   ·exact .inl (.inr h)
   ·rcases List.mem_cons.1 h1 with rfl|h1
    ·exact .inl (.inl h2)
    ·exact .inr ⟨f,h1,h2⟩
theorem qQ:∀{l m:List ByteArray},lQ l→lQ m→(∀x,x∈l↔x∈m)→l=m
 | [],[],_,_,_=>rfl
 | [],b :: m,_,_,h=>absurd ((h b).2 (by simp)) (by simp)
 | a :: l,[],_,_,h=>absurd ((h a).1 (by simp)) (by simp)
 | a :: l,b :: m,h1,h2,h=>by
  obtain ⟨p1,q1⟩:=List.pairwise_cons.1 h1
  obtain ⟨p2,q2⟩:=List.pairwise_cons.1 h2
  have e:a=b:=by
   rcases List.mem_cons.1 ((h a).1 (by simp)) with e|ha
   ·exact e
   ·rcases List.mem_cons.1 ((h b).2 (by simp)) with e|hb
    ·exact e.symm
    ·have:=fC (p1 b hb) (p2 a ha)
     rw [dW] at this
     cases this
  subst e
  rw [qQ q1 q2 fun x=>?_]
  constructor
  ·intro hx
   rcases List.mem_cons.1 ((h x).1 (by simp [hx])) with e|hm
   ·subst e
    have:=p1 x hx
    rw [dW] at this
    cases this
   ·exact hm
  ·intro hx
   rcases List.mem_cons.1 ((h x).2 (by simp [hx])) with e|hm
   ·subst e
    have:=p2 x hx
    rw [dW] at this
    cases this
   ·exact hm
def gZ (m:List (ByteArray×Am)) (seen:List Nat):List ByteArray:=(seen.filterMap fun j=>m[j]?).map (·.1)
theorem A7 {m:List (ByteArray×Am)} {seen:List Nat} {j:Nat} {x:ByteArray×Am} (h:m[j]? = some x):gZ m (seen++[j])=gZ m seen++[x.1]:=by
 unfold gZ
 rw [List.filterMap_append,List.map_append]
 simp [h]
theorem iK {n:Nat} {seen:List Nat} (hn:seen.Nodup) (hs:∀j∈seen,j<n):seen.length≤n:=by
 have hp:seen.Perm ((List.range n).filter fun j=>decide (j∈seen)):=(List.perm_ext_iff_of_nodup hn (List.nodup_range.filter _)).2 fun j=>by
  rw [List.mem_filter,List.mem_range,decide_eq_true_eq]
  exact ⟨fun h=>⟨hs j h,h⟩,fun h=>h.2⟩
 have h:=List.length_filter_le (fun j=>decide (j∈seen)) (List.range n)
 rw [←hp.length_eq] at h
 simpa using h
theorem wP {α β:Type} {f g:α→Option β}:∀{l:List α},(∀x∈l,f x=g x)→l.filterMap f=l.filterMap g
 | [],_=>rfl
 | x :: l,h=>by
  rw [List.filterMap_cons,List.filterMap_cons,h x (by simp),wP fun y hy=>h y (by simp [hy])]
theorem wQ {m:List (ByteArray×Am)} {seen:List Nat} (hn:seen.Nodup) (hs:∀j∈seen,j<m.length) (ha:∀j,j<m.length→j∈seen):(gZ m seen).Perm (m.map (·.1)):=by
 have hp:seen.Perm (List.range m.length):=(List.perm_ext_iff_of_nodup hn List.nodup_range).2 fun j=>by
  rw [List.mem_range]
  exact ⟨hs j,ha j⟩
 have h1:=(hp.filterMap fun j=>m[j]?).map (·.1)
 have h2:(List.range m.length).filterMap (fun j=>m[j]?)=m:=by
  have e:(List.range m.length).filterMap (fun j=>m[j]?)=(List.range m.length).filterMap (fun j=>some (m.getD j (.empty,⟨0,0⟩))):=by
   refine wP fun j hj=>?_
   have hj:=List.mem_range.1 hj
   rw [List.getD_eq_getElem?_getD,List.getElem?_eq_getElem hj,Option.getD_some]
  rw [e,show (fun j=>some (m.getD j (.empty,⟨0,0⟩)))=some ∘ (fun j=>m.getD j (.empty,⟨0,0⟩)) from rfl,List.filterMap_eq_map]
  apply List.ext_getElem
  ·simp
  ·intro i h1 h2
   simp [List.getD_eq_getElem?_getD,List.getElem?_eq_getElem h2]
 unfold gZ
 rwa [h2] at h1
theorem wR {l:List En} {N:List ByteArray} (h:N.Perm ((eo l).map (·.1))):d7 N=bE l:=by
 have hnd:N.Nodup:=(h.nodup_iff).2 (gt l [] (by simp))
 have hp:=List.mergeSort_perm N fun x y=>!(ltOf iJ) y x
 have hs:(d7 N).Pairwise fun a b=>(!(ltOf iJ) b a)=true:=List.pairwise_mergeSort (fun a b c h1 h2=>by
  simp only [Bool.not_eq_true'] at *
  exact gN.ntrans c b a h2 h1) (fun a b=>by
  cases h1:ltOf iJ b a with
  | false=>rfl
  | true =>
   cases h2:ltOf iJ a b with
   | false=>rfl
   | true=>have:=gN.trans _ _ _ h1 h2;rw [gN.irrefl] at this;cases this) N
 have hn2:(d7 N).Nodup:=(hp.nodup_iff).2 hnd
 refine qQ ?_ (fD l) fun x=>?_
 ·refine (hs.and hn2).imp fun {a b} ⟨h1,h2⟩=>?_
  rw [s9,Bool.not_eq_true'] at h1
  exact mw h1 (fun e=>h2 e.symm)
 ·show x∈N.mergeSort (fun x y=>!(ltOf iJ) y x)↔_
  rw [hp.mem_iff,h.mem_iff,dC]
  show x∈(dL [] l).map (·.1)↔_
  rw [jd]
  simp
theorem I9 (g:Lg) (n:Int) {R:Lg×List Tm×Int} (hR:dF g n=R):FSpec prog 160 [g.a,.one (.sc (.int .i64 n))] [] [] (JZ R) []:=by
 refine aS func160 ?_
 obtain ⟨v,hv⟩:∃v,jk g.entries g.saves=v:=⟨_,rfl⟩
 have kV:=zq g.entries g.saves hv
 have hV:qY g=v:=hv
 cases v with
 | false =>
  obtain rfl:R=(.zero,[],2):=by rw [←hR];simp [dF,hV]
  repeat' (first
   | refine ah ?_ ?_
   | refine aa 9 rfl (cB [] (kV) ?_)
   | refine af ?_
   | exact ai|refine ae fun hb=>?_
   | (refine f9 (qf []) ?_;exact ab))
 | true =>
  obtain ⟨h1,h2⟩:=gp hV
  have hat:=CP hv
  by_cases hf:n≠0∧aT n 0 g.saves<0
  case pos =>
   obtain ⟨hn0,hf⟩:=hf
   obtain rfl:R=(.zero,[],10):=by rw [←hR];simp [dF,hV,hn0,hf]
   have kP:=nN g.saves n rfl
   repeat' (first
    | refine ah ?_ ?_
    | (refine aa 9 rfl ?_;first
     | (refine cB [] (kV) ?_)
     | (refine cB [] (kP) ?_))
    | refine af ?_
    | exact ai|refine ae fun hb=>?_
    | (refine f9 (qf []) ?_;exact ab))
  obtain ⟨a,sv,hX,ha,hsv,hcase⟩:∃(a sv:Nat),cc g n=⟨g.entries.take a,g.saves.take sv⟩∧a≤g.entries.length∧sv≤g.saves.length∧((n=0∧a=0∧sv=0)∨(n≠0∧∃(i:Nat) (lab:Int),g.saves[i]? = some (⟨lab,(a:Int)⟩:Sv)∧aT n 0 g.saves=(i:Int)∧sv=i+1)):=by
   by_cases hn:n=0
   ·exact ⟨0,0,by simp [cc,hn],by omega,by omega,.inl ⟨hn,rfl,rfl⟩⟩
   ·obtain ⟨i,hi,he,_⟩:=jN (n:=n) (l:=g.saves) (k:=0) (by by_cases h:aT n 0 g.saves<0;exact absurd ⟨hn,h⟩ hf;omega)
    have he2:aT n 0 g.saves=(i:Int):=by rw [he];simp
    have:=hat _ (List.getElem_mem hi)
    have e9:((g.saves[i].at_.toNat:Nat):Int)=g.saves[i].at_:=Int.toNat_of_nonneg this.1
    exact ⟨g.saves[i].at_.toNat,i+1,by simp [cc,hn,he2,hi,List.getD_eq_getElem?_getD],by omega,by omega,.inr ⟨hn,i,g.saves[i].label,by rw [e9];exact List.getElem?_eq_getElem hi,he2,rfl⟩⟩
  have hl1:(g.entries.take a).length=a:=by simp;omega
  obtain ⟨E',hE'⟩:∃E',g.entries.take a=E':=⟨_,rfl⟩
  obtain ⟨S',hS'⟩:∃S',g.saves.take sv=S':=⟨_,rfl⟩
  obtain ⟨D',hD'⟩:∃D',g.entries.drop a=D':=⟨_,rfl⟩
  have hD2:g.entries.drop ((a:Int)).toNat=D':=by rw [Int.toNat_natCast];exact hD'
  obtain ⟨H,hH⟩:∃H:ByteArray→Am,az E'=H:=⟨_,rfl⟩
  obtain ⟨M,hM⟩:∃M,(bE D').map (mZ H)=M:=⟨_,rfl⟩
  obtain rfl:R=(⟨E',S'⟩,M,0):=by
   rw [←hR,←hM]
   unfold dF
   rw [hX,hV,hl1,hE',hS',hD']
   rcases hcase with ⟨rfl,_⟩|⟨h0,i,_,hi,he,_⟩
   ·simp [mZ,←hH]
   ·have hi0:¬((i:Int)<0):=by omega
    simp [h0,he,hi0,mZ,←hH]
  have kC:=HW g a sv ha hsv (by omega) (by omega) hE' hS'
  have k1:=zp E'
  have k2:=zp D'
  have hg:∀x,nL x (eo E')=H x:=fun x=>by rw [gx,hH]
  obtain ⟨m,hm⟩:∃m,eo D'=m:=⟨_,rfl⟩
  have hfin:∀seen:List Nat,seen.Nodup→(∀j∈seen,j<m.length)→(∀j,j<m.length→j∈seen)→(d7 (gZ m seen)).map (mZ H)=M:=fun seen q1 q2 q3=>by
   rw [←hM,←wR (N:=gZ m seen) (by rw [hm];exact wQ q1 q2 q3)]
  have hm9:m.length≤100000:=by
   have q1:=mV D'
   have q2:=fY D' []
   have q3:D'.length≤72:=by rw [←hD'];simp;omega
   rw [hm] at q1
   unfold bE at q1
   simp at q2
   omega
  rw [hm] at k2
  generalize eo E'=m0 at *
  clear hR hf hX hV hv hat hl1 hM hm hH hE' hS' hD'
  rcases hcase with ⟨rfl,rfl,rfl⟩|⟨h0,i,lab,hi,he,rfl⟩
  case' inl =>
   repeat' (first
    | refine ah ?_ ?_
    | (refine aa 9 rfl ?_;first
     | (refine cB [] (kV) ?_)
     | (refine cH (qf [(1,1001),(2,1002)]) (kC) ?_))
    | ((fail_if_success (first|refine mC 10 ?_|refine mD 10 ?_));refine af ?_)
    | exact ai|refine ae fun hb=>?_)
  case' inr =>
   have kP:=nN g.saves n he
   have hi9:i<g.saves.length:=(List.getElem?_eq_some_iff.1 hi).1
   repeat' (first
    | refine ah ?_ ?_
    | (refine aa 9 rfl ?_;first
     | (refine cB [] (kV) ?_)
     | (refine cB [] (kP) ?_)
     | (refine cH (qf [(1,1001),(2,1002)]) (kC) ?_))
    | ((fail_if_success (first|refine mC 10 ?_|refine mD 10 ?_));refine af ?_)
    | exact ai|refine ae fun hb=>?_)
  all_goals
   refine g9 1001 rfl ?_
   refine g9 1002 rfl ?_
   repeat' (first
    | refine ah ?_ ?_
    | (refine aa 9 rfl ?_;first
     | (refine cH (qf [(0,1003)]) (k1) ?_)
     | (refine cH (qf [(0,1004)]) (k2) ?_))
    | (refine aa 14 rfl ?_;first|refine sx (lS (z:=((0:Nat):Int)) rfl rfl rfl rfl (by omega) (by omega) hD2) ?_|refine sx (lS (z:=(a:Int)) rfl rfl rfl rfl (by omega) (by omega) hD2) ?_)
    | (refine aa 25 rfl ?_;refine sx (s8 qP rfl rfl rfl rfl) ?_)
    | refine af ?_
    | exact ai|refine ae fun hb=>?_)
   refine b8 12 1000 39 bV rfl rfl rfl ?_
   refine aj (fun seen:List Nat=>seen.Nodup∧∀j∈seen,j<m.length) (fun seen=>bH [4,10,47,1000,1003,1004] [(4,.c (.ptr 4 0)),(10,.c (.ptr 10 0)),(11,.c (.own 1003)),(12,.c (.own 1000)),(47,.c (.own 47))] [(4,.box 61 [.sc (.slice none 0 0),.sc (.slice none 0 0)]),(10,.box 61 [.sl jP E',.sl lw S']),(47,.it 1004 (ut m).length seen),(1000,.arr 39 bV ((gZ m seen).map (mZ H))),(1003,.mp (ut m0)),(1004,.mp (ut m))]) (fun seen=>m.length-seen.length) [] ⟨by simp,by simp⟩ (by exact ao (qf [])) ?_
   rintro seen ⟨hn,hs⟩
   refine pE (zr (L:=ut m) (n:=(ut m).length) rfl rfl rfl rfl rfl rfl rfl rfl rfl rfl rfl rfl (fun j hj hjs=>?_) (fun hall=>?_))
   ·have hj:j<m.length:=by simpa [ji] using hj
    obtain ⟨x,hx⟩:∃x,m[j]? = some x:=⟨_,List.getElem?_eq_getElem hj⟩
    have hx2:(ut m)[j]? = some (.string x.1,Hw x.2):=by simp [ji,hx]
    have hT:=A7 (seen:=seen) hx
    have hls:=iK hn hs
    have hn2:(seen++[j]).Nodup:=List.nodup_append.2 ⟨hn,by simp,fun b hb c hc=>by rw [List.mem_singleton] at hc;subst hc;exact fun e=>hjs (e▸hb)⟩
    have hs2:∀k∈seen++[j],k<m.length:=fun k hk=>by
     rcases List.mem_append.1 hk with hk|hk
     ·exact hs k hk
     ·rw [List.mem_singleton] at hk;subst hk;exact hj
    have hls2:=iK hn2 hs2
    have hcl:((gZ m seen).map (mZ H)).length≤100000:=by
     unfold gZ
     have:=List.length_filterMap_le (fun j=>m[j]?) seen
     simp
     omega
    generalize hC:(gZ m seen).map (mZ H)=C at *
    show AW _ _ _ _ _ _
    repeat' (first
     | refine ah ?_ ?_
     | (refine aa 8 rfl ?_;refine bg (aw rfl rfl (aL rfl rfl) (aP [mZ H x.1] rfl rfl rfl rfl) rfl aR aR) rfl rfl rfl ?_)
     | (refine aa 23 rfl ?_;refine sx (kY _ _ qP yh uw rfl rfl rfl rfl (hg x.1)) ?_)
     | (refine aa 27 rfl ?_;refine sx (nO (y:=x.2.a) rfl rfl rfl rfl rfl hx2 (fun _ _ _=>⟨_,rfl,rfl,rfl,trivial⟩) (fun _=>rfl)) ?_)
     | refine af ?_
     | exact ai|refine ae fun hb=>?_)
    refine ⟨seen++[j],⟨hn2,hs2⟩,by simp at hls2 ⊢;omega,?_⟩
    rw [hT,List.map_append,hC]
    exact ao (qf [(1000,59)])
   ·have hM:=hfin seen hn hs fun j hj=>hall j (by simpa [ji] using hj)
    have kS:=DK H (gZ m seen) (by
     unfold gZ
     have:=List.length_filterMap_le (fun j=>m[j]?) seen
     have:=iK hn hs
     simp
     omega)
    rw [hM] at kS
    show AW _ _ _ _ _ _
    repeat' (first
     | refine ah ?_ ?_
     | refine aa 9 rfl (cH (qf [(0,1000)]) (kS) ?_)
     | refine af ?_
     | exact ai|refine ae fun hb=>?_
     | (refine f9 (qf []) ?_;exact ab))
theorem dq (g:Lg):FSpec prog 49 [g.a] [] [] (.b (qY g)) []:=zq g.entries g.saves rfl
theorem ux (g:Lg) (h1:g.entries.length≤72) (h2:g.saves.length≤4):FSpec prog 226 [g.a,.one (.sc (.int .i64 (g.entries.length:Nat))),.one (.sc (.int .i64 (g.saves.length:Nat)))] [] [1,2] (.v (.ag [.own 1,.own 2])) [(1,some (.arr 141 jP g.entries)),(2,some (.arr 143 lw g.saves))]:=HW g g.entries.length g.saves.length (Nat.le_refl _) (Nat.le_refl _) (by omega) (by omega) (List.take_length ..) (List.take_length ..)
theorem Ja (g:Lg) (h1:g.entries.length≤72) (h2:g.saves.length≤4):FSpec prog 226 [g.a,.one (.sc (.int .i64 0)),.one (.sc (.int .i64 (g.saves.length:Nat)))] [] [1,2] (.v (.ag [.own 1,.own 2])) [(1,some (.arr 141 jP [])),(2,some (.arr 143 lw g.saves))]:=HW g 0 g.saves.length (by omega) (Nat.le_refl _) (by omega) (by omega) rfl (List.take_length ..)
theorem DL (g:Lg) (e:En) {R:Lg×Int} (hR:fd g e=R):FSpec prog 320 [g.a,e.a] [] [] (IU R) []:=by
 refine aS func320 ?_
 cases hV:qY g with
 | false =>
  obtain rfl:R=(.zero,2):=by rw [←hR];simp [fd,hV]
  repeat' (first
   | refine ah ?_ ?_
   | refine aa 9 rfl (cB [] (dq g) ?_)
   | refine af ?_
   | exact ai|refine ae fun hb=>?_
   | (refine fL (qf []) ?_;exact ab))
 | true =>
  obtain ⟨h1,h2⟩:=gp hV
  cases hV2:qY ⟨g.entries++[e],g.saves⟩ with
  | false =>
   obtain rfl:R=(.zero,1):=by rw [←hR];simp [fd,hV,hV2]
   repeat' (first
    | refine ah ?_ ?_
    | (refine aa 8 rfl ?_;refine bg (aw rfl rfl (aL rfl rfl) (aP [e] rfl rfl rfl rfl) rfl aR aR) rfl rfl rfl ?_)
    | (refine aa 9 rfl ?_;first
     | (refine cB [] (dq g) ?_)
     | (refine cH (qf [(1,1000),(2,1001)]) (ux g h1 h2) ?_)
     | (refine cB [23,1001] (dq ⟨g.entries++[e],g.saves⟩) ?_))
    | refine af ?_
    | exact ai|refine ae fun hb=>?_
    | (refine fL (qf []) ?_;exact ab))
  | true =>
   obtain rfl:R=(⟨g.entries++[e],g.saves⟩,0):=by rw [←hR];simp [fd,hV,hV2]
   repeat' (first
    | refine ah ?_ ?_
    | (refine aa 8 rfl ?_;refine bg (aw rfl rfl (aL rfl rfl) (aP [e] rfl rfl rfl rfl) rfl aR aR) rfl rfl rfl ?_)
    | (refine aa 9 rfl ?_;first
     | (refine cB [] (dq g) ?_)
     | (refine cH (qf [(1,1000),(2,1001)]) (ux g h1 h2) ?_)
     | (refine cB [23,1001] (dq ⟨g.entries++[e],g.saves⟩) ?_))
    | refine af ?_
    | exact ai|refine ae fun hb=>?_
    | (refine fL (qf []) ?_;exact ab))
theorem HY (g:Lg) (n:Int) {R:Lg×Int} (hR:el g n=R):FSpec prog 159 [g.a,.one (.sc (.int .i64 n))] [] [] (IU R) []:=by
 refine aS func159 ?_
 cases hV:qY g with
 | false =>
  obtain rfl:R=(.zero,2):=by rw [←hR];simp [el,hV]
  repeat' (first
   | refine ah ?_ ?_
   | refine aa 9 rfl (cB [] (dq g) ?_)
   | refine af ?_
   | exact ai|refine ae fun hb=>?_
   | (refine fL (qf []) ?_;exact ab))
 | true =>
  obtain ⟨h1,h2⟩:=gp hV
  by_cases hn:1≤n∧n≤99
  case neg =>
   obtain rfl:R=(.zero,1):=by
    rw [←hR];unfold el;rw [hV]
    have:(decide (1≤n) && decide (n≤99))=false:=by rw [Bool.and_eq_false_iff];simp;omega
    rw [this];rfl
   repeat' (first
    | refine ah ?_ ?_
    | refine aa 9 rfl (cB [] (dq g) ?_)
    | refine af ?_
    | exact ai|refine ae fun hb=>?_
    | (refine fL (qf []) ?_;exact ab))
  obtain ⟨hn1,hn2⟩:=hn
  by_cases hf:0≤aT n 0 g.saves
  case pos =>
   obtain rfl:R=(.zero,11):=by rw [←hR];simp [el,hV,hn1,hn2,hf]
   repeat' (first
    | refine ah ?_ ?_
    | (refine aa 9 rfl ?_;first
     | (refine cB [] (dq g) ?_)
     | (refine cB [] (nN g.saves n rfl) ?_))
    | refine af ?_
    | exact ai|refine ae fun hb=>?_
    | (refine fL (qf []) ?_;exact ab))
  by_cases h4:g.saves.length=4
  case pos =>
   obtain rfl:R=(.zero,4):=by rw [←hR];simp [el,hV,hn1,hn2,hf,h4]
   repeat' (first
    | refine ah ?_ ?_
    | (refine aa 9 rfl ?_;first
     | (refine cB [] (dq g) ?_)
     | (refine cB [] (nN g.saves n rfl) ?_))
    | refine af ?_
    | exact ai|refine ae fun hb=>?_
    | (refine fL (qf []) ?_;exact ab))
  obtain rfl:R=(⟨g.entries,g.saves++[⟨n,g.entries.length⟩]⟩,0):=by rw [←hR];simp [el,hV,hn1,hn2,hf,h4]
  repeat' (first
   | refine ah ?_ ?_
   | (refine aa 8 rfl ?_;refine bg (aw rfl rfl (aL rfl rfl) (aP [⟨n,g.entries.length⟩] rfl rfl rfl rfl) rfl aR aR) rfl rfl rfl ?_)
   | (refine aa 9 rfl ?_;first
    | (refine cB [] (dq g) ?_)
    | (refine cB [] (nN g.saves n rfl) ?_)
    | (refine cH (qf [(1,1000),(2,1001)]) (ux g h1 h2) ?_))
   | refine af ?_
   | exact ai|refine ae fun hb=>?_
   | (refine fL (qf []) ?_;exact ab))
theorem H0 (g:Lg) (n:ByteArray) {R:Lg×Bool} (hR:ip g n=R):FSpec prog 157 [g.a,.one (.sc (.string n))] [] [] (IW R) []:=by
 refine aS func157 ?_
 cases hV:qY g with
 | false =>
  obtain rfl:R=(.zero,false):=by rw [←hR];simp [ip,hV]
  repeat' (first
   | refine ah ?_ ?_
   | refine aa 9 rfl (cB [] (dq g) ?_)
   | refine af ?_
   | exact ai|refine ae fun hb=>?_
   | (refine fL (qf []) ?_;exact ab))
 | true =>
  obtain ⟨h1,h2⟩:=gp hV
  have hat:=CP hV
  obtain ⟨E,hE⟩:∃E,g.entries=E:=⟨_,rfl⟩
  obtain ⟨S,hS⟩:∃S,g.saves=S:=⟨_,rfl⟩
  have kC:=Ja g h1 h2
  repeat' (first
   | refine ah ?_ ?_
   | (refine aa 9 rfl ?_;first
    | (refine cB [] (dq g) ?_)
    | (refine cH (qf [(1,1000),(2,1001)]) (kC) ?_))
   | refine af ?_
   | exact ai|refine ae fun hb=>?_)
  have hX:fT g n=⟨E.filter (oth n),S.map (jo n E E.length)⟩:=by
   unfold fT
   rw [←hE,←hS]
   congr 1
   refine List.map_congr_left fun x hx=>?_
   obtain ⟨k1,k2⟩:=hat x hx
   exact (Fc k1 k2).symm
  have hatS:∀x∈S,0≤x.at_∧x.at_≤E.length:=by rw [←hE,←hS];exact hat
  have hst:ip g n=bif decide ((E.filter (oth n)).length=E.length) then (.zero,false) else (⟨E.filter (oth n),S.map (jo n E E.length)⟩,true):=by
   unfold ip
   rw [hV,hX,hE]
   rfl
  rw [hst] at hR
  have hf72:∀i,((E.take i).filter (oth n)).length≤i:=fun i=>by
   have:=List.length_filter_le (oth n) (E.take i)
   rw [List.length_take] at this
   omega
  have hE72:E.length≤72:=by rw [←hE];exact h1
  have hS4:S.length≤4:=by rw [←hS];exact h2
  clear hat hst hX h1 hb
  refine aj (fun i=>i≤E.length) (fun i=>bH [2,4,6,1000,1001] [(1,.c (.sc (.string n))),(2,.c (.ptr 2 0)),(4,.c (.ptr 4 0)),(6,.c (.ptr 6 0)),(21,.c (.sl jP E)),(22,.i E.length),(23,.i i)] [(2,.box 61 [.sl jP E,.sl lw S]),(4,.box 61 [.sc (.slice none 0 0),.sc (.slice none 0 0)]),(6,.box 61 [.own 1000,.own 1001]),(1000,.arr 141 jP ((E.take i).filter (oth n))),(1001,.arr 143 lw (S.map (jo n E i)))]) (fun i=>E.length-i) 0 (Nat.zero_le _) (by rw [show jo n E 0=id from funext (CQ n E),List.map_id];subst hE hS;exact ao (qf [])) ?_
  rintro i hi
  try dsimp only at *
  by_cases hlt:i<E.length
  case neg =>
   obtain rfl:i=E.length:=by omega
   rw [List.take_length]
   by_cases hfl:(E.filter (oth n)).length=E.length
   ·obtain rfl:R=(.zero,false):=by rw [←hR,decide_eq_true hfl];rfl
    repeat' (first
     | refine ah ?_ ?_
     | refine af ?_
     | exact ai|(refine ae fun hb=>?_;first|(exact absurd (Int.ofNat.inj hb) (by omega))|skip)
     | (refine fL (qf []) ?_;exact ab))
   ·obtain rfl:R=(⟨E.filter (oth n),S.map (jo n E E.length)⟩,true):=by rw [←hR,decide_eq_false hfl];rfl
    repeat' (first
     | refine ah ?_ ?_
     | refine af ?_
     | exact ai|(refine ae fun hb=>?_;first|(exact absurd (Int.ofNat.inj hb) hfl)|skip)
     | (refine fL (qf []) ?_;exact ab))
  obtain ⟨e,he⟩:∃e,E[i]=e:=⟨_,rfl⟩
  have hge:E[i]? = some e:=by rw [List.getElem?_eq_getElem hlt,he]
  by_cases hnm:e.name.toList=n.toList
  case neg =>
   have ho:oth n e=true:=by simp [oth,aY,hnm]
   have hf1:=hf72 i
   repeat' (first
    | refine ah ?_ ?_
    | (refine aa 8 rfl ?_;refine bg (aw rfl rfl (aL rfl rfl) (aP [e] rfl rfl rfl rfl) rfl aR aR) rfl rfl rfl ?_)
    | refine af ?_
    | exact ai|refine ae fun hb=>?_)
   refine ⟨i+1,by omega,by omega,?_⟩
   have e1:(E.take (i+1)).filter (oth n)=(E.take i).filter (oth n)++[e]:=by rw [List.take_succ_eq_append_getElem hlt,he,List.filter_append];simp [ho]
   have e2:S.map (jo n E (i+1))=S.map (jo n E i):=List.map_congr_left fun x _=>CR hlt (by rw [he];exact ho) x
   rw [e1,e2]
   exact ao (qf [(1000,36)])
  have ho:oth n e=false:=by simp [oth,aY,hnm]
  have ho':oth n E[i]=false:=by rw [he];exact ho
  have e1:(E.take (i+1)).filter (oth n)=(E.take i).filter (oth n):=by rw [List.take_succ_eq_append_getElem hlt,he,List.filter_append];simp [ho]
  repeat' (first
   | refine ah ?_ ?_
   | refine af ?_
   | exact ai|refine ae fun hb=>?_)
  refine aj (fun k=>k≤S.length) (fun k=>bH [2,4,6,1000,1001] [(1,.c (.sc (.string n))),(2,.c (.ptr 2 0)),(4,.c (.ptr 4 0)),(6,.c (.ptr 6 0)),(7,.i i),(21,.c (.sl jP E)),(22,.i E.length),(23,.i i),(39,.c (.sl lw S)),(40,.i S.length),(41,.i k)] [(2,.box 61 [.sl jP E,.sl lw S]),(4,.box 61 [.sc (.slice none 0 0),.sc (.slice none 0 0)]),(6,.box 61 [.own 1000,.own 1001]),(1000,.arr 141 jP ((E.take i).filter (oth n))),(1001,.arr 143 lw (y5 n E S i k))]) (fun k=>S.length-k) 0 (Nat.zero_le _) (by rw [CT];exact ao (qf [])) ?_
  rintro k hk
  try dsimp only at *
  have hdl:=uf (n:=n) (E:=E) (S:=S) (i:=i) (k:=k)
  by_cases hlk:k<S.length
  case neg =>
   have hend:=Fd (n:=n) (E:=E) (S:=S) (i:=i) (k:=k) (by omega)
   rw [hend] at hdl ⊢
   clear hend
   repeat' (first
    | refine ah ?_ ?_
    | refine af ?_
    | exact ai|refine ae fun hb=>?_)
   refine ⟨i+1,by omega,by omega,?_⟩
   rw [e1]
   exact ao (qf [])
  obtain ⟨x,hx⟩:∃x,S[k]=x:=⟨_,rfl⟩
  have hgx:S[k]? = some x:=by rw [List.getElem?_eq_getElem hlk,hx]
  have hgd:=CU (n:=n) (E:=E) (i:=i) hlk
  rw [hx] at hgd
  obtain ⟨k1,k2⟩:=hatS x (hx▸List.getElem_mem hlk)
  have hyb:=xS (n:=n) (E:=E) (i:=i) k1
  obtain ⟨y,hy⟩:∃y,jo n E i x=y:=⟨_,rfl⟩
  by_cases hgt:(i:Int)<x.at_
  ·have hz:jo n E (i+1) x=⟨x.label,y.at_-1⟩:=by rw [CS hlt ho' hgt,hy]
   have hyl:y.label=x.label:=by rw [←hy];rfl
   rw [hy] at hgd hyb
   have hset:=y6 (i:=i) (n:=n) (E:=E) hlk (z:=⟨y.label,y.at_-1⟩) (by rw [hx,hz,hyl])
   repeat' (first
    | refine ah ?_ ?_
    | refine af ?_
    | (refine aa 4 rfl ?_;refine bc (aB (z:=⟨y.label,y.at_-1⟩) rfl rfl rfl rfl hgd rfl rfl rfl rfl (Nat.le_of_ble_eq_true rfl) rfl rfl) rfl rfl rfl ?_)
    | exact ai|refine ae fun hb=>?_)
   refine ⟨k+1,by omega,by omega,?_⟩
   rw [←hset]
   exact ao (qf [])
  ·have hsm:=CV (n:=n) (E:=E) (i:=i) hlk (by rw [hx];exact Fb (by omega))
   repeat' (first
    | refine ah ?_ ?_
    | refine af ?_
    | exact ai|refine ae fun hb=>?_)
   refine ⟨k+1,by omega,by omega,?_⟩
   rw [←hsm]
   exact ao (qf [])
theorem DM (d:Nat) (w:Wk) (i:Nat) {x:Pc} (n:ByteArray) (hx:w.c.procs[i]? = some x) (hV:df w.c.queues=true) (hn:aO w.c.queues n=true) (hne:(bw w x n).c.queues≠[]) (hl:w.ev.length≤800000) {Z:Wk} (hZ:bw w x n=Z):FSpec prog 217 [ov,pp i,.one (.sc (.string n))] (HP d w) [4] (.tup []) (HQ d Z):=by
 refine aS func217 ?_
 obtain ⟨j,hj,hF,hq⟩:=ue hn
 have hsh:=cz (cA hV (List.getElem_mem hj))
 obtain ⟨l,hL⟩:∃l,az x.led.entries n=l:=⟨_,rfl⟩
 have kL:=DJ x.led n hL
 obtain ⟨o,hw⟩:∃o,ap w.c.queues[j] x.proc=o:=⟨_,rfl⟩
 have kW:=d5 w.c.queues[j] x.proc hsh.2.1 hsh.2.2 hw
 unfold bw at hZ hne
 rw [hL] at hZ hne
 cases o with
 | none =>
  rw [Option.isSome_none] at kW
  rw [show fg w x.proc n=w by unfold fg;rw [hq,hw];rfl] at hZ hne
  have kB:=FF d w x.proc n l hn hne (by omega) hZ
  repeat' (first
   | refine ah ?_ ?_
   | (refine aa 9 rfl ?_;first
    | (refine cB [] (gM w.c.queues n hF) ?_)
    | (refine cB [] (kW) ?_)
    | (refine cB [] (kL) ?_)
    | (refine cH (qf [(0,0),(1,1),(2,2),(4,1004)]) (kB) ?_))
   | (refine aa 21 rfl ?_;refine sx (ay rfl rfl) ?_)
   | refine af ?_
   | exact ai|(refine ae fun hb=>?_;first|(omega)|skip)
   | (exact sE (qf [(4,1004)])))
 | some m =>
  rw [Option.isSome_some] at kW
  have hcl:=ow w.c.queues x.proc n
  obtain ⟨ec,hst,_⟩:=qj (p:=x.proc) hV hn (by rw [hq,hw];rfl)
  have h0:(bM w.c.queues x.proc n).2.2=0:=by rw [ec]
  rw [show fg w x.proc n=gW w x.proc n by unfold fg;rw [hq,hw];rfl] at hZ hne
  unfold gW at hZ hne
  have hn2:aO (w.take (bM w.c.queues x.proc n).1 (bM w.c.queues x.proc n).2.1).c.queues n=true:=by
   show aO (bM w.c.queues x.proc n).1 n=true
   rw [hst.hasE];exact hn
  have hev:(w.take (bM w.c.queues x.proc n).1 (bM w.c.queues x.proc n).2.1).ev.length≤900000:=by rw [mM];omega
  have kB:=FF d _ x.proc n l hn2 hne hev hZ
  obtain ⟨C,hC⟩:∃C,bM w.c.queues x.proc n=C:=⟨_,rfl⟩
  have kC:=Du w.c.queues x.proc n hC
  rw [hC] at h0 hcl kB
  obtain ⟨C1,C2,C3⟩:=C
  obtain rfl:C3=0:=h0
  have kT:=zo d w C1 C2 (by dsimp only at hcl;omega)
  obtain ⟨w1,hw1⟩:∃w1,w.take C1 C2=w1:=⟨_,rfl⟩
  have hp1:w1.c.procs=w.c.procs:=by rw [←hw1];rfl
  rw [show (w.take (C1,C2,(0:Int)).1 (C1,C2,(0:Int)).2.1)=w1 from hw1] at kB
  rw [hw1] at kT
  have hx1:w1.c.procs[i]? = some x:=by rw [hp1];exact hx
  clear hne hZ hst ec hn2 hev hC hw1 hp1
  repeat' (first
   | refine ah ?_ ?_
   | (refine aa 9 rfl ?_;first
    | (refine cB [] (gM w.c.queues n hF) ?_)
    | (refine cB [] (kW) ?_)
    | (refine cB [] (kL) ?_)
    | (refine cC [] (kC) ?_)
    | (refine cH (qf [(0,0),(1,1),(2,2),(4,1004)]) (kT) ?_)
    | (refine cH (qf [(0,0),(1,1),(2,1004),(4,1006)]) (kB) ?_))
   | (refine aa 21 rfl ?_;refine sx (ay rfl rfl) ?_)
   | refine af ?_
   | exact ai|(refine ae fun hb=>?_;first|(omega)|skip)
   | (exact sE (qf [(4,1006)])))
def Kd (x:Pc) (l:List Tm) (w:Wk):Prop:=Fa x l w∧(c9 x l w).c.queues≠[]∧w.ev.length+35*l.length≤800000
theorem nP (d:Nat) (w:Wk) (i:Nat) {x:Pc} (hx:w.c.procs[i]? = some x) (hok:cj x.req.expr=[]∨Kd x (cj x.req.expr) w) {Z:Wk} (hZ:aC w i=Z):FSpec prog 152 [ov,pp i] (HP d w) [4] (.tup []) (HQ d Z):=by
 refine aS func152 ?_
 have hi:=(List.getElem?_eq_some_iff.1 hx).1
 have hpc:=gf hx
 have hW:aC w i=gI (c9 x (cj x.req.expr) w) i:=by unfold aC;rw [hpc]
 rw [hW] at hZ
 have h8:=dN x.req.expr
 obtain ⟨L,hL⟩:∃L,cj x.req.expr=L:=⟨_,rfl⟩
 have kA:=jW d x.req.expr hL
 rw [hL] at hZ h8 hok
 obtain ⟨F,hF⟩:∃F,c9 x L w=F:=⟨_,rfl⟩
 have hFp:F.c.procs=w.c.procs:=by rw [←hF];exact fo x L w
 have hFx:F.c.procs[i]? = some x:=by rw [hFp];exact hx
 rw [hF] at hZ
 have kR:=Gg d F.c.procs i hFx
 obtain rfl:F.setP i { x with waiting:=false,req:=Rq.zero,since:=0 } = Z:=by rw [←hZ];unfold gI;rw [gf hFx]
 clear hZ hW
 repeat' (first
  | refine ah ?_ ?_
  | refine aa 9 rfl (cC [] (kA) ?_)
  | (refine aa 21 rfl ?_;refine sx (ay rfl rfl) ?_)
  | refine af ?_
  | exact ai|refine ae fun hb=>?_)
 refine aj (fun y:Nat×Wk=>y.1≤L.length∧c9 x (L.drop y.1) y.2=F∧y.2.c.procs[i]? = some x∧(L.drop y.1=[]∨Kd x (L.drop y.1) y.2)) (fun y=>bH [0,1,2,1011] [(0,.v ov),(1,.v (pp i)),(11,.c (.sl bV L)),(12,.i L.length),(13,.i y.1)] [(0,.box 85 (zn y.2 1011)),(1,.arr 63 (fh d) y.2.c.procs),(1011,.arr 67 i7 y.2.ev)]) (fun y=>L.length-y.1) (0,w) ⟨Nat.zero_le _,hF,hx,hok⟩ (by exact ao (qf [(1011,2)])) ?_
 rintro ⟨k,u⟩ ⟨hk,hu,hux,huo⟩
 dsimp only at *
 by_cases hlt:k<L.length
 ·rw [List.drop_eq_getElem_cons hlt] at hu huo
  obtain ⟨⟨u1,u2,u3,u4⟩,u5,u6⟩:=huo.resolve_left (List.cons_ne_nil _ _)
  obtain ⟨a,ha⟩:∃a,L[k]=a:=⟨_,rfl⟩
  have hga:L[k]? = some a:=by rw [List.getElem?_eq_getElem hlt,ha]
  rw [ha] at hu u2 u4 u5
  have hne:(bw u x a.name).c.queues≠[]:=fun h=>u5 (sZ (l:=L.drop (k+1)) (w:=bw u x a.name) h)
  have hev:=iE u x a.name
  rw [List.length_cons] at u6
  obtain ⟨z,hz⟩:∃z,bw u x a.name=z:=⟨_,rfl⟩
  have kL:=DM d u i a.name hux u1 u2 hne (by omega) hz
  have hzp:z.c.procs=u.c.procs:=by rw [←hz];exact jS u x a.name
  have hu:c9 x (L.drop (k+1)) z=F:=by rw [←hz];exact hu
  rw [hz] at u4 hev
  have u5:(c9 x (L.drop (k+1)) z).c.queues≠[]:=by rw [←hz];exact u5
  clear hne hok hF hz
  repeat' (first
   | refine ah ?_ ?_
   | refine aa 9 rfl (cH (qf [(0,0),(1,1),(2,1011),(4,1020)]) (kL) ?_)
   | refine af ?_
   | exact ai|refine ae fun hb=>?_)
  refine ⟨(k+1,z),⟨by dsimp only;omega,hu,by dsimp only;rw [hzp];exact hux,.inr ⟨u4,u5,by dsimp only;omega⟩⟩,by dsimp only;omega,?_⟩
  dsimp only
  exact ao (qf [(1011,1020)])
 ·rw [List.drop_eq_nil_of_le (by omega)] at hu
  obtain rfl:u=F:=hu
  repeat' (first
   | refine ah ?_ ?_
   | refine aa 9 rfl (cH (qf [(1,1)]) (kR) ?_)
   | refine af ?_
   | exact ai|refine ae fun hb=>?_
   | (exact sE (qf [(4,1011)])))
theorem FH (d:Nat) (w:Wk) (i:Nat) {x:Pc} (n:ByteArray) (hx:w.c.procs[i]? = some x) (hn:aO w.c.queues n=true) (hr:aq (aX w.c.queues n).holds x.proc=az x.led.entries n∨(fd x.led ⟨n,az x.led.entries n,aq (aX w.c.queues n).holds x.proc⟩).2=0) (hl:w.ev.length≤900000) {Z:Wk} (hZ:gS w i x.proc n=Z):FSpec prog 278 [ov,pp i,.one (.sc (.string n))] (HP d w) [4] (.tup []) (HQ d Z):=by
 refine aS func278 ?_
 obtain ⟨j,hj,hF,hq⟩:=ue hn
 have hpc:=gf hx
 unfold gS at hZ
 rw [hpc] at hZ
 rw [hq] at hZ hr
 obtain ⟨l,hL⟩:∃l,az x.led.entries n=l:=⟨_,rfl⟩
 have kL:=DJ x.led n hL
 obtain ⟨h,hh⟩:∃h,aq w.c.queues[j].holds x.proc=h:=⟨_,rfl⟩
 have kH:=dZ w.c.queues[j] x.proc
 rw [hh] at kH
 rw [hL,hh] at hZ hr
 by_cases hhl:h=l
 ·rw [decide_eq_true hhl] at hZ
  obtain rfl:w=Z:=hZ
  repeat' (first
   | refine ah ?_ ?_
   | (refine aa 9 rfl ?_;first
    | (refine cB [] (gM w.c.queues n hF) ?_)
    | (refine cB [] (kL) ?_)
    | (refine cB [] (kH) ?_))
   | (refine aa 21 rfl ?_;refine sx (ay rfl rfl) ?_)
   | refine af ?_
   | exact ai|(refine ae fun hb=>?_;first|(omega)|(exact absurd hhl.symm hb)|skip)
   | (exact sE (qf [(4,2)])))
 ·rw [decide_eq_false hhl,cond_false] at hZ
  have hr:=hr.resolve_left hhl
  obtain ⟨R,hR⟩:∃R,fd x.led ⟨n,l,h⟩=R:=⟨_,rfl⟩
  rw [hR] at hZ hr
  obtain ⟨R1,R2⟩:=R
  obtain rfl:R2=0:=hr
  obtain rfl:w.setP i { x with led:=R1 } = Z:=hZ
  have kR:=DL x.led ⟨n,l,h⟩ hR
  repeat' (first
   | refine ah ?_ ?_
   | (refine aa 9 rfl ?_;first
    | (refine cB [] (gM w.c.queues n hF) ?_)
    | (refine cB [] (kL) ?_)
    | (refine cB [] (kH) ?_)
    | (refine cC [] (kR) ?_))
   | (refine aa 21 rfl ?_;refine sx (ay rfl rfl) ?_)
   | refine af ?_
   | (refine aa 4 rfl ?_;refine bc (aB (z:={ x with led:=R1 }) rfl rfl rfl rfl hx rfl rfl rfl rfl (Nat.le_of_ble_eq_true rfl) rfl rfl) rfl rfl rfl ?_)
   | exact ai|(refine ae fun hb=>?_;first|(omega)|(exact absurd hb.symm hhl)|(exact absurd rfl hb)|skip)
   | (exact sE (qf [(4,2)])))
instance:ST prog cU 68 4 1:=⟨ElTB.mk' underlying68 (.bool false) 1 1 (by kernel_rfl) rfl rfl⟩
theorem zu (d:Nat) (x:Ex) (set:List Bool) (hset:set.length≤1000) {b:Bool} (hb:dw x set=b):FSpec prog 119 [x.a d,.one (.sl cU set)] [] [] (.b b) [] :=
 bY (fun b W=>by kernel_rfl) rfl fun w S ρ vs hS h=>by
  subst hb
  match vs,h with
  | [_,_],⟨h1,h2,_⟩ =>
   obtain ⟨A,c,rfl,hr,hc⟩:=Ex.open h1
   obtain ⟨A3,c3,rfl,hc3,hr3⟩:=h2
   exact (z7 d x A A3 c c3 w.heap.size set w ⟨Nat.le_trans hc.1 hc.2,Nat.le_refl _,hr.lo hS⟩ (hr3.lo hS) hset).mono fun _ _=>fK
theorem FI (d:Nat) (x:Ex) (L:List Tm) (set:List Bool) (hL:L.length≤1000) (hset:set.length≤1000):FSpec prog 193 [x.a d,.one (.sl bV L),.one (.sl cU set)] [] [] (.b (rj (ck L set) x)) [] :=
 bY (fun b W=>by kernel_rfl) rfl fun w S ρ vs hS h=>by
  match vs,h with
  | [_,_,_],⟨h1,h2,h3,_⟩ =>
   obtain ⟨A,c,rfl,hr,hc⟩:=Ex.open h1
   obtain ⟨A2,c2,rfl,hc2,hr2⟩:=h2
   obtain ⟨A3,c3,rfl,hc3,hr3⟩:=h3
   exact (sa d x A A2 A3 c c2 c3 w.heap.size L set w ⟨Nat.le_trans hc.1 hc.2,Nat.le_refl _,hr.lo hS⟩ (hr2.lo hS) hL (hr3.lo hS) hset).mono fun _ _=>fK
theorem A8 {set:List Bool} {n:Nat} (h:set.length=n):((List.range n).map fun i=>set.getD i false)=set:=by
 apply List.ext_getElem
 ·simp [h]
 ·intro i h1 h2
  simp [List.getD_eq_getElem?_getD,h2]
theorem H3 (d:Nat) (x:Ex) (set:List Bool) (hset:set.length=(cj x).length) {P:List Bool} (hP:cW x set=P):FSpec prog 277 [x.a d,.one (.sl cU set)] [] [] (.c (.sl cU P)) []:=by
 refine aS func277 ?_
 have hmk:prog.underlying 68=some (.slice 4):=underlying68
 have hib:(prog.info? 4).map (fun i=>(i.zero,i.size,i.bytes))=some (some (.bool false),1,1):=by kernel_rfl
 cases hv:ib x with
 | false =>
  have hL:=pw hv
  obtain rfl:[]=P:=by rw [←hP];simp [cW,dw,hv,hL]
  repeat' (first
   | refine ah ?_ ?_
   | refine aa 9 rfl (cC [] (jW d x hL) ?_)
   | (refine aa 20 rfl ?_;refine bg (km (E:=cU) (y0:=false) hmk hib rfl (by decide) rfl (fun _ _=>rfl) rfl rfl rfl rfl (by first|omega|simp)) rfl rfl rfl ?_)
   | refine af ?_
   | exact ai|(refine ae fun hb=>?_;first|(exact absurd rfl hb)|skip)
   | (refine aE (qf []) ?_;exact ab))
 | true =>
  obtain ⟨hsh,_,h8,h0,_⟩:=ni hv
  obtain ⟨L,hL⟩:∃L,cj x=L:=⟨_,rfl⟩
  rw [hL] at h8 h0 hset
  have kA:=jW d x hL
  have kh:=fun s (hs:s.length=L.length)=>FI d x L s (by omega) (by omega)
  cases hh:rj (ck L set) x with
  | false =>
   obtain rfl:List.replicate L.length false=P:=by rw [←hP];simp [cW,dw,hv,hL,hh]
   have k1:=kh set hset
   rw [hh] at k1
   repeat' (first
    | refine ah ?_ ?_
    | (refine aa 9 rfl ?_;first
     | (refine cC [] (kA) ?_)
     | (refine cB [] (k1) ?_))
    | (refine aa 20 rfl ?_;refine bg (km (E:=cU) (y0:=false) hmk hib rfl (by decide) rfl (fun _ _=>rfl) rfl rfl rfl rfl (by first|omega|simp)) rfl rfl rfl ?_)
    | refine af ?_
    | exact ai|refine ae fun hb=>?_
    | (refine aE (qf []) ?_;exact ab))
  | true =>
   have hp:i6 x L L.length set=P:=by rw [←hP];unfold cW dw;rw [hv,hL,hh,A8 hset];rfl
   have k1:=kh set hset
   rw [hh] at k1
   have hcp:set++(List.replicate L.length false).drop set.length=set:=by rw [List.drop_eq_nil_of_le (by simp;omega),List.append_nil]
   repeat' (first
    | refine ah ?_ ?_
    | (refine aa 9 rfl ?_;first
     | (refine sx (sV rfl rfl rfl (pI rfl) (by simp;omega) (by simp;omega) hcp) ?_)
     | (refine cC [] (kA) ?_)
     | (refine cB [] (k1) ?_))
    | (refine aa 20 rfl ?_;refine bg (km (E:=cU) (y0:=false) hmk hib rfl (by decide) rfl (fun _ _=>rfl) rfl rfl rfl rfl (by first|omega|simp)) rfl rfl rfl ?_)
    | refine af ?_
    | exact ai|(refine ae fun hb=>?_;first|(exfalso;omega)|skip))
   refine aj (fun y:Nat×List Bool=>y.1≤L.length∧y.2.length=L.length∧i6 x L y.1 y.2=P) (fun y=>bH [2,1000] [(2,.c (.ptr 2 0)),(5,.c (.sl bV L)),(6,.c (.own 1000)),(7,.i ((y.1:Int)-1))] [(2,.box 42 (x.d d)),(1000,.arr 4 cU y.2)]) (fun y=>y.1) (L.length,set) ⟨Nat.le_refl _,hset,hp⟩ (by exact ao (qf [(1000,12)])) ?_
   rintro ⟨k,out⟩ ⟨hk,hol,hs⟩
   dsimp only at *
   rcases Nat.eq_zero_or_pos k with h0|h0
   ·subst h0
    obtain rfl:out=P:=hs
    repeat' (first
     | refine ah ?_ ?_
     | refine af ?_
     | exact ai|refine ae fun hb=>?_
     | (refine aE (qf []) ?_;exact ab))
   ·obtain ⟨j,rfl⟩:∃j,k=j+1:=⟨k-1,by omega⟩
    obtain ⟨z,hz⟩:∃z,(((j+1:Nat):Int)-1).toNat=z:=⟨_,rfl⟩
    have hzj:z=j:=by omega
    obtain ⟨v,hgv⟩:∃v,out[(((j+1:Nat):Int)-1).toNat]? = some v:=⟨_,List.getElem?_eq_getElem (by omega)⟩
    have hgj:out.getD j false=v:=by rw [hz,hzj] at hgv;simp [List.getD_eq_getElem?_getD,hgv]
    have hstep:i6 x L (j+1) out=i6 x L j (bif out.getD j false then out.set j (!rj (ck L (out.set j false)) x) else out):=rfl
    rw [hstep,hgj] at hs
    cases v with
    | false =>
     repeat' (first
      | refine ah ?_ ?_
      | refine af ?_
      | exact ai|refine ae fun hb=>?_)
     refine ⟨(j,out),⟨by dsimp only;omega,hol,hs⟩,by dsimp only;omega,?_⟩
     exact ao (qf [])
    | true =>
     obtain ⟨o1,ho1⟩:∃o1,out.set (((j+1:Nat):Int)-1).toNat false=o1:=⟨_,rfl⟩
     have hl1:o1.length=L.length:=by rw [←ho1,List.length_set,hol]
     have hg1:o1[(((j+1:Nat):Int)-1).toNat]? = some false:=by rw [←ho1,List.getElem?_set_self (by omega)]
     have hs1:o1.set (((j+1:Nat):Int)-1).toNat true=out.set j true:=by rw [←ho1,List.set_set,hz,hzj]
     rw [show out.set j false=o1 by rw [←ho1,hz,hzj]] at hs
     have k2:=kh o1 hl1
     cases he:rj (ck L o1) x with
     | true =>
      rw [he] at hs k2
      rw [←ho1] at k2 hg1
      repeat' (first
       | refine ah ?_ ?_
       | refine aa 9 rfl (cB [1000] (k2) ?_)
       | refine af ?_
       | (refine aa 4 rfl ?_;refine bc (aB (z:=false) rfl rfl rfl rfl hgv rfl rfl rfl rfl (Nat.le_of_ble_eq_true rfl) rfl rfl) rfl rfl rfl ?_)
       | exact ai|refine ae fun hb=>?_)
      refine ⟨(j,o1),⟨by dsimp only;omega,hl1,by rw [←hs,←ho1,hz,hzj];rfl⟩,by dsimp only;omega,?_⟩
      dsimp only
      rw [←ho1]
      exact ao (qf [])
     | false =>
      rw [he] at hs k2
      rw [←ho1] at k2 hg1
      repeat' (first
       | refine ah ?_ ?_
       | refine aa 9 rfl (cB [1000] (k2) ?_)
       | refine af ?_
       | (refine aa 4 rfl ?_;first
        | (refine bc (aB (z:=false) rfl rfl rfl rfl hgv rfl rfl rfl rfl (Nat.le_of_ble_eq_true rfl) rfl rfl) rfl rfl rfl ?_)
        | (refine bc (aB (z:=true) rfl rfl rfl rfl hg1 rfl rfl rfl rfl (Nat.le_of_ble_eq_true rfl) rfl rfl) rfl rfl rfl ?_))
       | exact ai|refine ae fun hb=>?_)
      refine ⟨(j,out.set j true),⟨by dsimp only;omega,by simp [hol],hs⟩,by dsimp only;omega,?_⟩
      dsimp only
      rw [←hs1,←ho1]
      exact ao (qf [])
theorem mW (d:Nat) (t:List Qu) (x:Pc) {B:List Bool} (hB:bd t x.proc x.req.expr=B):FSpec prog 42 [.one (.sl dt t),x.a d] [] [] (.c (.sl cU B)) []:=by
 refine aS func42 ?_
 have h8:=dN x.req.expr
 obtain ⟨L,hL⟩:∃L,cj x.req.expr=L:=⟨_,rfl⟩
 have kA:=jW d x.req.expr hL
 have hBl:B.length=L.length:=by rw [←hB];simp [bd,hL]
 have hBg:∀i (h:i<L.length),B[i]'(by omega)=(aO t L[i].name && bb (aX t L[i].name).res (aq (aX t L[i].name).holds x.proc) L[i].am):=by
  intro i h
  simp only [←hB,bd,hL,List.getElem_map]
 rw [hL] at h8
 clear hB hL
 repeat' (first
  | refine ah ?_ ?_
  | refine aa 9 rfl (cC [] (kA) ?_)
  | refine af ?_
  | exact ai|refine ae fun hb=>?_)
 refine b8 5 1000 4 cU rfl rfl rfl ?_
 refine aj (fun i=>i≤L.length) (fun i=>bH [3,1000] [(0,.c (.sl dt t)),(3,.c (.ptr 3 0)),(5,.c (.own 1000)),(12,.c (.sl bV L)),(13,.i L.length),(14,.i i)] [(3,.box 63 (x.d d)),(1000,.arr 4 cU (B.take i))]) (fun i=>L.length-i) 0 (Nat.zero_le _) (by exact ao (qf [])) ?_
 intro i hi
 have hol:(B.take i).length=i:=by simp;omega
 by_cases hlt:i<L.length
 ·have hb1:=hBg i hlt
  have hst:B.take (i+1)=B.take i++[B[i]'(by omega)]:=List.take_succ_eq_append_getElem _
  obtain ⟨a,ha⟩:∃a,L[i]=a:=⟨_,rfl⟩
  have hga:L[i]? = some a:=by rw [List.getElem?_eq_getElem hlt,ha]
  rw [ha] at hb1
  rw [hb1] at hst
  by_cases hf:bi a.name 0 t<0
  ·rw [show aO t a.name=false by simp [aO];omega,Bool.false_and] at hst
   have kF:=gM t a.name rfl
   repeat' (first
    | refine ah ?_ ?_
    | (refine aa 8 rfl ?_;refine bg (aw rfl rfl (aL rfl rfl) (aP [false] rfl rfl rfl rfl) rfl aR aR) rfl rfl rfl ?_)
    | refine aa 9 rfl (cB [] (kF) ?_)
    | refine af ?_
    | exact ai|(refine ae fun hb=>?_;first|(exfalso;omega)|skip))
   refine ⟨i+1,by omega,by omega,?_⟩
   rw [hst]
   exact ao (qf [(1000,43)])
  ·obtain ⟨j,hj,hF,hq,hx⟩:=eK hf
   rw [show aO t a.name=true by simp [aO,Int.not_lt.1 hf],Bool.true_and,show aX t a.name=t[j] from hq] at hst
   have kF:=gM t a.name hF
   obtain ⟨h,hh⟩:∃h,aq t[j].holds x.proc=h:=⟨_,rfl⟩
   have kH:=dZ t[j] x.proc
   rw [hh] at kH hst
   have kC:=fp t[j].res h a.am
   obtain ⟨c,hc⟩:∃c,bb t[j].res h a.am=c:=⟨_,rfl⟩
   rw [hc] at kC hst
   repeat' (first
    | refine ah ?_ ?_
    | (refine aa 8 rfl ?_;refine bg (aw rfl rfl (aL rfl rfl) (aP [c] rfl rfl rfl rfl) rfl aR aR) rfl rfl rfl ?_)
    | (refine aa 9 rfl ?_;first
     | (refine cB [] (kF) ?_)
     | (refine cB [] (kH) ?_)
     | (refine cB [] (kC) ?_))
    | refine af ?_
    | exact ai|(refine ae fun hb=>?_;first|(exfalso;omega)|skip))
   refine ⟨i+1,by omega,by omega,?_⟩
   rw [hst]
   exact ao (qf [(1000,43)])
 ·have e:B.take i=B:=List.take_of_length_le (by omega)
  rw [e]
  repeat' (first
   | refine ah ?_ ?_
   | refine af ?_
   | exact ai|refine ae fun hb=>?_
   | (refine aE (qf []) ?_;exact ab))
def NT (w w':Wk):Prop:=∃m:List Ev,w'.ev=w.ev++m∧∀e∈m,e.kind≠4
theorem NT.refl (w:Wk):NT w w:=⟨[],by simp,fun _ h=>absurd h (by simp)⟩
theorem NT.same {w w':Wk} (h:w'.ev=w.ev):NT w w':=⟨[],by simp [h],fun _ h=>absurd h (by simp)⟩
theorem NT.trans {a b c:Wk} (h:NT a b) (k:NT b c):NT a c:=by
 obtain ⟨m,h1,h2⟩:=h
 obtain ⟨m',k1,k2⟩:=k
 refine ⟨m++m',by rw [k1,h1,List.append_assoc],fun e he=>?_⟩
 rcases List.mem_append.1 he with he|he
 ·exact h2 e he
 ·exact k2 e he
theorem NT.take {w:Wk} {t:List Qu} {ev:List Ev} (h:∀e∈ev,e.kind≠4):NT w (w.take t ev):=⟨ev,rfl,h⟩
theorem NT.note {w:Wk} {k:Int} {p:Pr} (h:k≠4):NT w (w.note k p):=⟨_,rfl,fun e he=>by
 rw [List.mem_singleton] at he
 subst he
 exact h⟩
theorem H4 {c:Cs} {k:Cm} (h:eH c=true) (h0:(tW ⟨c,[]⟩ k).2=0):lv c k=((tW ⟨c,[]⟩ k).1.c,(tW ⟨c,[]⟩ k).1.ev,0):=by
 unfold lv
 rw [h,decide_eq_true h0]
 rfl
theorem DN {c:Cs} {k:Cm} (h:(lv c k).2.2=0):eH c=true∧(tW ⟨c,[]⟩ k).2=0:=by
 have hc:=(xY h).1
 refine ⟨hc,?_⟩
 unfold lv at h
 rw [hc] at h
 by_cases h0:(tW ⟨c,[]⟩ k).2=0
 ·exact h0
 ·rw [decide_eq_false h0] at h
  exact h
def ta (w:Wk) (i:Nat):Wk:=br (bf (aC (w.note 4 (w.pc i).proc) i) i)
theorem yj (n:Nat) (w:Wk):fV (n+1) w=bif decide (du w<0) then w else fV n (ta w (du w).toNat):=rfl
theorem FJ {w:Wk} (h:CI w.c) (he:0≤du w):CI (ta w (du w).toNat).c∧ce (ta w (du w).toNat).c.procs+1≤ce w.c.procs∧Kp w (ta w (du w).toNat):=by
 obtain ⟨hi,hl⟩:=(kz w).2 he
 generalize (du w).toNat=i at *
 have hc0:CI (w.note 4 (w.pc i).proc).c:=h
 have hw0:((w.note 4 (w.pc i).proc).pc i).waiting=true:=by rw [bv (w:=w.note 4 (w.pc i).proc) hi];exact hl.1
 obtain ⟨k1,k2,k3,k4,_⟩:=c7 hc0 hi hw0
 have hi2:i<(aC (w.note 4 (w.pc i).proc) i).c.procs.length:=by rw [k3.len];exact hi
 have hrun:((aC (w.note 4 (w.pc i).proc) i).pc i).waiting=false:=by rw [bv hi2];simp [k4]
 obtain ⟨n1,n2,n3⟩:=gY k1 hi2 hrun
 obtain ⟨q1,_,q3,q4,q5,q6,_,q8⟩:=iy n1
 have k2':ce (aC (w.note 4 (w.pc i).proc) i).c.procs+1=ce w.c.procs:=k2
 have hk:=(k3.trans n2).trans (⟨q6,q4,q3,q8⟩:Kp _ (br (bf (aC (w.note 4 (w.pc i).proc) i) i)))
 refine ⟨q1,?_,⟨hk.kw,hk.now,hk.pr,hk.nm⟩⟩
 have:ce (ta w i).c.procs≤ce (bf (aC (w.note 4 (w.pc i).proc) i) i).c.procs:=q5
 omega
theorem wS {w:Wk} {i:Nat} (h:CI w.c) (hi:i<w.c.procs.length) (hw:(w.pc i).waiting=true):KG w.c.procs (aC w i).c.procs:=by
 obtain ⟨_,_,_,k4,_⟩:=c7 h hi hw
 rw [k4]
 exact KG.set hi (GrP.led (by rw [bv hi]) (by rw [bv hi]))
theorem zv {w:Wk} {i:Nat} (h:CI w.c) (hi:i<w.c.procs.length) (hw:(w.pc i).waiting=true):KG w.c.procs (br (bf (aC w i) i)).c.procs:=by
 obtain ⟨k1,_,k3,k4,_⟩:=c7 h hi hw
 have hi2:i<(aC w i).c.procs.length:=by rw [k3.len];exact hi
 obtain ⟨n1,_,_⟩:=gY k1 hi2 (by rw [bv hi2];simp [k4])
 exact ((wS h hi hw).trans (uh hi2)).trans (iA n1).gr
theorem FK {w:Wk} (h:CI w.c) (he:0≤du w):KG w.c.procs (ta w (du w).toNat).c.procs:=by
 obtain ⟨hi,hl⟩:=(kz w).2 he
 generalize (du w).toNat=i at *
 exact zv (w:=w.note 4 (w.pc i).proc) h hi (by rw [bv (w:=w.note 4 (w.pc i).proc) hi];exact hl.1)
theorem zw:∀(n:Nat) (w:Wk),CI w.c→KG w.c.procs (fV n w).c.procs
 | 0,w,_=>KG.refl _
 | n+1,w,h=>by
  rw [yj]
  by_cases he:du w<0
  ·rw [decide_eq_true he];exact KG.refl _
  ·rw [decide_eq_false he,cond_false]
   exact (FK h (by omega)).trans (zw n _ (FJ h (by omega)).1)
theorem Jb {c:Cs} {k:Cm} (h:eH c=true) (he:(tW ⟨c,[]⟩ k).2=0) {x:Pc} (hx:x∈c.procs) (hk:k.proc≠x.proc∨k.kind=2∨k.kind=3∨k.kind=9):∃y∈(tW ⟨c,[]⟩ k).1.c.procs,GrP x y:=by
 obtain ⟨hci,hun⟩:=eX.1 h
 have all:∀w:Wk,KG c.procs w.c.procs→∃y∈w.c.procs,GrP x y:=fun w hg=>hg x hx
 unfold tW at he ⊢
 cases hA:decide (1≤k.kind) && decide (k.kind≤9) with
 | false=>rw [hA] at he;simp at he
 | true =>
  rw [hA] at he
  simp only [Bool.not_true,cond_false] at he ⊢
  by_cases h1:k.kind=1
  ·rw [decide_eq_true h1] at he ⊢
   simp only [cond_true] at he ⊢
   obtain ⟨_,_,_,k4⟩:=za hci he
   refine ⟨x,?_,GrP.refl x⟩
   rw [k4]
   exact (iD _ _).mem_iff.2 (by simp only [List.mem_cons];exact .inr hx)
  ·rw [decide_eq_false h1] at he ⊢
   simp only [cond_false] at he ⊢
   by_cases h9:k.kind=9
   ·rw [decide_eq_true h9] at he ⊢
    simp only [cond_true] at he ⊢
    unfold iu at he ⊢
    cases hB:decide (0≤k.n) && decide (k.n≤1000) with
    | false=>rw [hB] at he;simp at he
    | true =>
     rw [hB] at he
     simp only [Bool.not_true,cond_false] at he ⊢
     simp only [Bool.and_eq_true,decide_eq_true_eq] at hB
     by_cases hm:1073741824-k.n<c.now
     ·rw [decide_eq_true hm] at he;simp at he
     ·rw [decide_eq_false hm]
      simp only [cond_false]
      exact all _ (zw c.procs.length ⟨{ c with now:=c.now+k.n },[]⟩ (hci.later hB.1 (by omega)))
   ·rw [decide_eq_false h9] at he ⊢
    simp only [cond_false] at he ⊢
    by_cases hI:cK k.proc 0 c.procs<0
    ·rw [decide_eq_true hI] at he;simp at he
    ·rw [decide_eq_false hI] at he ⊢
     simp only [cond_false] at he ⊢
     obtain ⟨i,hi,e,hip⟩:=iC (p:=k.proc) (l:=c.procs) (k:=0) (by omega)
     have ei:(cK k.proc 0 c.procs).toNat=i:=by rw [e];omega
     have hpc:=bv (w:=⟨c,[]⟩) hi
     have hpp:(Wk.pc ⟨c,[]⟩ i).proc=k.proc:=by rw [hpc];exact hip
     rw [ei] at he ⊢
     by_cases h2:k.kind=2
     ·rw [decide_eq_true h2] at he ⊢
      simp only [cond_true] at he ⊢
      exact all _ (qu hci hi he).2.2.2.2.2.1
     ·rw [decide_eq_false h2] at he ⊢
      simp only [cond_false] at he ⊢
      by_cases h3:k.kind=3
      ·rw [decide_eq_true h3] at he ⊢
       simp only [cond_true] at he ⊢
       cases hw:(Wk.pc ⟨c,[]⟩ i).waiting with
       | false=>rw [hw] at he;simp at he
       | true =>
        simp only [Bool.not_true,cond_false]
        exact all _ (zv (w:=⟨c,[]⟩) hci hi hw)
      ·rw [decide_eq_false h3] at he ⊢
       simp only [cond_false] at he ⊢
       have hne:x.proc≠(Wk.pc ⟨c,[]⟩ i).proc:=by
        rw [hpp]
        intro e2
        rcases hk with hk|hk|hk|hk
        ·exact hk e2.symm
        ·exact h2 hk
        ·exact h3 hk
        ·exact h9 hk
       by_cases h4:k.kind=4
       ·rw [decide_eq_true h4] at he ⊢
        simp only [cond_true] at he ⊢
        exact (qv hci hi he).2.2.2 x hx hne
       ·rw [decide_eq_false h4] at he ⊢
        simp only [cond_false] at he ⊢
        by_cases h5:k.kind=5
        ·rw [decide_eq_true h5] at he ⊢
         simp only [cond_true] at he ⊢
         rcases Bool.eq_false_or_eq_true (Wk.pc ⟨c,[]⟩ i).waiting with hw|hw
         ·rw [cT hw] at he;simp at he
         ·rw [cF hw] at he ⊢
          by_cases hs:(el (Wk.pc ⟨c,[]⟩ i).led k.n).2=0
          ·rw [decide_eq_true hs]
           simp only [Bool.not_true,cond_false]
           have hi2:i<(Wk.setP ⟨c,[]⟩ i { Wk.pc ⟨c,[]⟩ i with led:=(el (Wk.pc ⟨c,[]⟩ i).led k.n).1 }).c.procs.length:=by
            show i<(c.procs.set i _).length
            simpa using hi
           exact KO.then (KO.set hi (by rw [←hpc]) _) (uh hi2) x hx hne
          ·rw [decide_eq_false hs] at he
           simp only [Bool.not_false,cond_true] at he
           exact absurd he hs
        ·rw [decide_eq_false h5] at he ⊢
         simp only [cond_false] at he ⊢
         by_cases h6:k.kind=6
         ·rw [decide_eq_true h6] at he ⊢
          simp only [cond_true] at he ⊢
          exact (oz hci hi he).2.2.2.1 x hx hne
         ·rw [decide_eq_false h6] at he ⊢
          simp only [cond_false] at he ⊢
          cases h8:decide (k.kind=8) && (Wk.pc ⟨c,[]⟩ i).waiting with
          | true=>rw [h8] at he;simp at he
          | false =>
           simp only [cond_false]
           exact (y8 (w:=⟨c,[]⟩) hci hi).2.2.2.2.2.1 x hx hne
structure From (c:Cs) (p:Pr) (E:List En) (S:List Sv):Prop where
 v:eH c=true
 ex:∃x∈c.procs,x.proc=p∧(∃m,x.led.entries=E++m)∧x.led.saves=S
theorem From.step {c:Cs} {p:Pr} {E:List En} {S:List Sv} (h:From c p E S) {k:Cm} (he:(lv c k).2.2=0) (hk:k.proc≠p∨k.kind=2∨k.kind=3∨k.kind=9):From (lv c k).1 p E S:=by
 obtain ⟨x,hx,hp,⟨m,hm⟩,hs⟩:=h.ex
 obtain ⟨_,h0⟩:=DN he
 obtain ⟨y,hy,hg⟩:=Jb h.v h0 hx (by rw [hp];exact hk)
 refine ⟨(xY he).2,y,?_,hg.proc.trans hp,?_,hg.svs.trans hs⟩
 ·rw [H4 h.v h0]
  exact hy
 ·obtain ⟨m',hm'⟩:=hg.ents
  exact ⟨m++m',by rw [hm',hm,List.append_assoc]⟩
end Go.Proofs.YtjndcdcbjidocaaGreatDoor
