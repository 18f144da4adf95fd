/- Part 21 of 24 of the proof of rollbackBytes_holds (no condition). -/
import Derived.Test.YtdaajdflefnjfaaGreatL20
set_option linter.unusedVariables false
set_option linter.unusedSimpArgs false
set_option maxRecDepth 100000
set_option maxHeartbeats 64000000
namespace Go.Proofs.YtdaajdflefnjfaaGreat
open Go.RowKit Go.Proofs.Tryz
section
open Go.Shelf Go.Sort
def bs (s:ByteArray):List UInt8:=s.data.toList
theorem JS (s:ByteArray):encStr (bs s) = .string s:=by
 obtain ⟨⟨l⟩⟩:=s
 rfl
def JT (l:List UInt8):ByteArray:=⟨l.toArray⟩
theorem Fw (s:ByteArray):JT (bs s)=s:=by
 obtain ⟨⟨l⟩⟩:=s
 rfl
def CU (l:List UInt8):List Value:=[encStr l]
theorem IG (d:Array (List UInt8)):flatK CU 1 d=d.map encStr:=by
 apply Array.ext
 ·simp
 ·intro t h1 h2
  have ht:t<d.size:=by simpa using h2
  rw [←getElem!_pos _ t h1,get_flatK _ _ _ _ (by simpa using ht),Array.getElem_map,Nat.div_one,Nat.mod_one,getElem!_pos d t ht]
  rfl
theorem Bn {w:World} {g:Nat} {d:Array (List UInt8)} (h:HoldsK CU 1 w g 0 d):Holds encStr w g 0 d:=by
 unfold HoldsK at h
 rw [IG] at h
 intro j hj
 have:=h j (by simpa using hj)
 rw [getElem!_pos _ j (by simpa using hj)] at this
 simpa [getElem!_pos d j hj] using this
theorem Bo (w:World) (g:Nat) (d:Array (List UInt8)):putRow encStr w g 0 d=putRowK CU 1 w g 0 d:=by
 unfold putRowK putRow
 rw [IG]
 congr 1
 funext c
 unfold putCells
 congr 1
 funext k x
 simp only [Array.size_map,Nat.zero_le,true_and,Nat.zero_add,Nat.sub_zero,id]
 split
 ·next h=>rw [getElem!_pos d k h,getElem!_pos _ k (by simpa using h),Array.getElem_map]
 ·rfl
theorem Lp:∀x,∀u∈CU x,u.oneCell'=true:=by intro x u hu;simp [CU] at hu;subst hu;rfl
abbrev Mx:El (List UInt8):=El.plain 1 (by decide) CU (fun _=>rfl) Lp
theorem Bp (L:List ByteArray):(L.map fun x=>[Value.string x]).flatten=((L.map bs).map CU).flatten:=by
 induction L with
 | nil=>rfl
 | cons x L ih=>simp only [List.map_cons,List.flatten_cons,ih,CU,JS]
theorem wy {w:World} {F:Nat→Prop} (L:List ByteArray):Reps dS w F L ((L.map bs).map CU).flatten:=by
 rw [←Bp]
 exact Reps.plain_mk L
theorem Bq {w:World} {F:Nat→Prop} {L:List ByteArray} {xs:List Value} (h:Reps dS w F L xs):xs=((L.map bs).map CU).flatten:=by rw [←Bp];exact Reps.plain h
theorem yp {w:World} {g n:Nat} (hg:g<w.heap.size) (d:Array (List UInt8)) (os:Array Obj):Frx w (sortWorldK CU 1 w g 0 n d os) fun b=>b=g :=
 ⟨rfl,rfl,rfl,by simp [sortWorldK,grow,putRowK,putRow,mapBlock],fun b hb hn=>by
  show (w.heap.modify g _++os)[b]? = _
  rw [Array.getElem?_append_left (by simpa using hb),Array.getElem?_modify,if_neg (fun e=>hn e.symm)]⟩
def fk (L:List ByteArray):List ByteArray:=((L.map bs).mergeSort fun x y=>decide (x≤y)).map JT
def fa (L:List ByteArray):List ByteArray:=(Lib.compact (L.map bs)).map JT
theorem wz (l:List (List UInt8)):(l.map JT).map bs=l:=by
 rw [List.map_map]
 conv=>rhs;rw [←List.map_id l]
 rfl
theorem Fx (L:List ByteArray) (hl:L.length≤100000):FSpec prog 69 [.one (.own 0)] [(0,.arr 9 dS L)] [] (.tup []) [(0,some (.arr 9 dS (fk L)))]:=by
 refine ⟨fun b W=>by kernel_rfl,fun q c st ρ a w vs hr hinj hargs hhin hus=>?_⟩
 match vs,hargs with
 | [v],⟨h0,_⟩ =>
  obtain rfl:v=ρ (q 0):=h0
  have hk:=hhin 0 _ rfl
  obtain ⟨xs,hx1,hx2⟩:=hr.hp (q 0) _ hk
  have hx3:=Bq hx2
  have hown:OwnRows Mx 9 w 0 (ρ (q 0)) (L.map bs):=⟨Nat.zero_le _,xs,by rw [List.length_map];exact hx1,by rw [hx3];exact Reps.plain_mk _⟩
  have key:Calls prog 69 #[ρ (q 0)] w fun e w'=>e = .returned (.tuple #[])∧(Frx w w' fun b=>kb (ρ (q 0))=some b)∧∃ys,w'.ownsRow 0 9 dS.n (ρ (q 0)) (fk L).length ys∧∀F',Reps dS w' F' (fk L) ys:=by
   have hsl:(fk L).length=L.length:=by simp [fk]
   rcases Nat.eq_zero_or_pos L.length with h0|h0
   ·obtain ⟨A,cap,hA,_,_,_,_⟩:=hown.form2
    obtain rfl:=List.eq_nil_of_length_eq_zero h0
    rw [hA] at hx1 ⊢
    refine (Any.slices_Sort_string_none sortStrs A cap w).mono ?_
    rintro e w' ⟨rfl,rfl⟩
    exact ⟨rfl,Frx.refl _ _,xs,by simpa [fk] using hx1,fun F'=>by rw [hx3];simpa [fk] using wy []⟩
   ·obtain ⟨g,cap,hA,hg,hg2,_,_,_,_⟩:=hown.addr (by simpa using h0)
    rw [hA] at hown ⊢
    refine (Any.slices_Sort_string sortStrs g 0 cap (L.map bs) w (Bn hown.holdsK) hg2 (by simp;omega)).mono ?_
    rintro e w' ⟨rfl,n,os,rfl⟩
    rw [Bo]
    have hs:=hown.sorted hg2 (l':=(L.map bs).mergeSort fun x y=>decide (x≤y)) (by simp) n os
    have hf:=yp (n:=n) hg2 ((L.map bs).mergeSort fun x y=>decide (x≤y)).toArray os
    obtain ⟨_,ys,h3,h4⟩:=hs
    refine ⟨rfl,⟨hf.os,hf.tape,hf.output,hf.size,fun b hb hn=>hf.keep b hb fun e=>hn (by rw [e];rfl)⟩,ys,?_,fun F'=>?_⟩
    ·rw [hsl]
     have h5:=h3
     simp only [List.length_mergeSort,List.length_map] at h5 ⊢
     exact h5
    ·rw [Reps.plain h4]
     have:=wy (w:=(sortWorldK CU 1 w g 0 n ((L.map bs).mergeSort fun x y=>decide (x≤y)).toArray os)) (F:=F') (fk L)
     unfold fk at this ⊢
     rwa [wz] at this
  refine key.mono ?_
  rintro e w' ⟨rfl,hf,ys,hy1,hy2⟩
  refine ⟨_,rfl,fun dst hdst=>⟨ρ,?_⟩⟩
  have hkk:∀k':Nat,aA [(q 0,some (Box.arr 9 dS (fk L)))] k'=true→k'=q 0:=fun k' h=>by
   simp only [aA,Bool.or_false] at h
   exact (Nat.eq_of_beq_eq_true h).symm
  refine hr.app (e:=⟨.tup [],[(q 0,some (.arr 9 dS (fk L)))],[]⟩) hdst (fun k h=>by simp [aF] at h) (fun _ _=>rfl) (fun k' h=>.inr (by rw [hkk k' h];exact hr.nfh hk)) ⟨hf.os,hf.tape,hf.output,hf.size,fun b hlt hn=>hf.keep b hlt fun e=>hn ⟨q 0,_,by simp [aA],hk,e⟩⟩ ?_ ?_ (fun k h=>by simp [TV.has] at h) ?_ ?_ ⟨[],rfl,trivial⟩
  ·intro k' bx g' h _ hg'
   rw [hkk k' h] at hg'
   exact ⟨Nat.lt_of_lt_of_le (hr.ltb hk hg') hf.size,.inr ⟨q 0,_,by simp [aA],hk,hg'⟩⟩
  ·intro k1 k2 _ _ _ h h' _ _ _ _
   rw [hkk k1 h,hkk k2 h']
  ·intro k1 k2 bx h hp hx
   rw [hkk k2 h] at hp
   simp only [hput,Nat.beq_refl,cond_true,Option.some.injEq] at hp
   subst hp
   simp [Box.has] at hx
  ·intro k2 bx h hp
   rw [hkk k2 h] at hp ⊢
   simp only [hput,Nat.beq_refl,cond_true,Option.some.injEq] at hp
   subst hp
   exact ⟨ys,hy1,hy2 _⟩
theorem jK (l:List (List UInt8)):(Go.Lib.compact l).length≤l.length:=by
 unfold Go.Lib.compact Go.Lib.compactUpTo
 rw [List.length_map]
 refine Nat.le_trans (List.length_filter_le _ _) ?_
 simp
theorem Fy (L:List ByteArray) (hl:L.length≤100000):FSpec prog 70 [.one (.own 0)] [(0,.arr 9 dS L)] [] (.c (.sl dS (fa L))) [(0,none)]:=by
 refine ⟨fun b W=>by kernel_rfl,fun q c st ρ a w vs hr hinj hargs hhin hus=>?_⟩
 match vs,hargs with
 | [v],⟨h0,_⟩ =>
  obtain rfl:v=ρ (q 0):=h0
  have hk:=hhin 0 _ rfl
  obtain ⟨xs,hx1,hx2⟩:=hr.hp (q 0) _ hk
  have hx3:=Bq hx2
  have hown:OwnRows Mx 9 w 0 (ρ (q 0)) (L.map bs):=⟨Nat.zero_le _,xs,by rw [List.length_map];exact hx1,by rw [hx3];exact Reps.plain_mk _⟩
  have hcl:(fa L).length≤L.length:=by have:=jK (L.map bs);simpa [fa] using this
  have key:Calls prog 70 #[ρ (q 0)] w fun e w'=>∃A cap,e = .returned (.slice A (fa L).length cap)∧((fa L).length≤cap∧cap≤maxLen)∧(Frx w w' fun b=>kb (ρ (q 0))=some b)∧∀F:Nat→Prop,(∀g,kb (ρ (q 0))=some g→F g)→RowsAt dS w' F A (fa L):=by
   rcases Nat.eq_zero_or_pos L.length with h0|h0
   ·obtain ⟨A,cap,hA,hc1,hc2,_,_⟩:=hown.form2
    obtain rfl:=List.eq_nil_of_length_eq_zero h0
    rw [hA]
    refine (Any.slices_Compact_string_empty compactStrs A cap w).mono ?_
    rintro e w' ⟨rfl,rfl⟩
    have e0:fa []=[]:=by simp [fa,Lib.compact,Lib.compactUpTo]
    rw [e0]
    exact ⟨A,cap,rfl,⟨Nat.zero_le _,by first|exact hc2|omega⟩,Frx.refl _ _,fun F _=>RowsAt.nil _ _ _ _⟩
   ·obtain ⟨g,cap,hA,hg,hg2,_,_,_,_⟩:=hown.addr (by simpa using h0)
    rw [hA] at hown ⊢
    obtain ⟨A,cap',hA',_,hcap,_⟩:=hown.form
    have hcap2:(L.map bs).length≤cap:=by injection hA'
    refine (Any.slices_Compact_string compactStrs g 0 cap (L.map bs) w (Bn hown.holdsK) (by simp;omega) hcap2).mono ?_
    rintro e w' ⟨rfl,m,rfl⟩
    rw [Bo]
    have hl9:=jK (L.map bs)
    obtain ⟨K,hK⟩:∃K,Go.Lib.compact (L.map bs)=K:=⟨_,rfl⟩
    have eK:fa L=K.map JT:=by unfold fa;rw [hK]
    rw [hK] at hl9 ⊢
    rw [eK]
    obtain ⟨Z,hZ⟩:∃z,z=List.replicate ((L.map bs).length-K.length) ([]:List UInt8):=⟨_,rfl⟩
    rw [←hZ]
    have hlen:(K++Z).length=(L.map bs).length:=by rw [hZ];simp at hl9 ⊢;try omega
    have h1:=hown.sorted hg2 hlen m #[]
    have hf:=yp (n:=m) hg2 (K++Z).toArray #[]
    unfold sortWorldK at h1 hf
    rw [grow_empty] at h1 hf
    rw [←hlen] at h1
    have h2:=OwnRows.cut h1 (k:=K.length) (by simp)
    rw [List.take_left] at h2
    have hform:=OwnRows.nw h2
    obtain ⟨A2,cap2,e2,hr2,hc3,hc4⟩:=hform
    injection e2 with e3 e4 e5
    subst e3
    subst e5
    refine ⟨_,_,by rw [List.length_map],⟨by rw [List.length_map];exact hc3,hc4⟩,⟨hf.os,hf.tape,hf.output,hf.size,fun b hb hn=>hf.keep b hb fun e=>hn (by rw [e];rfl)⟩,fun F hF=>?_⟩
    obtain ⟨zs,hz1,hz2⟩:=hr2
    have hz3:=Reps.plain hz1
    refine ⟨zs,?_,fun hpos=>?_⟩
    ·rw [hz3]
     have:=wy (w:=putRowK CU 1 (Sort.ahead w m) g 0 (K++Z).toArray) (F:=F) (K.map JT)
     rwa [wz] at this
    ·obtain ⟨b,off,eb,hb1,hb2⟩:=hz2 (by simpa using hpos)
     refine ⟨b,off,eb,?_,hb2⟩
     injection eb with eb
     injection eb with eb1
     subst eb1
     exact hF _ rfl
  refine key.mono ?_
  rintro e w' ⟨A,cap,rfl,hc,hf,hrow⟩
  refine ⟨_,rfl,fun dst hdst=>⟨ρ,?_⟩⟩
  have hkk:∀k':Nat,aA [(q 0,(none:Option Box))] k'=true→k'=q 0:=fun k' h=>by
   simp only [aA,Bool.or_false] at h
   exact (Nat.eq_of_beq_eq_true h).symm
  have hnone:∀k',k'=q 0→hput [(q 0,(none:Option Box))] st.h k'=none:=fun k' e=>by subst e;simp [hput]
  refine hr.app (e:=⟨.c (.sl dS (fa L)),[(q 0,none)],[]⟩) hdst (fun k h=>by simp [aF] at h) (fun _ _=>rfl) (fun k' h=>.inr (by rw [hkk k' h];exact hr.nfh hk)) ⟨hf.os,hf.tape,hf.output,hf.size,fun b hlt hn=>hf.keep b hlt fun e=>hn ⟨q 0,_,by simp [aA],hk,e⟩⟩ ?_ ?_ (fun k h=>by simp [TV.has,V0.has,D.has] at h) ?_ ?_ ⟨A,cap,rfl,hc,hrow _ fun g hg=>?_⟩
  ·intro k' bx g' h hp _
   rw [hnone k' (hkk k' h)] at hp
   cases hp
  ·intro k1 k2 _ _ _ h h' _ _ _ _
   rw [hkk k1 h,hkk k2 h']
  ·intro k1 k2 bx h hp _
   rw [hnone k2 (hkk k2 h)] at hp
   cases hp
  ·intro k2 bx h hp
   rw [hnone k2 (hkk k2 h)] at hp
   cases hp
  ·refine ⟨(hr.inb (q 0) _ g hk hg).imp (c.hX g) id,Nat.lt_of_lt_of_le (hr.ltb hk hg) hf.size,fun k' bx hk' he=>?_⟩
   by_cases e:k'=q 0
   ·rw [hnone k' e] at hk';cases hk'
   ·have hk'':st.h k'=some bx:=by
     have:hput [(q 0,(none:Option Box))] st.h k'=st.h k':=by
      simp only [hput]
      cases h9:(q 0).beq k' with
      | true=>exact absurd (Nat.eq_of_beq_eq_true h9).symm e
      | false=>rfl
     rwa [this] at hk'
    exact e (hr.dis k' (q 0) bx _ g hk'' hk he hg)
end
theorem yq {β:Type} (n:ByteArray) (a:β):∀l:List (ByteArray×β),(dL n a l).map (·.1)=bif dD n (l.map (·.1)) then l.map (·.1) else l.map (·.1)++[n]
 | []=>rfl
 | x :: l=>by
  have ih:=yq n a l
  unfold dL
  show _=bif (aT x.1 n || dD n (l.map (·.1))) then x.1 :: l.map (·.1) else x.1 :: l.map (·.1)++[n]
  cases aT x.1 n with
  | true=>rfl
  | false =>
   show x.1 :: (dL n a l).map (·.1)=_
   rw [ih,Bool.false_or]
   cases dD n (l.map (·.1)) <;> rfl
theorem oC:∀(l:List En) (m:List (ByteArray×Am)),(m.map (·.1)).Nodup→((eD m l).map (·.1)).Nodup
 | [],_,h=>h
 | e :: l,m,h=>by
  refine oC l (dL e.name e.after m) ?_
  rw [yq]
  cases hh:dD e.name (m.map (·.1)) with
  | true=>exact h
  | false =>
   rw [cond_false]
   refine List.nodup_append.2 ⟨h,by simp,fun a ha b hb=>?_⟩
   rw [List.mem_singleton] at hb
   subst hb
   intro e9
   subst e9
   rw [gm.2 ha] at hh
   cases hh
theorem sX {x:ByteArray}:∀(l:List En) (m:List (ByteArray×Am)),x∈(eD m l).map (·.1)↔x∈m.map (·.1)∨∃e∈l,e.name=x
 | [],m=>by simp [eD]
 | e :: l,m=>by
  show x∈(eD (dL e.name e.after m) l).map (·.1)↔_
  rw [sX l,←gm,ww,Bool.or_eq_true,aW,gm]
  constructor
  ·rintro ((h|h)|⟨f,h1,h2⟩)
   ·exact .inr ⟨e,by simp,h⟩
   ·exact .inl h
   ·exact .inr ⟨f,by simp [h1],h2⟩
  ·rintro (h|⟨f,h1,h2⟩)
   ·exact .inl (.inr h)
   ·rcases List.mem_cons.1 h1 with rfl|h1
    ·exact .inl (.inl h2)
    ·exact .inr ⟨f,h1,h2⟩
theorem sY:∀{l m:List ByteArray},iv l→iv m→(∀x,x∈l↔x∈m)→l=m
 | [],[],_,_,_=>rfl
 | [],b :: m,_,_,h=>absurd ((h b).2 (by simp)) (by simp)
 | a :: l,[],_,_,h=>absurd ((h a).1 (by simp)) (by simp)
 | a :: l,b :: m,h1,h2,h=>by
  obtain ⟨p1,q1⟩:=List.pairwise_cons.1 h1
  obtain ⟨p2,q2⟩:=List.pairwise_cons.1 h2
  have e:a=b:=by
   rcases List.mem_cons.1 ((h a).1 (by simp)) with e|ha
   ·exact e
   ·rcases List.mem_cons.1 ((h b).2 (by simp)) with e|hb
    ·exact e.symm
    ·have:=d9 (p1 b hb) (p2 a ha)
     rw [dj] at this
     cases this
  subst e
  rw [sY q1 q2 fun x=>?_]
  constructor
  ·intro hx
   rcases List.mem_cons.1 ((h x).1 (by simp [hx])) with e|hm
   ·subst e
    have:=p1 x hx
    rw [dj] at this
    cases this
   ·exact hm
  ·intro hx
   rcases List.mem_cons.1 ((h x).2 (by simp [hx])) with e|hm
   ·subst e
    have:=p2 x hx
    rw [dj] at this
    cases this
   ·exact hm
def je (m:List (ByteArray×Am)) (seen:List Nat):List ByteArray:=(seen.filterMap fun j=>m[j]?).map (·.1)
theorem CV {m:List (ByteArray×Am)} {seen:List Nat} {j:Nat} {x:ByteArray×Am} (h:m[j]? = some x):je m (seen++[j])=je m seen++[x.1]:=by
 unfold je
 rw [List.filterMap_append,List.map_append]
 simp [h]
theorem sZ {n:Nat} {seen:List Nat} (hn:seen.Nodup) (hs:∀j∈seen,j<n):seen.length≤n:=by
 have hp:seen.Perm ((List.range n).filter fun j=>decide (j∈seen)):=(List.perm_ext_iff_of_nodup hn (List.nodup_range.filter _)).2 fun j=>by
  rw [List.mem_filter,List.mem_range,decide_eq_true_eq]
  exact ⟨fun h=>⟨hs j h,h⟩,fun h=>h.2⟩
 have h:=List.length_filter_le (fun j=>decide (j∈seen)) (List.range n)
 rw [←hp.length_eq] at h
 simpa using h
theorem yr {α β:Type} {f g:α→Option β}:∀{l:List α},(∀x∈l,f x=g x)→l.filterMap f=l.filterMap g
 | [],_=>rfl
 | x :: l,h=>by
  rw [List.filterMap_cons,List.filterMap_cons,h x (by simp),yr fun y hy=>h y (by simp [hy])]
theorem FA {m:List (ByteArray×Am)} {seen:List Nat} (hn:seen.Nodup) (hs:∀j∈seen,j<m.length) (ha:∀j,j<m.length→j∈seen):(je m seen).Perm (m.map (·.1)):=by
 have hp:seen.Perm (List.range m.length):=(List.perm_ext_iff_of_nodup hn List.nodup_range).2 fun j=>by
  rw [List.mem_range]
  exact ⟨hs j,ha j⟩
 have h1:=(hp.filterMap fun j=>m[j]?).map (·.1)
 have h2:(List.range m.length).filterMap (fun j=>m[j]?)=m:=by
  have e:(List.range m.length).filterMap (fun j=>m[j]?)=(List.range m.length).filterMap (fun j=>some (m.getD j (.empty,⟨0,0⟩))):=by
   refine yr fun j hj=>?_
   have hj:=List.mem_range.1 hj
   rw [List.getD_eq_getElem?_getD,List.getElem?_eq_getElem hj,Option.getD_some]
  rw [e,show (fun j=>some (m.getD j (.empty,⟨0,0⟩)))=some ∘ (fun j=>m.getD j (.empty,⟨0,0⟩)) from rfl,List.filterMap_eq_map]
  apply List.ext_getElem
  ·simp
  ·intro i h1 h2
   simp [List.getD_eq_getElem?_getD,List.getElem?_eq_getElem h2]
 unfold je
 rwa [h2] at h1
theorem s5 {n x:ByteArray}:∀{l:List ByteArray},x∈gJ n l↔x=n∨x∈l
 | []=>by simp [gJ]
 | m :: l=>by
  show x∈(bif fy m n then m :: gJ n l else bif aT m n then m :: l else n :: m :: l)↔_
  cases fy m n with
  | true =>
   rw [cond_true,List.mem_cons,s5,List.mem_cons]
   constructor
   ·rintro (h|h|h) <;> simp [h]
   ·rintro (h|h|h) <;> simp [h]
  | false =>
   cases he:aT m n with
   | true =>
    have:=aW.1 he
    subst this
    simp
   | false=>simp
theorem yt {n:ByteArray}:∀{l:List ByteArray},iv l→iv (gJ n l)
 | [],_=>by simp [gJ,iv]
 | m :: l,h=>by
  obtain ⟨h1,h2⟩:=List.pairwise_cons.1 h
  show iv (bif fy m n then m :: gJ n l else bif aT m n then m :: l else n :: m :: l)
  cases hc:fy m n with
  | true =>
   refine List.pairwise_cons.2 ⟨fun x hx=>?_,yt h2⟩
   rcases s5.1 hx with rfl|hx
   ·exact hc
   ·exact h1 x hx
  | false =>
   cases he:aT m n with
   | true=>exact h
   | false =>
    have hlt:fy n m=true:=lK hc (cg.1 he)
    refine List.pairwise_cons.2 ⟨fun x hx=>?_,h⟩
    rcases List.mem_cons.1 hx with rfl|hx
    ·exact hlt
    ·exact d9 hlt (h1 x hx)
theorem uN {x:ByteArray}:∀{l acc:List ByteArray},x∈fD acc l↔x∈acc∨x∈l
 | [],acc=>by simp [fD]
 | n :: l,acc=>by
  show x∈fD (gJ n acc) l↔_
  rw [uN,s5,List.mem_cons]
  constructor
  ·rintro ((h|h)|h) <;> simp [h]
  ·rintro (h|h|h) <;> simp [h]
theorem uO:∀{l acc:List ByteArray},iv acc→iv (fD acc l)
 | [],_,h=>h
 | n :: l,acc,h=>uO (l:=l) (yt h)
theorem uP:∀(l m acc:List ByteArray),fD acc (l++m)=fD (fD acc l) m
 | [],_,_=>rfl
 | n :: l,m,acc=>uP l m _
theorem gK (d:Array (List UInt8)):∀m x,x∈Go.Lib.compactUpTo d m↔∃j,j<m∧d[j]! = x
 | 0,x=>by simp [Go.Lib.compactUpTo]
 | m+1,x=>by
  rw [Go.Lib.compactUpTo_succ,List.mem_append,gK d m x]
  by_cases h:Go.Lib.keeps d m=true
  ·rw [if_pos h,List.mem_singleton]
   constructor
   ·rintro (⟨j,hj,e⟩|e)
    ·exact ⟨j,by omega,e⟩
    ·exact ⟨m,by omega,e.symm⟩
   ·rintro ⟨j,hj,e⟩
    rcases Nat.lt_or_ge j m with h1|h1
    ·exact Or.inl ⟨j,h1,e⟩
    ·have:j=m:=by omega
     subst this
     exact Or.inr e.symm
  ·rw [if_neg h]
   have hk:¬(m=0∨d[m]!≠d[m-1]!):=by simpa [Go.Lib.keeps] using h
   have h0:m≠0:=fun e=>hk (Or.inl e)
   have he:d[m]! = d[m-1]!:=Classical.byContradiction fun e=>hk (Or.inr e)
   constructor
   ·rintro (⟨j,hj,e⟩|e)
    ·exact ⟨j,by omega,e⟩
    ·cases e
   ·rintro ⟨j,hj,e⟩
    rcases Nat.lt_or_ge j m with h1|h1
    ·exact Or.inl ⟨j,h1,e⟩
    ·have:j=m:=by omega
     subst this
     exact Or.inl ⟨j-1,by omega,he.symm.trans e⟩
theorem FB {x y:List UInt8} (h:¬y<x) (hn:x≠y):x<y:=by
 rcases Std.lt_trichotomy x y with h1|h1|h1
 ·exact h1
 ·exact absurd h1 hn
 ·exact absurd h1 h
theorem oD (d:Array (List UInt8)) (hs:∀i j,i<j→j<d.size→¬d[j]! < d[i]!):∀m,m≤d.size→(Go.Lib.compactUpTo d m).Pairwise fun x y=>x<y
 | 0,_=>by simp [Go.Lib.compactUpTo]
 | m+1,hm=>by
  have ih:=oD d hs m (by omega)
  rw [Go.Lib.compactUpTo_succ]
  by_cases h:Go.Lib.keeps d m=true
  ·rw [if_pos h,List.pairwise_append]
   refine ⟨ih,by simp,fun x hx y hy=>?_⟩
   rw [List.mem_singleton.1 hy]
   obtain ⟨j,hj,rfl⟩:=(gK d m x).1 hx
   have hk:m=0∨d[m]!≠d[m-1]!:=by simpa [Go.Lib.keeps] using h
   have hne:d[m]!≠d[m-1]!:=hk.resolve_left (by omega)
   have a1:d[m-1]! < d[m]!:=FB (hs (m-1) m (by omega) (by omega)) (fun e=>hne e.symm)
   rcases Nat.lt_or_ge j (m-1) with h2|h2
   ·refine FB (hs j m (by omega) (by omega)) fun e=>?_
    have:=hs j (m-1) h2 (by omega)
    rw [e] at this
    exact this a1
   ·have:j=m-1:=by omega
    subst this
    exact a1
  ·rw [if_neg h,List.append_nil]
   exact ih
theorem yu (l:List UInt8):(JT l).toList=l:=by rw [ByteArray.toList_eq];rfl
theorem CW (L:List ByteArray):fa (fk L)=fD [] L:=by
 have hle:((L.map bs).mergeSort fun x y=>decide (x≤y)).Pairwise fun a b=>decide (a≤b)=true:=List.pairwise_mergeSort (fun a b c h1 h2=>by
  rw [decide_eq_true_eq] at *
  exact List.le_trans h1 h2) (fun a b=>by
  rw [Bool.or_eq_true,decide_eq_true_eq,decide_eq_true_eq]
  exact List.le_total a b) _
 have hm:∀x,x∈((L.map bs).mergeSort fun x y=>decide (x≤y))↔x∈L.map bs:=fun x=>(List.mergeSort_perm _ _).mem_iff
 unfold fa fk
 rw [wz]
 generalize (L.map bs).mergeSort (fun x y=>decide (x≤y))=M at *
 unfold Go.Lib.compact
 have hasc:=oD M.toArray (fun i j hij hj=>by
  have hj':j<M.length:=by simpa using hj
  rw [getElem!_pos _ j hj,getElem!_pos _ i (by omega)]
  have:=List.pairwise_iff_getElem.1 hle i j (by omega) hj' hij
  rw [decide_eq_true_eq] at this
  simpa using this) M.length (by simp)
 refine sY ?_ (uO (by simp [iv])) fun x=>?_
 ·unfold iv
  rw [List.pairwise_map]
  refine hasc.imp fun {a b} h=>?_
  unfold fy
  rw [bytesLess_eq,decide_eq_true_eq,yu,yu]
  exact h
 ·rw [uN,List.mem_map]
  constructor
  ·rintro ⟨l,hl,rfl⟩
   obtain ⟨j,hj,rfl⟩:=(gK _ _ _).1 hl
   rw [getElem!_pos _ j (by simpa using hj)]
   have:M[j]∈L.map bs:=(hm _).1 (by simp)
   obtain ⟨y,hy,e⟩:=List.mem_map.1 this
   refine .inr ?_
   simp only [List.getElem_toArray]
   rw [←e,Fw]
   exact hy
  ·rintro (h|h)
   ·cases h
   ·have h1:bs x∈M:=(hm _).2 (List.mem_map.2 ⟨x,h,rfl⟩)
    obtain ⟨j,hj,e⟩:=List.getElem_of_mem h1
    exact ⟨bs x,(gK _ _ _).2 ⟨j,hj,by rw [getElem!_pos _ j (by simpa using hj)];simpa using e⟩,Fw x⟩
theorem yv {l:List En} {N:List ByteArray} (h:N.Perm ((fF l).map (·.1))):gw N=br l:=by
 have hnd:N.Nodup:=(h.nodup_iff).2 (oC l [] (by simp))
 have hp:=List.mergeSort_perm N fun x y=>!(ltOf nc) y x
 have hs:(gw N).Pairwise fun a b=>(!(ltOf nc) b a)=true:=List.pairwise_mergeSort (fun a b c h1 h2=>by
  simp only [Bool.not_eq_true'] at *
  exact oB.ntrans c b a h2 h1) (fun a b=>by
  cases h1:ltOf nc b a with
  | false=>rfl
  | true =>
   cases h2:ltOf nc a b with
   | false=>rfl
   | true=>have:=oB.trans _ _ _ h1 h2;rw [oB.irrefl] at this;cases this) N
 have hn2:(gw N).Nodup:=(hp.nodup_iff).2 hnd
 refine sY ?_ (fR l) fun x=>?_
 ·refine (hs.and hn2).imp fun {a b} ⟨h1,h2⟩=>?_
  rw [yo,Bool.not_eq_true'] at h1
  exact lK h1 (fun e=>h2 e.symm)
 ·show x∈N.mergeSort (fun x y=>!(ltOf nc) y x)↔_
  rw [hp.mem_iff,h.mem_iff,dl]
  show x∈(eD [] l).map (·.1)↔_
  rw [sX]
  simp
theorem Lq (g:Lg) (n:Int) {R:Lg×List Tm×Int} (hR:b9 g n=R):FSpec prog 67 [g.a,.one (.sc (.int .i64 n))] [] [] (KF R) []:=by
 refine aX func67 ?_
 obtain ⟨v,hv⟩:∃v,jV g.entries g.saves=v:=⟨_,rfl⟩
 have kV:=Bl g.entries g.saves hv
 have hV:qi g=v:=hv
 cases v with
 | false =>
  obtain rfl:R=(.zero,[],2):=by rw [←hR];simp [b9,hV]
  repeat' (first
   | refine ah ?_ ?_
   | refine aa 9 rfl (cB [] (kV) ?_)
   | refine af ?_
   | exact ai|refine ae fun hb=>?_
   | (refine eR (qf []) ?_;exact ab))
 | true =>
  obtain ⟨h1,h2⟩:=f8 hV
  have hat:=zK hv
  by_cases hf:n≠0∧aJ n 0 g.saves<0
  case pos =>
   obtain ⟨hn0,hf⟩:=hf
   obtain rfl:R=(.zero,[],10):=by rw [←hR];simp [b9,hV,hn0,hf]
   have kP:=Ac g.saves n rfl
   repeat' (first
    | refine ah ?_ ?_
    | (refine aa 9 rfl ?_;first
     | (refine cB [] (kV) ?_)
     | (refine cB [] (kP) ?_))
    | refine af ?_
    | exact ai|refine ae fun hb=>?_
    | (refine eR (qf []) ?_;exact ab))
  obtain ⟨a,sv,hX,ha,hsv,hcase⟩:∃(a sv:Nat),bp g n=⟨g.entries.take a,g.saves.take sv⟩∧a≤g.entries.length∧sv≤g.saves.length∧((n=0∧a=0∧sv=0)∨(n≠0∧∃(i:Nat) (lab:Int),g.saves[i]? = some (⟨lab,(a:Int)⟩:Sv)∧aJ n 0 g.saves=(i:Int)∧sv=i+1)):=by
   by_cases hn:n=0
   ·exact ⟨0,0,by simp [bp,hn],by omega,by omega,.inl ⟨hn,rfl,rfl⟩⟩
   ·obtain ⟨i,hi,he,_⟩:=iC (n:=n) (l:=g.saves) (k:=0) (by by_cases h:aJ n 0 g.saves<0;exact absurd ⟨hn,h⟩ hf;omega)
    have he2:aJ n 0 g.saves=(i:Int):=by rw [he];simp
    have:=hat _ (List.getElem_mem hi)
    have e9:((g.saves[i].at_.toNat:Nat):Int)=g.saves[i].at_:=Int.toNat_of_nonneg this.1
    exact ⟨g.saves[i].at_.toNat,i+1,by simp [bp,hn,he2,hi,List.getD_eq_getElem?_getD],by omega,by omega,.inr ⟨hn,i,g.saves[i].label,by rw [e9];exact List.getElem?_eq_getElem hi,he2,rfl⟩⟩
  have hl1:(g.entries.take a).length=a:=by simp;omega
  obtain ⟨E',hE'⟩:∃E',g.entries.take a=E':=⟨_,rfl⟩
  obtain ⟨S',hS'⟩:∃S',g.saves.take sv=S':=⟨_,rfl⟩
  obtain ⟨D',hD'⟩:∃D',g.entries.drop a=D':=⟨_,rfl⟩
  have hD2:g.entries.drop ((a:Int)).toNat=D':=by rw [Int.toNat_natCast];exact hD'
  obtain ⟨H,hH⟩:∃H:ByteArray→Am,aw E'=H:=⟨_,rfl⟩
  obtain ⟨M,hM⟩:∃M,(br D').map (tk H)=M:=⟨_,rfl⟩
  obtain rfl:R=(⟨E',S'⟩,M,0):=by
   rw [←hR,←hM]
   unfold b9
   rw [hX,hV,hl1,hE',hS',hD']
   rcases hcase with ⟨rfl,_⟩|⟨h0,i,_,hi,he,_⟩
   ·simp [tk,←hH]
   ·have hi0:¬((i:Int)<0):=by omega
    simp [h0,he,hi0,tk,←hH]
  have kC:=Ml g a sv ha hsv (by omega) (by omega) hE' hS'
  have k1:=Ft E'
  have k2:=Ft D'
  have hg:∀x,tK x (fF E')=H x:=fun x=>by rw [pO,hH]
  obtain ⟨m,hm⟩:∃m,fF D'=m:=⟨_,rfl⟩
  have hfin:∀seen:List Nat,seen.Nodup→(∀j∈seen,j<m.length)→(∀j,j<m.length→j∈seen)→(gw (je m seen)).map (tk H)=M:=fun seen q1 q2 q3=>by
   rw [←hM,←yv (N:=je m seen) (by rw [hm];exact FA q1 q2 q3)]
  have hm9:m.length≤100000:=by
   have q1:=sW D'
   have q2:=gp D' []
   have q3:D'.length≤72:=by rw [←hD'];simp;omega
   rw [hm] at q1
   unfold br at q1
   simp at q2
   omega
  rw [hm] at k2
  generalize fF E'=m0 at *
  clear hR hf hX hV hv hat hl1 hM hm hH hE' hS' hD'
  rcases hcase with ⟨rfl,rfl,rfl⟩|⟨h0,i,lab,hi,he,rfl⟩
  case' inl =>
   repeat' (first
    | refine ah ?_ ?_
    | (refine aa 9 rfl ?_;first
     | (refine cB [] (kV) ?_)
     | (refine cH (qf [(1,1001),(2,1002)]) (kC) ?_))
    | ((fail_if_success (first|refine ul 10 ?_|refine um 10 ?_));refine af ?_)
    | exact ai|refine ae fun hb=>?_)
  case' inr =>
   have kP:=Ac g.saves n he
   have hi9:i<g.saves.length:=(List.getElem?_eq_some_iff.1 hi).1
   repeat' (first
    | refine ah ?_ ?_
    | (refine aa 9 rfl ?_;first
     | (refine cB [] (kV) ?_)
     | (refine cB [] (kP) ?_)
     | (refine cH (qf [(1,1001),(2,1002)]) (kC) ?_))
    | ((fail_if_success (first|refine ul 10 ?_|refine um 10 ?_));refine af ?_)
    | exact ai|refine ae fun hb=>?_)
  all_goals
   refine pp 1001 rfl ?_
   refine pp 1002 rfl ?_
   repeat' (first
    | refine ah ?_ ?_
    | (refine aa 9 rfl ?_;first
     | (refine cH (qf [(0,1003)]) (k1) ?_)
     | (refine cH (qf [(0,1004)]) (k2) ?_))
    | (refine aa 14 rfl ?_;first|refine sx (bg (z:=((0:Nat):Int)) rfl rfl rfl rfl (by omega) (by omega) hD2) ?_|refine sx (bg (z:=(a:Int)) rfl rfl rfl rfl (by omega) (by omega) hD2) ?_)
    | (refine aa 25 rfl ?_;refine sx (CQ tL rfl rfl rfl rfl) ?_)
    | refine af ?_
    | exact ai|refine ae fun hb=>?_)
   refine cc 12 1000 31 cr rfl rfl rfl ?_
   refine ak (fun seen:List Nat=>seen.Nodup∧∀j∈seen,j<m.length) (fun seen=>bH [4,10,47,1000,1003,1004] [(4,.c (.ptr 4 0)),(10,.c (.ptr 10 0)),(11,.c (.own 1003)),(12,.c (.own 1000)),(47,.c (.own 47))] [(4,.box 27 [.sc (.slice none 0 0),.sc (.slice none 0 0)]),(10,.box 27 [.sl iR E',.sl iN S']),(47,.it 1004 (Bj m).length seen),(1000,.arr 31 cr ((je m seen).map (tk H))),(1003,.mp (Bj m0)),(1004,.mp (Bj m))]) (fun seen=>m.length-seen.length) [] ⟨by simp,by simp⟩ (by exact ao (qf [])) ?_
   rintro seen ⟨hn,hs⟩
   refine vy (H3 (L:=Bj m) (n:=(Bj m).length) rfl rfl rfl rfl rfl rfl rfl rfl rfl rfl rfl rfl (fun j hj hjs=>?_) (fun hall=>?_))
   ·have hj:j<m.length:=by simpa [lh] using hj
    obtain ⟨x,hx⟩:∃x,m[j]? = some x:=⟨_,List.getElem?_eq_getElem hj⟩
    have hx2:(Bj m)[j]? = some (.string x.1,Kb x.2):=by simp [lh,hx]
    have hT:=CV (seen:=seen) hx
    have hls:=sZ hn hs
    have hn2:(seen++[j]).Nodup:=List.nodup_append.2 ⟨hn,by simp,fun b hb c hc=>by rw [List.mem_singleton] at hc;subst hc;exact fun e=>hjs (e▸hb)⟩
    have hs2:∀k∈seen++[j],k<m.length:=fun k hk=>by
     rcases List.mem_append.1 hk with hk|hk
     ·exact hs k hk
     ·rw [List.mem_singleton] at hk;subst hk;exact hj
    have hls2:=sZ hn2 hs2
    have hcl:((je m seen).map (tk H)).length≤100000:=by
     unfold je
     have:=List.length_filterMap_le (fun j=>m[j]?) seen
     simp
     omega
    generalize hC:(je m seen).map (tk H)=C at *
    show AW _ _ _ _ _ _
    repeat' (first
     | refine ah ?_ ?_
     | (refine aa 8 rfl ?_;refine aM (aj rfl rfl (ax rfl rfl) (aB [tk H x.1] rfl rfl rfl rfl) rfl aC aC) rfl rfl rfl ?_)
     | (refine aa 23 rfl ?_;refine sx (md _ _ tL Ab wx rfl rfl rfl rfl (hg x.1)) ?_)
     | (refine aa 27 rfl ?_;refine sx (CR (y:=x.2.a) rfl rfl rfl rfl rfl hx2 (fun _ _ _=>⟨_,rfl,rfl,rfl,trivial⟩) (fun _=>rfl)) ?_)
     | refine af ?_
     | exact ai|refine ae fun hb=>?_)
    refine ⟨seen++[j],⟨hn2,hs2⟩,by simp at hls2 ⊢;omega,?_⟩
    rw [hT,List.map_append,hC]
    exact ao (qf [(1000,59)])
   ·have hM:=hfin seen hn hs fun j hj=>hall j (by simpa [lh] using hj)
    have kS:=JR H (je m seen) (by
     unfold je
     have:=List.length_filterMap_le (fun j=>m[j]?) seen
     have:=sZ hn hs
     simp
     omega)
    rw [hM] at kS
    show AW _ _ _ _ _ _
    repeat' (first
     | refine ah ?_ ?_
     | refine aa 9 rfl (cH (qf [(0,1000)]) (kS) ?_)
     | refine af ?_
     | exact ai|refine ae fun hb=>?_
     | (refine eR (qf []) ?_;exact ab))
theorem H5 (d:Nat) (p:Pc) (g:Lg) (kind label:Int) (hk:(kind=0∧∃A,b9 p.led label=(g,A,0))∨(kind≠0∧g=Lg.zero)) (hg:g.entries.length≤p.led.entries.length) (h72:p.led.entries.length≤72) (hc:0≤p.cost∧p.cost≤1000) {R:Opn} (hR:Hf p g label=R):FSpec prog 28 [p.a d,jX kind,jX label] [] [] (.v R.a) []:=by
 refine aX func28 ?_
 unfold Hf we at hR
 obtain ⟨E,hE⟩:∃E,p.led.entries.drop g.entries.length=E:=⟨_,rfl⟩
 have hEl:E.length≤72:=by rw [←hE];simp;omega
 have hE2:p.led.entries.drop ((g.entries.length:Int)).toNat=E:=by rw [Int.toNat_natCast];exact hE
 have hEl2:(p.led.entries.length:Int)-g.entries.length+1=(E.length:Int)+1:=by
  have:E.length=p.led.entries.length-g.entries.length:=by rw [←hE];simp
  omega
 rw [hE,hEl2] at hR
 have hmul : -9223372036854775808≤p.cost*((E.length:Int)+1)∧p.cost*((E.length:Int)+1)≤9223372036854775807:=by
  obtain ⟨k,hk⟩:∃k:Int,(E.length:Int)+1=k:=⟨_,rfl⟩
  rw [hk]
  have k1:0≤k:=by omega
  have k2:k≤73:=by omega
  have m1:=Int.mul_nonneg hc.1 k1
  have m2:p.cost*k≤1000*73:=Int.mul_le_mul hc.2 k2 k1 (by omega)
  omega
 obtain ⟨B,hB⟩:∃B,(bif p.waiting then (cP p.req.expr).map (·.name) else [])=B:=⟨_,rfl⟩
 obtain ⟨N,hN⟩:∃N,fD (fD [] (E.map (·.name))) B=N:=⟨_,rfl⟩
 have h8:=dh p.req.expr
 have hBl:B.length≤8:=by
  rw [←hB]
  cases p.waiting with
  | true=>simp;omega
  | false=>simp
 have hNs:fa (fk (E.map (·.name)++B))=N:=by rw [CW,uP,hN]
 have hNl:N.length≤80:=by
  rw [←hNs]
  have:=jK ((fk (E.map (·.name)++B)).map bs)
  simp [fa,fk] at this ⊢
  omega
 rw [hB,hN] at hR
 obtain ⟨M,hM⟩:∃M:List Tm,N.map (fun n=>(⟨n,aw g.entries n⟩:Tm))=M:=⟨_,rfl⟩
 rw [hM] at hR
 obtain rfl:R=⟨p.proc,label,p.cost*((E.length:Int)+1),M⟩:=hR.symm
 clear hR hN hE hEl2
 rcases hk with ⟨rfl,A,hU⟩|⟨hk0,hz⟩
 case' inl =>
  have kU:=Lq p.led label hU
  repeat' (first
   | refine ah ?_ ?_
   | refine aa 9 rfl (cC [] (kU) ?_)
   | (refine aa 14 rfl ?_;refine sx (bg (z:=(g.entries.length:Int)) rfl rfl rfl rfl (by omega) (by omega) hE2) ?_)
   | refine af ?_
   | exact ai|(refine ae fun hb=>?_;first|(exact absurd rfl hb)|skip))
 case' inr =>
  have he1:g.entries=[]:=by rw [hz];rfl
  have he2:g.saves=[]:=by rw [hz];rfl
  have hE2:p.led.entries.drop (((0:Nat):Int)).toNat=E:=by rw [←hE2,he1];rfl
  repeat' (first
   | refine ah ?_ ?_
   | (refine aa 14 rfl ?_;refine sx (bg (z:=((0:Nat):Int)) rfl rfl rfl rfl (by omega) (by simp) hE2) ?_)
   | refine af ?_
   | exact ai|(refine ae fun hb=>?_;first|(exact absurd hb hk0)|skip))
 all_goals
  refine cc 9 1000 9 dS rfl rfl rfl ?_
  refine ak (fun i=>i≤E.length) (fun i=>bH [3,6,7,1000] [(2,.v (jX label)),(3,.c (.ptr 3 0)),(6,.c (.ptr 6 0)),(7,.c (.ptr 7 0)),(8,.c (.sl iR E)),(9,.c (.own 1000)),(34,.c (.sl iR E)),(35,.i E.length),(36,.i i)] [(3,.box 38 (p.d d)),(6,.box 41 [.sc (.int .i64 0),.sc (.int .i64 0),.sc (.int .i64 0),.sc (.int .i64 0),.sc (.int .i64 0),.sc (.slice none 0 0)]),(7,.box 27 [.sl iR g.entries,.sl iN g.saves]),(1000,.arr 9 dS ((E.take i).map (·.name)))]) (fun i=>E.length-i) 0 (Nat.zero_le _) (by first|(rw [he1,he2];exact ao (qf []))|exact ao (qf [])) ?_
  intro i hi
  by_cases hlt:i<E.length
  case pos =>
   obtain ⟨e,he⟩:∃e,E[i]? = some e:=⟨_,List.getElem?_eq_getElem hlt⟩
   have ee:E[i]=e:=(List.getElem?_eq_some_iff.1 he).2
   have hnx:(E.take i).map (·.name)++[e.name]=(E.take (i+1)).map (·.name):=by rw [List.take_succ_eq_append_getElem hlt,ee];simp
   have hTl:((E.take i).map (·.name)).length≤72:=by simp;omega
   generalize (E.take i).map (·.name)=T at *
   repeat' (first
    | refine ah ?_ ?_
    | (refine aa 8 rfl ?_;refine aM (aj rfl rfl (ax rfl rfl) (aB [e.name] rfl rfl rfl rfl) rfl aC aC) rfl rfl rfl ?_)
    | refine af ?_
    | exact ai|refine ae fun hb=>?_)
   refine ⟨i+1,hlt,by omega,?_⟩
   rw [←hnx]
   exact ao (qf [(1000,44)])
  rw [List.take_of_length_le (by omega)]
  obtain ⟨T,hT⟩:∃T,E.map (·.name)=T:=⟨_,rfl⟩
  have hTl:T.length≤72:=by rw [←hT];simp;omega
  rw [hT] at hNs ⊢
  clear hT
  cases hw:p.waiting
  case' true =>
   rw [hw,cond_true] at hB
   obtain ⟨Q,hQ⟩:∃Q,cP p.req.expr=Q:=⟨_,rfl⟩
   rw [hQ] at hB h8
   have kA:=JM d p.req.expr hQ
   repeat' (first
    | refine ah ?_ ?_
    | refine aa 9 rfl (cC [] (kA) ?_)
    | refine af ?_
    | exact ai|(refine ae fun hb=>?_;first|(cases hw.symm.trans hb;done)|skip))
   refine ak (fun i=>i≤Q.length) (fun i=>bH [3,6,7,1000] [(2,.v (jX label)),(3,.c (.ptr 3 0)),(6,.c (.ptr 6 0)),(7,.c (.ptr 7 0)),(8,.c (.sl iR E)),(9,.c (.own 1000)),(51,.c (.sl cr Q)),(52,.i Q.length),(53,.i i)] [(3,.box 38 (p.d d)),(6,.box 41 [.sc (.int .i64 0),.sc (.int .i64 0),.sc (.int .i64 0),.sc (.int .i64 0),.sc (.int .i64 0),.sc (.slice none 0 0)]),(7,.box 27 [.sl iR g.entries,.sl iN g.saves]),(1000,.arr 9 dS (T++(Q.take i).map (·.name)))]) (fun i=>Q.length-i) 0 (Nat.zero_le _) (by rw [List.take_zero,List.map_nil,List.append_nil];exact ao (qf [])) ?_
   intro j hj
   by_cases hlj:j<Q.length
   case pos =>
    obtain ⟨a,ha⟩:∃a,Q[j]? = some a:=⟨_,List.getElem?_eq_getElem hlj⟩
    have ea:Q[j]=a:=(List.getElem?_eq_some_iff.1 ha).2
    have hnx:(T++(Q.take j).map (·.name))++[a.name]=T++(Q.take (j+1)).map (·.name):=by rw [List.take_succ_eq_append_getElem hlj,ea];simp
    have hTl:(T++(Q.take j).map (·.name)).length≤80:=by simp;omega
    generalize T++(Q.take j).map (·.name)=U at *
    repeat' (first
     | refine ah ?_ ?_
     | (refine aa 8 rfl ?_;refine aM (aj rfl rfl (ax rfl rfl) (aB [a.name] rfl rfl rfl rfl) rfl aC aC) rfl rfl rfl ?_)
     | refine af ?_
     | exact ai|refine ae fun hb=>?_)
    refine ⟨j+1,hlj,by omega,?_⟩
    rw [←hnx]
    exact ao (qf [(1000,61)])
   rw [List.take_of_length_le (by omega),hB]
   have hUl:(T++B).length≤80:=by simp;omega
   generalize T++B=U at *
   have kS:=Fx U (by omega)
   have kC:=Fy (fk U) (by simp [fk];omega)
   rw [hNs] at kC
   repeat' (first
    | refine ah ?_ ?_
    | (refine aa 9 rfl ?_;first
     | (refine cH (qf [(0,1000)]) (kS) ?_)
     | (refine cH (qf [(0,1000)]) (kC) ?_))
    | (refine aa 10 rfl ?_;refine sx (nK rfl rfl rfl (IntWalk.i64_in _ hmul)) ?_)
    | refine af ?_
    | exact ai|refine ae fun hb=>?_)
  case' false =>
   rw [hw,cond_false] at hB
   subst hB
   rw [List.append_nil] at hNs
   have kS:=Fx T (by omega)
   have kC:=Fy (fk T) (by simp [fk];omega)
   rw [hNs] at kC
   repeat' (first
    | refine ah ?_ ?_
    | (refine aa 9 rfl ?_;first
     | (refine cH (qf [(0,1000)]) (kS) ?_)
     | (refine cH (qf [(0,1000)]) (kC) ?_))
    | (refine aa 10 rfl ?_;refine sx (nK rfl rfl rfl (IntWalk.i64_in _ hmul)) ?_)
    | refine af ?_
    | exact ai|(refine ae fun hb=>?_;first|(cases hw.symm.trans hb;done)|skip))
  all_goals
   refine fC 14 5 1001 31 cr rfl rfl rfl rfl ?_
   refine ak (fun y:Nat×List Tm=>y.1≤N.length∧y.2.length=y.1∧y.2++(N.drop y.1).map (fun n=>(⟨n,aw g.entries n⟩:Tm))=M) (fun y=>bH [6,7,14,1001] [(6,.c (.ptr 6 0)),(7,.c (.ptr 7 0)),(14,.c (.ptr 14 0)),(76,.c (.sl dS N)),(77,.i N.length),(78,.i y.1)] [(6,.box 41 [.sc (.int .i64 0),.sc (.int .i64 0),.sc (.int .i64 0),.sc (.int .i64 0),.sc (.int .i64 0),.sc (.slice none 0 0)]),(7,.box 27 [.sl iR g.entries,.sl iN g.saves]),(14,.box 41 [.sc (.int .i64 p.proc.site),.sc (.int .i64 p.proc.inc),.sc (.int .i64 p.proc.num),.sc (.int .i64 label),.sc (.int .i64 (p.cost*((E.length:Int)+1))),.own 1001]),(1001,.arr 31 cr y.2)]) (fun y=>N.length-y.1) (0,[]) ⟨Nat.zero_le _,rfl,hM⟩ (by exact ao (qf [])) ?_
   clear hM
   rintro ⟨i,Y⟩ ⟨hi,hYl,hs⟩
   dsimp only at *
   by_cases hlt:i<N.length
   ·obtain ⟨n,hn⟩:∃n,N[i]? = some n:=⟨_,List.getElem?_eq_getElem hlt⟩
    have en1:N[i]=n:=(List.getElem?_eq_some_iff.1 hn).2
    rw [List.drop_eq_getElem_cons hlt,en1,List.map_cons] at hs
    obtain ⟨a,ha⟩:∃a,aw g.entries n=a:=⟨_,rfl⟩
    have kH:=Ln g n ha
    rw [ha] at hs
    repeat' (first
     | refine ah ?_ ?_
     | (refine aa 8 rfl ?_;refine aM (aj rfl rfl (ax rfl rfl) (aB [⟨n,a⟩] rfl rfl rfl rfl) rfl aC aC) rfl rfl rfl ?_)
     | refine aa 9 rfl (cB [] (kH) ?_)
     | refine af ?_
     | exact ai|refine ae fun hb=>?_)
    refine ⟨(i+1,Y++[⟨n,a⟩]),⟨by dsimp only;omega,by simp [hYl],?_⟩,by dsimp only;omega,?_⟩
    ·dsimp only
     rw [←hs]
     simp
    ·exact ao (qf [(1001,90)])
   ·rw [List.drop_eq_nil_of_le (by omega)] at hs
    obtain rfl:Y=M:=by rw [←hs];simp
    repeat' (first
     | refine ah ?_ ?_
     | refine af ?_
     | exact ai|refine ae fun hb=>?_
     | (refine aE (qf []) ?_;exact ab))
theorem FC (p:Pc) (L:List Int) {O:List Opn} (hg:qi p.led=true) (hLs:L=p.led.saves.reverse.map (·.label)) (hO:wG p=O):∀kd:Nat,kd<2→∃row:List Int,[D.sl fm L,D.sl fm [-1]][kd]? = some (.sl fm row)∧(fun k=>if k=0 then 0 else if k=1 then L.length else L.length+1) kd+row.length=(fun k=>if k=0 then 0 else if k=1 then L.length else L.length+1) (kd+1)∧row.length≤L.length+1∧
  ∀(j:Nat) (h:j<row.length),∃g,((((kd:Nat):Int)=0∧∃A,b9 p.led row[j]=(g,A,0))∨(((kd:Nat):Int)≠0∧g=Lg.zero))∧g.entries.length≤p.led.entries.length∧O[(fun k=>if k=0 then 0 else if k=1 then L.length else L.length+1) kd+j]? = some (Hf p g row[j])
 | 0,_=>by
  refine ⟨L,rfl,by simp,by omega,fun j h=>?_⟩
  subst hLs
  have hj:j<p.led.saves.reverse.length:=by simpa using h
  obtain ⟨A,hU,hle⟩:=uu hg (s:=p.led.saves.reverse[j]) (List.mem_reverse.1 (List.getElem_mem hj))
  refine ⟨bp p.led p.led.saves.reverse[j].label,.inl ⟨rfl,A,by rw [List.getElem_map];exact hU⟩,hle,?_⟩
  rw [←hO]
  simp only [if_pos,Nat.zero_add]
  unfold wG
  rw [List.getElem?_append_left (by simpa using hj),List.getElem?_map,List.getElem?_eq_getElem hj,List.getElem_map]
  rfl
 | 1,_=>by
  refine ⟨[-1],rfl,by simp,by simp,fun j h=>?_⟩
  obtain rfl:j=0:=by simpa using h
  refine ⟨Lg.zero,.inr ⟨by decide,rfl⟩,Nat.zero_le _,?_⟩
  rw [←hO,hLs]
  unfold wG
  simp
 | n+2,h=>absurd h (by omega)
theorem FD (d:Nat) (p:Pc) {R:List Opn} (hR:mx p=R):FSpec prog 9 [p.a d] [] [] (.c (.sl tj R)) []:=by
 refine aS (fun b W=>by kernel_rfl) rfl fun w S ρ vs hS ha=>?_
 refine callsIn_wide.1 (callsIn_of_wp_marks (n:=8) func9 rfl trivial ?_)
 refine wpIn_wide.2 ?_
 have hr0:=yi (nt:=80) hS ha rfl (Nat.le_of_ble_eq_true rfl)
 generalize hc0:({ w0:=w,S:=S,X:=fun _=>False,nt:=80,K:=[],ρ0:=ρ,hS:=hS,hX:=fun _ h=>h.elim }:Ctx)=c0 at hr0
 have cS:c0.S=S:=by rw [←hc0]
 have cW:c0.w0=w:=by rw [←hc0]
 have cX:∀b,¬c0.X b:=by rw [←hc0];exact fun _ h=>h
 have cN:c0.nt=80:=by rw [←hc0]
 have cK:c0.K=[]:=by rw [←hc0]
 have cD:c0.dfr=[]:=by rw [←hc0]
 refine (?_:GW _ c0 _ _ _) _ _ _ hr0
 clear hr0 ha
 obtain ⟨QM,hQM⟩:∃QM,bodyPostM Fence.wide 8 prog f9 (fun e w'=>∃v,e=Ending.returned v∧Below w.heap.size w w'∧(TV.c (.sl tj R)).rep w' (Gr S w.heap.size w') ρ v)=QM:=⟨_,rfl⟩
 have hF:∀s' ρ' a' w',p7 prog f9 [] (TV.c (.sl tj R)) [] .ret s'→Rp c0 s' ρ' a' w'→QM .ret a' w':=fun s' ρ' a' w' hf hr=>by
  obtain ⟨v,hv,hrep⟩:=Bi hf hr rfl ρ
  have hd:=hr.dfr
  rw [cD] at hd
  rw [←hQM]
  show LeavesInM _ _ _ _ _ _ a'.defers _ _
  rw [hd]
  have h3:=hr.frm
  rw [cW] at h3
  refine ⟨v,hv,v,rfl,⟨h3.os,h3.tape,h3.output,h3.size,fun b hb=>h3.keep b hb (cX b)⟩,hrep.mono (fun b hb=>⟨⟨hb.2,?_⟩,rfl⟩) fun _ _=>rfl⟩
  have:=hb.1
  rw [cS,cW] at this
  exact this
 rw [hQM]
 unfold mx at hR
 obtain ⟨v,hv⟩:∃v,fI p.proc=v:=⟨_,rfl⟩
 obtain ⟨g,hg⟩:∃g,qi p.led=g:=⟨_,rfl⟩
 obtain ⟨q,hq⟩:∃q,qL p.req=q:=⟨_,rfl⟩
 have kV:FSpec prog 24 [p.proc.a] [] [] (.b v) []:=hv▸Fu p.proc
 have kG:FSpec prog 25 [.ag [.sl iR p.led.entries,.sl iN p.led.saves]] [] [] (.b g) []:=Bl p.led.entries p.led.saves hg
 have kQ:FSpec prog 26 [p.req.a d] [] [] (.b q) []:=Fv d p.req hq
 rw [hv,hg,hq] at hR
 by_cases hA:v=true∧(1≤p.cost∧p.cost≤1000)∧g=true∧(p.waiting=true→q=true)
 case neg =>
  obtain rfl:R=[]:=by
   rw [←hR]
   cases hh:v && decide (1≤p.cost) && decide (p.cost≤1000) && g && (!p.waiting || q) with
   | false=>rfl
   | true =>
    simp only [Bool.and_eq_true,Bool.or_eq_true,decide_eq_true_eq,Bool.not_eq_true'] at hh
    exact absurd ⟨hh.1.1.1.1,⟨hh.1.1.1.2,hh.1.1.2⟩,hh.1.2,fun hw=>by
     rcases hh.2 with h|h
     ·rw [hw] at h;cases h
     ·exact h⟩ hA
  clear hR hv hg hq
  refine mY cN cK hF ?_
  repeat' (first
   | refine ah ?_ ?_
   | refine af ?_
   | exact ai|refine ae fun hb=>?_)
  refine yj (mY cN cK hF ?_)
  cases v with
  | false =>
   repeat' (first
    | refine ah ?_ ?_
    | refine aa 9 rfl (cB [] (kV) ?_)
    | refine af ?_
    | exact ai|refine ae fun hb=>?_
    | (refine aE (qf []) ?_;exact ab))
  | true =>
   by_cases hc:p.cost<1
   ·repeat' (first
     | refine ah ?_ ?_
     | refine aa 9 rfl (cB [] (kV) ?_)
     | refine af ?_
     | exact ai|refine ae fun hb=>?_
     | (refine aE (qf []) ?_;exact ab))
   by_cases hc2:1000<p.cost
   ·repeat' (first
     | refine ah ?_ ?_
     | refine aa 9 rfl (cB [] (kV) ?_)
     | refine af ?_
     | exact ai|refine ae fun hb=>?_
     | (refine aE (qf []) ?_;exact ab))
   cases g with
   | false =>
    repeat' (first
     | refine ah ?_ ?_
     | (refine aa 9 rfl ?_;first
      | (refine cB [] (kV) ?_)
      | (refine cB [] (kG) ?_))
     | refine af ?_
     | exact ai|refine ae fun hb=>?_
     | (refine aE (qf []) ?_;exact ab))
   | true =>
    cases hw:p.waiting with
    | false=>exact absurd ⟨rfl,⟨by omega,by omega⟩,rfl,fun h=>by rw [hw] at h;cases h⟩ hA
    | true =>
     cases q with
     | true=>exact absurd ⟨rfl,⟨by omega,by omega⟩,rfl,fun _=>rfl⟩ hA
     | false =>
      repeat' (first
       | refine ah ?_ ?_
       | (refine aa 9 rfl ?_;first
        | (refine cB [] (kV) ?_)
        | (refine cB [] (kG) ?_))
       | refine af ?_
       | exact ai|refine ae fun hb=>?_)
      refine mY cN cK hF ?_
      repeat' (first
       | refine ah ?_ ?_
       | refine aa 9 rfl (cB [] (kQ) ?_)
       | refine af ?_
       | exact ai|(refine ae fun hb=>?_;first|(cases hw.symm.trans hb;done)|skip)
       | (refine aE (qf []) ?_;exact ab))
 obtain ⟨rfl,⟨hc1,hc2⟩,rfl,hwq⟩:=hA
 rw [decide_eq_true hc1,decide_eq_true hc2,show (!p.waiting || q)=true by cases hw:p.waiting with|false=>rfl|true=>rw [hwq hw];rfl] at hR
 have hR:(bif (wG p).all mS then wG p else [])=R:=hR
 obtain ⟨h72,h4⟩:=f8 hg
 refine mY cN cK hF ?_
 repeat' (first
  | refine ah ?_ ?_
  | refine af ?_
  | exact ai|refine ae fun hb=>?_)
 refine yj (mY cN cK hF ?_)
 repeat' (first
  | refine ah ?_ ?_
  | (refine aa 9 rfl ?_;first
   | (refine cB [] (kV) ?_)
   | (refine cB [] (kG) ?_))
  | refine af ?_
  | exact ai|refine ae fun hb=>?_)
 refine CN (bH [1] [(1,.c (.ptr 1 0))] [(1,.box 38 (p.d d))]) cN cK hF ?_ ?_
 ·cases hw:p.waiting with
  | true =>
   have hq1:=hwq hw
   subst hq1
   repeat' (first
    | refine ah ?_ ?_
    | refine aa 9 rfl (cB [] (kQ) ?_)
    | refine af ?_
    | exact ai|(refine ae fun hb=>?_;first|(cases hw.symm.trans hb;done)|skip))
   exact ao (qf [])
  | false =>
   repeat' (first
    | refine ah ?_ ?_
    | refine af ?_
    | exact ai|(refine ae fun hb=>?_;first|(cases hw.symm.trans hb;done)|skip))
   exact ao (qf [])
 refine mY cN cK hF ?_
 repeat' (first
  | refine ah ?_ ?_
  | (refine aa 12 rfl ?_;refine sx (tH rfl rfl rfl) ?_)
  | refine af ?_
  | exact ai|refine ae fun hb=>?_)
 refine Ff (mY cN cK hF ?_)
 have kB:=Lj p.led.saves
 repeat' (first
  | refine ah ?_ ?_
  | refine aa 9 rfl (cH (qf [(0,1045)]) (kB) ?_)
  | refine af ?_
  | exact ai|refine ae fun hb=>?_)
 refine Lk cN cK (s':=bH [1,3,40,1045] [(1,.c (.ptr 1 0)),(3,.c (.ptr 3 0)),(45,.c (.clo 66 [1045]))] [(1,.box 38 (p.d d)),(3,.box 75 [.sc (.slice none 0 0),.slb 40 1]),(40,.box 3 [.sc (.int .i64 (-1))]),(1045,.box 25 [.sl iN p.led.saves])]) (by exact ao (qf [])) ?_
 clear kB
 intro ρ1 a1 w1 hr
 generalize hsA:bH [1,3,40,1045] [(1,.c (.ptr 1 0)),(3,.c (.ptr 3 0)),(45,.c (.clo 66 [1045]))] [(1,.box 38 (p.d d)),(3,.box 75 [.sc (.slice none 0 0),.slb 40 1]),(40,.box 3 [.sc (.int .i64 (-1))]),(1045,.box 25 [.sl iN p.led.saves])]=sA at hr
 have i1:sA.h 1=some (.box 38 (p.d d)):=by rw [←hsA];rfl
 have i3:sA.h 3=some (.box 75 [.sc (.slice none 0 0),.slb 40 1]):=by rw [←hsA];rfl
 have i40:sA.h 40=some (.box 3 [.sc (.int .i64 (-1))]):=by rw [←hsA];rfl
 have iB:sA.h 1045=some (.box 25 [.sl iN p.led.saves]):=by rw [←hsA];rfl
 have u1:sA.t 1 = .c (.ptr 1 0):=by rw [←hsA];rfl
 have u3:sA.t 3 = .c (.ptr 3 0):=by rw [←hsA];rfl
 have u45:sA.t 45 = .c (.clo 66 [1045]):=by rw [←hsA];rfl
 clear hsA
 obtain ⟨gB,vB,eB,bB,rB,_⟩:=hr.hp 1045 _ iB
 obtain ⟨AB,capB,rfl,lB,RB⟩:∃A cap,vB=[.slice A p.led.saves.length cap]∧(p.led.saves.length≤cap∧cap≤maxLen)∧RowsAt iN w1 (Fz c0 sA.h ρ1 w1) A p.led.saves:=by
  match vB,rB with
  | [_],⟨⟨A,cap,rfl,h1,h2⟩,_⟩=>exact ⟨A,cap,rfl,h1,h2⟩
 obtain ⟨g40,v40,e40,b40,r40,_⟩:=hr.hp 40 _ i40
 obtain rfl:v40=[.int .i64 (-1)]:=by
  match v40,r40 with
  | [_],⟨h,_⟩=>rw [show _=_ from h]
 obtain ⟨g3,v3,e3,b3,r3,_⟩:=hr.hp 3 _ i3
 obtain rfl:v3=[.slice none 0 0,.slice (some ⟨g40,0,none⟩) 1 1]:=by
  match v3,r3 with
  | [x,y],⟨h,⟨g',h1,h2⟩,_⟩ =>
   rw [e40] at h1
   injection h1 with h1
   injection h1 with h1
   injection h1 with h1
   subst h1
   rw [show x=_ from h,h2]
 obtain ⟨g1,v1,e1,b1,r1,o1⟩:=hr.hp 1 _ i1
 have n13:g1≠g3:=fun h=>by have:=hr.dis 1 3 _ _ g1 i1 i3 (by rw [e1];rfl) (by rw [e3,h];rfl);cases this
 have nB3:gB≠g3:=fun h=>by have:=hr.dis 1045 3 _ _ gB iB i3 (by rw [eB];rfl) (by rw [e3,h];rfl);cases this
 have n403:g40≠g3:=fun h=>by have:=hr.dis 40 3 _ _ g40 i40 i3 (by rw [e40];rfl) (by rw [e3,h];rfl);cases this
 have n401:g40≠g1:=fun h=>by have:=hr.dis 40 1 _ _ g40 i40 i1 (by rw [e40];rfl) (by rw [e1,h];rfl);cases this
 have l1:=b1.lt
 have l3:=b3.lt
 have l40:=b40.lt
 have lB':=bB.lt
 have t3:a1.tmps.getD 3 undef = .pointer (some ⟨g3,0,none⟩):=by
  have h:=hr.tmp 3
  rw [u3] at h
  obtain ⟨g',h1,h2⟩:=h
  rw [e3] at h1
  injection h1 with h1
  injection h1 with h1
  injection h1 with h1
  rw [h2,h1]
 have t1:a1.tmps.getD 1 undef = .pointer (some ⟨g1,0,none⟩):=by
  have h:=hr.tmp 1
  rw [u1] at h
  obtain ⟨g',h1,h2⟩:=h
  rw [e1] at h1
  injection h1 with h1
  injection h1 with h1
  injection h1 with h1
  rw [h2,h1]
 have t45:a1.tmps.getD 45 undef = .func (.func 66) #[] #[.pointer (some ⟨gB,0,none⟩)]:=by
  have h:=hr.tmp 45
  rw [u45] at h
  obtain ⟨cv,h1,h2⟩:=h
  match cv,h2 with
  | [x],⟨h3,_⟩=>rw [h1,show x=_ from h3,eB]
 have hsz:a1.tmps.size=80:=hr.siz.trans cN
 have hz3:∀b,Fz c0 sA.h ρ1 w1 b→b≠g3∧b≠g1∧b<w1.heap.size:=fun b hb=>⟨fun h=>hb.2.2 3 _ i3 (by rw [e3,h];rfl),fun h=>hb.2.2 1 _ i1 (by rw [e1,h];rfl),hb.2.1⟩
 refine wp_block (wpIn_wide.1 (wpIn_rangeFunc_ownH (n:=8) rfl (by decide) (gf:=66) (lb:=#[.pointer (some ⟨gB,0,none⟩)]) t45 trivial (enters_of func66 (by kernel_rfl) rfl)
  (CM 7 (by decide) gB p.led.saves (by omega) (fun b=>b<w1.heap.size∧b≠g3) (Fz c0 sA.h ρ1 w1) w1 AB capB (bB.cell 0) RB (fun b hb=>⟨⟨(hz3 b hb).2.2,(hz3 b hb).1⟩,(hz3 b hb).2.2⟩) ⟨lB',nB3⟩ lB')
  (fun h k b hb=>(k b hb).trans (h b hb)) (fun W l o o' hl _ _ _ b hb=>World.putObj_heap_other (by have:=hb.1;omega)) (Below.refl _ _) (fun _=>rfl)
  (fun pre W=>(∃v,Blk W g3 75 #[v,.slice (some ⟨g40,0,none⟩) 1 1]∧W.ownsRow w1.heap.size 3 1 v pre.length (pre.map fun x=>.int .i64 x.2.label))∧KpT (fun b=>b<w1.heap.size∧b≠g3) w1 W∧W.os=w1.os∧W.tape=w1.tape∧W.output=w1.output∧w1.heap.size≤W.heap.size)
  (fun _ _ _=>False)
  ?hI (fun _ _ _ _ _ hs _ _=>hs) ⟨⟨.slice none 0 0,b3,rfl,.inl ⟨rfl,rfl⟩⟩,fun _ _=>rfl,rfl,rfl,rfl,Nat.le_refl _⟩
  (fun x a' W=>a'.defers=[]∧a'.tmps.size=80∧a'.tmps.getD 3 undef = .pointer (some ⟨g3,0,none⟩)∧∃Bx,w1.heap.size≤Bx∧a'.tmps.getD 5 undef = .pointer (some ⟨Bx,0,none⟩)∧Blk W Bx 80 #[.int .i64 x.2.label,.int .i64 x.2.at_])
  ?hAx ?assign ?body ?done ?stop))
 case stop=>exact fun D c pre W _ _ h _=>h.elim
 case hI =>
  rintro pre W W' row ⟨⟨v,hv,ho⟩,hk,h1,h2,h3,h4⟩ hg hrow
  have hne:∀b cs t z,W.heap[b]? = some (.cells cs t z)→some b≠row:=fun b cs t z hb e=>by
   obtain ⟨_,o,ho,hc⟩:=hrow b e.symm
   rw [hb] at ho
   cases ho
   cases hc
  refine ⟨⟨v,(hg.block g3 hv.lt (hne _ _ _ _ hv)).trans hv,oA ho fun b hb hlt=>?_⟩,fun b hb=>(hg.block b (by have:=hb.1;omega) fun e=>by have:=(hrow b e.symm).1;have:=hb.1;omega).trans (hk b hb),hg.os.trans h1,hg.tape.trans h2,hg.output.trans h3,Nat.le_trans h4 hg.size⟩
  obtain ⟨_,cur,hcur⟩:=mZ ho hb
  exact hg.block b hlt (hne _ _ _ _ hcur)
 case hAx =>
  rintro x a' _ W W' row ⟨h1,h2,h3,Bx,h4,h5,h6⟩ hg hrow
  refine ⟨h1,h2,h3,Bx,h4,h5,(hg.block Bx h6.lt fun e=>?_).trans h6⟩
  obtain ⟨_,o,ho,hc⟩:=hrow Bx e.symm
  rw [show W.heap[Bx]? = _ from h6] at ho
  cases ho
  cases hc
 case assign =>
  rintro l pre x W K ⟨⟨v,hv,ho⟩,hk,q1,q2,q3,q4⟩ hK
  have hz:(#[46,47]:Array Nat).zip (Fe x) = #[(46,.int .i64 x.1),(47,.agg #[.int .i64 x.2.label,.int .i64 x.2.at_])]:=by first|rfl|simp [Fe,Array.zip]
  rw [hz]
  simp only [List.foldl_toArray',List.foldl_cons,List.foldl_nil,List.size_toArray,List.length_cons,List.length_nil]
  obtain ⟨A0,hA0⟩:∃A0,(a1.tmps.setIfInBounds 46 (.int .i64 x.1)).setIfInBounds 47 (.agg #[.int .i64 x.2.label,.int .i64 x.2.at_])=A0:=⟨_,rfl⟩
  have z1:A0.size=80:=by rw [←hA0];simp [hsz]
  have z2:A0.getD 3 undef = .pointer (some ⟨g3,0,none⟩):=by rw [←hA0,sT,sT];simp [t3]
  have z3:A0.getD 47 undef = .agg #[.int .i64 x.2.label,.int .i64 x.2.at_]:=by rw [←hA0,sT];simp [hsz]
  rw [hA0]
  have hr2:Rp { w0:=W,S:=fun b=>b<W.heap.size,X:=fun _=>False,nt:=80,K:=[3],ρ0:=fun _=>.pointer (some ⟨g3,0,none⟩),hS:=fun _ h=>h,hX:=fun _ h=>h.elim } (bH [3] [(3,.c (.ptr 3 0)),(47,.v (.ag [.sc (.int .i64 x.2.label),.sc (.int .i64 x.2.at_)]))] []) (fun _=>.pointer (some ⟨g3,0,none⟩)) { tmps:=A0,defers:=[] } W :=
   ⟨rfl,z1,Frx.refl _ _,fun t=>mc (ts:=[(3,.c (.ptr 3 0)),(47,.v (.ag [.sc (.int .i64 x.2.label),.sc (.int .i64 x.2.at_)]))]) ⟨⟨g3,rfl,z2⟩,⟨[_,_],z3,rfl,rfl,trivial⟩,trivial⟩ t,fun k b hk=>(by cases hk),fun k b g hk=>(by cases hk),fun k k' b b' g hk=>(by cases hk),fun k hk=>⟨rfl,by rw [List.mem_singleton.1 hk];rfl⟩,zZ rfl⟩
  refine wpIn_mono (oy (nt:=80) (K:=fun s'=>s'.t 3 = .c (.ptr 3 0)∧s'.t 5 = .c (.ptr 5 0)∧s'.h 5=some (.box 80 [.sc (.int .i64 x.2.label),.sc (.int .i64 x.2.at_)])) rfl rfl rfl ?_ hr2) ?_
  ·repeat' (first
    | refine ah ?_ ?_
    | refine af ?_
    | exact ai|refine ae fun hb=>?_)
   exact ⟨rfl,rfl,rfl⟩
  rintro e a' W' ⟨rfl,s',ρ',⟨c3,c5,c6⟩,hr'⟩
  have hfr:=hr'.frm
  have hkp:∀b,b<W.heap.size→W'.heap[b]? = W.heap[b]?:=fun b hb=>hfr.keep b hb id
  obtain ⟨gx,vx,ex,bx,rx,_⟩:=hr'.hp 5 _ c6
  obtain rfl:vx=[.int .i64 x.2.label,.int .i64 x.2.at_]:=by
   match vx,rx with
   | [_,_],⟨h,h',_⟩=>rw [show _=_ from h,show _=_ from h']
  refine hK a' W' ⟨hfr.size,fun k o _ hko _=>(hkp k (Array.getElem?_eq_some_iff.1 hko).1).trans hko⟩ (fun b hb=>hkp b (Nat.lt_of_lt_of_le hb.1 q4)) ⟨⟨v,(hkp g3 hv.lt).trans hv,oA ho fun b _ hlt=>hkp b hlt⟩,fun b hb=>(hkp b (Nat.lt_of_lt_of_le hb.1 q4)).trans (hk b hb),hfr.os.trans q1,hfr.tape.trans q2,hfr.output.trans q3,Nat.le_trans q4 hfr.size⟩ ⟨hr'.dfr,hr'.siz,?_,gx,?_,?_,bx⟩
  ·have h:=hr'.tmp 3
   rw [c3] at h
   obtain ⟨g',h1,h2⟩:=h
   rw [(hr'.ent 3 (by simp)).1] at h1
   injection h1 with h1
   injection h1 with h1
   injection h1 with h1
   rw [h2,h1]
  ·rcases hr'.inb 5 _ gx c6 (by rw [ex];rfl) with h|h
   ·exact h.elim
   ·exact Nat.le_trans q4 h
  ·have h:=hr'.tmp 5
   rw [c5] at h
   obtain ⟨g',h1,h2⟩:=h
   rw [ex] at h1
   injection h1 with h1
   injection h1 with h1
   injection h1 with h1
   rw [h2,h1]
 case body =>
  rintro l pre x a' W hl ⟨r,hrec⟩ ⟨⟨v,hv,ho⟩,hk,q1,q2,q3,q4⟩ ⟨hd,hs,h3,Bx,hBx,h5,hbx⟩ hlen
  have hvb:∀b,kb v=some b→w1.heap.size≤b∧∃cur,W.heap[b]? = some (.cells cur 3 (0,0)):=fun b hb=>mZ ho hb
  have hvo:v.oneCell'=true:=by
   rcases ho.2 with ⟨rfl,_⟩|⟨g,cap,cur,rfl,_⟩ <;> rfl
  have tT:∀b,kb v=some b→b≠Bx:=fun b hb e=>by
   obtain ⟨_,cur,hcur⟩:=hvb b hb
   rw [e,show W.heap[Bx]? = _ from hbx] at hcur
   injection hcur with hcur
   injection hcur with _ hcur
   exact absurd hcur (by decide)
  obtain ⟨ρb,hρb⟩:∃ρb:Nat→Value,(fun k=>bif k.beq 3 then .pointer (some ⟨g3,0,none⟩) else bif k.beq 5 then .pointer (some ⟨Bx,0,none⟩) else v)=ρb:=⟨_,rfl⟩
  have p3:ρb 3 = .pointer (some ⟨g3,0,none⟩):=by rw [←hρb];rfl
  have p5:ρb 5 = .pointer (some ⟨Bx,0,none⟩):=by rw [←hρb];rfl
  have pv:ρb 1000=v:=by rw [←hρb];rfl
  clear hρb
  have hll:(pre.map fun x=>x.2.label).length=pre.length:=List.length_map _
  have hg3B:g3≠Bx:=by omega
  have hcas:∀(k:Nat) (b:Box),(bH [3,5,1000] [(3,.c (.ptr 3 0)),(5,.c (.ptr 5 0))] [(3,.box 75 [.own 1000,.sc (.slice (some ⟨g40,0,none⟩) 1 1)]),(5,.box 80 [.sc (.int .i64 x.2.label),.sc (.int .i64 x.2.at_)]),(1000,.arr 3 fm (pre.map fun x=>x.2.label))]).h k=some b→(k=3∧b = .box 75 [.own 1000,.sc (.slice (some ⟨g40,0,none⟩) 1 1)])∨(k=5∧b = .box 80 [.sc (.int .i64 x.2.label),.sc (.int .i64 x.2.at_)])∨(k=1000∧b = .arr 3 fm (pre.map fun x=>x.2.label)):=fun k b h=>by
   have h2:=(bZ h).2
   simp only [List.mem_cons,List.not_mem_nil,or_false,Prod.mk.injEq] at h2
   exact h2
  have hr2:Rp { w0:=W,S:=fun b=>b<W.heap.size,X:=fun b=>b=g3∨b=Bx∨kb v=some b,nt:=80,K:=[3],ρ0:=ρb,hS:=fun _ h=>h,hX:=fun b h=>by rcases h with rfl|rfl|h;exact hv.lt;exact hbx.lt;exact (Array.getElem?_eq_some_iff.1 (hvb b h).2.choose_spec).1 } (bH [3,5,1000] [(3,.c (.ptr 3 0)),(5,.c (.ptr 5 0))] [(3,.box 75 [.own 1000,.sc (.slice (some ⟨g40,0,none⟩) 1 1)]),(5,.box 80 [.sc (.int .i64 x.2.label),.sc (.int .i64 x.2.at_)]),(1000,.arr 3 fm (pre.map fun x=>x.2.label))]) ρb a' W:=by
   refine ⟨hd,hs,Frx.refl _ _,fun t=>mc (ts:=[(3,.c (.ptr 3 0)),(5,.c (.ptr 5 0))]) ⟨⟨g3,p3,h3⟩,⟨Bx,p5,h5⟩,trivial⟩ t,fun k b hkb=>?_,fun k b g hkb hg=>?_,fun k k' b b' g hkb hkb' hg hg'=>?_,fun k hk=>⟨rfl,by rw [List.mem_singleton.1 hk];rfl⟩,zZ rfl⟩
   ·rcases hcas k b hkb with ⟨rfl,rfl⟩|⟨rfl,rfl⟩|⟨rfl,rfl⟩
    ·exact ⟨g3,[v,_],p3,hv,⟨pv.symm,rfl,trivial⟩,by intro u hu;simp at hu;rcases hu with rfl|rfl;exact hvo;rfl⟩
    ·exact ⟨Bx,[_,_],p5,hbx,⟨rfl,rfl,trivial⟩,by intro u hu;simp at hu;rcases hu with rfl|rfl <;> rfl⟩
    ·refine ⟨_,?_,oz _⟩
     rw [pv,hll,List.map_map]
     exact qB ho
   ·rcases hcas k b hkb with ⟨rfl,rfl⟩|⟨rfl,rfl⟩|⟨rfl,rfl⟩
    ·rw [p3] at hg;injection hg with hg;exact .inl (.inl hg.symm)
    ·rw [p5] at hg;injection hg with hg;exact .inl (.inr (.inl hg.symm))
    ·rw [pv] at hg;exact .inl (.inr (.inr hg))
   ·have hne:∀{a b:Nat},kb (ρb 3)=some a→kb (ρb 5)=some b→a≠b:=fun h h'=>by
     rw [p3] at h;rw [p5] at h';injection h with h;injection h' with h';rw [←h,←h'];exact hg3B
    have hnv3:∀{a b:Nat},kb (ρb 3)=some a→kb (ρb 1000)=some b→a≠b:=fun h h'=>by
     rw [p3] at h;rw [pv] at h';have h:g3=_:=Option.some.inj h;have:=(hvb _ h').1;omega
    have hnv5:∀{a b:Nat},kb (ρb 5)=some a→kb (ρb 1000)=some b→a≠b:=fun h h'=>by
     rw [p5] at h;rw [pv] at h';injection h with h;rw [←h];exact (tT _ h').symm
    rcases hcas k b hkb with ⟨rfl,_⟩|⟨rfl,_⟩|⟨rfl,_⟩ <;> rcases hcas k' b' hkb' with ⟨rfl,_⟩|⟨rfl,_⟩|⟨rfl,_⟩ <;> first
     | rfl
     | exact absurd rfl (hne hg hg')
     | exact absurd rfl (hne hg' hg)
     | exact absurd rfl (hnv3 hg hg')
     | exact absurd rfl (hnv3 hg' hg)
     | exact absurd rfl (hnv5 hg hg')
     | exact absurd rfl (hnv5 hg' hg)
  have hl4:(pre.map fun x=>x.2.label).length<4:=by rw [hll];omega
  obtain ⟨L,hL⟩:∃L,(pre.map fun x=>x.2.label)=L:=⟨_,rfl⟩
  rw [hL] at hr2 hl4
  clear hcas
  refine wpIn_block (wpIn_mono (oy (nt:=80) (K:=fun s'=>s'.h 3=some (.box 75 [.own 53,.sc (.slice (some ⟨g40,0,none⟩) 1 1)])∧s'.h 53=some (.arr 3 fm (L++[x.2.label]))) rfl rfl rfl ?_ hr2) ?_)
  ·repeat' (first
    | refine ah ?_ ?_
    | (refine aa 6 rfl ?_;refine sx (tI (i:=0) rfl rfl rfl rfl (by decide) rfl) ?_)
    | (refine aa 8 rfl ?_;refine aM (aj rfl rfl (ax rfl rfl) (aB [x.2.label] rfl rfl rfl rfl) rfl aC aC) rfl rfl rfl ?_)
    | refine af ?_
    | exact ai|refine ae fun hb=>?_)
   exact ⟨rfl,rfl⟩
  rintro e a2 W' ⟨rfl,s',ρ',⟨c3,c53⟩,hr'⟩
  have hfr:=hr'.frm
  have hkp:∀b,b<W.heap.size→¬(b=g3∨b=Bx∨kb v=some b)→W'.heap[b]? = W.heap[b]?:=fun b hb hn=>hfr.keep b hb hn
  have hρ3:ρ' 3 = .pointer (some ⟨g3,0,none⟩):=((hr'.ent 3 (by simp)).1).trans p3
  obtain ⟨ga,va,ea,ba,ra,_⟩:=hr'.hp 3 _ c3
  rw [hρ3] at ea
  injection ea with ea
  injection ea with ea
  injection ea with ea
  subst ea
  obtain rfl:va=[ρ' 53,.slice (some ⟨g40,0,none⟩) 1 1]:=by
   match va,ra with
   | [_,_],⟨h,h',_⟩=>rw [show _=_ from h,show _=_ from h']
  obtain ⟨xs,o2,rp2⟩:=hr'.hp 53 _ c53
  rw [qA rp2] at o2
  have hkT:KpT (fun b=>b<w1.heap.size∧b≠g3) W W':=fun b hb=>hkp b (Nat.lt_of_lt_of_le hb.1 q4) fun h=>by
   have h1:=hb.1
   rcases h with h|h|h
   ·exact hb.2 h
   ·omega
   ·have:=(hvb b h).1;omega
  refine ⟨⟨hfr.size,fun k o _ hko hno=>(hkp k (Array.getElem?_eq_some_iff.1 hko).1 fun h=>?_).trans hko⟩,hkT,⟨ρ' 53,ba,?_⟩,fun b hb=>(hkT b hb).trans (hk b hb),hfr.os.trans q1,hfr.tape.trans q2,hfr.output.trans q3,Nat.le_trans q4 hfr.size⟩
  ·rcases h with rfl|rfl|h
   ·rw [show W.heap[k]? = _ from hv] at hko;cases hko;cases hno
   ·rw [show W.heap[k]? = _ from hbx] at hko;cases hko;cases hno
   ·obtain ⟨_,cur,hcur⟩:=hvb k h
    rw [hcur] at hko;cases hko;cases hno
  ·have e1:(L++[x.2.label]).length=(pre++[x]).length:=by rw [←hL];simp
   have e2:(L++[x.2.label]).map (Value.int .i64)=(pre++[x]).map fun x=>Value.int .i64 x.2.label:=by rw [←hL];simp
   rw [e1,e2] at o2
   refine wt o2 fun g hg=>?_
   rcases hr'.inb 53 _ g c53 hg with h|h
   ·rcases h with h|h|h
    ·have:=hr'.dis 3 53 _ _ g c3 c53 (by rw [hρ3,h];rfl) hg
     cases this
    ·omega
    ·exact (hvb g h).1
   ·exact Nat.le_trans q4 h
 case done =>
  rintro D ys W hD hys ⟨⟨v,hv,ho⟩,hk,q1,q2,q3,q4⟩ hDef
  show Code.wp _ _ _ _ _
  have hDl:D<W.heap.size:=(Array.getElem?_eq_some_iff.1 hDef).1
  have hvb:∀b,kb v=some b→w1.heap.size≤b∧∃cur,W.heap[b]? = some (.cells cur 3 (0,0)):=fun b hb=>mZ ho hb
  have hvo:v.oneCell'=true:=by
   rcases ho.2 with ⟨rfl,_⟩|⟨g,cap,cur,rfl,_⟩ <;> rfl
  have m1:w.heap.size≤g1:=by
   rcases hr.inb 1 _ g1 i1 (by rw [e1];rfl) with h|h
   ·exact absurd h (cX _)
   ·rw [cW] at h;exact h
  have m3:w.heap.size≤g3:=by
   rcases hr.inb 3 _ g3 i3 (by rw [e3];rfl) with h|h
   ·exact absurd h (cX _)
   ·rw [cW] at h;exact h
  have m40:w.heap.size≤g40:=by
   rcases hr.inb 40 _ g40 i40 (by rw [e40];rfl) with h|h
   ·exact absurd h (cX _)
   ·rw [cW] at h;exact h
  have mw:w.heap.size≤w1.heap.size:=by have:=hr.frm.size;rw [cW] at this;exact this
  obtain ⟨L,hL⟩:∃L,ys.map (fun x=>x.2.label)=L:=⟨_,rfl⟩
  have hLs:L=p.led.saves.reverse.map (·.label):=by rw [←hL,←hys,List.map_map];rfl
  have ho2:W.ownsRow w1.heap.size 3 1 v L.length (L.map (Value.int .i64)):=by
   rw [←hL,List.length_map,List.map_map]
   exact ho
  obtain ⟨c2,hc2⟩:∃c2:Ctx,({ w0:=W,S:=fun b=>(b<W.heap.size∧b≠D)∧(S b∨w.heap.size≤b),X:=fun b=>b=g1∨b=g3,nt:=80,K:=[],ρ0:=ρ1,hS:=fun _ h=>h.1.1,hX:=fun b h=>by rcases h with rfl|rfl;exact ⟨⟨by omega,by omega⟩,.inr m1⟩;exact ⟨⟨by omega,by omega⟩,.inr m3⟩,dfr:=[{ target:=.collected D,args:=#[] }] }:Ctx)=c2:=⟨_,rfl⟩
  have d1:c2.w0=W:=by rw [←hc2]
  have d2:c2.S=fun b=>(b<W.heap.size∧b≠D)∧(S b∨w.heap.size≤b):=by rw [←hc2]
  have d3:c2.X=fun b=>b=g1∨b=g3:=by rw [←hc2]
  have d4:c2.nt=80:=by rw [←hc2]
  have d5:c2.K=[]:=by rw [←hc2]
  have d6:c2.dfr=[{ target:=.collected D,args:=#[] }]:=by rw [←hc2]
  clear hc2
  obtain ⟨sB,hsB⟩:∃sB,bH [1,3] [(1,.c (.ptr 1 0)),(3,.c (.ptr 3 0))] [(1,.box 38 (p.d d)),(3,.box 75 [.sl fm L,.sl fm [-1]])]=sB:=⟨_,rfl⟩
  have hcas:∀(k:Nat) (b:Box),sB.h k=some b→(k=1∧b = .box 38 (p.d d))∨(k=3∧b = .box 75 [.sl fm L,.sl fm [-1]]):=fun k b h=>by
   rw [←hsB] at h
   have h2:=(bZ h).2
   simp only [List.mem_cons,List.not_mem_nil,or_false,Prod.mk.injEq] at h2
   exact h2
  have hfz:∀b,b<W.heap.size→b≠D→(S b∨w.heap.size≤b)→b≠g1→b≠g3→Fz c2 sB.h ρ1 W b:=fun b h1 h2 h3 h4 h5=>⟨.inl (by rw [d2];exact ⟨⟨h1,h2⟩,h3⟩),h1,fun k bx hkb hg=>by
   rcases hcas k bx hkb with ⟨rfl,_⟩|⟨rfl,_⟩
   ·rw [e1] at hg;exact h4 (Option.some.inj hg).symm
   ·rw [e3] at hg;exact h5 (Option.some.inj hg).symm⟩
  have hold:∀b,Fz c0 sA.h ρ1 w1 b→Fz c2 sB.h ρ1 W b∧W.heap[b]? = w1.heap[b]?:=fun b hb=>by
   obtain ⟨k1,k2,k3⟩:=hz3 b hb
   refine ⟨hfz b (by omega) (by omega) ?_ k2 k1,hk b ⟨k3,k1⟩⟩
   have:=hb.1
   rw [cS,cW] at this
   exact this
  have hr2:Rp c2 sB ρ1 { a1 with defers:={ target:=.collected D,args:=#[] } :: a1.defers } W:=by
   refine ⟨?_,?_,by rw [d1];exact Frx.refl _ _,fun t=>?_,fun k b hkb=>?_,fun k b g hkb hg=>?_,fun k k' b b' g hkb hkb' hg hg'=>?_,fun k hk=>(by rw [d5] at hk;cases hk),by rw [←hsB];exact zZ rfl⟩
   ·rw [d6]
    show _ :: a1.defers=_
    rw [hr.dfr,cD]
   ·rw [d4];exact hsz
   ·rw [←hsB]
    exact mc (ts:=[(1,.c (.ptr 1 0)),(3,.c (.ptr 3 0))]) ⟨⟨g1,e1,t1⟩,⟨g3,e3,t3⟩,trivial⟩ t
   ·rcases hcas k b hkb with ⟨rfl,rfl⟩|⟨rfl,rfl⟩
    ·exact ⟨g1,v1,e1,(hk g1 ⟨l1,n13⟩).trans b1,r1.imp fun a b _ h=>Go.Proofs.YtdaajdflefnjfaaGreat.D.rep.mono h hold fun _ _=>rfl,o1⟩
    ·refine ⟨g3,[v,_],e3,hv,⟨?_,?_,trivial⟩,by intro u hu;simp at hu;rcases hu with rfl|rfl;exact hvo;rfl⟩
     ·obtain ⟨A,cap,hA,hcp,hrow⟩:=dI (ρ:=ρ1) (F:=Fz c2 sB.h ρ1 W) (⟨_,qB ho2,oz L⟩:(Box.arr 3 fm L).rep W (Fz c2 sB.h ρ1 W) ρ1 v)
      refine ⟨A,cap,hA,hcp,?_⟩
      rcases Nat.eq_zero_or_pos L.length with hz|hz
      ·obtain rfl:L=[]:=List.eq_nil_of_length_eq_zero hz
       exact RowsAt.nil _ _ _ _
      ·obtain ⟨gq,xs,rfl,hlt,hre,hce,_⟩:=hrow hz
       obtain ⟨k1,cur,k2⟩:=hvb gq (by rw [hA];rfl)
       exact ⟨xs,hre,fun _=>⟨gq,0,rfl,hfz gq hlt (fun h=>by rw [h,hDef] at k2;cases k2) (.inr (by omega)) (by omega) (by omega),fun j u hu=>by rw [Nat.zero_add];exact hce j u hu⟩⟩
     ·refine ⟨some ⟨g40,0,none⟩,1,rfl,⟨Nat.le_refl _,by decide⟩,[.int .i64 (-1)],oz [-1],fun _=>⟨g40,0,rfl,hfz g40 (by omega) (by omega) (.inr m40) n401 n403,fun j u hu=>?_⟩⟩
      have h9:Blk W g40 3 #[.int .i64 (-1)]:=(hk g40 ⟨l40,n403⟩).trans b40
      rw [Nat.zero_add,h9.cell j]
      simpa using hu
   ·rw [d3]
    rcases hcas k b hkb with ⟨rfl,rfl⟩|⟨rfl,rfl⟩
    ·rw [e1] at hg;exact .inl (.inl (Option.some.inj hg).symm)
    ·rw [e3] at hg;exact .inl (.inr (Option.some.inj hg).symm)
   ·rcases hcas k b hkb with ⟨rfl,rfl⟩|⟨rfl,rfl⟩ <;> rcases hcas k' b' hkb' with ⟨rfl,rfl⟩|⟨rfl,rfl⟩
    ·rfl
    ·rw [e1] at hg;rw [e3] at hg';exact absurd ((Option.some.inj hg).trans (Option.some.inj hg').symm) n13
    ·rw [e3] at hg;rw [e1] at hg';exact absurd ((Option.some.inj hg').trans (Option.some.inj hg).symm) n13
    ·rfl
  have hend:∀e a' W',(∃s' ρ',p7 prog f9 [] (TV.c (.sl tj R)) [] e s'∧Rp c2 s' ρ' a' W')→Exit.noGoto QM e a' W':=by
   rintro e a' W' ⟨s',ρ',hf,hr'⟩
   obtain ⟨vv,hvv,hrep⟩:=Bi hf hr' rfl ρ
   have hfr:=hr'.frm
   rw [d1,d3] at hfr
   have hD':W'.heap[D]? = some (.deferred (some [])):=(hfr.keep D hDl (by rintro (h|h) <;> omega)).trans hDef
   have hdf:=hr'.dfr
   rw [d6] at hdf
   have hq:LeavesInM Fence.wide 8 prog f9 a'.tmps (fun e w'=>∃v,e=Ending.returned v∧Below w.heap.size w w'∧(TV.c (.sl tj R)).rep w' (Gr S w.heap.size w') ρ v) a'.defers .returning W':=by
    rw [hdf]
    have hres:∀w9,(results f9 a'.tmps).run prog w9 = .ok (a'.tmps.getD 2 undef) w9:=fun w9=>results_tmp rfl _ _ _
    rw [hres W'] at hvv
    injection hvv with hvv
    refine ⟨by simp,.inl ⟨D,_,rfl,run_takeDeferred hD',_,hres _,_,rfl,⟨?_,?_,?_,?_,fun b hb=>?_⟩,?_⟩⟩
    ·exact hfr.os.trans (q1.trans (by have:=hr.frm.os;rw [cW] at this;exact this))
    ·exact hfr.tape.trans (q2.trans (by have:=hr.frm.tape;rw [cW] at this;exact this))
    ·exact hfr.output.trans (q3.trans (by have:=hr.frm.output;rw [cW] at this;exact this))
    ·rw [World.putObj_size];have:=hfr.size;omega
    ·rw [World.putObj_heap_other (by omega),hfr.keep b (by omega) (by rintro (h|h) <;> omega),hk b ⟨by omega,by omega⟩]
     have:=hr.frm.keep b (by rw [cW];exact hb) (cX b)
     rw [cW] at this
     exact this
    ·rw [hvv]
     refine hrep.mono (fun b hb=>⟨⟨by rw [World.putObj_size];exact hb.2,?_⟩,World.putObj_heap_other ?_⟩) fun _ _=>rfl
     ·rcases hb.1 with h|h
      ·rw [d2] at h;exact h.2
      ·rw [d1] at h;exact .inr (by omega)
     ·rcases hb.1 with h|h
      ·rw [d2] at h;exact h.1.2
      ·rw [d1] at h;omega
   rcases hf.1 with rfl|rfl
   ·rw [←hQM];exact hq
   ·rw [←hQM];exact hq
  refine wp_mono ((?_:AW prog 80 [] _ (p7 prog f9 [] (TV.c (.sl tj R)) []) sB) c2 ρ1 _ W d4 d5 hr2) hend
  obtain ⟨O,hO⟩:∃O,wG p=O:=⟨_,rfl⟩
  rw [hO] at hR
  have hrows:=FC p L hg hLs hO
  obtain ⟨off,hoff⟩:∃off:Nat→Nat,(fun k=>if k=0 then 0 else if k=1 then L.length else L.length+1)=off:=⟨_,rfl⟩
  rw [hoff] at hrows
  have f0:off 0=0:=by rw [←hoff];rfl
  have f2:off 2=L.length+1:=by rw [←hoff];rfl
  have hOl:O.length=L.length+1:=by rw [←hO,hLs];simp [wG]
  have hL4:L.length≤4:=by rw [hLs];simp;omega
  rw [←hsB]
  clear hend hr2 hold hfz hcas hsB ho2 hLs hoff hDef hvb ho hv hk hz3 b1 b3 b40 bB r1 o1 rB r40 r3 RB hF hQM hr
  repeat' (first
   | refine ah ?_ ?_
   | refine af ?_
   | exact ai|refine ae fun hb=>?_
   | ((with_reducible refine DH ?_)))
  refine cc 6 1000 41 tj rfl rfl rfl ?_
  refine ak (fun kd:Nat=>kd≤2∧(O.take (off kd)).all mS=true) (fun kd=>bH [1,1000] [(1,.c (.ptr 1 0)),(6,.c (.own 1000)),(55,.v (.ag [.sl fm L,.sl fm [-1]])),(56,.i kd)] [(1,.box 38 (p.d d)),(1000,.arr 41 tj (O.take (off kd)))]) (fun kd=>2-kd) 0 ⟨Nat.zero_le _,by rw [f0];rfl⟩ (by rw [f0];exact ao (qf [])) ?_
  rintro kd ⟨hkd,hall⟩
  by_cases hlt:kd<2
  case neg =>
   obtain rfl:kd=2:=by omega
   rw [f2,List.take_of_length_le (by omega)] at hall ⊢
   rw [hall] at hR
   obtain rfl:R=O:=hR.symm
   repeat' (first
    | refine ah ?_ ?_
    | refine af ?_
    | exact ai|refine ae fun hb=>?_
    | (refine aE (qf []) ?_;exact ab))
  obtain ⟨row,hrow,hoff1,hrl,hel⟩:=hrows kd hlt
  repeat' (first
   | refine ah ?_ ?_
   | (refine aa 0 rfl ?_;refine sx (tJ rfl rfl rfl rfl (by omega) hrow) ?_)
   | refine af ?_
   | exact ai|refine ae fun hb=>?_)
  refine ak (fun j:Nat=>j≤row.length∧(O.take (off kd+j)).all mS=true) (fun j=>bH [1,1000] [(1,.c (.ptr 1 0)),(6,.c (.own 1000)),(7,.i kd),(55,.v (.ag [.sl fm L,.sl fm [-1]])),(56,.i kd),(60,.c (.sl fm row)),(61,.i row.length),(62,.i j)] [(1,.box 38 (p.d d)),(1000,.arr 41 tj (O.take (off kd+j)))]) (fun j=>row.length-j) 0 ⟨Nat.zero_le _,hall⟩ (by exact ao (qf [])) ?_
  clear hall
  rintro j ⟨hj,hall⟩
  by_cases hlj:j<row.length
  case neg =>
   obtain rfl:j=row.length:=by omega
   rw [hoff1] at hall ⊢
   repeat' (first
    | refine ah ?_ ?_
    | refine af ?_
    | exact ai|refine ae fun hb=>?_)
   refine ⟨kd+1,⟨by omega,hall⟩,by omega,?_⟩
   exact ao (qf [])
  obtain ⟨gl,hgk,hgl,hOj⟩:=hel j hlj
  obtain ⟨lb,hlb⟩:∃lb,row[j]=lb:=⟨_,rfl⟩
  have hrj:row[j]? = some lb:=by rw [List.getElem?_eq_getElem hlj,hlb]
  rw [hlb] at hgk hOj
  obtain ⟨X,hX⟩:∃X,Hf p gl lb=X:=⟨_,rfl⟩
  have kO:=H5 d p gl kd lb hgk hgl h72 ⟨by omega,hc2⟩ hX
  rw [hX] at hOj
  obtain ⟨bx,hbx⟩:∃bx,mS X=bx:=⟨_,rfl⟩
  have kX:=qY X hbx
  have hOlt:off kd+j<O.length:=(List.getElem?_eq_some_iff.1 hOj).1
  have hXe:O[off kd+j]=X:=(List.getElem?_eq_some_iff.1 hOj).2
  have hnx:O.take (off kd+j)++[X]=O.take (off kd+(j+1)):=by rw [←Nat.add_assoc,List.take_succ_eq_append_getElem hOlt,hXe]
  have htl:(O.take (off kd+j)).length≤5:=by rw [List.length_take];omega
  cases bx with
  | false =>
   obtain rfl:R=[]:=by
    rw [←hR]
    cases hh:O.all mS with
    | false=>rfl
    | true =>
     have:=List.all_eq_true.1 hh X (hXe▸List.getElem_mem hOlt)
     rw [hbx] at this
     cases this
   clear hnx hXe hOlt hOj hgk hgl hX hR hel hrows hoff1 hall
   generalize O.take (off kd+j)=Tk at *
   repeat' (first
    | refine ah ?_ ?_
    | (refine aa 9 rfl ?_;first
     | (refine cC [] (kO) ?_)
     | (refine cB [] (kX) ?_))
    | refine af ?_
    | exact ai|refine ae fun hb=>?_
    | (refine aE (qf []) ?_;exact ab))
  | true =>
   have hall2:(O.take (off kd+(j+1))).all mS=true:=by rw [←hnx,List.all_append,hall];simp [hbx]
   clear hXe hOlt hOj hgk hgl hX hR hel hrows hoff1 hall
   generalize O.take (off kd+j)=Tk at *
   repeat' (first
    | refine ah ?_ ?_
    | (refine aa 8 rfl ?_;refine aM (aj rfl rfl (ax rfl rfl) (aB [X] rfl rfl rfl rfl) rfl aC aC) rfl rfl rfl ?_)
    | (refine aa 9 rfl ?_;first
     | (refine cC [] (kO) ?_)
     | (refine cB [] (kX) ?_))
    | refine af ?_
    | exact ai|refine ae fun hb=>?_)
   refine ⟨j+1,⟨by omega,hall2⟩,by omega,?_⟩
   rw [←hnx]
   exact ao (qf [(1000,76)])
end Go.Proofs.YtdaajdflefnjfaaGreat
