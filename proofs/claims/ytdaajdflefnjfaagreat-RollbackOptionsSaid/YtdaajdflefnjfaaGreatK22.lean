/- Part 22 of 24 of the proof of rollbackOptions_holds (no condition). -/
import Derived.Test.YtdaajdflefnjfaaGreatK21
import Derived.Shelf.SlSortCmp.NoneTotal
import Derived.Shelf.Small.Bits
import Derived.Shelf.Small.Strs
import Derived.Shelf.Strconv.Itoa0
import Derived.Shelf.Sort.Plain
import Derived.Ground.SlsfProg
import Derived.Shelf.SlGeneric
import Derived.Shelf.SlLaysF0
import Derived.Shelf.Slices.In.SortNone
import Derived.Shelf.Slices.CompactS
import Derived.Ground.NamesProg
import Derived.Ground.Names2Prog
set_option linter.unusedVariables false
set_option linter.unusedSimpArgs false
set_option maxRecDepth 100000
set_option maxHeartbeats 64000000
namespace Go.Proofs.YtdaajdflefnjfaaGreat
open Go.RowKit Go.Proofs.Tryz
theorem FB (p:Pr):FSpec prog 24 [p.a] [] [] (.b (fo p)) [] :=
 aA (fun b W=>by kernel_rfl) rfl fun w S ρ vs _ h=>by
  match vs,h with
  | [_],⟨h1,_⟩=>rw [Pr.open h1];exact (oS p w).mono fun _ _=>dk
theorem FC (d:Nat) (r:Rq) {b:Bool} (hB:qo r=b):FSpec prog 26 [r.a d] [] [] (.b b) []:=by
 refine bJ func26 ?_
 have kE:=Ai d r.expr
 repeat' (first
  | refine af ?_ ?_
  | refine aa 9 rfl (cB [] (kE) ?_)
  | refine en ?_
  | exact ah|refine ae fun hb=>?_)
 all_goals (refine pp ?_;rw [←hB];simp [qo, *];try omega)
theorem mo (o:Opn) {b:Bool} (hB:nk o=b):FSpec prog 12 [o.a] [] [] (.b b) []:=by
 refine bJ func12 ?_
 unfold nk at hB
 have kV:=FB o.proc
 obtain ⟨v,hv⟩:∃v,fo o.proc=v:=⟨_,rfl⟩
 rw [hv] at kV hB
 cases v with
 | false =>
  obtain rfl:b=false:=by rw [←hB];rfl
  repeat' (first
   | refine af ?_ ?_
   | refine aa 9 rfl (cB [] (kV) ?_)
   | refine en ?_
   | exact ah|refine ae fun hb=>?_
   | (refine aP (qf []) ?_;exact ab))
 | true =>
  by_cases hA:(o.label = -1∨1≤o.label∧o.label≤99)∧1≤o.cost∧o.cost≤1073741824∧o.lower.length≤8
  case neg =>
   obtain rfl:b=false:=by
    rw [←hB]
    cases hh:(true && (decide (o.label = -1) || decide (1≤o.label) && decide (o.label≤99)) && decide (1≤o.cost) && decide (o.cost≤1073741824) && decide (o.lower.length≤8)) with
    | false=>rfl
    | true =>
     simp only [Bool.and_eq_true,Bool.or_eq_true,decide_eq_true_eq] at hh
     exact absurd ⟨hh.1.1.1.2,hh.1.1.2,hh.1.2,hh.2⟩ hA
   have hA':(o.label = -1∨1≤o.label∧o.label≤99)→1≤o.cost→o.cost≤1073741824→o.lower.length≤8→False:=fun a b c d=>hA ⟨a,b,c,d⟩
   clear hA
   repeat' (first
    | refine af ?_ ?_
    | refine aa 9 rfl (cB [] (kV) ?_)
    | refine en ?_
    | exact ah|(refine ae fun hb=>?_;first|(exact (hA' (by omega) (by omega) (by omega) (by omega)).elim)|skip)
    | (refine aP (qf []) ?_;exact ab))
  obtain ⟨hA1,hA2,hA3,hA4⟩:=hA
  have e1:(decide (o.label = -1) || decide (1≤o.label) && decide (o.label≤99))=true:=by simpa using hA1
  rw [e1,decide_eq_true hA2,decide_eq_true hA3,decide_eq_true hA4] at hB
  simp only [Bool.true_and] at hB
  repeat' (first
   | refine af ?_ ?_
   | refine aa 9 rfl (cB [] (kV) ?_)
   | refine en ?_
   | exact ah|refine ae fun hb=>?_)
  all_goals
   refine ao (fun y:Nat×Option ByteArray=>y.1≤o.lower.length∧(y.1=0∧y.2=none∨0<y.1∧∃z,o.lower[((y.1:Int)-1).toNat]? = some z∧y.2=some z.name)∧tA y.2 (o.lower.drop y.1)=b) (fun y=>cy [1] [(1,.c (.ptr 1 0)),(39,.c (.sl cL o.lower)),(40,.i o.lower.length),(41,.i y.1)] [(1,.box 41 o.d)]) (fun y=>o.lower.length-y.1) (0,none) ⟨Nat.zero_le _,.inl ⟨rfl,rfl⟩,hB⟩ (by exact ap (qf [])) ?_
   clear hB e1 kV
   rintro ⟨i,p⟩ ⟨hi,hp,hs⟩
   dsimp only at *
   by_cases hlt:i<o.lower.length
   ·obtain ⟨a,ha⟩:∃a,o.lower[i]? = some a:=⟨_,List.getElem?_eq_getElem hlt⟩
    have ea:o.lower[i]=a:=(List.getElem?_eq_some_iff.1 ha).2
    rw [List.drop_eq_getElem_cons hlt,ea,pz] at hs
    have kN:=Af a.name
    have kU:=Fy a.am
    obtain ⟨n,hn⟩:∃n,bE a.name.toList=n:=⟨_,rfl⟩
    obtain ⟨u,hu⟩:∃u,aR a.am=u:=⟨_,rfl⟩
    have hz:aF a.am=decide (a.am=⟨0,0⟩):=rfl
    rw [hn] at kN hs
    rw [hu] at kU hs
    rw [hz] at hs
    clear hn hu hz
    obtain ⟨G,hG⟩:∃G,tA (some a.name) (o.lower.drop (i+1))=G:=⟨_,rfl⟩
    rw [hG] at hs
    rcases hp with ⟨h0,rfl⟩|⟨h0,y,hy,rfl⟩
    ·have hs:(n && (decide (a.am=⟨0,0⟩) || u) && true && G)=b:=hs
     repeat' (first
      | refine af ?_ ?_
      | (refine aa 9 rfl ?_;first
       | (refine cB [] (kN) ?_)
       | (refine cB [] (kU) ?_))
      | refine en ?_
      | exact ah|refine ae fun hb=>?_)
     any_goals (refine pp ?_;rw [←hs];simp [*];done)
     all_goals
      refine ⟨(i+1,some a.name),⟨by dsimp only;omega,.inr ⟨by dsimp only;omega,a,?_,rfl⟩,?_⟩,by dsimp only;omega,?_⟩
      ·dsimp only
       rw [←ha]
       congr 1
       omega
      ·dsimp only
       rw [←hs,hG]
       simp [*]
      ·exact ap (qf [])
    ·have hs:(n && (decide (a.am=⟨0,0⟩) || u) && Op.bytesLess y.name.toList a.name.toList && G)=b:=hs
     repeat' (first
      | refine af ?_ ?_
      | (refine aa 9 rfl ?_;first
       | (refine cB [] (kN) ?_)
       | (refine cB [] (kU) ?_))
      | refine en ?_
      | exact ah|refine ae fun hb=>?_)
     any_goals (refine pp ?_;rw [←hs];simp [*];done)
     all_goals
      refine ⟨(i+1,some a.name),⟨by dsimp only;omega,.inr ⟨by dsimp only;omega,a,?_,rfl⟩,?_⟩,by dsimp only;omega,?_⟩
      ·dsimp only
       rw [←ha]
       congr 1
       omega
      ·dsimp only
       rw [←hs,hG]
       simp [*]
      ·exact ap (qf [])
   ·rw [List.drop_eq_nil_of_le (by omega)] at hs
    obtain rfl:b=true:=hs.symm
    repeat' (first
     | refine af ?_ ?_
     | refine en ?_
     | exact ah|refine ae fun hb=>?_
     | (refine aP (qf []) ?_;exact ab))
theorem lF {e:MapEntry}:∀{l:List (Value×Value)} {i:Nat},e∈ef i l↔∃j,l[j]? = some (e.key,e.val)∧e.born=i+j
 | [],i=>by simp [ef]
 | x :: l,i=>by
  show e∈(⟨x.1,x.2,i⟩ :: ef (i+1) l)↔_
  rw [List.mem_cons,lF]
  constructor
  ·rintro (rfl|⟨j,h1,h2⟩)
   ·exact ⟨0,rfl,rfl⟩
   ·exact ⟨j+1,by simpa using h1,by omega⟩
  ·rintro ⟨j,h1,h2⟩
   cases j with
   | zero =>
    have h1:some x=some (e.key,e.val):=h1
    injection h1 with h1
    subst h1
    exact .inl (by cases e;simp_all)
   | succ j=>exact .inr ⟨j,by simpa using h1,by omega⟩
theorem uD:∀{l:List (Value×Value)} {i:Nat},((ef i l).map (·.born)).Nodup∧∀x∈ef i l,i≤x.born
 | [],i=>by simp [ef]
 | x :: l,i=>by
  obtain ⟨h1,h2⟩:=uD (l:=l) (i:=i+1)
  constructor
  ·show (i :: (ef (i+1) l).map (·.born)).Nodup
   refine List.nodup_cons.2 ⟨fun h=>?_,h1⟩
   obtain ⟨y,hy,e⟩:=List.mem_map.1 h
   have:=h2 y hy
   omega
  ·intro y hy
   rcases List.mem_cons.1 hy with rfl|hy
   ·exact Nat.le_refl _
   ·exact Nat.le_of_succ_le (h2 y hy)
section
variable {P:Program} {nt:Nat} {Ks:List Nat} {Q:Exit→Mst→Prop} {s:Mst} {o o2:Oper} {L:List (Value×Value)}
theorem CZ {t k r K E:Nat} {x:Operand} (ht:P.underlying t=some (.map K E)) (ho:o.op = .range t x) (hdk:o.dst=some r) (hx:s.ev x = .c (.own k)) (hk:s.h k=some (.mp L)):LOp P o s [k] ⟨.c (.own r),[(r,some (.it k L.length []))],[r]⟩:=by
 intro c st ρ a w hr h1 h2 h3 h4
 have e1:=h1 x (by simp [ho,Op.operands])
 have hv1:=hr.ev x
 rw [e1,hx] at hv1
 have hv1:a.eval x=ρ k:=hv1
 have hk':=(h2 k (by simp [aG])).trans hk
 obtain ⟨g,hg,hb⟩:=hr.hp k _ hk'
 have hfr:st.f r=true:=h3 r (by simp [aG])
 have hkr:r≠k:=fun e=>by rw [e,hr.nfh hk'] at hfr;cases hfr
 have hkk:∀k':Nat,aB [(r,some (Box.it k L.length []))] k'=true→k'=r:=fun k' h=>by
  simp only [aB,Bool.or_false] at h
  exact (Nat.eq_of_beq_eq_true h).symm
 refine Oper.wp_value (v:=.pointer (some ⟨w.heap.size,0,none⟩)) (w':=w.alloc (.mapIter (some g) L.length #[] L.length)) ?_ ⟨upd ρ r (.pointer (some ⟨w.heap.size,0,none⟩)),hr.app (e:=⟨.c (.own r),[(r,some (.it k L.length []))],[r]⟩) h4 (fun k' h=>?_) (fun k' h=>?_) (fun k' h=>.inl ?_) (Frx.alloc _ _ _) (fun k' bx g' h _ hg'=>?_) (fun k1 k2 _ _ _ h h' _ _ _ _=>?_) (fun k' h=>.inl ?_) (fun k1 k2 bx h hp hx=>?_) (fun k2 bx h hp=>?_) ?_⟩
 ·have hl:(ef 0 L).toArray.size=L.length∨True:=.inr trivial
  unfold execOp
  rw [ho]
  have hb':=hb
  unfold lf at hb'
  simp [Instr.range,hv1,hg,run_underlying ht,MapKept.run_getObj_map hb',Result.andThen]
 ·have:k'=r:=by simp [aG] at h;exact h.symm
  subst this
  exact ⟨hfr,by simp [aB]⟩
 ·exact d8 (by simpa [aG] using h)
 ·rw [hkk k' h];simp [aG]
 ·rw [hkk k' h,aN] at hg'
  injection hg' with hg'
  subst hg'
  exact ⟨by simp,.inl (Nat.le_refl _)⟩
 ·rw [hkk k1 h,hkk k2 h']
 ·have:k'=r:=by simp [TV.has,V0.has,D.has] at h;exact h.symm
  subst this;simp [aG]
 ·rw [hkk k2 h] at hp
  simp only [hput,Nat.beq_refl,cond_true,Option.some.injEq] at hp
  subst hp
  simp only [Box.has] at hx
  rw [←Nat.eq_of_beq_eq_true hx]
  exact .inr (hr.nfh hk')
 ·rw [hkk k2 h] at hp ⊢
  simp only [hput,Nat.beq_refl,cond_true,Option.some.injEq] at hp
  subst hp
  rw [aN]
  refine ⟨_,g,rfl,?_,(MapKept.heap_alloc w _).1⟩
  rw [d8 (by cases h9:r.beq k with|false=>rfl|true=>exact absurd (Nat.eq_of_beq_eq_true h9) hkr),hg]
 ·exact (aN _ _ _).symm
theorem C0 {r k n j:Nat} {x:Operand} {seen:List Nat} {y:V0} {key val:Value} (ho:o.op = .entry x) (hx:s.ev x = .c (.own r)) (hr0:s.h r=some (.it k n (seen++[j]))) (hk:s.h k=some (.mp L)) (hn:n=L.length) (hj:L[j]? = some (key,val)) (hy:∀w F ρ,y.rep w F ρ val) (hyn:∀i,y.has i=false):LOp P o s [r,k] ⟨.tup [.one (.sc key),y],[],[]⟩ :=
 aZ fun c st ρ a w hr h1 h2=>by
  have e1:=h1 x (by simp [ho,Op.operands])
  have hv1:=hr.ev x
  rw [e1,hx] at hv1
  have hv1:a.eval x=ρ r:=hv1
  obtain ⟨g,m,hg,hm,hit⟩:=hr.hp r _ ((h2 r (by simp [aG])).trans hr0)
  obtain ⟨g',hg',hb⟩:=hr.hp k _ ((h2 k (by simp [aG])).trans hk)
  have em:m=g':=by rw [hm] at hg';injection hg' with h;injection h
  subst em
  subst hn
  have hmem:(⟨key,val,j⟩:MapEntry)∈ef 0 L:=lF.2 ⟨j,hj,by simp⟩
  have hrun:=run_entry_at (P:=P) w g m L.length seen.toArray (ef 0 L).toArray L.length ⟨key,val,j⟩ (by rw [hit];simp) hb (by simpa using hmem) (by simpa using uD.1)
  refine ⟨.tuple #[key,val],?_,⟨[key,val],rfl,rfl,hy _ _ _,trivial⟩,fun i hi=>?_⟩
  ·unfold execOp
   rw [ho]
   simp only [hv1,hg,Sem.run_bind,hrun,Result.andThen_ok,Sem.run_pure]
  ·have hi:(V0.has i (.one (.sc key)) || (y.has i || false))=true:=hi
   rw [hyn i] at hi
   cases hi
theorem Ii {id t t2 r k n:Nat} {x:Operand} {seen:List Nat} (ho:o.op = .next x false) (hg:o.guard=none) (hd:o.dst=some t) (ho2:o2.op = .extract (.tmp t) 0) (hg2:o2.guard=none) (hd2:o2.dst=some t2) (ht:Nat.blt t nt=true) (ht2:Nat.blt t2 nt=true)
  (hx:s.ev x = .c (.own r)) (hr0:s.h r=some (.it k n seen)) (hk:s.h k=some (.mp L)) (hn:n=L.length)
  (h1:∀j,j<n→j ∉ seen→Q .normal ((s.app (some t) ⟨.tup [.one (.sc (.bool true)),.one .any,.one .any],[(r,some (.it k n (seen++[j])))],[]⟩).app (some t2) ⟨.b true,[],[]⟩))
  (h2:(∀j,j<n→j∈seen)→Q .normal ((s.app (some t) ⟨.tup [.one (.sc (.bool false))],[],[]⟩).app (some t2) ⟨.b false,[],[]⟩)):AW P nt Ks (.region id [o,o2].toArray false) Q s:=by
 intro c ρ a w hc _ hr
 subst hc
 subst hn
 have hv1:=hr.ev x
 rw [hx] at hv1
 have hv1:a.eval x=ρ r:=hv1
 obtain ⟨g,m,hg0,hm,hit⟩:=hr.hp r _ hr0
 obtain ⟨g',hg',hb⟩:=hr.hp k _ hk
 have em:m=g':=by rw [hm] at hg';injection hg' with h;injection h
 subst em
 have hdt:∀d,o.dst=some d→d<c.nt:=fun d h=>by rw [hd] at h;injection h with h;subst h;exact Nat.le_of_ble_eq_true ht
 have hdt2:∀d,o2.dst=some d→d<c.nt:=fun d h=>by rw [hd2] at h;injection h with h;subst h;exact Nat.le_of_ble_eq_true ht2
 have hkb:kb (ρ r)=some g:=by rw [hg0];rfl
 have hkk:∀(b:Box) (k':Nat),aB [(r,some b)] k'=true→k'=r:=fun b k' h=>by
  simp only [aB,Bool.or_false] at h
  exact (Nat.eq_of_beq_eq_true h).symm
 have fin:∀(s1:Mst) (a1:Act) (w1:World) (b:Bool) (l:List V0),Rp c s1 ρ a1 w1→s1.t t = .tup (.one (.sc (.bool b)) :: l)→Q .normal (s1.app (some t2) ⟨.b b,[],[]⟩)→wpList P [o,o2].toArray (fun e a' w'=>∃s' ρ',Q e s'∧Rp c s' ρ' a' w') [o2] a1 w1:=by
  intro s1 a1 w1 b l hr1 h9 hq
  have hl:=qb (P:=P) (o:=o2) (s:=s1) (x:=.tmp t) (i:=0) (y:=.one (.sc (.bool b))) ho2 h9 rfl
  refine wpList_step fun K' hK'=>?_
  have hw:Region.wanted o2 (yielded [o,o2].toArray a1.tmps)=true:=by unfold Region.wanted;rw [hg2]
  rw [if_pos hw]
  refine Oper.wp_post (hl c s1 ρ a1 w1 hr1 (fun _ _=>rfl) (fun _ _=>rfl) (fun k hk=>by simp [aG] at hk) hdt2) ?_
  rintro a' w' ⟨ρ',hr'⟩
  rw [hd2] at hr'
  exact hK' _ _ (wpList_nil ⟨_,ρ',hq,hr'⟩)
 refine wp_region_lit (wpList_step fun K' hK'=>?_)
 have hw:Region.wanted o (yielded [o,o2].toArray a.tmps)=true:=by unfold Region.wanted;rw [hg]
 rw [if_pos hw]
 have hnx:=run_next_at (P:=P) w o.type g m L.length L.length seen.toArray (ef 0 L).toArray L.length hit hb (fun x hx=>by
  obtain ⟨j,h,e⟩:=lF.1 (by simpa using hx)
  have:=(List.getElem?_eq_some_iff.1 h).1
  omega) (Nat.le_refl _)
 rcases hnx with ⟨h0,hrun⟩|⟨e,he,w1,hw1,hrun⟩
 ·refine Oper.wp_value (v:=.tuple #[.bool false]) (w':=w) ?_ (hK' _ _ (fin (s.app (some t) ⟨.tup [.one (.sc (.bool false))],[],[]⟩) _ _ false [] ?_ ?_ (h2 fun j hj=>?_)))
  ·unfold execOp
   rw [ho]
   simp only [hv1,hg0,Sem.run_bind,hrun,Result.andThen_ok,Sem.run_pure]
  ·rw [hd]
   exact hr.app (e:=⟨.tup [.one (.sc (.bool false))],[],[]⟩) (fun d h=>hdt d (hd.trans h)) (fun k hk=>by simp [aG] at hk) (fun _ _=>rfl) (fun k hk=>by simp [aB] at hk) (Frx.refl _ _) (fun k bx g hk=>by simp [aB] at hk) (fun k k' b b' g hk=>by simp [aB] at hk) (fun k h=>by simp [TV.has,V0.has,D.has] at h) (fun k k' bx hk=>by simp [aB] at hk) (fun k bx hk=>by simp [aB] at hk) ⟨[.bool false],rfl,rfl,trivial⟩
  ·simp [Mst.app,lg]
  ·have hle:leftOf (ef 0 L).toArray seen.toArray = #[]:=Array.eq_empty_of_size_eq_zero h0
   have hmem:(⟨(L[j]).1,(L[j]).2,j⟩:MapEntry)∈ef 0 L:=lF.2 ⟨j,List.getElem?_eq_getElem hj,by simp⟩
   unfold leftOf at hle
   rw [Array.filter_eq_empty_iff] at hle
   have:=hle _ (by simpa using hmem)
   simpa using this
 ·obtain ⟨he1,he2⟩:e∈ef 0 L∧e.born ∉ seen:=by unfold leftOf at he;simpa using he
  obtain ⟨j,hj,ej⟩:=lF.1 he1
  rw [Nat.zero_add] at ej
  have hjl:=(List.getElem?_eq_some_iff.1 hj).1
  have hr1:Rp c s ρ a w1:=by
   rcases hw1 with rfl|rfl
   ·exact hr
   ·exact hr.drew
  have hit1:w1.heap[g]? = some (.mapIter (some m) L.length seen.toArray L.length):=by rcases hw1 with rfl|rfl <;> exact hit
  have hset:=MapKept.heap_set (o':=.mapIter (some m) L.length (seen.toArray.push e.born) L.length) hit1
  have hlt:g<w1.heap.size:=(Array.getElem?_eq_some_iff.1 hit1).1
  have hkr:k≠r:=fun e=>by rw [e,hr0] at hk;cases hk
  refine Oper.wp_value (v:=.tuple #[.bool true,e.key,e.val]) (w':=ChangeMaps.setBlock w1 g (.mapIter (some m) L.length (seen.toArray.push e.born) L.length)) ?_ (hK' _ _ (fin (s.app (some t) ⟨.tup [.one (.sc (.bool true)),.one .any,.one .any],[(r,some (.it k L.length (seen++[j])))],[]⟩) _ _ true [.one .any,.one .any] ?_ ?_ (h1 j hjl (ej▸he2))))
  ·unfold execOp
   rw [ho]
   simp only [hv1,hg0,Sem.run_bind,hrun,Result.andThen_ok,Sem.run_pure]
  ·rw [hd]
   refine hr1.app (e:=⟨.tup [.one (.sc (.bool true)),.one .any,.one .any],[(r,some (.it k L.length (seen++[j])))],[]⟩) (fun d h=>hdt d (hd.trans h)) (fun k hk=>by simp [aG] at hk) (fun _ _=>rfl) (fun k' h=>.inr (by rw [hkk _ k' h];exact hr.nfh hr0)) ⟨rfl,rfl,rfl,by simp [ChangeMaps.setBlock],fun b hlt hn=>hset.2 b fun e=>hn ⟨r,_,by simp [aB],hr0,by rw [hkb,e]⟩⟩ ?_ ?_ (fun k h=>by simp [TV.has,V0.has,D.has] at h) ?_ ?_ ⟨[.bool true,e.key,e.val],rfl,rfl,trivial,trivial,trivial⟩
   ·intro k' bx g' h _ hg'
    rw [hkk _ k' h,hkb] at hg'
    injection hg' with hg'
    subst hg'
    exact ⟨by simpa [ChangeMaps.setBlock] using hlt,.inr ⟨r,_,by simp [aB],hr0,hkb⟩⟩
   ·intro k1 k2 _ _ _ h h' _ _ _ _
    rw [hkk _ k1 h,hkk _ k2 h']
   ·intro k1 k2 bx h hp hx
    rw [hkk _ k2 h] at hp
    simp only [hput,Nat.beq_refl,cond_true,Option.some.injEq] at hp
    subst hp
    simp only [Box.has] at hx
    rw [←Nat.eq_of_beq_eq_true hx]
    exact .inr (hr.nfh hk)
   ·intro k2 bx h hp
    rw [hkk _ k2 h] at hp ⊢
    simp only [hput,Nat.beq_refl,cond_true,Option.some.injEq] at hp
    subst hp
    refine ⟨g,m,hg0,hm,?_⟩
    have:(ChangeMaps.setBlock w1 g (.mapIter (some m) L.length (seen.toArray.push e.born) L.length)).heap[g]? = some (.mapIter (some m) L.length (seen.toArray.push e.born) L.length):=hset.1
    rw [this,ej]
    simp
  ·simp [Mst.app,lg]
end
theorem MH (g:Lg) (i j:Nat) (hi:i≤g.entries.length) (hj:j≤g.saves.length) (h1:g.entries.length≤100000) (h2:g.saves.length≤100000) {E':List En} {S':List Sv} (hE:g.entries.take i=E') (hS:g.saves.take j=S'):FSpec prog 105 [g.a,.one (.sc (.int .i64 i)),.one (.sc (.int .i64 j))] [] [1,2] (.v (.ag [.own 1,.own 2])) [(1,some (.arr 112 iI E')),(2,some (.arr 80 iF S'))]:=by
 refine bJ func105 ?_
 have hEl:E'.length≤100000:=by rw [←hE];simp;omega
 have hSl:S'.length≤100000:=by rw [←hS];simp;omega
 have hE2:(g.entries.take i).drop 0=E':=hE
 have hS2:(g.saves.take j).drop 0=S':=hS
 repeat' (first
  | refine af ?_ ?_
  | (refine aa 14 rfl ?_;first|refine sx (rO rfl rfl rfl (.inr ⟨rfl,rfl⟩) rfl rfl (Nat.zero_le _) hi hE2) ?_|refine sx (rO rfl rfl rfl (.inr ⟨rfl,rfl⟩) rfl rfl (Nat.zero_le _) hj hS2) ?_)
  | refine en ?_
  | exact ah|refine ae fun hb=>?_
  | (refine aP (qf [(1,12),(2,18)]) ?_;exact ab))
section
open Go.Sort Go.Lib
section
variable {α:Type}
theorem yz (f:α→List Value) (k:Nat) (hk:∀x,(f x).length=k) (h0:0<k):∀(l:List α) (t:Nat),((l.map f).flatten)[t]? = (l[t / k]?).bind fun x=>(f x)[t % k]?
 | [],t=>by simp
 | x :: l,t=>by
  rw [List.map_cons,List.flatten_cons]
  rcases Nat.lt_or_ge t k with h|h
  ·rw [List.getElem?_append_left (by rw [hk];exact h),Nat.div_eq_of_lt h,Nat.mod_eq_of_lt h]
   rfl
  ·rw [List.getElem?_append_right (by rw [hk];exact h),hk,yz f k hk h0 l (t-k)]
   obtain ⟨u,rfl⟩:∃u,t=u+k:=⟨t-k,by omega⟩
   rw [Nat.add_sub_cancel,Nat.add_div_right _ h0,Nat.add_mod_right]
   rfl
theorem jQ [Inhabited α] (f:α→List Value) (k:Nat) (hk:∀x,(f x).length=k) (h0:0<k) (l:List α):(flatK f k l.toArray).toList=(l.map f).flatten:=by
 apply List.ext_getElem?
 intro t
 rw [yz f k hk h0]
 rcases Nat.lt_or_ge t (l.length*k) with h|h
 ·have hd:t / k<l.length:=(Nat.div_lt_iff_lt_mul h0).2 h
  have hm:t % k<k:=Nat.mod_lt _ h0
  rw [Array.getElem?_toList,Array.getElem?_eq_getElem (by simpa using h),←getElem!_pos _ t (by simpa using h),get_flatK _ _ _ _ (by simpa using h),getElem!_pos _ (t / k) (by simpa using hd),List.getElem?_eq_getElem hd,Option.bind_some,getElem!_pos _ (t % k) (by rw [hk];exact hm),List.getElem?_eq_getElem (by rw [hk];exact hm)]
  rfl
 ·have hd:l.length≤t / k:=by
   rw [Nat.le_div_iff_mul_le h0]
   exact h
  rw [List.getElem?_eq_none hd,Array.getElem?_toList,Array.getElem?_eq_none (by simpa using h)]
  rfl
variable {n:Nat} {pos:0<n} {f:α→List Value} {len:∀x,(f x).length=n} {one:∀x,∀u∈f x,u.oneCell'=true} {w:World} {S:Nat→Prop} {base:Nat} {e:TypeId} {g cap:Nat} {l:List α}
theorem Reps.plain:∀{l:List α} {xs:List Value},Reps (El.plain n pos f len one) w S l xs→xs=(l.map f).flatten
 | [],xs,h=>h
 | x :: l,xs,h=>by
  obtain ⟨cs,rest,rfl,h1,h2⟩:=h
  rw [Reps.plain h2,show cs=f x from h1]
  rfl
theorem Reps.plain_mk:∀(l:List α),Reps (El.plain n pos f len one) w S l (l.map f).flatten
 | []=>rfl
 | x :: l=>⟨f x,(l.map f).flatten,rfl,rfl,Reps.plain_mk l⟩
theorem OwnRows.holdsK [Inhabited α] (h:OwnRows (El.plain n pos f len one) e w base (.slice (some ⟨g,0,none⟩) l.length cap) l):HoldsK f n w g 0 l.toArray:=by
 intro t ht
 rw [size_flatK] at ht
 have ht':t<l.length*n:=ht
 have hcapn:l.length≤cap:=by
  obtain ⟨A,cap',hA,_,hc,_⟩:=h.form
  injection hA with _ _ e3
  omega
 have hcell:=h.cellAt (j:=t) (Nat.lt_of_lt_of_le ht' (Nat.mul_le_mul_right _ hcapn))
 rw [Nat.zero_add]
 refine ⟨?_,hcell.2⟩
 obtain ⟨h0,xs,⟨h1,h2⟩,h3⟩:=h
 rcases h2 with ⟨hv,_⟩|⟨g',cap',cur,hv,hg,hh,hnc,hcm,hcs,htk⟩
 ·cases hv
 ·injection hv with e1 _ e3
  injection e1 with e1
  injection e1 with e1
  subst e1
  subst e3
  have hx:=Reps.plain h3
  have hlt:t<cur.size:=by rw [hcs];exact Nat.lt_of_lt_of_le ht' (Nat.mul_le_mul_right _ hcapn)
  have hc:w.cell? ⟨g,t,none⟩=cur[t]?:=by simp [World.cell?,hh]
  have hxt:cur[t]? = xs[t]?:=by
   rw [←htk,List.getElem?_take,if_pos (show t<l.length*(El.plain n pos f len one).n from ht'),Array.getElem?_toList]
  rw [hc,hxt,hx,←jQ f n len pos l,Array.getElem?_toList,Array.getElem?_eq_getElem (by simpa using ht'),←getElem!_pos _ t (by simpa using ht')]
  rfl
theorem OwnRows.sorted [Inhabited α] (h:OwnRows (El.plain n pos f len one) e w base (.slice (some ⟨g,0,none⟩) l.length cap) l) (hg:g<w.heap.size) {l':List α} (hl:l'.length=l.length) (m:Nat) (os:Array Obj) :
  OwnRows (El.plain n pos f len one) e (sortWorldK f n w g 0 m l'.toArray os) base (.slice (some ⟨g,0,none⟩) l.length cap) l':=by
 obtain ⟨h0,xs,⟨h1,h2⟩,h3⟩:=h
 have hsz:w.heap.size≤(sortWorldK f n w g 0 m l'.toArray os).heap.size:=by
  simp [sortWorldK,grow,putRowK,putRow,mapBlock]
 refine ⟨Nat.le_trans h0 hsz,(l'.map f).flatten,?_,Reps.plain_mk l'⟩
 rw [hl]
 have hfl:((l'.map f).flatten).length=l.length*n:=by
  rw [←jQ f n len pos l',Array.length_toList,size_flatK]
  simp [hl]
 refine ⟨hfl,?_⟩
 rcases h2 with ⟨hv,_⟩|⟨g',cap',cur,hv,hgb,hh,hnc,hcm,hcs,htk⟩
 ·cases hv
 ·injection hv with e1 _ e3
  injection e1 with e1
  injection e1 with e1
  subst e1
  subst e3
  have hF:(flatK f n l'.toArray).size=l.length*n:=by simp [hl]
  have hle:l.length*n≤cap*n:=Nat.mul_le_mul_right _ hnc
  refine .inr ⟨g,cap,putCells id 0 (flatK f n l'.toArray) cur,rfl,hgb,?_,hnc,hcm,by simp [putCells,hcs],?_⟩
  ·show (w.heap.modify g (onCells (putCells id 0 (flatK f n l'.toArray)))++os)[g]? = _
   rw [Array.getElem?_append_left (by simpa using hg),Array.getElem?_modify,if_pos rfl,hh]
   rfl
  ·rw [←jQ f n len pos l']
   apply List.ext_getElem?
   intro t
   rw [List.getElem?_take]
   show (if t<l.length*n then _ else _)=_
   split
   ·next ht =>
    rw [Array.getElem?_toList,Array.getElem?_toList]
    unfold putCells
    rw [Array.getElem?_mapIdx,Array.getElem?_eq_getElem (by rw [hcs];exact Nat.lt_of_lt_of_le ht hle),Option.map_some,if_pos ⟨Nat.zero_le _,by rw [hF];omega⟩,Array.getElem?_eq_getElem (by rw [hF];exact ht),Nat.sub_zero,←getElem!_pos _ t (by rw [hF];exact ht)]
    rfl
   ·next ht =>
    rw [Array.getElem?_toList,Array.getElem?_eq_none (by rw [hF];omega)]
end
end
end Go.Proofs.YtdaajdflefnjfaaGreat
namespace Go.Proofs
open Go.Shelf
def Tryz.lays106_ren:Go.Shelf.Ren:=⟨fun|106=>142|213=>205|265=>237|n=>n,fun|9=>9|3=>3|n=>n,fun|n=>n⟩
theorem Tryz.lays106:Go.Proofs.Lays.n106 Tryz.prog Tryz.lays106_ren:={
 mixed:=by kernel_rfl
 f106:=Tryz.func142.trans (congrArg some (by kernel_rfl))
 f213:=Tryz.func205.trans (congrArg some (by kernel_rfl))
 f265:=Tryz.func237.trans (congrArg some (by kernel_rfl))
 t3:=Tryz.underlying3
 a3:=Tryz.isAgg3
 z3:=Tryz.sizeOf3
 v3:=Tryz.zeroValue3
 t9:=Tryz.underlying9
 a9:=Tryz.isAgg9
 z9:=Tryz.sizeOf9
 v9:=Tryz.zeroValue9 }
open Go.RowKit in
theorem Tryz.strings_Compare (a b:ByteArray) (w:World) :
  Calls Tryz.prog 142 #[.string a,.string b] w fun e w'=>e = .returned (.int .i64 (Lib.compareBytes a.data.toList b.data.toList))∧w'=w:=Any.strings_Compare Tryz.lays106 a b w
end Go.Proofs
namespace Go.Proofs
open Go.Shelf
def Tryz.sortAtoms_ren:Go.Shelf.Ren:=⟨fun|6=>107|15=>111|14=>141|28=>153|29=>154|20=>197|21=>198|22=>199|23=>200|24=>201|25=>202|26=>203|27=>204|46=>234|47=>208|48=>209|49=>235|50=>236|57=>248|n=>n,fun|22=>39|24=>31|25=>178|3=>3|39=>149|0=>0|53=>224|55=>96|4=>4|46=>216|45=>215|50=>221|5=>5|9=>9|66=>273|70=>208|76=>304|77=>278|n=>n,fun|n=>n⟩
theorem Tryz.sortAtoms:Go.Proofs.SlLaysF0.n6 Tryz.prog Tryz.sortAtoms_ren:={
 mixed:=by kernel_rfl
 f6:=⟨Tryz.f107.name,by decide,Tryz.func107.trans (congrArg some (by kernel_rfl))⟩
 f14:=⟨Tryz.f141.name,by decide,Tryz.func141.trans (congrArg some (by kernel_rfl))⟩
 f15:=Tryz.func111.trans (congrArg some (by kernel_rfl))
 f20:=⟨Tryz.f197.name,by decide,Tryz.func197.trans (congrArg some (by kernel_rfl))⟩
 f21:=⟨Tryz.f198.name,by decide,Tryz.func198.trans (congrArg some (by kernel_rfl))⟩
 f22:=⟨Tryz.f199.name,by decide,Tryz.func199.trans (congrArg some (by kernel_rfl))⟩
 f23:=⟨Tryz.f200.name,by decide,Tryz.func200.trans (congrArg some (by kernel_rfl))⟩
 f24:=⟨Tryz.f201.name,by decide,Tryz.func201.trans (congrArg some (by kernel_rfl))⟩
 f25:=⟨Tryz.f202.name,by decide,Tryz.func202.trans (congrArg some (by kernel_rfl))⟩
 f26:=⟨Tryz.f203.name,by decide,Tryz.func203.trans (congrArg some (by kernel_rfl))⟩
 f27:=⟨Tryz.f204.name,by decide,Tryz.func204.trans (congrArg some (by kernel_rfl))⟩
 f28:=Tryz.func153.trans (congrArg some (by kernel_rfl))
 f29:=Tryz.func154.trans (congrArg some (by kernel_rfl))
 f46:=⟨Tryz.f234.name,by decide,Tryz.func234.trans (congrArg some (by kernel_rfl))⟩
 f47:=Tryz.func208.trans (congrArg some (by kernel_rfl))
 f48:=Tryz.func209.trans (congrArg some (by kernel_rfl))
 f49:=⟨Tryz.f235.name,by decide,Tryz.func235.trans (congrArg some (by kernel_rfl))⟩
 f50:=⟨Tryz.f236.name,by decide,Tryz.func236.trans (congrArg some (by kernel_rfl))⟩
 f57:=⟨Tryz.f248.name,by decide,Tryz.func248.trans (congrArg some (by kernel_rfl))⟩
 t0:=Tryz.underlying0
 a0:=Tryz.isAgg0
 z0:=Tryz.sizeOf0
 v0:=Tryz.zeroValue0
 t3:=Tryz.underlying3
 a3:=Tryz.isAgg3
 z3:=Tryz.sizeOf3
 v3:=Tryz.zeroValue3
 t4:=Tryz.underlying4
 a4:=Tryz.isAgg4
 z4:=Tryz.sizeOf4
 v4:=Tryz.zeroValue4
 t5:=Tryz.underlying5
 a5:=Tryz.isAgg5
 z5:=Tryz.sizeOf5
 v5:=Tryz.zeroValue5
 t9:=Tryz.underlying9
 a9:=Tryz.isAgg9
 z9:=Tryz.sizeOf9
 v9:=Tryz.zeroValue9
 t22:=Tryz.underlying39
 a22:=Tryz.isAgg39
 z22:=Tryz.sizeOf39
 v22:=Tryz.zeroValue39
 t25:=Tryz.underlying178
 a25:=Tryz.isAgg178
 z25:=Tryz.sizeOf178
 v25:=Tryz.zeroValue178
 t39:=Tryz.underlying149
 a39:=Tryz.isAgg149
 z39:=Tryz.sizeOf149
 v39:=Tryz.zeroValue149
 t45:=Tryz.underlying215
 a45:=Tryz.isAgg215
 z45:=Tryz.sizeOf215
 v45:=Tryz.zeroValue215
 t46:=Tryz.underlying216
 a46:=Tryz.isAgg216
 z46:=Tryz.sizeOf216
 v46:=Tryz.zeroValue216
 t50:=Tryz.underlying221
 a50:=Tryz.isAgg221
 z50:=Tryz.sizeOf221
 v50:=Tryz.zeroValue221
 t53:=Tryz.underlying224
 a53:=Tryz.isAgg224
 z53:=Tryz.sizeOf224
 v53:=Tryz.zeroValue224
 t55:=Tryz.underlying96
 a55:=Tryz.isAgg96
 z55:=Tryz.sizeOf96
 v55:=Tryz.zeroValue96
 t66:=Tryz.underlying273
 a66:=Tryz.isAgg273
 z66:=Tryz.sizeOf273
 v66:=Tryz.zeroValue273
 t70:=Tryz.underlying208
 a70:=Tryz.isAgg208
 z70:=Tryz.sizeOf208
 v70:=Tryz.zeroValue208
 t76:=Tryz.underlying304
 a76:=Tryz.isAgg304
 z76:=Tryz.sizeOf304
 v76:=Tryz.zeroValue304
 t77:=Tryz.underlying278
 a77:=Tryz.isAgg278
 z77:=Tryz.sizeOf278
 v77:=Tryz.zeroValue278 }
end Go.Proofs
namespace Go.Proofs.YtdaajdflefnjfaaGreat
open Go.RowKit Go.Proofs.Tryz
section
open Go.Shelf Go.Sort
def ni (a b:ByteArray):Int:=Lib.compareBytes a.data.toList b.data.toList
theorem Bw:∀{l m:List UInt8},(Lib.compareBytes l m<0↔l<m)∧(Lib.compareBytes l m=0↔l=m)
 | [],[]=>by simp [Lib.compareBytes]
 | [],_ :: _=>by simp [Lib.compareBytes]
 | _ :: _,[]=>by simp [Lib.compareBytes]
 | a :: l,b :: m=>by
  obtain ⟨h1,h2⟩:=Bw (l:=l) (m:=m)
  rw [List.cons_lt_cons_iff]
  unfold Lib.compareBytes
  by_cases ha:a<b
  ·simp [ha]
   intro e;subst e;exact absurd ha (UInt8.lt_irrefl _)
  ·by_cases hb:b<a
   ·simp [ha,hb]
    constructor <;> (intro e;subst e;exact absurd hb (UInt8.lt_irrefl _))
   ·have e:a=b:=UInt8.le_antisymm (UInt8.not_lt.1 hb) (UInt8.not_lt.1 ha)
    subst e
    simp [h1,h2]
theorem Ij {a b:ByteArray}:ni a b<0↔fD a b=true:=by
 unfold ni fD
 rw [bytesLess_eq,decide_eq_true_eq,Bw.1,ByteArray.toList_eq,ByteArray.toList_eq]
theorem yA (a b:ByteArray):ltOf ni a b=fD a b:=by
 unfold ltOf
 rw [Bool.eq_iff_iff,decide_eq_true_iff,Ij]
theorem oE:Go.Sort.SWO (ltOf ni) where
 irrefl x:=by rw [yA];exact dt x
 trans x y z h1 h2:=by rw [yA] at *;exact eh h1 h2
 ntrans x y z h1 h2:=by
  rw [yA] at *
  cases h:fD x z with
  | false=>rfl
  | true =>
   exfalso
   by_cases e:x=y
   ·subst e;rw [h] at h2;cases h2
   ·have h3:=lV h1 e
    rw [eh h3 h] at h2
    cases h2
theorem Al (x y:ByteArray) (h1:ltOf ni x y=false) (h2:ltOf ni y x=false):x=y:=by
 rw [yA] at *
 by_cases e:x=y
 ·exact e
 ·rw [lV h1 e] at h2;cases h2
def IZ (h:ByteArray→Am) (n:ByteArray):List Value:=[.string n,.int .i64 (h n).mode,.int .i64 (h n).units]
def tg (h:ByteArray→Am) (n:ByteArray):Tm:=⟨n,h n⟩
theorem C1 (x y:Tm) (w:World):Calls prog 108 #[.agg x.cells.toArray,.agg y.cells.toArray] w fun e w'=>e = .returned (.int .i64 (ni x.name y.name))∧∃os,w'=Go.Sort.grow w os:=by
 have HC:=Lib.hid (fun w=>strings_Compare x.name y.name w)
 obtain ⟨n,⟨m,u⟩⟩:=x
 obtain ⟨n',⟨m',u'⟩⟩:=y
 unfold Tm.cells
 dsimp only
 go_enter func108,ntmps108
 go_wp2_with fail
 refine (HC.out _).mono ?_
 rintro e w1 ⟨rfl,rfl⟩
 go_wp2
 go_ret
 exact ⟨rfl,_,by rw [Go.Sort.alloc_eq_grow,Go.Sort.alloc_eq_grow,Go.Sort.grow_grow]⟩
def gJ (N:List ByteArray):List ByteArray:=N.mergeSort fun x y=>!(ltOf ni) y x
theorem C2 (h:ByteArray→Am) (N:List ByteArray) (hl:N.length≤100000) (w:World) {v:Value} {F:Nat→Prop} {xs:List Value} (h1:w.ownsRow 0 31 cL.n v (N.map (tg h)).length xs) (h2:Reps cL w F (N.map (tg h)) xs) :
  Calls prog 107 #[v,.func (.func 108) #[] #[]] w fun e w'=>e = .returned (.tuple #[])∧(Frx w w' fun b=>kb v=some b)∧∃ys,w'.ownsRow 0 31 cL.n v ((gJ N).map (tg h)).length ys∧∀F',Reps cL w' F' ((gJ N).map (tg h)) ys:=by
 have hxs:xs=(N.map (IZ h)).flatten:=by
  rw [Reps.plain h2,List.map_map]
  rfl
 have hl':(N.map (tg h)).length=N.length:=by simp
 have one:∀x,∀u∈IZ h x,u.oneCell'=true:=by intro x u hu;simp [IZ] at hu;rcases hu with rfl|rfl|rfl <;> rfl
 have hrep:∀(w:World) (F:Nat→Prop) (M:List ByteArray),Reps cL w F (M.map (tg h)) (M.map (IZ h)).flatten:=fun w F M=>by
  have this:Reps cL w F (M.map (tg h)) ((M.map (tg h)).map Tm.cells).flatten:=Reps.plain_mk _
  rw [List.map_map] at this
  exact this
 have hown:OwnRows (El.plain 3 (by decide) (IZ h) (fun _=>rfl) one) 31 w 0 v N:=⟨Nat.zero_le _,xs,by rw [←hl'];exact h1,by rw [hxs];exact Reps.plain_mk N⟩
 rcases Nat.eq_zero_or_pos N.length with h0|h0
 ·obtain ⟨A,cap,rfl,_,_,_,_⟩:=hown.form2
  obtain rfl:=List.eq_nil_of_length_eq_zero h0
  refine (AnyF.slices_SortFunc_none { sortAtoms with } A cap _ w).mono ?_
  rintro e w' ⟨rfl,rfl⟩
  exact ⟨rfl,Frx.refl _ _,xs,by simpa [gJ] using h1,fun F'=>by rw [hxs];simpa [gJ] using hrep w' F' []⟩
 ·obtain ⟨g,cap,rfl,hg,hg2,_,_,_,_⟩:=hown.addr h0
  have eg:∀args w,(callFunc 108 args).run prog w = .ok (.enter 108 args) w:=enters_of func108 (by kernel_rfl) rfl
  have hcmp:CmpLays prog 108 #[] (IZ h) 3 ni g 0 N.toArray.size w:=fun _ _ _ _ x y=>(C1 (tg h x) (tg h y) _).mono fun e w' ⟨he,os,hw⟩=>⟨he,0,os,hw⟩
  have:=AnyQ.slices_SortFunc_total sortAtoms 3 isAgg31 sizeOf31 (IZ h) (fun _=>rfl) one ni oE 108 #[] g 0 cap N.toArray w eg hcmp hown.holdsK hg2 (by simp;omega) Al
  refine Calls.mono this ?_
  rintro e w' ⟨rfl,n,os,rfl⟩
  have hs:=hown.sorted hg2 (l':=gJ N) (by simp [gJ]) n os
  have hb:∀b,b<w.heap.size→b≠g→(sortWorldK (IZ h) 3 w g 0 n (gJ N).toArray os).heap[b]? = w.heap[b]?:=fun b hb hn=>by
   show (w.heap.modify g _++os)[b]? = _
   rw [Array.getElem?_append_left (by simpa using hb),Array.getElem?_modify,if_neg (fun e=>hn e.symm)]
  refine ⟨rfl,⟨rfl,rfl,rfl,by simp [sortWorldK,grow,putRowK,putRow,mapBlock],fun b hlt hn=>hb b hlt fun e=>hn (by rw [e];rfl)⟩,?_⟩
  obtain ⟨_,ys,h3,h4⟩:=hs
  refine ⟨ys,?_,fun F'=>?_⟩
  ·rw [List.length_map]
   have e9:(gJ N).length=N.length:=by simp [gJ]
   rw [e9] at h3 ⊢
   exact h3
  ·rw [Reps.plain h4]
   exact hrep _ F' (gJ N)
theorem Kh (h:ByteArray→Am) (N:List ByteArray) (hl:N.length≤100000):FSpec prog 107 [.one (.own 0),.one (.sc (.func (.func 108) #[] #[]))] [(0,.arr 31 cL (N.map (tg h)))] [] (.tup []) [(0,some (.arr 31 cL ((gJ N).map (tg h))))]:=by
 refine ⟨fun b W=>by kernel_rfl,fun q c st ρ a w vs hr hinj hargs hhin hus=>?_⟩
 match vs,hargs with
 | [v,f],⟨h0,h1,_⟩ =>
  obtain rfl:v=ρ (q 0):=h0
  obtain rfl:f = .func (.func 108) #[] #[]:=h1
  have hk:=hhin 0 _ rfl
  obtain ⟨xs,hx1,hx2⟩:=hr.hp (q 0) _ hk
  refine (C2 h N hl w hx1 hx2).mono ?_
  rintro e w' ⟨rfl,hf,ys,hy1,hy2⟩
  refine ⟨_,rfl,fun dst hdst=>⟨ρ,?_⟩⟩
  have hkk:∀k':Nat,aB [(q 0,some (Box.arr 31 cL ((gJ N).map (tg h))))] k'=true→k'=q 0:=fun k' h=>by
   simp only [aB,Bool.or_false] at h
   exact (Nat.eq_of_beq_eq_true h).symm
  refine hr.app (e:=⟨.tup [],[(q 0,some (.arr 31 cL ((gJ N).map (tg h))))],[]⟩) hdst (fun k h=>by simp [aG] at h) (fun _ _=>rfl) (fun k' h=>.inr (by rw [hkk k' h];exact hr.nfh hk)) ⟨hf.os,hf.tape,hf.output,hf.size,fun b hlt hn=>hf.keep b hlt fun e=>hn ⟨q 0,_,by simp [aB],hk,e⟩⟩ ?_ ?_ (fun k h=>by simp [TV.has] at h) ?_ ?_ ⟨[],rfl,trivial⟩
  ·intro k' bx g' h _ hg'
   rw [hkk k' h] at hg'
   exact ⟨Nat.lt_of_lt_of_le (hr.ltb hk hg') hf.size,.inr ⟨q 0,_,by simp [aB],hk,hg'⟩⟩
  ·intro k1 k2 _ _ _ h h' _ _ _ _
   rw [hkk k1 h,hkk k2 h']
  ·intro k1 k2 bx h hp hx
   rw [hkk k2 h] at hp
   simp only [hput,Nat.beq_refl,cond_true,Option.some.injEq] at hp
   subst hp
   simp [Box.has] at hx
  ·intro k2 bx h hp
   rw [hkk k2 h] at hp ⊢
   simp only [hput,Nat.beq_refl,cond_true,Option.some.injEq] at hp
   subst hp
   exact ⟨ys,hy1,hy2 _⟩
end
end Go.Proofs.YtdaajdflefnjfaaGreat
namespace Go.Proofs
open Go.Shelf
def Tryz.sortStrs_ren:Go.Shelf.Ren:=⟨fun|190=>69|125=>111|258=>110|128=>153|129=>154|302=>144|303=>145|304=>146|305=>147|306=>148|307=>149|308=>150|309=>151|310=>152|333=>207|329=>208|330=>209|334=>210|335=>211|336=>212|344=>238|n=>n,fun|31=>132|9=>9|3=>3|46=>149|0=>0|51=>224|53=>96|4=>4|183=>216|182=>215|131=>221|5=>5|218=>273|222=>208|228=>304|229=>278|n=>n,fun|n=>n⟩
theorem Tryz.sortStrs:Go.Proofs.Lays.n190 Tryz.prog Tryz.sortStrs_ren:={
 mixed:=by kernel_rfl
 f125:=Tryz.func111.trans (congrArg some (by kernel_rfl))
 f128:=Tryz.func153.trans (congrArg some (by kernel_rfl))
 f129:=Tryz.func154.trans (congrArg some (by kernel_rfl))
 f190:=Tryz.func69.trans (congrArg some (by kernel_rfl))
 f258:=Tryz.func110.trans (congrArg some (by kernel_rfl))
 f302:=Tryz.func144.trans (congrArg some (by kernel_rfl))
 f303:=Tryz.func145.trans (congrArg some (by kernel_rfl))
 f304:=Tryz.func146.trans (congrArg some (by kernel_rfl))
 f305:=Tryz.func147.trans (congrArg some (by kernel_rfl))
 f306:=Tryz.func148.trans (congrArg some (by kernel_rfl))
 f307:=Tryz.func149.trans (congrArg some (by kernel_rfl))
 f308:=Tryz.func150.trans (congrArg some (by kernel_rfl))
 f309:=Tryz.func151.trans (congrArg some (by kernel_rfl))
 f310:=Tryz.func152.trans (congrArg some (by kernel_rfl))
 f329:=Tryz.func208.trans (congrArg some (by kernel_rfl))
 f330:=Tryz.func209.trans (congrArg some (by kernel_rfl))
 f333:=Tryz.func207.trans (congrArg some (by kernel_rfl))
 f334:=Tryz.func210.trans (congrArg some (by kernel_rfl))
 f335:=Tryz.func211.trans (congrArg some (by kernel_rfl))
 f336:=Tryz.func212.trans (congrArg some (by kernel_rfl))
 f344:=Tryz.func238.trans (congrArg some (by kernel_rfl))
 t0:=Tryz.underlying0
 a0:=Tryz.isAgg0
 z0:=Tryz.sizeOf0
 v0:=Tryz.zeroValue0
 t3:=Tryz.underlying3
 a3:=Tryz.isAgg3
 z3:=Tryz.sizeOf3
 v3:=Tryz.zeroValue3
 t4:=Tryz.underlying4
 a4:=Tryz.isAgg4
 z4:=Tryz.sizeOf4
 v4:=Tryz.zeroValue4
 t5:=Tryz.underlying5
 a5:=Tryz.isAgg5
 z5:=Tryz.sizeOf5
 v5:=Tryz.zeroValue5
 t9:=Tryz.underlying9
 a9:=Tryz.isAgg9
 z9:=Tryz.sizeOf9
 v9:=Tryz.zeroValue9
 t31:=Tryz.underlying132
 a31:=Tryz.isAgg132
 z31:=Tryz.sizeOf132
 v31:=Tryz.zeroValue132
 t46:=Tryz.underlying149
 a46:=Tryz.isAgg149
 z46:=Tryz.sizeOf149
 v46:=Tryz.zeroValue149
 t51:=Tryz.underlying224
 a51:=Tryz.isAgg224
 z51:=Tryz.sizeOf224
 v51:=Tryz.zeroValue224
 t53:=Tryz.underlying96
 a53:=Tryz.isAgg96
 z53:=Tryz.sizeOf96
 v53:=Tryz.zeroValue96
 t131:=Tryz.underlying221
 a131:=Tryz.isAgg221
 z131:=Tryz.sizeOf221
 v131:=Tryz.zeroValue221
 t182:=Tryz.underlying215
 a182:=Tryz.isAgg215
 z182:=Tryz.sizeOf215
 v182:=Tryz.zeroValue215
 t183:=Tryz.underlying216
 a183:=Tryz.isAgg216
 z183:=Tryz.sizeOf216
 v183:=Tryz.zeroValue216
 t218:=Tryz.underlying273
 a218:=Tryz.isAgg273
 z218:=Tryz.sizeOf273
 v218:=Tryz.zeroValue273
 t222:=Tryz.underlying208
 a222:=Tryz.isAgg208
 z222:=Tryz.sizeOf208
 v222:=Tryz.zeroValue208
 t228:=Tryz.underlying304
 a228:=Tryz.isAgg304
 z228:=Tryz.sizeOf304
 v228:=Tryz.zeroValue304
 t229:=Tryz.underlying278
 a229:=Tryz.isAgg278
 z229:=Tryz.sizeOf278
 v229:=Tryz.zeroValue278 }
def Tryz.compactStrs_ren:Go.Shelf.Ren:=⟨fun|194=>70|n=>n,fun|31=>132|9=>9|3=>3|4=>4|0=>0|n=>n,fun|n=>n⟩
theorem Tryz.compactStrs:Go.Proofs.Lays.n194 Tryz.prog Tryz.compactStrs_ren:={
 mixed:=by kernel_rfl
 f194:=Tryz.func70.trans (congrArg some (by kernel_rfl))
 t0:=Tryz.underlying0
 a0:=Tryz.isAgg0
 z0:=Tryz.sizeOf0
 v0:=Tryz.zeroValue0
 t3:=Tryz.underlying3
 a3:=Tryz.isAgg3
 z3:=Tryz.sizeOf3
 v3:=Tryz.zeroValue3
 t4:=Tryz.underlying4
 a4:=Tryz.isAgg4
 z4:=Tryz.sizeOf4
 v4:=Tryz.zeroValue4
 t9:=Tryz.underlying9
 a9:=Tryz.isAgg9
 z9:=Tryz.sizeOf9
 v9:=Tryz.zeroValue9
 t31:=Tryz.underlying132
 a31:=Tryz.isAgg132
 z31:=Tryz.sizeOf132
 v31:=Tryz.zeroValue132 }
end Go.Proofs
namespace Go.Proofs.YtdaajdflefnjfaaGreat
open Go.RowKit Go.Proofs.Tryz
section
open Go.Shelf Go.Sort
def bs (s:ByteArray):List UInt8:=s.data.toList
theorem Ki (s:ByteArray):encStr (bs s) = .string s:=by
 obtain ⟨⟨l⟩⟩:=s
 rfl
def Kj (l:List UInt8):ByteArray:=⟨l.toArray⟩
theorem FD (s:ByteArray):Kj (bs s)=s:=by
 obtain ⟨⟨l⟩⟩:=s
 rfl
def C3 (l:List UInt8):List Value:=[encStr l]
theorem I0 (d:Array (List UInt8)):flatK C3 1 d=d.map encStr:=by
 apply Array.ext
 ·simp
 ·intro t h1 h2
  have ht:t<d.size:=by simpa using h2
  rw [←getElem!_pos _ t h1,get_flatK _ _ _ _ (by simpa using ht),Array.getElem_map,Nat.div_one,Nat.mod_one,getElem!_pos d t ht]
  rfl
theorem By {w:World} {g:Nat} {d:Array (List UInt8)} (h:HoldsK C3 1 w g 0 d):Holds encStr w g 0 d:=by
 unfold HoldsK at h
 rw [I0] at h
 intro j hj
 have:=h j (by simpa using hj)
 rw [getElem!_pos _ j (by simpa using hj)] at this
 simpa [getElem!_pos d j hj] using this
theorem Bz (w:World) (g:Nat) (d:Array (List UInt8)):putRow encStr w g 0 d=putRowK C3 1 w g 0 d:=by
 unfold putRowK putRow
 rw [I0]
 congr 1
 funext c
 unfold putCells
 congr 1
 funext k x
 simp only [Array.size_map,Nat.zero_le,true_and,Nat.zero_add,Nat.sub_zero,id]
 split
 ·next h=>rw [getElem!_pos d k h,getElem!_pos _ k (by simpa using h),Array.getElem_map]
 ·rfl
theorem LN:∀x,∀u∈C3 x,u.oneCell'=true:=by intro x u hu;simp [C3] at hu;subst hu;rfl
abbrev MW:El (List UInt8):=El.plain 1 (by decide) C3 (fun _=>rfl) LN
theorem BA (L:List ByteArray):(L.map fun x=>[Value.string x]).flatten=((L.map bs).map C3).flatten:=by
 induction L with
 | nil=>rfl
 | cons x L ih=>simp only [List.map_cons,List.flatten_cons,ih,C3,Ki]
theorem wu {w:World} {F:Nat→Prop} (L:List ByteArray):Reps dU w F L ((L.map bs).map C3).flatten:=by
 rw [←BA]
 exact Reps.plain_mk L
theorem BB {w:World} {F:Nat→Prop} {L:List ByteArray} {xs:List Value} (h:Reps dU w F L xs):xs=((L.map bs).map C3).flatten:=by rw [←BA];exact Reps.plain h
theorem yB {w:World} {g n:Nat} (hg:g<w.heap.size) (d:Array (List UInt8)) (os:Array Obj):Frx w (sortWorldK C3 1 w g 0 n d os) fun b=>b=g :=
 ⟨rfl,rfl,rfl,by simp [sortWorldK,grow,putRowK,putRow,mapBlock],fun b hb hn=>by
  show (w.heap.modify g _++os)[b]? = _
  rw [Array.getElem?_append_left (by simpa using hb),Array.getElem?_modify,if_neg (fun e=>hn e.symm)]⟩
def fh (L:List ByteArray):List ByteArray:=((L.map bs).mergeSort fun x y=>decide (x≤y)).map Kj
def fb (L:List ByteArray):List ByteArray:=(Lib.compact (L.map bs)).map Kj
theorem wv (l:List (List UInt8)):(l.map Kj).map bs=l:=by
 rw [List.map_map]
 conv=>rhs;rw [←List.map_id l]
 rfl
theorem FE (L:List ByteArray) (hl:L.length≤100000):FSpec prog 69 [.one (.own 0)] [(0,.arr 9 dU L)] [] (.tup []) [(0,some (.arr 9 dU (fh L)))]:=by
 refine ⟨fun b W=>by kernel_rfl,fun q c st ρ a w vs hr hinj hargs hhin hus=>?_⟩
 match vs,hargs with
 | [v],⟨h0,_⟩ =>
  obtain rfl:v=ρ (q 0):=h0
  have hk:=hhin 0 _ rfl
  obtain ⟨xs,hx1,hx2⟩:=hr.hp (q 0) _ hk
  have hx3:=BB hx2
  have hown:OwnRows MW 9 w 0 (ρ (q 0)) (L.map bs):=⟨Nat.zero_le _,xs,by rw [List.length_map];exact hx1,by rw [hx3];exact Reps.plain_mk _⟩
  have key:Calls prog 69 #[ρ (q 0)] w fun e w'=>e = .returned (.tuple #[])∧(Frx w w' fun b=>kb (ρ (q 0))=some b)∧∃ys,w'.ownsRow 0 9 dU.n (ρ (q 0)) (fh L).length ys∧∀F',Reps dU w' F' (fh L) ys:=by
   have hsl:(fh L).length=L.length:=by simp [fh]
   rcases Nat.eq_zero_or_pos L.length with h0|h0
   ·obtain ⟨A,cap,hA,_,_,_,_⟩:=hown.form2
    obtain rfl:=List.eq_nil_of_length_eq_zero h0
    rw [hA] at hx1 ⊢
    refine (Any.slices_Sort_string_none sortStrs A cap w).mono ?_
    rintro e w' ⟨rfl,rfl⟩
    exact ⟨rfl,Frx.refl _ _,xs,by simpa [fh] using hx1,fun F'=>by rw [hx3];simpa [fh] using wu []⟩
   ·obtain ⟨g,cap,hA,hg,hg2,_,_,_,_⟩:=hown.addr (by simpa using h0)
    rw [hA] at hown ⊢
    refine (Any.slices_Sort_string sortStrs g 0 cap (L.map bs) w (By hown.holdsK) hg2 (by simp;omega)).mono ?_
    rintro e w' ⟨rfl,n,os,rfl⟩
    rw [Bz]
    have hs:=hown.sorted hg2 (l':=(L.map bs).mergeSort fun x y=>decide (x≤y)) (by simp) n os
    have hf:=yB (n:=n) hg2 ((L.map bs).mergeSort fun x y=>decide (x≤y)).toArray os
    obtain ⟨_,ys,h3,h4⟩:=hs
    refine ⟨rfl,⟨hf.os,hf.tape,hf.output,hf.size,fun b hb hn=>hf.keep b hb fun e=>hn (by rw [e];rfl)⟩,ys,?_,fun F'=>?_⟩
    ·rw [hsl]
     have h5:=h3
     simp only [List.length_mergeSort,List.length_map] at h5 ⊢
     exact h5
    ·rw [Reps.plain h4]
     have:=wu (w:=(sortWorldK C3 1 w g 0 n ((L.map bs).mergeSort fun x y=>decide (x≤y)).toArray os)) (F:=F') (fh L)
     unfold fh at this ⊢
     rwa [wv] at this
  refine key.mono ?_
  rintro e w' ⟨rfl,hf,ys,hy1,hy2⟩
  refine ⟨_,rfl,fun dst hdst=>⟨ρ,?_⟩⟩
  have hkk:∀k':Nat,aB [(q 0,some (Box.arr 9 dU (fh L)))] k'=true→k'=q 0:=fun k' h=>by
   simp only [aB,Bool.or_false] at h
   exact (Nat.eq_of_beq_eq_true h).symm
  refine hr.app (e:=⟨.tup [],[(q 0,some (.arr 9 dU (fh L)))],[]⟩) hdst (fun k h=>by simp [aG] at h) (fun _ _=>rfl) (fun k' h=>.inr (by rw [hkk k' h];exact hr.nfh hk)) ⟨hf.os,hf.tape,hf.output,hf.size,fun b hlt hn=>hf.keep b hlt fun e=>hn ⟨q 0,_,by simp [aB],hk,e⟩⟩ ?_ ?_ (fun k h=>by simp [TV.has] at h) ?_ ?_ ⟨[],rfl,trivial⟩
  ·intro k' bx g' h _ hg'
   rw [hkk k' h] at hg'
   exact ⟨Nat.lt_of_lt_of_le (hr.ltb hk hg') hf.size,.inr ⟨q 0,_,by simp [aB],hk,hg'⟩⟩
  ·intro k1 k2 _ _ _ h h' _ _ _ _
   rw [hkk k1 h,hkk k2 h']
  ·intro k1 k2 bx h hp hx
   rw [hkk k2 h] at hp
   simp only [hput,Nat.beq_refl,cond_true,Option.some.injEq] at hp
   subst hp
   simp [Box.has] at hx
  ·intro k2 bx h hp
   rw [hkk k2 h] at hp ⊢
   simp only [hput,Nat.beq_refl,cond_true,Option.some.injEq] at hp
   subst hp
   exact ⟨ys,hy1,hy2 _⟩
theorem jR (l:List (List UInt8)):(Go.Lib.compact l).length≤l.length:=by
 unfold Go.Lib.compact Go.Lib.compactUpTo
 rw [List.length_map]
 refine Nat.le_trans (List.length_filter_le _ _) ?_
 simp
theorem FF (L:List ByteArray) (hl:L.length≤100000):FSpec prog 70 [.one (.own 0)] [(0,.arr 9 dU L)] [] (.c (.sl dU (fb L))) [(0,none)]:=by
 refine ⟨fun b W=>by kernel_rfl,fun q c st ρ a w vs hr hinj hargs hhin hus=>?_⟩
 match vs,hargs with
 | [v],⟨h0,_⟩ =>
  obtain rfl:v=ρ (q 0):=h0
  have hk:=hhin 0 _ rfl
  obtain ⟨xs,hx1,hx2⟩:=hr.hp (q 0) _ hk
  have hx3:=BB hx2
  have hown:OwnRows MW 9 w 0 (ρ (q 0)) (L.map bs):=⟨Nat.zero_le _,xs,by rw [List.length_map];exact hx1,by rw [hx3];exact Reps.plain_mk _⟩
  have hcl:(fb L).length≤L.length:=by have:=jR (L.map bs);simpa [fb] using this
  have key:Calls prog 70 #[ρ (q 0)] w fun e w'=>∃A cap,e = .returned (.slice A (fb L).length cap)∧((fb L).length≤cap∧cap≤maxLen)∧(Frx w w' fun b=>kb (ρ (q 0))=some b)∧∀F:Nat→Prop,(∀g,kb (ρ (q 0))=some g→F g)→RowsAt dU w' F A (fb L):=by
   rcases Nat.eq_zero_or_pos L.length with h0|h0
   ·obtain ⟨A,cap,hA,hc1,hc2,_,_⟩:=hown.form2
    obtain rfl:=List.eq_nil_of_length_eq_zero h0
    rw [hA]
    refine (Any.slices_Compact_string_empty compactStrs A cap w).mono ?_
    rintro e w' ⟨rfl,rfl⟩
    have e0:fb []=[]:=by simp [fb,Lib.compact,Lib.compactUpTo]
    rw [e0]
    exact ⟨A,cap,rfl,⟨Nat.zero_le _,by first|exact hc2|omega⟩,Frx.refl _ _,fun F _=>RowsAt.nil _ _ _ _⟩
   ·obtain ⟨g,cap,hA,hg,hg2,_,_,_,_⟩:=hown.addr (by simpa using h0)
    rw [hA] at hown ⊢
    obtain ⟨A,cap',hA',_,hcap,_⟩:=hown.form
    have hcap2:(L.map bs).length≤cap:=by injection hA'
    refine (Any.slices_Compact_string compactStrs g 0 cap (L.map bs) w (By hown.holdsK) (by simp;omega) hcap2).mono ?_
    rintro e w' ⟨rfl,m,rfl⟩
    rw [Bz]
    have hl9:=jR (L.map bs)
    obtain ⟨K,hK⟩:∃K,Go.Lib.compact (L.map bs)=K:=⟨_,rfl⟩
    have eK:fb L=K.map Kj:=by unfold fb;rw [hK]
    rw [hK] at hl9 ⊢
    rw [eK]
    obtain ⟨Z,hZ⟩:∃z,z=List.replicate ((L.map bs).length-K.length) ([]:List UInt8):=⟨_,rfl⟩
    rw [←hZ]
    have hlen:(K++Z).length=(L.map bs).length:=by rw [hZ];simp at hl9 ⊢;try omega
    have h1:=hown.sorted hg2 hlen m #[]
    have hf:=yB (n:=m) hg2 (K++Z).toArray #[]
    unfold sortWorldK at h1 hf
    rw [grow_empty] at h1 hf
    rw [←hlen] at h1
    have h2:=OwnRows.cut h1 (k:=K.length) (by simp)
    rw [List.take_left] at h2
    have hform:=OwnRows.nw h2
    obtain ⟨A2,cap2,e2,hr2,hc3,hc4⟩:=hform
    injection e2 with e3 e4 e5
    subst e3
    subst e5
    refine ⟨_,_,by rw [List.length_map],⟨by rw [List.length_map];exact hc3,hc4⟩,⟨hf.os,hf.tape,hf.output,hf.size,fun b hb hn=>hf.keep b hb fun e=>hn (by rw [e];rfl)⟩,fun F hF=>?_⟩
    obtain ⟨zs,hz1,hz2⟩:=hr2
    have hz3:=Reps.plain hz1
    refine ⟨zs,?_,fun hpos=>?_⟩
    ·rw [hz3]
     have:=wu (w:=putRowK C3 1 (Sort.ahead w m) g 0 (K++Z).toArray) (F:=F) (K.map Kj)
     rwa [wv] at this
    ·obtain ⟨b,off,eb,hb1,hb2⟩:=hz2 (by simpa using hpos)
     refine ⟨b,off,eb,?_,hb2⟩
     injection eb with eb
     injection eb with eb1
     subst eb1
     exact hF _ rfl
  refine key.mono ?_
  rintro e w' ⟨A,cap,rfl,hc,hf,hrow⟩
  refine ⟨_,rfl,fun dst hdst=>⟨ρ,?_⟩⟩
  have hkk:∀k':Nat,aB [(q 0,(none:Option Box))] k'=true→k'=q 0:=fun k' h=>by
   simp only [aB,Bool.or_false] at h
   exact (Nat.eq_of_beq_eq_true h).symm
  have hnone:∀k',k'=q 0→hput [(q 0,(none:Option Box))] st.h k'=none:=fun k' e=>by subst e;simp [hput]
  refine hr.app (e:=⟨.c (.sl dU (fb L)),[(q 0,none)],[]⟩) hdst (fun k h=>by simp [aG] at h) (fun _ _=>rfl) (fun k' h=>.inr (by rw [hkk k' h];exact hr.nfh hk)) ⟨hf.os,hf.tape,hf.output,hf.size,fun b hlt hn=>hf.keep b hlt fun e=>hn ⟨q 0,_,by simp [aB],hk,e⟩⟩ ?_ ?_ (fun k h=>by simp [TV.has,V0.has,D.has] at h) ?_ ?_ ⟨A,cap,rfl,hc,hrow _ fun g hg=>?_⟩
  ·intro k' bx g' h hp _
   rw [hnone k' (hkk k' h)] at hp
   cases hp
  ·intro k1 k2 _ _ _ h h' _ _ _ _
   rw [hkk k1 h,hkk k2 h']
  ·intro k1 k2 bx h hp _
   rw [hnone k2 (hkk k2 h)] at hp
   cases hp
  ·intro k2 bx h hp
   rw [hnone k2 (hkk k2 h)] at hp
   cases hp
  ·refine ⟨(hr.inb (q 0) _ g hk hg).imp (c.hX g) id,Nat.lt_of_lt_of_le (hr.ltb hk hg) hf.size,fun k' bx hk' he=>?_⟩
   by_cases e:k'=q 0
   ·rw [hnone k' e] at hk';cases hk'
   ·have hk'':st.h k'=some bx:=by
     have:hput [(q 0,(none:Option Box))] st.h k'=st.h k':=by
      simp only [hput]
      cases h9:(q 0).beq k' with
      | true=>exact absurd (Nat.eq_of_beq_eq_true h9).symm e
      | false=>rfl
     rwa [this] at hk'
    exact e (hr.dis k' (q 0) bx _ g hk'' hk he hg)
end
theorem yC {β:Type} (n:ByteArray) (a:β):∀l:List (ByteArray×β),(dN n a l).map (·.1)=bif dF n (l.map (·.1)) then l.map (·.1) else l.map (·.1)++[n]
 | []=>rfl
 | x :: l=>by
  have ih:=yC n a l
  unfold dN
  show _=bif (aT x.1 n || dF n (l.map (·.1))) then x.1 :: l.map (·.1) else x.1 :: l.map (·.1)++[n]
  cases aT x.1 n with
  | true=>rfl
  | false =>
   show x.1 :: (dN n a l).map (·.1)=_
   rw [ih,Bool.false_or]
   cases dF n (l.map (·.1)) <;> rfl
theorem oF:∀(l:List En) (m:List (ByteArray×Am)),(m.map (·.1)).Nodup→((eH m l).map (·.1)).Nodup
 | [],_,h=>h
 | e :: l,m,h=>by
  refine oF l (dN e.name e.after m) ?_
  rw [yC]
  cases hh:dF e.name (m.map (·.1)) with
  | true=>exact h
  | false =>
   rw [cond_false]
   refine List.nodup_append.2 ⟨h,by simp,fun a ha b hb=>?_⟩
   rw [List.mem_singleton] at hb
   subst hb
   intro e9
   subst e9
   rw [gA.2 ha] at hh
   cases hh
theorem s0 {x:ByteArray}:∀(l:List En) (m:List (ByteArray×Am)),x∈(eH m l).map (·.1)↔x∈m.map (·.1)∨∃e∈l,e.name=x
 | [],m=>by simp [eH]
 | e :: l,m=>by
  show x∈(eH (dN e.name e.after m) l).map (·.1)↔_
  rw [s0 l,←gA,wn,Bool.or_eq_true,aV,gA]
  constructor
  ·rintro ((h|h)|⟨f,h1,h2⟩)
   ·exact .inr ⟨e,by simp,h⟩
   ·exact .inl h
   ·exact .inr ⟨f,by simp [h1],h2⟩
  ·rintro (h|⟨f,h1,h2⟩)
   ·exact .inl (.inr h)
   ·rcases List.mem_cons.1 h1 with rfl|h1
    ·exact .inl (.inl h2)
    ·exact .inr ⟨f,h1,h2⟩
theorem s5:∀{l m:List ByteArray},iG l→iG m→(∀x,x∈l↔x∈m)→l=m
 | [],[],_,_,_=>rfl
 | [],b :: m,_,_,h=>absurd ((h b).2 (by simp)) (by simp)
 | a :: l,[],_,_,h=>absurd ((h a).1 (by simp)) (by simp)
 | a :: l,b :: m,h1,h2,h=>by
  obtain ⟨p1,q1⟩:=List.pairwise_cons.1 h1
  obtain ⟨p2,q2⟩:=List.pairwise_cons.1 h2
  have e:a=b:=by
   rcases List.mem_cons.1 ((h a).1 (by simp)) with e|ha
   ·exact e
   ·rcases List.mem_cons.1 ((h b).2 (by simp)) with e|hb
    ·exact e.symm
    ·have:=eh (p1 b hb) (p2 a ha)
     rw [dt] at this
     cases this
  subst e
  rw [s5 q1 q2 fun x=>?_]
  constructor
  ·intro hx
   rcases List.mem_cons.1 ((h x).1 (by simp [hx])) with e|hm
   ·subst e
    have:=p1 x hx
    rw [dt] at this
    cases this
   ·exact hm
  ·intro hx
   rcases List.mem_cons.1 ((h x).2 (by simp [hx])) with e|hm
   ·subst e
    have:=p2 x hx
    rw [dt] at this
    cases this
   ·exact hm
def jo (m:List (ByteArray×Am)) (seen:List Nat):List ByteArray:=(seen.filterMap fun j=>m[j]?).map (·.1)
theorem C4 {m:List (ByteArray×Am)} {seen:List Nat} {j:Nat} {x:ByteArray×Am} (h:m[j]? = some x):jo m (seen++[j])=jo m seen++[x.1]:=by
 unfold jo
 rw [List.filterMap_append,List.map_append]
 simp [h]
theorem s6 {n:Nat} {seen:List Nat} (hn:seen.Nodup) (hs:∀j∈seen,j<n):seen.length≤n:=by
 have hp:seen.Perm ((List.range n).filter fun j=>decide (j∈seen)):=(List.perm_ext_iff_of_nodup hn (List.nodup_range.filter _)).2 fun j=>by
  rw [List.mem_filter,List.mem_range,decide_eq_true_eq]
  exact ⟨fun h=>⟨hs j h,h⟩,fun h=>h.2⟩
 have h:=List.length_filter_le (fun j=>decide (j∈seen)) (List.range n)
 rw [←hp.length_eq] at h
 simpa using h
theorem yD {α β:Type} {f g:α→Option β}:∀{l:List α},(∀x∈l,f x=g x)→l.filterMap f=l.filterMap g
 | [],_=>rfl
 | x :: l,h=>by
  rw [List.filterMap_cons,List.filterMap_cons,h x (by simp),yD fun y hy=>h y (by simp [hy])]
theorem FG {m:List (ByteArray×Am)} {seen:List Nat} (hn:seen.Nodup) (hs:∀j∈seen,j<m.length) (ha:∀j,j<m.length→j∈seen):(jo m seen).Perm (m.map (·.1)):=by
 have hp:seen.Perm (List.range m.length):=(List.perm_ext_iff_of_nodup hn List.nodup_range).2 fun j=>by
  rw [List.mem_range]
  exact ⟨hs j,ha j⟩
 have h1:=(hp.filterMap fun j=>m[j]?).map (·.1)
 have h2:(List.range m.length).filterMap (fun j=>m[j]?)=m:=by
  have e:(List.range m.length).filterMap (fun j=>m[j]?)=(List.range m.length).filterMap (fun j=>some (m.getD j (.empty,⟨0,0⟩))):=by
   refine yD fun j hj=>?_
   have hj:=List.mem_range.1 hj
   rw [List.getD_eq_getElem?_getD,List.getElem?_eq_getElem hj,Option.getD_some]
  rw [e,show (fun j=>some (m.getD j (.empty,⟨0,0⟩)))=some ∘ (fun j=>m.getD j (.empty,⟨0,0⟩)) from rfl,List.filterMap_eq_map]
  apply List.ext_getElem
  ·simp
  ·intro i h1 h2
   simp [List.getD_eq_getElem?_getD,List.getElem?_eq_getElem h2]
 unfold jo
 rwa [h2] at h1
theorem s7 {n x:ByteArray}:∀{l:List ByteArray},x∈gT n l↔x=n∨x∈l
 | []=>by simp [gT]
 | m :: l=>by
  show x∈(bif fD m n then m :: gT n l else bif aT m n then m :: l else n :: m :: l)↔_
  cases fD m n with
  | true =>
   rw [cond_true,List.mem_cons,s7,List.mem_cons]
   constructor
   ·rintro (h|h|h) <;> simp [h]
   ·rintro (h|h|h) <;> simp [h]
  | false =>
   cases he:aT m n with
   | true =>
    have:=aV.1 he
    subst this
    simp
   | false=>simp
theorem yE {n:ByteArray}:∀{l:List ByteArray},iG l→iG (gT n l)
 | [],_=>by simp [gT,iG]
 | m :: l,h=>by
  obtain ⟨h1,h2⟩:=List.pairwise_cons.1 h
  show iG (bif fD m n then m :: gT n l else bif aT m n then m :: l else n :: m :: l)
  cases hc:fD m n with
  | true =>
   refine List.pairwise_cons.2 ⟨fun x hx=>?_,yE h2⟩
   rcases s7.1 hx with rfl|hx
   ·exact hc
   ·exact h1 x hx
  | false =>
   cases he:aT m n with
   | true=>exact h
   | false =>
    have hlt:fD n m=true:=lV hc (cc.1 he)
    refine List.pairwise_cons.2 ⟨fun x hx=>?_,h⟩
    rcases List.mem_cons.1 hx with rfl|hx
    ·exact hlt
    ·exact eh hlt (h1 x hx)
theorem uE {x:ByteArray}:∀{l acc:List ByteArray},x∈fG acc l↔x∈acc∨x∈l
 | [],acc=>by simp [fG]
 | n :: l,acc=>by
  show x∈fG (gT n acc) l↔_
  rw [uE,s7,List.mem_cons]
  constructor
  ·rintro ((h|h)|h) <;> simp [h]
  ·rintro (h|h|h) <;> simp [h]
theorem uF:∀{l acc:List ByteArray},iG acc→iG (fG acc l)
 | [],_,h=>h
 | n :: l,acc,h=>uF (l:=l) (yE h)
theorem uG:∀(l m acc:List ByteArray),fG acc (l++m)=fG (fG acc l) m
 | [],_,_=>rfl
 | n :: l,m,acc=>uG l m _
theorem gU (d:Array (List UInt8)):∀m x,x∈Go.Lib.compactUpTo d m↔∃j,j<m∧d[j]! = x
 | 0,x=>by simp [Go.Lib.compactUpTo]
 | m+1,x=>by
  rw [Go.Lib.compactUpTo_succ,List.mem_append,gU d m x]
  by_cases h:Go.Lib.keeps d m=true
  ·rw [if_pos h,List.mem_singleton]
   constructor
   ·rintro (⟨j,hj,e⟩|e)
    ·exact ⟨j,by omega,e⟩
    ·exact ⟨m,by omega,e.symm⟩
   ·rintro ⟨j,hj,e⟩
    rcases Nat.lt_or_ge j m with h1|h1
    ·exact Or.inl ⟨j,h1,e⟩
    ·have:j=m:=by omega
     subst this
     exact Or.inr e.symm
  ·rw [if_neg h]
   have hk:¬(m=0∨d[m]!≠d[m-1]!):=by simpa [Go.Lib.keeps] using h
   have h0:m≠0:=fun e=>hk (Or.inl e)
   have he:d[m]! = d[m-1]!:=Classical.byContradiction fun e=>hk (Or.inr e)
   constructor
   ·rintro (⟨j,hj,e⟩|e)
    ·exact ⟨j,by omega,e⟩
    ·cases e
   ·rintro ⟨j,hj,e⟩
    rcases Nat.lt_or_ge j m with h1|h1
    ·exact Or.inl ⟨j,h1,e⟩
    ·have:j=m:=by omega
     subst this
     exact Or.inl ⟨j-1,by omega,he.symm.trans e⟩
theorem FH {x y:List UInt8} (h:¬y<x) (hn:x≠y):x<y:=by
 rcases Std.lt_trichotomy x y with h1|h1|h1
 ·exact h1
 ·exact absurd h1 hn
 ·exact absurd h1 h
theorem oG (d:Array (List UInt8)) (hs:∀i j,i<j→j<d.size→¬d[j]! < d[i]!):∀m,m≤d.size→(Go.Lib.compactUpTo d m).Pairwise fun x y=>x<y
 | 0,_=>by simp [Go.Lib.compactUpTo]
 | m+1,hm=>by
  have ih:=oG d hs m (by omega)
  rw [Go.Lib.compactUpTo_succ]
  by_cases h:Go.Lib.keeps d m=true
  ·rw [if_pos h,List.pairwise_append]
   refine ⟨ih,by simp,fun x hx y hy=>?_⟩
   rw [List.mem_singleton.1 hy]
   obtain ⟨j,hj,rfl⟩:=(gU d m x).1 hx
   have hk:m=0∨d[m]!≠d[m-1]!:=by simpa [Go.Lib.keeps] using h
   have hne:d[m]!≠d[m-1]!:=hk.resolve_left (by omega)
   have a1:d[m-1]! < d[m]!:=FH (hs (m-1) m (by omega) (by omega)) (fun e=>hne e.symm)
   rcases Nat.lt_or_ge j (m-1) with h2|h2
   ·refine FH (hs j m (by omega) (by omega)) fun e=>?_
    have:=hs j (m-1) h2 (by omega)
    rw [e] at this
    exact this a1
   ·have:j=m-1:=by omega
    subst this
    exact a1
  ·rw [if_neg h,List.append_nil]
   exact ih
theorem yF (l:List UInt8):(Kj l).toList=l:=by rw [ByteArray.toList_eq];rfl
theorem C5 (L:List ByteArray):fb (fh L)=fG [] L:=by
 have hle:((L.map bs).mergeSort fun x y=>decide (x≤y)).Pairwise fun a b=>decide (a≤b)=true:=List.pairwise_mergeSort (fun a b c h1 h2=>by
  rw [decide_eq_true_eq] at *
  exact List.le_trans h1 h2) (fun a b=>by
  rw [Bool.or_eq_true,decide_eq_true_eq,decide_eq_true_eq]
  exact List.le_total a b) _
 have hm:∀x,x∈((L.map bs).mergeSort fun x y=>decide (x≤y))↔x∈L.map bs:=fun x=>(List.mergeSort_perm _ _).mem_iff
 unfold fb fh
 rw [wv]
 generalize (L.map bs).mergeSort (fun x y=>decide (x≤y))=M at *
 unfold Go.Lib.compact
 have hasc:=oG M.toArray (fun i j hij hj=>by
  have hj':j<M.length:=by simpa using hj
  rw [getElem!_pos _ j hj,getElem!_pos _ i (by omega)]
  have:=List.pairwise_iff_getElem.1 hle i j (by omega) hj' hij
  rw [decide_eq_true_eq] at this
  simpa using this) M.length (by simp)
 refine s5 ?_ (uF (by simp [iG])) fun x=>?_
 ·unfold iG
  rw [List.pairwise_map]
  refine hasc.imp fun {a b} h=>?_
  unfold fD
  rw [bytesLess_eq,decide_eq_true_eq,yF,yF]
  exact h
 ·rw [uE,List.mem_map]
  constructor
  ·rintro ⟨l,hl,rfl⟩
   obtain ⟨j,hj,rfl⟩:=(gU _ _ _).1 hl
   rw [getElem!_pos _ j (by simpa using hj)]
   have:M[j]∈L.map bs:=(hm _).1 (by simp)
   obtain ⟨y,hy,e⟩:=List.mem_map.1 this
   refine .inr ?_
   simp only [List.getElem_toArray]
   rw [←e,FD]
   exact hy
  ·rintro (h|h)
   ·cases h
   ·have h1:bs x∈M:=(hm _).2 (List.mem_map.2 ⟨x,h,rfl⟩)
    obtain ⟨j,hj,e⟩:=List.getElem_of_mem h1
    exact ⟨bs x,(gU _ _ _).2 ⟨j,hj,by rw [getElem!_pos _ j (by simpa using hj)];simpa using e⟩,FD x⟩
theorem yG {l:List En} {N:List ByteArray} (h:N.Perm ((fI l).map (·.1))):gJ N=bp l:=by
 have hnd:N.Nodup:=(h.nodup_iff).2 (oF l [] (by simp))
 have hp:=List.mergeSort_perm N fun x y=>!(ltOf ni) y x
 have hs:(gJ N).Pairwise fun a b=>(!(ltOf ni) b a)=true:=List.pairwise_mergeSort (fun a b c h1 h2=>by
  simp only [Bool.not_eq_true'] at *
  exact oE.ntrans c b a h2 h1) (fun a b=>by
  cases h1:ltOf ni b a with
  | false=>rfl
  | true =>
   cases h2:ltOf ni a b with
   | false=>rfl
   | true=>have:=oE.trans _ _ _ h1 h2;rw [oE.irrefl] at this;cases this) N
 have hn2:(gJ N).Nodup:=(hp.nodup_iff).2 hnd
 refine s5 ?_ (fU l) fun x=>?_
 ·refine (hs.and hn2).imp fun {a b} ⟨h1,h2⟩=>?_
  rw [yA,Bool.not_eq_true'] at h1
  exact lV h1 (fun e=>h2 e.symm)
 ·show x∈N.mergeSort (fun x y=>!(ltOf ni) y x)↔_
  rw [hp.mem_iff,h.mem_iff,du]
  show x∈(eH [] l).map (·.1)↔_
  rw [s0]
  simp
theorem LQ (g:Lg) (n:Int) {R:Lg×List Tm×Int} (hR:bU g n=R):FSpec prog 67 [g.a,.one (.sc (.int .i64 n))] [] [] (K8 R) []:=by
 refine bJ func67 ?_
 obtain ⟨v,hv⟩:∃v,kh g.entries g.saves=v:=⟨_,rfl⟩
 have kV:=Bv g.entries g.saves hv
 have hV:n8 g=v:=hv
 cases v with
 | false =>
  obtain rfl:R=(.zero,[],2):=by rw [←hR];simp [bU,hV]
  repeat' (first
   | refine af ?_ ?_
   | refine aa 9 rfl (cB [] (kV) ?_)
   | refine en ?_
   | exact ah|refine ae fun hb=>?_
   | (refine gK (qf []) ?_;exact ab))
 | true =>
  obtain ⟨h1,h2⟩:=gh hV
  have hat:=zQ hv
  by_cases hf:n≠0∧aE n 0 g.saves<0
  case pos =>
   obtain ⟨hn0,hf⟩:=hf
   obtain rfl:R=(.zero,[],10):=by rw [←hR];simp [bU,hV,hn0,hf]
   have kP:=Ak g.saves n rfl
   repeat' (first
    | refine af ?_ ?_
    | (refine aa 9 rfl ?_;first
     | (refine cB [] (kV) ?_)
     | (refine cB [] (kP) ?_))
    | refine en ?_
    | exact ah|refine ae fun hb=>?_
    | (refine gK (qf []) ?_;exact ab))
  obtain ⟨a,sv,hX,ha,hsv,hcase⟩:∃(a sv:Nat),bi g n=⟨g.entries.take a,g.saves.take sv⟩∧a≤g.entries.length∧sv≤g.saves.length∧((n=0∧a=0∧sv=0)∨(n≠0∧∃(i:Nat) (lab:Int),g.saves[i]? = some (⟨lab,(a:Int)⟩:Sv)∧aE n 0 g.saves=(i:Int)∧sv=i+1)):=by
   by_cases hn:n=0
   ·exact ⟨0,0,by simp [bi,hn],by omega,by omega,.inl ⟨hn,rfl,rfl⟩⟩
   ·obtain ⟨i,hi,he,_⟩:=gC (n:=n) (l:=g.saves) (k:=0) (by by_cases h:aE n 0 g.saves<0;exact absurd ⟨hn,h⟩ hf;omega)
    have he2:aE n 0 g.saves=(i:Int):=by rw [he];simp
    have:=hat _ (List.getElem_mem hi)
    have e9:((g.saves[i].at_.toNat:Nat):Int)=g.saves[i].at_:=Int.toNat_of_nonneg this.1
    exact ⟨g.saves[i].at_.toNat,i+1,by simp [bi,hn,he2,hi,List.getD_eq_getElem?_getD],by omega,by omega,.inr ⟨hn,i,g.saves[i].label,by rw [e9];exact List.getElem?_eq_getElem hi,he2,rfl⟩⟩
  have hl1:(g.entries.take a).length=a:=by simp;omega
  obtain ⟨E',hE'⟩:∃E',g.entries.take a=E':=⟨_,rfl⟩
  obtain ⟨S',hS'⟩:∃S',g.saves.take sv=S':=⟨_,rfl⟩
  obtain ⟨D',hD'⟩:∃D',g.entries.drop a=D':=⟨_,rfl⟩
  have hD2:g.entries.drop ((a:Int)).toNat=D':=by rw [Int.toNat_natCast];exact hD'
  obtain ⟨H,hH⟩:∃H:ByteArray→Am,ay E'=H:=⟨_,rfl⟩
  obtain ⟨M,hM⟩:∃M,(bp D').map (tg H)=M:=⟨_,rfl⟩
  obtain rfl:R=(⟨E',S'⟩,M,0):=by
   rw [←hR,←hM]
   unfold bU
   rw [hX,hV,hl1,hE',hS',hD']
   rcases hcase with ⟨rfl,_⟩|⟨h0,i,_,hi,he,_⟩
   ·simp [tg,←hH]
   ·have hi0:¬((i:Int)<0):=by omega
    simp [h0,he,hi0,tg,←hH]
  have kC:=MH g a sv ha hsv (by omega) (by omega) hE' hS'
  have k1:=FA E'
  have k2:=FA D'
  have hg:∀x,tE x (fI E')=H x:=fun x=>by rw [pQ,hH]
  obtain ⟨m,hm⟩:∃m,fI D'=m:=⟨_,rfl⟩
  have hfin:∀seen:List Nat,seen.Nodup→(∀j∈seen,j<m.length)→(∀j,j<m.length→j∈seen)→(gJ (jo m seen)).map (tg H)=M:=fun seen q1 q2 q3=>by
   rw [←hM,←yG (N:=jo m seen) (by rw [hm];exact FG q1 q2 q3)]
  have hm9:m.length≤100000:=by
   have q1:=sZ D'
   have q2:=gF D' []
   have q3:D'.length≤72:=by rw [←hD'];simp;omega
   rw [hm] at q1
   unfold bp at q1
   simp at q2
   omega
  rw [hm] at k2
  generalize fI E'=m0 at *
  clear hR hf hX hV hv hat hl1 hM hm hH hE' hS' hD'
  rcases hcase with ⟨rfl,rfl,rfl⟩|⟨h0,i,lab,hi,he,rfl⟩
  case' inl =>
   repeat' (first
    | refine af ?_ ?_
    | (refine aa 9 rfl ?_;first
     | (refine cB [] (kV) ?_)
     | (refine cH (qf [(1,1001),(2,1002)]) (kC) ?_))
    | ((fail_if_success (first|refine xM 10 ?_|refine xN 10 ?_));refine en ?_)
    | exact ah|refine ae fun hb=>?_)
  case' inr =>
   have kP:=Ak g.saves n he
   have hi9:i<g.saves.length:=(List.getElem?_eq_some_iff.1 hi).1
   repeat' (first
    | refine af ?_ ?_
    | (refine aa 9 rfl ?_;first
     | (refine cB [] (kV) ?_)
     | (refine cB [] (kP) ?_)
     | (refine cH (qf [(1,1001),(2,1002)]) (kC) ?_))
    | ((fail_if_success (first|refine xM 10 ?_|refine xN 10 ?_));refine en ?_)
    | exact ah|refine ae fun hb=>?_)
  all_goals
   refine sd 1001 rfl ?_
   refine sd 1002 rfl ?_
   repeat' (first
    | refine af ?_ ?_
    | (refine aa 9 rfl ?_;first
     | (refine cH (qf [(0,1003)]) (k1) ?_)
     | (refine cH (qf [(0,1004)]) (k2) ?_))
    | (refine aa 14 rfl ?_;first|refine sx (cR (z:=((0:Nat):Int)) rfl rfl rfl rfl (by omega) (by omega) hD2) ?_|refine sx (cR (z:=(a:Int)) rfl rfl rfl rfl (by omega) (by omega) hD2) ?_)
    | (refine aa 25 rfl ?_;refine sx (CZ tF rfl rfl rfl rfl) ?_)
    | refine en ?_
    | exact ah|refine ae fun hb=>?_)
   refine dS 12 1000 31 cL rfl rfl rfl ?_
   refine ao (fun seen:List Nat=>seen.Nodup∧∀j∈seen,j<m.length) (fun seen=>cy [4,10,47,1000,1003,1004] [(4,.c (.ptr 4 0)),(10,.c (.ptr 10 0)),(11,.c (.own 1003)),(12,.c (.own 1000)),(47,.c (.own 47))] [(4,.box 27 [.sc (.slice none 0 0),.sc (.slice none 0 0)]),(10,.box 27 [.sl iI E',.sl iF S']),(47,.it 1004 (Bu m).length seen),(1000,.arr 31 cL ((jo m seen).map (tg H))),(1003,.mp (Bu m0)),(1004,.mp (Bu m))]) (fun seen=>m.length-seen.length) [] ⟨by simp,by simp⟩ (by exact ap (qf [])) ?_
   rintro seen ⟨hn,hs⟩
   refine vj (Ii (L:=Bu m) (n:=(Bu m).length) rfl rfl rfl rfl rfl rfl rfl rfl rfl rfl rfl rfl (fun j hj hjs=>?_) (fun hall=>?_))
   ·have hj:j<m.length:=by simpa [lE] using hj
    obtain ⟨x,hx⟩:∃x,m[j]? = some x:=⟨_,List.getElem?_eq_getElem hj⟩
    have hx2:(Bu m)[j]? = some (.string x.1,Kx x.2):=by simp [lE,hx]
    have hT:=C4 (seen:=seen) hx
    have hls:=s6 hn hs
    have hn2:(seen++[j]).Nodup:=List.nodup_append.2 ⟨hn,by simp,fun b hb c hc=>by rw [List.mem_singleton] at hc;subst hc;exact fun e=>hjs (e▸hb)⟩
    have hs2:∀k∈seen++[j],k<m.length:=fun k hk=>by
     rcases List.mem_append.1 hk with hk|hk
     ·exact hs k hk
     ·rw [List.mem_singleton] at hk;subst hk;exact hj
    have hls2:=s6 hn2 hs2
    have hcl:((jo m seen).map (tg H)).length≤100000:=by
     unfold jo
     have:=List.length_filterMap_le (fun j=>m[j]?) seen
     simp
     omega
    generalize hC:(jo m seen).map (tg H)=C at *
    show AW _ _ _ _ _ _
    repeat' (first
     | refine af ?_ ?_
     | (refine aa 8 rfl ?_;refine bc (ak rfl rfl (aI rfl rfl) (aO [tg H x.1] rfl rfl rfl rfl) rfl aJ aJ) rfl rfl rfl ?_)
     | (refine aa 23 rfl ?_;refine sx (mn _ _ tF Aj wt rfl rfl rfl rfl (hg x.1)) ?_)
     | (refine aa 27 rfl ?_;refine sx (C0 (y:=x.2.a) rfl rfl rfl rfl rfl hx2 (fun _ _ _=>⟨_,rfl,rfl,rfl,trivial⟩) (fun _=>rfl)) ?_)
     | refine en ?_
     | exact ah|refine ae fun hb=>?_)
    refine ⟨seen++[j],⟨hn2,hs2⟩,by simp at hls2 ⊢;omega,?_⟩
    rw [hT,List.map_append,hC]
    exact ap (qf [(1000,59)])
   ·have hM:=hfin seen hn hs fun j hj=>hall j (by simpa [lE] using hj)
    have kS:=Kh H (jo m seen) (by
     unfold jo
     have:=List.length_filterMap_le (fun j=>m[j]?) seen
     have:=s6 hn hs
     simp
     omega)
    rw [hM] at kS
    show AW _ _ _ _ _ _
    repeat' (first
     | refine af ?_ ?_
     | refine aa 9 rfl (cH (qf [(0,1000)]) (kS) ?_)
     | refine en ?_
     | exact ah|refine ae fun hb=>?_
     | (refine gK (qf []) ?_;exact ab))
end Go.Proofs.YtdaajdflefnjfaaGreat
