/- Part 28 of 56 of the proof of both_hold (no condition). -/
import Derived.Test.YtcgpepnbohejfaaGreatDoorK26
import Derived.Lib.Overlaps
import Derived.Lib.AppendZeros
import Derived.Laws.Externs
set_option linter.unusedVariables false
set_option linter.unusedSimpArgs false
set_option maxRecDepth 100000
set_option maxHeartbeats 64000000
namespace Go.Proofs.YtcgpepnbohejfaaGreatDoor
open Go.RowKit Go.Proofs.Tryz
section
variable {P:Program} {o:Oper} {s:Mst} {α:Type} {E:El α}
theorem nz {w:World} {base:Nat} {e:TypeId} {n N m cap:Nat} {A:Option Addr} {xs:List Value} (h:w.ownsRow base e n (.slice A N cap) N xs) (hm:m≤N) (h0:0<N):w.ownsRow base e n (.slice A m cap) m (xs.take (m*n)):=by
 obtain ⟨h1,h2⟩:=h;have hmn:m*n≤N*n:=Nat.mul_le_mul_right n hm;refine ⟨by rw [List.length_take,h1];omega,.inr ?_⟩;rcases h2 with ⟨_,hN⟩|⟨g,cap',cur,hv,hb,hh,hc,hcm,hcs,ht⟩
 ·omega
 ·injection hv with e1 _ e3;subst e1;subst e3;exact ⟨g,cap,cur,rfl,hb,hh,by omega,hcm,hcs,by rw [←ht,List.take_take,Nat.min_eq_left hmn]⟩
end
section
variable {P:Program} {f:FuncId} {e:TypeId} {α:Type} {E:El α} {l l':List α}
theorem sY {ars:List V0} {hb:List (Nat×Box)} (hen:∀(vs:Array Value) (w:World),(callFunc f vs).run P w = .ok (.enter f vs) w) (hk1:aD (aj hb) 1=false)
  (h:∀(w:World) (F:Nat→Prop) (ρ:Nat→Value) (vs xs:List Value),w.ownsRow 0 e E.n (ρ 1) l.length xs→Reps E w F l xs→(∀b,F b→b<w.heap.size∧kb (ρ 1)≠some b)→
   All2 (fun d v=>V0.rep w F ρ d v) ars vs→(∀k b,df hb k=some b→b.rep w F ρ (ρ k)∧∀g,kb (ρ k)=some g→kb (ρ 1)≠some g)→
   Calls P f (ρ 1 :: vs).toArray w fun e' w'=>∃v' ys,e' = .returned v'∧Frx w w' (fun b=>kb (ρ 1)=some b)∧(∀g,kb v'=some g→g<w'.heap.size∧(w.heap.size≤g∨kb (ρ 1)=some g))∧w'.ownsRow 0 e E.n v' l'.length ys∧
    ∀F':Nat→Prop,(∀b,F b→F' b∧w'.heap[b]? = w.heap[b]?)→Reps E w' F' l' ys) :
  FSpec P f (.one (.own 1) :: ars) ((1,.arr e E l) :: hb) [2] (.c (.own 2)) ((2,some (.arr e E l')) :: (1,none) :: iR (aj hb)):=by
 refine ⟨hen,fun q c st ρ a w vs hr hinj hargs hhin hus=>?_⟩
 match vs,hargs with
 | v :: vs,⟨h0,hargs⟩ =>
  obtain rfl:v=ρ (q 1):=h0;have hk:=hhin 1 _ rfl;obtain ⟨xs,hx1,hx2⟩:=hr.hp (q 1) _ hk;have hf2:st.f (q 2)=true:=hus 2 rfl;have hq12:(q 2).beq (q 1)=false:=by
   cases h9:(q 2).beq (q 1) with
   | false=>rfl
   | true=>rw [Nat.eq_of_beq_eq_true h9,hr.nfh hk] at hf2;cases hf2
  refine (h w (Fz c st.h ρ w) (fun k=>ρ (q k)) vs xs hx1 hx2 (fun b hb=>⟨hb.2.1,hb.2.2 _ _ hk⟩) (All2.imp hargs fun d v _ hd=>(V0.rep_ren (q:=q) (ρ':=fun k=>ρ (q k)) fun _ _=>rfl).1 hd) (fun k b hg=>?_)).mono ?_
  ·have hne:(1:Nat).beq k=false:=by
    cases h9:(1:Nat).beq k with
    | false=>rfl
    | true =>
     exfalso;rw [←Nat.eq_of_beq_eq_true h9] at hg;have:∀(m:List (Nat×Box)),aD (aj m) 1=false→df m 1=none:=by
      intro m;induction m with
      | nil=>intro _;rfl
      | cons y m ih =>
       intro hm;simp only [aj,List.map_cons,aD,Bool.or_eq_false_iff] at hm;simp only [df,hm.1,cond_false];exact ih hm.2
     rw [this hb hk1] at hg;cases hg
   have hin:aD (aj hb) k=true:=by
    have:∀(m:List (Nat×Box)),df m k=some b→aD (aj m) k=true:=by
     intro m;induction m with
     | nil=>intro h;cases h
     | cons y m ih =>
      intro hm;simp only [aj,List.map_cons,aD,Bool.or_eq_true];cases h9:y.1.beq k with
      | true=>exact .inl rfl
      | false =>
       simp only [df,h9,cond_false] at hm;exact .inr (ih hm)
    exact this hb hg
   have hk':=hhin k b (by simp only [df,hne,cond_false];exact hg);refine ⟨(Box.rep_ren (q:=q) (ρ':=fun k=>ρ (q k)) fun _ _=>rfl).1 (hr.hp _ _ hk'),fun g h1 h2=>?_⟩;have e1:=hinj k 1 (by rw [ba] at hin ⊢;exact List.mem_append_left _ (List.mem_cons_of_mem _ hin)) rfl (hr.dis _ _ _ _ g hk' hk h1 h2);subst e1;cases hne
  ·rintro e' w' ⟨v',ys,rfl,hf,hkb,hy1,hy2⟩;have hou:dx q ((2,some (.arr e E l')) :: (1,none) :: iR (aj hb))=(q 2,some (.arr e E l')) :: iR ((1 :: aj hb).map q):=by
    simp [dx,iR,Box.ren,aj,Function.comp_def]
   refine ⟨v',rfl,fun dst hdst=>⟨upd ρ (q 2) v',?_⟩⟩;rw [hou];obtain ⟨hs,hhs⟩:∃hs,(q 2,some (Box.arr e E l')) :: iR ((1 :: aj hb).map q)=hs:=⟨_,rfl⟩;rw [hhs];have hsm:∀n bx,ax hs n=true→hput hs st.h n=some bx→n=q 2∧bx = .arr e E l':=fun n bx hn hp=>by
    subst hhs;cases h9:(q 2).beq n with
    | true =>
     simp only [hput,h9,cond_true,Option.some.injEq] at hp;exact ⟨(Nat.eq_of_beq_eq_true h9).symm,hp.symm⟩
    | false =>
     simp only [ax,h9,Bool.false_or] at hn;simp only [hput,h9,cond_false] at hp;rw [eA (by rw [←cK];exact hn)] at hp;cases hp
   have hke:∀n,ax hs n=true→n=q 2∨∃bx,st.h n=some bx:=fun n hn=>by
    subst hhs;cases h9:(q 2).beq n with
    | true=>exact .inl (Nat.eq_of_beq_eq_true h9).symm
    | false =>
     right
     simp only [ax,h9,Bool.false_or,cK] at hn;have:∃k,k∈(1 :: aj hb)∧q k=n:=by
      have h8:∀(m:List Nat),aD (m.map q) n=true→∃k,k∈m∧q k=n:=by
       intro m;induction m with
       | nil=>intro h;cases h
       | cons y m ih =>
        intro hm;simp only [List.map_cons,aD,Bool.or_eq_true] at hm;rcases hm with hm|hm
        ·exact ⟨y,by simp,Nat.eq_of_beq_eq_true hm⟩
        ·obtain ⟨k,k1,k2⟩:=ih hm;exact ⟨k,by simp [k1],k2⟩
      exact h8 _ hn
     obtain ⟨k,hkm,rfl⟩:=this;rcases List.mem_cons.1 hkm with rfl|hkm
     ·exact ⟨_,hk⟩
     ·obtain ⟨b,hb⟩:∃b,df ((1,.arr e E l) :: hb) k=some b:=by
       have:∀(m:List (Nat×Box)),k∈aj m→∃b,df m k=some b:=by
        intro m;induction m with
        | nil=>intro h;cases h
        | cons y m ih =>
         intro hm;cases h7:y.1.beq k with
         | true=>exact ⟨y.2,by simp only [df,h7,cond_true]⟩
         | false =>
          rcases List.mem_cons.1 hm with h6|h6
          ·rw [h6,Nat.beq_refl] at h7;cases h7
          ·obtain ⟨b,hb⟩:=ih h6;exact ⟨b,by simp only [df,h7,cond_false];exact hb⟩
       exact this _ (List.mem_cons_of_mem _ hkm)
      exact ⟨_,hhin k b hb⟩
   have hkq1:ax hs (q 1)=true:=by
    subst hhs;simp [ax,cK,aD]
   have hFz:∀b,Fz c st.h ρ w b→Fz c (hput hs st.h) (upd ρ (q 2) v') w' b∧w'.heap[b]? = w.heap[b]?:=fun b hb=>by
    refine ⟨⟨hb.1,Nat.lt_of_lt_of_le hb.2.1 hf.size,fun n bx hn he=>?_⟩,hf.keep b hb.2.1 fun he=>hb.2.2 _ _ hk he⟩;cases h9:ax hs n with
    | true =>
     obtain ⟨rfl,_⟩:=hsm n bx h9 hn;rw [aI] at he;rcases (hkb b he).2 with h|h
     ·have:=hb.2.1;omega
     ·exact hb.2.2 _ _ hk h
    | false =>
     rw [bD h9] at hn;have hkn:(q 2).beq n=false:=by
      cases h8:(q 2).beq n with
      | false=>rfl
      | true=>rw [←Nat.eq_of_beq_eq_true h8,hr.wf.h _ hf2] at hn;cases hn
     rw [de hkn] at he;exact hb.2.2 n bx hn he
   refine hr.app (ρ':=upd ρ (q 2) v') (e:=⟨(TV.c (.own 2)).ren q,hs,[2].map q⟩) hdst (fun n hn=>?_) (fun n hn=>de (by simpa [aD] using hn)) (fun n hn=>?_) ⟨hf.os,hf.tape,hf.output,hf.size,fun b hlt hn=>hf.keep b hlt fun e=>hn ⟨q 1,_,hkq1,hk,e⟩⟩ (fun n bx g' hn hb hg=>?_) (fun n n' b b' g hn hn' hb hb' _ _=>?_) (fun n hn=>.inl ?_) (fun n n' bx hn hb hx2=>?_) (fun n bx hn hb=>?_) ?_
   ·obtain rfl:q 2=n:=by simp [aD] at hn;exact hn
    exact ⟨hf2,by subst hhs;simp [ax]⟩
   ·rcases hke n hn with rfl|⟨bx,hbx⟩
    ·exact .inl (by simp [aD])
    ·exact .inr (hr.nfh hbx)
   ·obtain ⟨rfl,_⟩:=hsm n bx hn hb;rw [aI] at hg;exact ⟨(hkb g' hg).1,(hkb g' hg).2.imp id fun h=>⟨q 1,_,hkq1,hk,h⟩⟩
   ·rw [(hsm n b hn hb).1,(hsm n' b' hn' hb').1]
   ·obtain rfl:q 2=n:=by simpa [TV.ren,V0.ren,D.ren,TV.has,V0.has,D.has] using hn
    simp [aD]
   ·rw [(hsm n' bx hn hb).2] at hx2;simp [Box.has] at hx2
   ·obtain ⟨rfl,rfl⟩:=hsm n bx hn hb;rw [aI];exact ⟨ys,hy1,hy2 _ hFz⟩
   ·exact (aI ρ (q 2) v').symm
end
section
variable {w:World} {base:Nat} {e:TypeId} {N n cap:Nat} {A:Option Addr} {xs:List Value}
theorem jk {g:Nat} (h:w.ownsRow base e N (.slice (some ⟨g,0,none⟩) n cap) n xs):∃ys,w.ownsRow base e N (.slice (some ⟨g,0,none⟩) cap cap) cap ys∧ys.take (n*N)=xs∧n≤cap∧cap≤maxLen∧g<w.heap.size:=by
 obtain ⟨h1,h2⟩:=h;rcases h2 with ⟨hv,_⟩|⟨g',cap',cur,hv,hg,hh,hnc,hcm,hcs,ht⟩
 ·cases hv
 ·injection hv with e1 _ e3;injection e1 with e1;injection e1 with e1;subst e1;subst e3;refine ⟨cur.toList,⟨by simpa using hcs,.inr ⟨_,_,cur,rfl,hg,hh,Nat.le_refl _,hcm,hcs,?_⟩⟩,ht,hnc,hcm,(Array.getElem?_eq_some_iff.1 hh).1⟩;rw [←hcs];exact List.take_of_length_le (by simp)
theorem cQ {g:Nat} (h:w.ownsRow base e N (.slice (some ⟨g,0,none⟩) n cap) n xs) {j:Nat} (hj:j<cap*N):(w.cell? ⟨g,j,none⟩).isSome=true∧w.frozen? ⟨g,j,none⟩=false:=by
 obtain ⟨h1,h2⟩:=h;rcases h2 with ⟨hv,_⟩|⟨g',cap',cur,hv,hg,hh,hnc,hcm,hcs,ht⟩
 ·cases hv
 ·injection hv with e1 _ e3;injection e1 with e1;injection e1 with e1;subst e1;subst e3;refine ⟨?_,frozen_of_row w _ j cur e hh⟩;have:w.cell? ⟨g,j,none⟩=cur[j]?:=by simp [World.cell?,hh]
  rw [this,Array.getElem?_eq_getElem (by rw [hcs];exact hj)];rfl
theorem lN {g:Nat} (h:w.ownsRow base e N (.slice (some ⟨g,0,none⟩) n cap) n xs) {q:Nat} {u:Value} (hu:xs[q]? = some u):w.cell? ⟨g,q,none⟩=some u:=by
 have:=h.cells rfl _ _ hu
 rwa [eC,Nat.zero_add] at this
theorem lO (h:w.ownsRow base e N (.slice A n cap) n xs):xs.length=n*N:=h.1
theorem pB {g:Nat} (h:w.ownsRow base e N (.slice (some ⟨g,0,none⟩) n cap) n xs) (vs:List Value) {j:Nat} (hj:j+vs.length≤xs.length):(w.setCells g j vs).ownsRow base e N (.slice (some ⟨g,0,none⟩) n cap) n (xs.take j++vs++xs.drop (j+vs.length)):=ed vs j w xs h hj
theorem eY {g:Nat}:∀(vs:List Value) (j:Nat) (w:World),(w.setCells g j vs).os=w.os∧(w.setCells g j vs).tape=w.tape∧(w.setCells g j vs).output=w.output
 | [],_,_=>⟨rfl,rfl,rfl⟩
 | v :: r,j,w=>by rw [World.setCells];exact eY r (j+1) _
theorem fP (w:World) (g j:Nat) (vs:List Value):Frx w (w.setCells g j vs) fun b=>b=g :=
 ⟨(eY vs j w).1,(eY vs j w).2.1,(eY vs j w).2.2,by rw [bp];exact Nat.le_refl _,fun b _ hn=>bj vs j w b hn⟩
theorem Frx.trans {w1 w2 w3:World} {M:Nat→Prop} (h:Frx w1 w2 M) (k:Frx w2 w3 M):Frx w1 w3 M :=
 ⟨k.os.trans h.os,k.tape.trans h.tape,k.output.trans h.output,Nat.le_trans h.size k.size,fun b hb hn=>(k.keep b (Nat.lt_of_lt_of_le hb h.size) hn).trans (h.keep b hb hn)⟩
end
section
open Go.Lib
def A7:Value:=.agg #[.int .i64 0,.int .i64 0,.int .i64 0,.int .i64 0,.slice none 0 0,.slice none 0 0,.bool false,.int .i64 0,.string ⟨#[]⟩,.int .i64 0,.int .i64 0,.slice none 0 0,.int .i64 0,.int .i64 0,.int .i64 0,.int .i64 0]
theorem xF {n cap i g:Nat} {xs:List Value} (w:World) (ho:w.ownsRow 0 66 16 (.slice (some ⟨g,0,none⟩) n cap) n xs) (hone:∀u∈xs,u.oneCell'=true) (hi:i<n) (hn:n≤100000) :
  Calls prog 91 #[.slice (some ⟨g,0,none⟩) n cap,.int .i64 i,.int .i64 ((i+1:Nat):Int)] w fun e w'=>e = .returned (.slice (some ⟨g,0,none⟩) (n-1) cap)∧Frx w w' (fun b=>b=g)∧w'.ownsRow 0 66 16 (.slice (some ⟨g,0,none⟩) (n-1) cap) (n-1) (xs.take (i*16)++xs.drop ((i+1)*16)):=by
 obtain ⟨_,_,_,hnc,hcm,hgw⟩:=jk ho;have hinfo:(prog.info? 66).map (fun i=>(i.zero,i.size,i.bytes))=some (some A7,16,184):=by kernel_rfl
 have hxl:=lO ho;obtain ⟨news,hnews⟩:∃news,news=xs.drop ((i+1)*16):=⟨_,rfl⟩;have hlen:news.length=(n-(i+1))*16:=by rw [hnews,List.length_drop,hxl,Nat.sub_mul]
 obtain ⟨A,hA,hsrc⟩:∃A:Addr,(if cap=i+1 then some (⟨g,0,none⟩:Addr) else some ⟨g,(i+1)*16,none⟩)=some A∧Hid (∀t u,news[t]? = some u→w.drew.cell? (A.add t)=some u):=by
  by_cases h:cap=i+1
  ·refine ⟨⟨g,0,none⟩,by simp [h],fun t u hu=>?_⟩;have h0:news.length=0:=by rw [hlen];omega
   rw [List.length_eq_zero_iff.1 h0] at hu;simp at hu
  ·refine ⟨⟨g,(i+1)*16,none⟩,by simp [h],fun t u hu=>?_⟩;rw [hnews,List.getElem?_drop] at hu;rw [Addr.add_lit];exact lN ho hu
 have s1:Hid (news.length=(n-(i+1))*16):=hlen;have s2:Hid (∀u∈news,u.oneCell'=true):=fun u hu=>hone u (List.mem_of_mem_drop (hnews▸hu));have s3:Hid (∀t,t<news.length→(w.drew.cell? ⟨g,0+i*16+t,none⟩).isSome=true∧w.drew.frozen? ⟨g,0+i*16+t,none⟩=false):=by
  intro t ht;rw [hlen] at ht;rw [Nat.zero_add];exact cQ ho (j:=i*16+t) (by omega)
 obtain ⟨W1,hW1⟩:∃W1,W1=w.drew.setCells g (0+i*16) news:=⟨_,rfl⟩;have hod:w.drew.ownsRow 0 66 16 (.slice (some ⟨g,0,none⟩) n cap) n xs:=ho;have hW1':W1.ownsRow 0 66 16 (.slice (some ⟨g,0,none⟩) n cap) n (xs.take (i*16)++news++xs.drop (i*16+news.length)):=by
  rw [hW1,Nat.zero_add];exact pB hod news (by rw [hlen,hxl];omega)
 have hW1c:W1.ownsRow 0 66 16 (.slice (some ⟨g,0,none⟩) (n-1) cap) (n-1) (xs.take (i*16)++news):=by
  have h:=nz hW1' (m:=n-1) (by omega) (by omega);rw [List.take_left' (by rw [List.length_append,List.length_take,hlen,hxl];omega)] at h;exact h
 obtain ⟨vs,hcl⟩:=iG (P:=prog) W1 30 66 A7 underlying30 (fun w=>by kernel_rfl) (by intro u hu;simp [Value.cells,A7] at hu;rcases hu with rfl|rfl|rfl|rfl|rfl|rfl|rfl|rfl|rfl|rfl|rfl|rfl|rfl|rfl|rfl|rfl <;> rfl) (by decide) g ((i+(n-(i+1)))*16) (n-(i+(n-(i+1)))) (cap-(i+(n-(i+1)))) (by omega) (fun j hj=>by
  have hj':j<(n-(i+(n-(i+1))))*16:=hj;exact cQ hW1' (by omega))
 have hfin:Hid (Frx w (W1.setCells g ((i+(n-(i+1)))*16) vs) (fun b=>b=g)∧(W1.setCells g ((i+(n-(i+1)))*16) vs).ownsRow 0 66 16 (.slice (some ⟨g,0,none⟩) (n-1) cap) (n-1) (xs.take (i*16)++news)):=by
  refine ⟨?_,i4 vs _ W1 _ hW1c (by rw [List.length_append,List.length_take,hlen,hxl];omega)⟩;have h1:Frx w W1 fun b=>b=g:=by rw [hW1];exact (Frx.trans (Frx.drew (Frx.refl w _)) (fP w.drew g _ news))
  exact h1.trans (fP W1 g _ vs)
 obtain ⟨i0,hi0,hz0,hz1,hz2⟩:=info_parts hinfo;have hW:Hid (W1=w.drew.setCells g (0+i*16) news):=hW1;have hic:i≤cap:=by omega
 have hjc:i+1≤cap:=by omega
 have mixed:prog.follows .mixedOrders=true:=by kernel_rfl
 have hb1:(0:Int)≤(i:Int)+1:=by omega
 have hb2:(i:Int)+1≤(n:Int):=by omega
 rw [←hnews];clear hW1 hW1' hW1c hod ho hone hnews hlen hxl
 go_enter func91,ntmps91
 go_wp2_with fail
 go_region_law_o (refine step_append_room rfl (.tmp 22) (.tmp 25) 30 rfl 66 i0 16 underlying30 hi0 hz1 g 0 i cap (by simp [Act.eval,Act.put]) A (n-(i+1)) (cap-(i+1)) news (by simp [Act.eval,Act.put]) s1.out hsrc.out s2.out (by omega) s3.out ?_;rw [←hW.out])
 go_wp2
 go_ret
 exact ⟨by rw [show n-1=i+(n-(i+1)) by omega];rfl,hfin.out⟩
theorem Et (d:Nat) (l:List Pc) (i:Nat) (hl:l.length≤100000) (hi:i<l.length) {L:List Pc} (hL:l.eraseIdx i=L):FSpec prog 91 [.one (.own 1),.one (.sc (.int .i64 (i:Int))),.one (.sc (.int .i64 ((i:Int)+1)))] [(1,.arr 66 (fu d) l)] [2] (.c (.own 2)) [(2,some (.arr 66 (fu d) L)),(1,none)] :=
 sY (hb:=[]) (fun b W=>by kernel_rfl) rfl fun w F ρ vs xs ho hr hF ha _=>by
  match vs,ha with
  | [_,_],⟨h2,h3,_⟩ =>
   obtain rfl:=h2;obtain rfl:=h3;obtain ⟨g,cap,hv⟩:∃g cap,ρ 1 = .slice (some ⟨g,0,none⟩) l.length cap:=by
    rcases ho.2 with ⟨_,hz⟩|⟨g,cap,cur,hv,_⟩
    ·omega
    ·exact ⟨g,cap,hv⟩
   rw [hv] at ho hF ⊢;have hlt:=(jk ho).choose_spec.2.2.2.2;refine Calls.mono (xF w ho hr.one hi hl) ?_;rintro e w' ⟨rfl,hf,ho'⟩;have hLl:L.length=l.length-1:=by rw [←hL,List.length_eraseIdx,if_pos hi]
   refine ⟨_,_,rfl,⟨hf.os,hf.tape,hf.output,hf.size,fun b hb hn=>hf.keep b hb fun e=>hn (by rw [e];rfl)⟩,fun g' hg'=>?_,by rw [hLl];exact ho',fun F' hF'=>?_⟩
   ·injection hg' with hg';subst hg';exact ⟨Nat.lt_of_lt_of_le hlt hf.size,.inr rfl⟩
   ·rw [←hL,List.eraseIdx_eq_take_drop_succ];exact ((hr.take i).append (hr.drop (i+1))).same (fun b hb=>(hF' b hb).2) fun b hb=>(hF' b hb).1
end
section
open Go.Lib
theorem pC {P:Program} {ops:Array Oper} {o:Oper} {a:Act} {w:World} {K:Act→World→Prop} {Q:Exit→Act→World→Prop} {E:Prop}
  (hg:o.guard=none) (d x:Operand) (dT sT:TypeId) (hop:o.op=Op.call { callee:=Callee.builtin Builtin.copy,args:=#[d,x],argTypes:=#[dT,sT] })
  (v u:Value) (hd:a.eval d=v) (hx:a.eval x=u) {v':Value} {w':World} (hr:(Builtin.copy_ #[dT,sT] o.type #[v,u]).run P w = .ok v' w') (hK:K (a.put o.dst v') w') :
  if Region.wanted o (yielded ops a.tmps)=true then Oper.wp P o a w K Q else E:=by
 have hw:Region.wanted o (yielded ops a.tmps)=true:=by simp [Region.wanted,hg]
 rw [if_pos hw];unfold Oper.wp;simp [execOp,hop,resolve,invoke,builtin,hd,hx,hr,Result.andThen];exact hK
section
variable {w:World} {e:TypeId} {N n cap:Nat}
theorem Eu (w:World) (ROW:Array Value) (hcs:ROW.size=cap*N) (hnc:n≤cap) (hcm:cap≤maxLen):(w.alloc (.cells ROW e)).ownsRow 0 e N (.slice (some ⟨w.heap.size,0,none⟩) n cap) n (ROW.toList.take (n*N)):=by
 refine ⟨?_,.inr ⟨_,_,ROW,rfl,Nat.zero_le _,?_,hnc,hcm,hcs,rfl⟩⟩
 ·rw [List.length_take,Array.length_toList,hcs];exact Nat.min_eq_left (Nat.mul_le_mul_right _ hnc)
 ·exact heap_alloc_new w _
theorem As (w:World) (o:Obj) (M:Nat→Prop):Frx w (w.drew.alloc o) M:=(Frx.drew (Frx.refl w M)).trans (Frx.alloc w.drew o M)
theorem yL {w w1:World} {M:Nat→Prop} {g:Nat} (h:Frx w w1 M) (hg:w.heap.size≤g) (j:Nat) (vs:List Value):Frx w (w1.setCells g j vs) M :=
 ⟨(eY vs j w1).1.trans h.os,(eY vs j w1).2.1.trans h.tape,(eY vs j w1).2.2.trans h.output,by rw [bp];exact h.size,fun b hb hn=>(bj vs j w1 b (by omega)).trans (h.keep b hb hn)⟩
end
def H0 (A:Option Addr):Option Nat:=A.map (·.block)
theorem xG {n cap g3:Nat} {A:Option Addr} {xs cs:List Value} (w:World) (ho:w.ownsRow 0 66 16 (.slice A n cap) n xs) (hcl:cs.length=16) (hsrc:∀j u,cs[j]? = some u→w.cell? ⟨g3,j,none⟩=some u) (hc1:∀u∈cs,u.oneCell'=true) (hn:n≤100000) :
  Calls prog 75 #[.slice A n cap,.int .i64 n,.slice (some ⟨g3,0,none⟩) 1 1] w fun e w'=>∃v',e = .returned v'∧Frx w w' (fun b=>H0 A=some b)∧(∀g',kb v'=some g'→g'<w'.heap.size∧(w.heap.size≤g'∨H0 A=some g'))∧w'.ownsRow 0 66 16 v' (n+1) (xs++cs):=by
 have hinfo:(prog.info? 66).map (fun i=>(i.zero,i.size,i.bytes))=some (some A7,16,184):=by kernel_rfl
 obtain ⟨ti,hi1,hi2,hi3,hi5⟩:=info_parts hinfo;obtain ⟨v',w',hrun,ho1,hgr,_,hob⟩:=run_append_own_at (P:=prog) w 0 30 30 66 ti A7 16 184 underlying30 hi1 hi2 hi3 hi5 (by decide) (by decide) (.slice A n cap) n xs ho ⟨g3,0,none⟩ 1 1 cs (by omega) (fun j u hj=>by rw [eU,Nat.zero_add];exact hsrc j u hj) hc1 (by simp only [maxLen];omega) (by omega) (Nat.zero_le _);have hEND:Hid (Frx w w' (fun b=>H0 A=some b)∧(∀g',kb v'=some g'→g'<w'.heap.size∧(w.heap.size≤g'∨H0 A=some g'))∧w'.ownsRow 0 66 16 v' (n+1) (xs++cs)):=by
  have hv:∃A' n' c',v' = .slice A' n' c':=by
   rcases ho1.2 with ⟨hv,_⟩|⟨g',cap',cur',hv,_⟩ <;> exact ⟨_,_,_,hv⟩
  refine ⟨⟨hgr.os,hgr.tape,hgr.output,hgr.size,fun b hb hn=>hgr.block b hb fun e=>hn ?_⟩,fun g' hg'=>?_,ho1⟩
  ·cases A with
   | none=>cases e
   | some a=>exact e.symm
  ·rcases ho1.2 with ⟨hv,_⟩|⟨g0,cap',cur',hv,_,hh,_⟩
   ·omega
   ·subst hv;injection hg' with hg';subst hg';refine ⟨(Array.getElem?_eq_some_iff.1 hh).1,?_⟩;rcases hob with h|h
    ·right
     cases A with
     | none=>cases h
     | some a=>exact h.symm
    ·injection h with h;exact .inl (Nat.le_of_eq h.symm)
 have HR:=Lib.hid hrun;clear hrun ho1 hgr hob hsrc ho hi1 hi2 hi3 hi5 hinfo
 go_enter func75,ntmps75
 go_wp2_with (at_builtin;refine Lib.wpList_append_run _ rfl _ _ 30 30 rfl _ _ rfl rfl _ _ HR.out ?_)
 all_goals (go_ret;exact ⟨_,rfl,hEND.out⟩)
theorem At {ys xs cs:List Value} {a b c:Nat} (hx:ys.take c=xs) (hac:a≤c) (hcl:cs.length=b) (hc:c+b≤ys.length) :
  ((ys.take (a+b)++xs.drop a++ys.drop (a+b+(xs.drop a).length)).take a++cs++(ys.take (a+b)++xs.drop a++ys.drop (a+b+(xs.drop a).length)).drop (a+cs.length)).take (c+b)=xs.take a++cs++xs.drop a:=by
 have hxl:xs.length=c:=by rw [←hx,List.length_take];omega
 have hyl:(ys.take (a+b)).length=a+b:=by rw [List.length_take];omega
 generalize hR:ys.drop (a+b+(xs.drop a).length)=R;have e1:(ys.take (a+b)++xs.drop a++R).take a=xs.take a:=by
  rw [List.append_assoc,List.take_append_of_le_length (by omega),List.take_take,←hx,List.take_take];congr 1
  omega
 have e2:(ys.take (a+b)++xs.drop a++R).drop (a+cs.length)=xs.drop a++R:=by
  rw [List.append_assoc,hcl];exact List.drop_left' hyl
 rw [e1,e2,←List.append_assoc];exact List.take_left' (by simp only [List.length_append,List.length_take,List.length_drop];omega)
section
variable {n cap i g g3:Nat} {xs cs:List Value}
theorem yM {k:Nat} (h:k≤100000):IntKind.i64.wrap ((k:Int)+1)=(k:Int)+1:=by rw [IntKind.wrap_i64];omega
theorem uj {tb:TypeId} (w:World) (ho:w.ownsRow 0 66 16 (.slice (some ⟨g,0,none⟩) n cap) n xs) (hone:∀u∈xs,u.oneCell'=true) (hcl:cs.length=16) (hb:w.heap[g3]? = some (.cells cs.toArray tb (0,0))) (hc1:∀u∈cs,u.oneCell'=true) (hne:g3≠g) (hn:n≤100000) (hi:i<n) (hroom:n+1≤cap) :
  Calls prog 75 #[.slice (some ⟨g,0,none⟩) n cap,.int .i64 i,.slice (some ⟨g3,0,none⟩) 1 1] w fun e w'=>e = .returned (.slice (some ⟨g,0,none⟩) (n+1) cap)∧Frx w w' (fun b=>b=g)∧w'.ownsRow 0 66 16 (.slice (some ⟨g,0,none⟩) (n+1) cap) (n+1) (xs.take (i*16)++cs++xs.drop (i*16)):=by
 obtain ⟨ys,hf,ht,hnc,hcm,hgw⟩:=jk ho;have hxl:=lO ho;have hyl:=lO hf;have hinfo:(prog.info? 66).map (fun i=>(i.zero,i.size,i.bytes))=some (some A7,16,184):=by kernel_rfl
 have hsz:(prog.info? 66).map (·.size)=some 16:=by kernel_rfl
 obtain ⟨D,hD⟩:∃D,xs.drop (i*16)=D:=⟨_,rfl⟩;have hDl:D.length=(n-i)*16:=by rw [←hD,List.length_drop,hxl,Nat.sub_mul]
 have hfd:w.drew.ownsRow 0 66 16 (.slice (some ⟨g,0,none⟩) cap cap) cap ys:=hf;obtain ⟨W1,hW1⟩:∃W1,W1=w.drew.setCells g ((i+1)*16) D:=⟨_,rfl⟩;have hf1:W1.ownsRow 0 66 16 (.slice (some ⟨g,0,none⟩) cap cap) cap (ys.take ((i+1)*16)++D++ys.drop ((i+1)*16+D.length)):=by
  rw [hW1];exact pB hfd D (by rw [hDl,hyl];omega)
 have hf2:=pB hf1 cs (j:=i*16) (by simp only [List.length_append,List.length_take,List.length_drop,hDl,hyl,hcl];omega);have hf3:=nz hf2 (m:=n+1) hroom (by omega);have hic:=At (a:=i*16) (b:=16) (c:=n*16) ht (by omega) hcl (by rw [hyl];omega);rw [hD] at hic;rw [show (i+1)*16=i*16+16 by omega,show (n+1)*16=n*16+16 by omega,hic] at hf3;have hcp1:∀ty dc sc,(Builtin.copy_ #[30,30] ty #[.slice (some ⟨g,(i+1)*16,none⟩) (n-i) dc,.slice (some ⟨g,i*16,none⟩) (n+1-i) sc]).run prog w.drew = .ok (goInt (Nat.min (n+1-i) (n-i))) (w.drew.setCells g ((i+1)*16) D):=fun ty dc sc =>
  fS w.drew _ ty 66 16 g ((i+1)*16) (n-i) dc ⟨g,i*16,none⟩ (n+1-i) sc D underlying30 hsz (by rw [hDl];congr 1;simp only [Nat.min_def];split <;> omega)
   (fun j v hj=>by rw [Addr.add_lit];exact lN ho (by rw [←hD,List.getElem?_drop] at hj;exact hj))
   (fun j hj=>(cQ hfd (j:=(i+1)*16+j) (by omega)).1) (fun j hj=>(cQ hfd (j:=(i+1)*16+j) (by omega)).2) (fun v hv=>hone v (List.mem_of_mem_drop (hD▸hv)))
 have hcp2:∀ty dc,(Builtin.copy_ #[30,30] ty #[.slice (some ⟨g,i*16,none⟩) (n+1-i) dc,.slice (some ⟨g3,0,none⟩) 1 1]).run prog W1 = .ok (goInt (Nat.min 1 (n+1-i))) (W1.setCells g (i*16) cs):=fun ty dc =>
  fS W1 _ ty 66 16 g (i*16) (n+1-i) dc ⟨g3,0,none⟩ 1 1 cs underlying30 hsz (by rw [hcl];simp only [Nat.min_def];split <;> omega)
   (fun j v hj=>by
    rw [Addr.add_lit,Nat.zero_add,hW1];have:(w.drew.setCells g ((i+1)*16) D).heap[g3]? = some (.cells cs.toArray tb (0,0)):=(bj D _ w.drew g3 hne).trans hb;simp only [World.cell?,this];simpa using hj)
   (fun j hj=>(cQ hf1 (j:=i*16+j) (by omega)).1) (fun j hj=>(cQ hf1 (j:=i*16+j) (by omega)).2) hc1
 have hov:∀lb cb,(callFunc 123 #[.slice (some ⟨g3,0,none⟩) 1 1,.slice (some ⟨g,(i+1)*16,none⟩) lb cb]).run prog w = .ok (.value (.bool false)) w:=fun lb cb=>by
  obtain ⟨cur,hh,hcs⟩:∃cur,w.heap[g]? = some (.cells cur 66 (0,0))∧cur.size=cap*16:=by
   rcases ho.2 with ⟨hv,_⟩|⟨g',cap',cur,hv,_,hh,_,_,hcs,_⟩
   ·cases hv
   ·injection hv with e1 _ e3;injection e1 with e1;injection e1 with e1;subst e1;subst e3;exact ⟨cur,hh,hcs⟩
  rw [run_callFunc_extern func123 (by kernel_rfl) (by kernel_rfl) (by kernel_rfl) (e:=Extern.SlicesOverlaps.overlaps #[30,30] #[4]) (by kernel_rfl),
   Lib.run_overlaps_apart w 30 4 66 underlying30 16 sizeOf66 ⟨g3,0,none⟩ ⟨g,(i+1)*16,none⟩ 1 1 lb cb hne tb 66 16 (cap*16) (by simp [World.shape?,hb,hcl]) (by simp [World.shape?,hh,hcs]) (by omega) (by simp [World.frozen?,hb]) (by simp [World.frozen?,hb])]
  rfl
 have hEND:Hid (Frx w (W1.setCells g (i*16) cs) (fun b=>b=g)∧(W1.setCells g (i*16) cs).ownsRow 0 66 16 (.slice (some ⟨g,0,none⟩) (n+1) cap) (n+1) (xs.take (i*16)++cs++D)):=by
  refine ⟨?_,hf3⟩;have h1:Frx w W1 fun b=>b=g:=by rw [hW1];exact (Frx.trans (Frx.drew (Frx.refl w _)) (fP w.drew g _ D))
  exact h1.trans (fP W1 g _ cs)
 have S1:=(va underlying30 hinfo (some ⟨g,0,none⟩) n cap i (by omega) hnc).2;have S2:∀w,(Instr.sliceAt 30 (.slice (some ⟨g,0,none⟩) n cap) none (some (.int .i64 ((n:Int)+1))) none).run prog w = .ok (.slice (some ⟨g,0,none⟩) (n+1) cap) w:=fun w=>by
  obtain ⟨i0,hi0,_⟩:=info_parts hinfo;have he:prog.elem 30=66:=by simp [Program.elem,underlying30]
  rw [run_sliceAt_slice w _ _ _ _ _ (by rw [he];exact underlying30)];exact uZ underlying30 hi0 (some ⟨g,0,none⟩) n cap (n+1) hroom w
 have S3:=(va underlying30 hinfo (some ⟨g,0,none⟩) (n+1) cap i (by omega) hroom).2;have S4:=(va underlying30 hinfo (some ⟨g,0,none⟩) (n+1) cap (i+1) (by omega) hroom).2;have ec:∀k,k<cap→oC (some ⟨g,0,none⟩) cap k 16=some ⟨g,k*16,none⟩:=fun k hk=>by unfold oC;rw [if_neg (by omega),Option.map_some,eC,Nat.zero_add]
 rw [ec i (by omega)] at S1 S3;rw [ec (i+1) (by omega)] at S4;rw [show ((i+1:Nat):Int)=(i:Int)+1 by omega] at S4;have hz2:¬((i:Int)=(n:Int)):=by omega
 have hz3:¬((cap:Int)<(n:Int)+1):=by omega
 have w1:=yM hn;have w2:=yM (k:=i) (by omega);rw [←hW1] at hcp1;rw [hD];have HC1:=Lib.hid hcp1;have HC2:=hcp2;clear hcp1 hcp2 hW1 hf hfd hf1 hf2 hf3 hic ho hone hb hD hDl hxl hyl ht hsz hinfo ec hc1 hcl
 go_enter func75,ntmps75
 have mixed:prog.follows .mixedOrders=true:=by kernel_rfl
 go_wp2_with (simp only [hov])
 go_region_law_o (refine pC rfl _ _ 30 30 rfl (.slice (some ⟨g,(i+1)*16,none⟩) (n-i) (cap-(i+1))) (.slice (some ⟨g,i*16,none⟩) (n+1-i) (cap-i)) (by simp [Act.eval,Act.put]) (by simp [Act.eval,Act.put]) (HC1.out 3 (cap-(i+1)) (cap-i)) ?_)
 go_wp2_with fail
 go_ret
 exact ⟨rfl,hEND.out⟩
theorem wb {tb:TypeId} (w:World) (ho:w.ownsRow 0 66 16 (.slice (some ⟨g,0,none⟩) n cap) n xs) (hone:∀u∈xs,u.oneCell'=true) (hcl:cs.length=16) (hb:w.heap[g3]? = some (.cells cs.toArray tb (0,0))) (hc1:∀u∈cs,u.oneCell'=true) (hn:n≤100000) (hi:i<n) (hroom:cap<n+1) :
  Calls prog 75 #[.slice (some ⟨g,0,none⟩) n cap,.int .i64 i,.slice (some ⟨g3,0,none⟩) 1 1] w fun e w'=>∃G,e = .returned (.slice (some ⟨w.heap.size,0,none⟩) (n+1) G)∧Frx w w' (fun _=>False)∧w.heap.size<w'.heap.size∧w'.ownsRow 0 66 16 (.slice (some ⟨w.heap.size,0,none⟩) (n+1) G) (n+1) (xs.take (i*16)++cs++xs.drop (i*16)):=by
 obtain ⟨ys,hf,ht,hnc,hcm,hgw⟩:=jk ho;have hxl:=lO ho;have hinfo:(prog.info? 66).map (fun i=>(i.zero,i.size,i.bytes))=some (some A7,16,184):=by kernel_rfl
 have hsz:(prog.info? 66).map (·.size)=some 16:=by kernel_rfl
 obtain ⟨i0,hi0,hz0,hzs,hzb⟩:=info_parts hinfo;obtain ⟨D,hD⟩:∃D,xs.drop (i*16)=D:=⟨_,rfl⟩;have hDl:D.length=(n-i)*16:=by rw [←hD,List.length_drop,hxl,Nat.sub_mul]
 obtain ⟨X,hX⟩:∃X,xs.take (i*16)=X:=⟨_,rfl⟩;have hXl:X.length=i*16:=by rw [←hX,List.length_take,hxl];omega
 have hold:(Builtin.firstCells i0.size i (.slice (some ⟨g,0,none⟩) i cap)).run prog w.drew = .ok X.toArray w.drew:=by
  rw [hzs];exact run_firstCells_some (w:=w.drew) 16 i ⟨g,0,none⟩ i cap X hXl (fun j v hj=>by
   rw [Addr.add_lit,Nat.zero_add];rw [←hX,List.getElem?_take] at hj;split at hj
   ·exact lN ho hj
   ·cases hj)
 have hik:i+(n+1-i)=n+1:=by omega
 obtain ⟨G,hG⟩:∃G,G=grownCap w (n+1) cap 66:=⟨_,rfl⟩;obtain ⟨ROW,hROW⟩:∃ROW:Array Value,ROW=X.toArray++Builtin.zeroCells A7.cells (n+1-i)++Builtin.zeroCells A7.cells (G-(n+1)):=⟨_,rfl⟩;obtain ⟨W1,hW1⟩:∃W1,W1=w.drew.alloc (.cells ROW 66):=⟨_,rfl⟩;have hrz:∀ty,(Builtin.append_ #[30,3] ty #[.slice (some ⟨g,0,none⟩) i cap,.int .i64 ((n:Int)+1-(i:Int))]).run prog w = .ok (.slice (some ⟨w.heap.size,0,none⟩) (n+1) G) W1:=fun ty=>by
  have h:=Lib.run_append_grow_zeros w 30 3 ty 66 i0 _ .i64 .i64 underlying30 underlying3 hi0 hz0 (some ⟨g,0,none⟩) i cap X hold (n+1-i) (by omega) (by omega) (by omega) (by omega) (by rw [hzb];omega) (by rw [hzb,hik];exact growslice_fits hroom (by omega));rw [hik,←hG,←hROW,←hW1] at h;rw [show (n:Int)+1-(i:Int)=((n+1-i:Nat):Int) by omega];exact h
 have hGn:n+1≤G:=by rw [hG];exact grownCap_ge w _ _ _
 have hGm:G≤maxLen:=by rw [hG];exact grownCap_le_maxLen w _ _ _ (by simp only [maxLen];omega)
 have hzc:∀k,(Builtin.zeroCells A7.cells k).size=k*16:=fun k=>by simp [Builtin.zeroCells,A7,Value.cells]
 have hRs:ROW.size=G*16:=by
  rw [hROW,Array.size_append,Array.size_append,hzc,hzc,List.size_toArray,hXl];omega
 obtain ⟨Z,hZ⟩:∃Z,(Builtin.zeroCells A7.cells (n+1-i)).toList=Z:=⟨_,rfl⟩;have hZl:Z.length=(n+1-i)*16:=by rw [←hZ,Array.length_toList,hzc]
 have h1:W1.ownsRow 0 66 16 (.slice (some ⟨w.heap.size,0,none⟩) (n+1) G) (n+1) (X++Z):=by
  have h:=Eu (N:=16) (e:=66) w.drew ROW hRs hGn hGm;rw [←hW1,hROW,Array.toList_append,Array.toList_append,hZ,List.take_left' (by rw [List.length_append,hZl];simp only [hXl];omega)] at h;exact h
 obtain ⟨W2,hW2⟩:∃W2,W2=W1.setCells w.heap.size (i*16) cs:=⟨_,rfl⟩;have h2:=pB h1 cs (j:=i*16) (by simp only [List.length_append,hXl,hZl,hcl];omega);rw [←hW2,List.take_left' hXl] at h2;obtain ⟨R,hR⟩:∃R,(X++Z).drop (i*16+cs.length)=R:=⟨_,rfl⟩;have hRl:R.length=(n-i)*16:=by rw [←hR,List.length_drop,List.length_append,hXl,hZl,hcl];omega
 rw [hR] at h2;have h2d:W2.drew.ownsRow 0 66 16 (.slice (some ⟨w.heap.size,0,none⟩) (n+1) G) (n+1) (X++cs++R):=h2;obtain ⟨W3,hW3⟩:∃W3,W3=W2.drew.setCells w.heap.size ((i+1)*16) D:=⟨_,rfl⟩;have h3:=pB h2d D (j:=(i+1)*16) (by simp only [List.length_append,hXl,hRl,hDl,hcl];omega);rw [←hW3,List.take_left' (by rw [List.length_append,hXl,hcl];omega),List.drop_eq_nil_of_le (by simp only [List.length_append,hXl,hRl,hDl,hcl];omega),List.append_nil] at h3;have hg3:g3<w.heap.size:=(Array.getElem?_eq_some_iff.1 hb).1;have hb1:W1.heap[g3]? = some (.cells cs.toArray tb (0,0)):=by rw [hW1];exact (Below.heap_alloc w.drew _ g3 hg3).trans hb
 have hgk:W2.drew.heap[g]? = w.heap[g]?:=by
  rw [hW2];show (W1.setCells w.heap.size (i*16) cs).heap[g]? = _;rw [bj _ _ _ _ (by omega),hW1];exact Below.heap_alloc w.drew _ g hgw
 have hcpA:∀ty dc,(Builtin.copy_ #[30,30] ty #[.slice (some ⟨w.heap.size,i*16,none⟩) (n+1-i) dc,.slice (some ⟨g3,0,none⟩) 1 1]).run prog W1 = .ok (goInt (Nat.min 1 (n+1-i))) W2:=fun ty dc=>by
  rw [hW2];exact fS W1 _ ty 66 16 w.heap.size (i*16) (n+1-i) dc ⟨g3,0,none⟩ 1 1 cs underlying30 hsz (by rw [hcl];simp only [Nat.min_def];split <;> omega)
   (fun j v hj=>by
    rw [Addr.add_lit,Nat.zero_add];simp only [World.cell?,hb1];simpa using hj)
   (fun j hj=>(cQ h1 (j:=i*16+j) (by omega)).1) (fun j hj=>(cQ h1 (j:=i*16+j) (by omega)).2) hc1
 have hcpB:∀ty dc sc,(Builtin.copy_ #[30,30] ty #[.slice (some ⟨w.heap.size,(i+1)*16,none⟩) (n-i) dc,.slice (some ⟨g,i*16,none⟩) (n-i) sc]).run prog W2.drew = .ok (goInt (Nat.min (n-i) (n-i))) W3:=fun ty dc sc=>by
  rw [hW3];exact fS W2.drew _ ty 66 16 w.heap.size ((i+1)*16) (n-i) dc ⟨g,i*16,none⟩ (n-i) sc D underlying30 hsz (by rw [hDl];congr 1;simp only [Nat.min_def];split <;> omega)
   (fun j v hj=>by
    rw [Addr.add_lit];have h9:w.cell? ⟨g,i*16+j,none⟩=some v:=lN ho (by rw [←hD,List.getElem?_drop] at hj;exact hj);simpa only [World.cell?,hgk] using h9)
   (fun j hj=>(cQ h2d (j:=(i+1)*16+j) (by omega)).1) (fun j hj=>(cQ h2d (j:=(i+1)*16+j) (by omega)).2) (fun v hv=>hone v (List.mem_of_mem_drop (hD▸hv)))
 have hEND:Hid (Frx w W3 (fun _=>False)∧w.heap.size<W3.heap.size∧W3.ownsRow 0 66 16 (.slice (some ⟨w.heap.size,0,none⟩) (n+1) G) (n+1) (X++cs++D)):=by
  refine ⟨?_,?_,h3⟩
  ·have a1:Frx w W1 fun _=>False:=by rw [hW1];exact As w _ _
   have a2:Frx w W2 fun _=>False:=by rw [hW2];exact yL a1 (Nat.le_refl _) _ _
   rw [hW3];exact yL (a2.trans (Frx.drew (Frx.refl W2 _))) (Nat.le_refl _) _ _
  ·rw [hW3,bp];show _<W2.heap.size;rw [hW2,bp,hW1];simp
 have S1:=va underlying30 hinfo (some ⟨g,0,none⟩) n cap i (by omega) hnc;obtain ⟨S0,S1⟩:=S1;have S3:=(va underlying30 hinfo (some ⟨w.heap.size,0,none⟩) (n+1) G i (by omega) hGn).2;have S4:=(va underlying30 hinfo (some ⟨w.heap.size,0,none⟩) (n+1) G (i+1) (by omega) hGn).2;have ec:∀b c k,k<c→oC (some ⟨b,0,none⟩) c k 16=some ⟨b,k*16,none⟩:=fun b c k hk=>by unfold oC;rw [if_neg (by omega),Option.map_some,eC,Nat.zero_add]
 rw [ec _ _ i (by omega)] at S1 S3;rw [ec _ _ (i+1) (by omega)] at S4;rw [show ((i+1:Nat):Int)=(i:Int)+1 by omega] at S4;have hz2:¬((i:Int)=(n:Int)):=by omega
 have hz3:(cap:Int)<(n:Int)+1:=by omega
 have w1:=yM hn;have w2:=yM (k:=i) (by omega);have w3:IntKind.i64.wrap ((n:Int)+1-(i:Int))=(n:Int)+1-(i:Int):=by rw [IntKind.wrap_i64];omega
 have mixed:prog.follows .mixedOrders=true:=by kernel_rfl
 rw [hX,hD];have HC1:=Lib.hid hcpB;clear hcpB hW1 hW2 hW3 hf h1 h2 h2d h3 ho hone hb hD hDl hxl ht hsz hinfo ec hc1 hcl hold hRl hR hZl hZ hzc hRs hROW hG hX hXl hb1 hgk hi0 hz0 hzs hzb hik
 go_enter func75,ntmps75
 go_wp2_with (at_builtin;refine Lib.wpList_append_run _ rfl _ _ 30 3 rfl _ _ rfl rfl _ _ (hrz _) ?_)
 go_region_law_o (refine pC rfl _ _ 30 30 rfl (.slice (some ⟨w.heap.size,(i+1)*16,none⟩) (n-i) (G-(i+1))) (.slice (some ⟨g,i*16,none⟩) (n-i) (cap-i)) (by simp [Act.eval,Act.put]) (by simp [Act.eval,Act.put]) (HC1.out 3 (G-(i+1)) (cap-i)) ?_)
 go_wp2_with fail
 go_ret
 exact ⟨_,rfl,hEND.out⟩
end
theorem yN (d:Nat) (l:List Pc) (i:Nat) (x:Pc) {cs0:List D} (h0:∀(w:World) (F:Nat→Prop) (ρ:Nat→Value) (vs:List Value),All2 (D.rep w F ρ) cs0 vs→(fu d).rep w F x vs) (hl:l.length≤100000) (hi:i≤l.length) {L:List Pc} (hL:l.take i++x :: l.drop i=L):FSpec prog 75 [.one (.own 1),.one (.sc (.int .i64 (i:Int))),.one (.slb 3 1)] [(1,.arr 66 (fu d) l),(3,.box 66 cs0)] [2] (.c (.own 2)) [(2,some (.arr 66 (fu d) L)),(1,none),(3,none)] :=
 sY (hb:=[(3,.box 66 cs0)]) (fun b W=>by kernel_rfl) rfl fun w F ρ vs xs ho hr hF ha hbx=>by
  match vs,ha with
  | [_,_],⟨h2,⟨g3,hg3,hv3⟩,_⟩ =>
   obtain rfl:=h2;obtain rfl:=hv3;obtain ⟨⟨g',cs,e1,hB,hA,hone⟩,hdis⟩:=hbx 3 _ rfl;rw [hg3] at e1;injection e1 with e1;injection e1 with e1;injection e1 with e1;subst e1;have hB':w.heap[g3]? = some (.cells cs.toArray 66 (0,0)):=hB;have hx:(fu d).rep w F x cs:=h0 w F _ cs hA;have hcl:cs.length=16:=(fu d).len hx;have hLl:L.length=l.length+1:=by rw [←hL];simp;omega
   have hrep:∀(w':World) (F':Nat→Prop),(∀b,F b→F' b∧w'.heap[b]? = w.heap[b]?)→Reps (fu d) w' F' L (xs.take (i*16)++cs++xs.drop (i*16)):=fun w' F' hF'=>by
    rw [←hL,List.append_assoc];have h9:Reps (fu d) w F (x :: l.drop i) (cs++xs.drop (i*16)):=(Reps.single hx).append (hr.drop i);exact ((hr.take i).append h9).same (fun b hb=>(hF' b hb).2) fun b hb=>(hF' b hb).1
   rcases Nat.eq_or_lt_of_le hi with he|hlt
   ·subst he;obtain ⟨A,cap,hv⟩:∃A cap,ρ 1 = .slice A l.length cap:=by
     rcases ho.2 with ⟨hv,hz⟩|⟨g,cap,cur,hv,_⟩
     ·exact ⟨none,0,by rw [hz];exact hv⟩
     ·exact ⟨_,cap,hv⟩
    rw [hv] at ho hF ⊢;have ek:kb (.slice A l.length cap)=H0 A:=by cases A <;> rfl
    rw [ek] at hF;have hxl:xs.length=l.length*16:=lO ho;refine Calls.mono (xG w ho hcl (fun j u hj=>by simp only [World.cell?,hB'];simpa using hj) hone hl) ?_;rintro e w' ⟨v',rfl,hf,hk,ho'⟩;rw [ek];refine ⟨v',_,rfl,hf,hk,by rw [hLl];exact ho',fun F' hF'=>?_⟩;have h9:=hrep w' F' hF'
    rwa [List.take_of_length_le (by omega),List.drop_eq_nil_of_le (by omega),List.append_nil] at h9
   ·obtain ⟨g,cap,hv⟩:∃g cap,ρ 1 = .slice (some ⟨g,0,none⟩) l.length cap:=by
     rcases ho.2 with ⟨_,hz⟩|⟨g,cap,cur,hv,_⟩
     ·omega
     ·exact ⟨g,cap,hv⟩
    rw [hv] at ho hF hdis ⊢;have hne:g3≠g:=fun e=>hdis g3 (by rw [hg3];rfl) (by rw [e];rfl);have hgl:=(jk ho).choose_spec.2.2.2.2;rcases Nat.lt_or_ge cap (l.length+1) with hc|hc
    ·refine Calls.mono (wb w ho hr.one hcl hB' hone hl hlt hc) ?_;rintro e w' ⟨G,rfl,hf,hk,ho'⟩;refine ⟨_,_,rfl,⟨hf.os,hf.tape,hf.output,hf.size,fun b hb _=>hf.keep b hb id⟩,fun g' hg'=>?_,by rw [hLl];exact ho',fun F' hF'=>hrep w' F' hF'⟩;injection hg' with hg';subst hg';exact ⟨hk,.inl (Nat.le_refl _)⟩
    ·refine Calls.mono (uj w ho hr.one hcl hB' hone hne hl hlt hc) ?_;rintro e w' ⟨rfl,hf,ho'⟩;refine ⟨_,_,rfl,⟨hf.os,hf.tape,hf.output,hf.size,fun b hb hn=>hf.keep b hb fun e=>hn (by rw [e];rfl)⟩,fun g' hg'=>?_,by rw [hLl];exact ho',fun F' hF'=>hrep w' F' hF'⟩;injection hg' with hg';subst hg';exact ⟨Nat.lt_of_lt_of_le hgl hf.size,.inr rfl⟩
end
theorem zo {t t':List Qu} (h:dN t'=dN t) (ht:t≠[]):t'≠[]:=fun e=>by
 subst e;cases t with
 | nil=>exact ht rfl
 | cons q l=>cases h
theorem Jn {w:Wk} {i:Nat} (h:CI w.c) (hi:i<w.c.procs.length) (hw:(w.pc i).waiting=true) (hev:w.ev.length≤700000):cJ (w.pc i).req.expr=[]∨Jl (w.pc i) (cJ (w.pc i).req.expr) w:=by
 have hd:=xP h hi hw;have h8:=dQ (w.pc i).req.expr;obtain ⟨_,_,hk,_,_⟩:=db h hi hw;have hn:dN (cO (w.pc i) (cJ (w.pc i).req.expr) w).c.queues=dN w.c.queues:=hk.nm;cases hL:cJ (w.pc i).req.expr with
 | nil=>exact .inl rfl
 | cons a l =>
  right
  rw [hL] at hd hn h8;exact ⟨hd.ok (by omega),zo hn (qi hd.2.1),by omega⟩
theorem Dh (d:Nat) (w:Wk) (i:Nat) {x:Pc} (hx:w.c.procs[i]? = some x) (h:CI w.c) (hev:w.ev.length≤500000) {Z:Wk×Int} (hZ:(bif !x.waiting then (w,14) else (bf (aY (az w i) i),0))=Z):FSpec prog 47 [iS,pp i] (HP d w) [4] (.i Z.2) (HQ d Z.1):=by
 refine aT func47 ?_;have hi:=(List.getElem?_eq_some_iff.1 hx).1;have hpc:=fI hx;cases hw:x.waiting with
 | false =>
  rw [hw] at hZ;obtain rfl:(w,14)=Z:=hZ;repeat' (first|refine af ?_ ?_|(refine aa 21 rfl ?_;refine sx (aq rfl rfl) ?_)|refine ae ?_|exact ah|refine ab fun hb=>?_|(refine ct (qf [(4,2)]) ?_;exact aw))
 | true =>
  rw [hw] at hZ;have hw':(w.pc i).waiting=true:=by rw [hpc];exact hw
  obtain ⟨c1,_,hk,hps,_⟩:=db h hi hw';have hdr:=Jn h hi hw' (by omega);have hev1:=iA w i;have hlen:=hk.len;rw [hpc] at hdr hps;obtain ⟨V,hV⟩:∃V,az w i=V:=⟨_,rfl⟩;have kW:=mV d w i hx hdr hV;rw [hV] at c1 hps hev1 hZ hlen;obtain ⟨y,hy⟩:∃y,V.c.procs[i]? = some y:=⟨_,List.getElem?_eq_getElem (by omega)⟩;have hyw:y.waiting=false:=by
   have:=hy;rw [hps,List.getElem?_set_self hi] at this;obtain rfl:=Option.some.inj this;rfl
  have hpy:=fI hy;have hN:aY V i=V.setP i { y with gen:=aJ y.gen }:=by unfold aY;rw [hpy]
  obtain ⟨c2,_⟩:=gw c1 (by omega:i<V.c.procs.length) (by rw [hpy];exact hyw);rw [hN] at hZ c2;obtain ⟨F,hF⟩:∃F,bf (V.setP i { y with gen:=aJ y.gen })=F:=⟨_,rfl⟩;have kS:=jP d (V.setP i { y with gen:=aJ y.gen }) _ (AP c2 (by show V.ev.length≤_;omega));rw [show aW (V.setP i { y with gen:=aJ y.gen }).c.procs.length (V.setP i { y with gen:=aJ y.gen })=F from hF] at kS;obtain rfl:(F,(0:Int))=Z:=by rw [←hZ];exact congrArg (fun z=>(z,(0:Int))) hF.symm
  clear hZ hN hF hps hV hdr c1 c2;repeat' (first|refine af ?_ ?_|(refine aa 9 rfl ?_;first|(refine cH (qf [(0,0),(1,1),(2,2),(4,1004)]) (kW) ?_)|(refine cB [] (g6 y.gen) ?_)|(refine cH (qf [(0,0),(50,1),(2,1004),(4,1006)]) (kS) ?_))|(refine aa 21 rfl ?_;refine sx (aq rfl rfl) ?_)|refine ae ?_|(refine aa 4 rfl ?_;refine bc (aA (z:={ y with gen:=aJ y.gen }) rfl rfl rfl rfl hy rfl rfl rfl rfl (Nat.le_of_ble_eq_true rfl) rfl rfl) rfl rfl rfl ?_)|exact ah|refine ab fun hb=>?_|(refine ct (qf [(4,1006)]) ?_;exact aw))
theorem GQ (d:Nat) (w:Wk) (i:Nat) (n:Int) {x:Pc} (hx:w.c.procs[i]? = some x) {Z:Wk×Int} (hZ:(bif x.waiting then (w,14) else bif !decide ((d8 x.led n).2=0) then (w,(d8 x.led n).2) else (aY (w.setP i { x with led:=(d8 x.led n).1 }) i,0))=Z):FSpec prog 49 [iS,pp i,uu n] (HP d w) [4] (.i Z.2) (HQ d Z.1):=by
 refine aT func49 ?_;have hi:=(List.getElem?_eq_some_iff.1 hx).1;cases hw:x.waiting with
 | true =>
  rw [hw] at hZ;obtain rfl:(w,14)=Z:=hZ;repeat' (first|refine af ?_ ?_|(refine aa 21 rfl ?_;refine sx (aq rfl rfl) ?_)|refine ae ?_|exact ah|refine ab fun hb=>?_|(refine ct (qf [(4,2)]) ?_;exact aw))
 | false =>
  rw [hw,cond_false] at hZ;obtain ⟨R,hR⟩:∃R,d8 x.led n=R:=⟨_,rfl⟩;rw [hR] at hZ;have kS:=GM x.led n hR;obtain ⟨g,e⟩:=R;by_cases he:e=0
  ·subst he;have hZ:(aY (w.setP i { x with led:=g }) i,(0:Int))=Z:=by rw [←hZ,decide_eq_true rfl,hw];rfl
   have hyi:=gl hi { x with led:=g };have hN:aY (w.setP i { x with led:=g }) i=(w.setP i { x with led:=g }).setP i { x with led:=g,gen:=aJ x.gen }:=by
    unfold aY;rw [eM hi]
   rw [hN] at hZ;subst hZ;clear hR hN;repeat' (first|refine af ?_ ?_|(refine aa 9 rfl ?_;first|(refine cC [] (kS) ?_)|(refine cB [] (g6 x.gen) ?_))|(refine aa 21 rfl ?_;refine sx (aq rfl rfl) ?_)|refine ae ?_|(refine aa 4 rfl ?_;first|(refine bc (aA (z:={ x with led:=g }) rfl rfl rfl rfl hx rfl rfl rfl rfl (Nat.le_of_ble_eq_true rfl) rfl rfl) rfl rfl rfl ?_)|(refine bc (aA (z:={ x with led:=g,gen:=aJ x.gen }) rfl rfl rfl rfl hyi rfl rfl rfl rfl (Nat.le_of_ble_eq_true rfl) rfl rfl) rfl rfl rfl ?_))|exact ah|(refine ab fun hb=>?_;first|(exact absurd rfl hb)|skip)|(refine ct (qf [(4,2)]) ?_;exact aw))
  ·rw [decide_eq_false he] at hZ;obtain rfl:(w,e)=Z:=hZ;repeat' (first|refine af ?_ ?_|refine aa 9 rfl (cC [] (kS) ?_)|(refine aa 21 rfl ?_;refine sx (aq rfl rfl) ?_)|refine ae ?_|exact ah|(refine ab fun hb=>?_;first|(exact absurd hb he)|skip)|(refine ct (qf [(4,2)]) ?_;exact aw))
theorem AQ {g:Lg} (h:Ld g) {n:ByteArray} (hn:ay g.entries n=⟨0,0⟩):g.entries.filter (oth n)=g.entries:=by
 have h1:=(vT h.ents n).1;rw [hn,show BX ⟨0,0⟩=0 from by decide] at h1;have h2:(g.entries.filter fun e=>aZ e.name n)=[]:=List.length_eq_zero_iff.1 (by omega);rw [List.filter_eq_nil_iff] at h2;exact List.filter_eq_self.2 fun e he=>by
  have:=h2 e he;simpa [oth] using this
theorem x7 {g:Lg} (h:Ld g) {n:ByteArray}:(gU g n).2 = !decide (ay g.entries n=⟨0,0⟩):=by
 have hV:=fc.2 h;unfold gU;rw [hV,Bool.not_true,cond_false];by_cases hn:ay g.entries n=⟨0,0⟩
 ·rw [decide_eq_true hn];have hf:g.entries.filter (oth n)=g.entries:=AQ h hn;rw [show (fh g n).entries=g.entries from hf,decide_eq_true rfl];rfl
 ·rw [decide_eq_false hn];have hne:(fh g n).entries.length≠g.entries.length:=by
   intro e;have h1:g.entries.filter (oth n)=g.entries:=List.Sublist.eq_of_length List.filter_sublist e;have h2:=fN n n g.entries;rw [h1,if_pos rfl] at h2;exact hn h2
  rw [decide_eq_false hne];rfl
theorem AS (d:Nat) (w:Wk) (i:Nat) (n:ByteArray) {x:Pc} (hx:w.c.procs[i]? = some x) (h:CI w.c) (hev:w.ev.length≤500000) {Z:Wk×Int} (hZ:dJ w i n=Z):FSpec prog 48 [iS,pp i,.one (.sc (.string n))] (HP d w) [4] (.i Z.2) (HQ d Z.1):=by
 refine aT func48 ?_;have hi:=(List.getElem?_eq_some_iff.1 hx).1;have hpc:=fI hx;rw [xU] at hZ;cases hw:x.waiting with
 | true =>
  rw [hpc,hw] at hZ;obtain rfl:(w,14)=Z:=hZ;repeat' (first|refine af ?_ ?_|(refine aa 21 rfl ?_;refine sx (aq rfl rfl) ?_)|refine ae ?_|exact ah|refine ab fun hb=>?_|(refine ct (qf [(4,2)]) ?_;exact aw))
 | false =>
  have hw':(w.pc i).waiting=false:=by rw [hpc];exact hw
  have hinv:=h.inv _ (List.getElem_mem hi);rw [←bG hi,hpc] at hinv;obtain ⟨_,_,hrun⟩:=hinv.run hw;have hD2:=x7 hinv.stat.led (n:=n);obtain ⟨R,hR⟩:∃R,gU x.led n=R:=⟨_,rfl⟩;have kD:=GN x.led n hR;rw [hR] at hD2;by_cases h0:ay x.led.entries n=⟨0,0⟩
  ·rw [hpc,hw,h0,decide_eq_true rfl] at hZ;obtain rfl:(w,10)=Z:=hZ;rw [h0,decide_eq_true rfl] at hD2;obtain ⟨g,e⟩:=R;obtain rfl:e=false:=hD2;repeat' (first|refine af ?_ ?_|refine aa 9 rfl (cC [] (kD) ?_)|(refine aa 21 rfl ?_;refine sx (aq rfl rfl) ?_)|refine ae ?_|exact ah|refine ab fun hb=>?_|(refine ct (qf [(4,2)]) ?_;exact aw))
  ·have hn:=(hinv.stat.hf n h0).1;have hg:=(hrun n hn).h;obtain ⟨c2,_,_,hnm⟩:=nK h hi hw' (by rw [hpc];exact h0);unfold ry at hZ c2 hnm;rw [hpc] at hZ c2 hnm;rw [hw,decide_eq_false h0,cond_false,cond_false] at hZ;rw [decide_eq_false h0] at hD2;obtain ⟨g,e⟩:=R;obtain rfl:e=true:=hD2;rw [hR] at hZ c2 hnm;have hdb:bX w x.proc n ⟨0,0⟩=eJ w x.proc ⟨n,⟨0,0⟩⟩:=by
    unfold bX;rw [hg,decide_eq_false h0];rfl
   have hne:(bX w x.proc n ⟨0,0⟩).c.queues≠[]:=by rw [hdb];exact zo hnm (qi hn)
   have hev1:=ma w x.proc n ⟨0,0⟩;obtain ⟨V,hV⟩:∃V,bX w x.proc n ⟨0,0⟩=V:=⟨_,rfl⟩;have kL:=EY d w x.proc n ⟨0,0⟩ hn hne (by omega) hV;have hVp:V.c.procs=w.c.procs:=by rw [←hV];exact jr w x.proc n ⟨0,0⟩
   rw [←hdb,hV] at hZ c2;rw [hV] at hev1;have hy:V.c.procs[i]? = some x:=by rw [hVp];exact hx
   have hiV:i<V.c.procs.length:=by rw [hVp];exact hi
   have hN:aY (V.setP i { x with led:=g }) i=(V.setP i { x with led:=g }).setP i { x with led:=g,gen:=aJ x.gen }:=by
    unfold aY;rw [eM hiV]
   dsimp only at hZ c2;have hyi:=gl hiV { x with led:=g };rw [hN] at hZ c2;obtain ⟨Y,hY⟩:∃Y,aW ((V.setP i { x with led:=g }).setP i { x with led:=g,gen:=aJ x.gen }).c.procs.length ((V.setP i { x with led:=g }).setP i { x with led:=g,gen:=aJ x.gen })=Y:=⟨_,rfl⟩;have kS:=jP d ((V.setP i { x with led:=g }).setP i { x with led:=g,gen:=aJ x.gen }) _ (AP c2 (by show V.ev.length≤_;omega));rw [hY] at kS;obtain rfl:(Y,(0:Int))=Z:=by rw [←hZ];exact congrArg (fun z=>(z,(0:Int))) hY.symm
   clear hZ hN hY hV hdb hne hnm c2 hrun hinv hR;repeat' (first|refine af ?_ ?_|(refine aa 9 rfl ?_;first|(refine cC [] (kD) ?_)|(refine cH (qf [(0,0),(1,1),(2,2),(4,1004)]) (kL) ?_)|(refine cB [] (g6 x.gen) ?_)|(refine cH (qf [(0,0),(50,1),(2,1004),(4,1006)]) (kS) ?_))|(refine aa 21 rfl ?_;refine sx (aq rfl rfl) ?_)|refine ae ?_|(refine aa 4 rfl ?_;first|(refine bc (aA (z:={ x with led:=g }) rfl rfl rfl rfl hy rfl rfl rfl rfl (Nat.le_of_ble_eq_true rfl) rfl rfl) rfl rfl rfl ?_)|(refine bc (aA (z:={ x with led:=g,gen:=aJ x.gen }) rfl rfl rfl rfl hyi rfl rfl rfl rfl (Nat.le_of_ble_eq_true rfl) rfl rfl) rfl rfl rfl ?_))|exact ah|refine ab fun hb=>?_|(refine ct (qf [(4,1006)]) ?_;exact aw))
theorem x8 (p:Pr) (n:ByteArray) (l:Am) (w:Wk) (i:Nat) (z:Pc):bX (w.setP i z) p n l=(bX w p n l).setP i z:=by
 unfold bX eJ;show (bif decide (ao (a6 w.c.queues n).holds p=l) then w.setP i z else _)=_;cases decide (ao (a6 w.c.queues n).holds p=l) <;> rfl
theorem mW (p:Pr) (i:Nat) (z:Pc):∀(l:List Tm) (w:Wk),bH p l (w.setP i z)=(bH p l w).setP i z∧(AE p l w→AE p l (w.setP i z))
 | [],w=>⟨rfl,fun _=>trivial⟩
 | a :: l,w=>by
  have ih:=mW p i z l (bX w p a.name a.am);have e:=x8 p a.name a.am w i z;refine ⟨?_,fun h=>⟨h.1,h.2.1,?_⟩⟩
  ·show bH p l (bX (w.setP i z) p a.name a.am)=_;rw [e];exact ih.1
  ·rw [e];exact ih.2 h.2.2
theorem x9 (d:Nat) (w:Wk) (i:Nat) (n:Int) {x:Pc} (hx:w.c.procs[i]? = some x) (h:CI w.c) (hev:w.ev.length≤400000) {Z:Wk×Int} (hZ:cy w i n=Z):FSpec prog 50 [iS,pp i,uu n] (HP d w) [4] (.i Z.2) (HQ d Z.1):=by
 refine aT func50 ?_;have hi:=(List.getElem?_eq_some_iff.1 hx).1;have hpc:=fI hx;rw [wC] at hZ;obtain ⟨U,hU⟩:∃U,dq x.led n=U:=⟨_,rfl⟩;have kU:=Ig x.led n hU;by_cases h0:U.2.2=0
 case neg =>
  rw [hpc,hU,decide_eq_false h0] at hZ;obtain rfl:(w,U.2.2)=Z:=hZ;obtain ⟨g,L,e⟩:=U;repeat' (first|refine af ?_ ?_|refine aa 9 rfl (cC [] (kU) ?_)|(refine aa 21 rfl ?_;refine sx (aq rfl rfl) ?_)|refine ae ?_|exact ah|(refine ab fun hb=>?_;first|(exact absurd hb h0)|skip)|(refine ct (qf [(4,2)]) ?_;exact aw))
 obtain ⟨hlw,c2,hkp,_⟩:=lW (n:=n) h hi (by rw [hpc,hU];exact h0);have hrest:=y5 h hi;have hUl:=AF x.led n;obtain ⟨y,hy,hyp⟩:=EV hx;have hyc:=fI hy;have hev1:(kz w i).ev.length≤w.ev.length+280:=by
  unfold kz;cases (w.pc i).waiting with
  | false=>rw [cond_false];omega
  | true=>exact iA w i
 have hnmA:dN (kz w i).c.queues=dN w.c.queues:=hrest.kp.nm;have hWev:(nZ w i n).ev.length≤(kz w i).ev.length+18*U.2.1.length:=by
  have:=qa (w.pc i).proc (dq (w.pc i).led n).2.1 (xQ w i n);rw [hpc,hU] at this;show (bH (w.pc i).proc (dq (w.pc i).led n).2.1 (xQ w i n)).ev.length≤_;rw [hpc,hU];exact this
 have hnmS:=hkp.nm;have hlw:=hlw.ok (by rw [hpc,hU];show (kz w i).ev.length+_≤_;rw [hU] at hUl;omega);rw [hpc,hU] at hlw;rw [hU] at hUl;obtain ⟨A,hA⟩:∃A,kz w i=A:=⟨_,rfl⟩;have hBB:xQ w i n=A.setP i { y with led:=U.1 }:=by
  unfold xQ;rw [hA,hpc,hU,←hA,hyc]
 rw [hBB] at hlw;have hiA:i<A.c.procs.length:=by rw [←hA,CS];exact hi
 have hSS:nZ w i n=bH x.proc U.2.1 ((A.setP i { y with led:=U.1 }).setP i { y with led:=U.1,gen:=aJ y.gen }):=by
  unfold nZ;rw [hBB,hpc,hU,(mW x.proc i { y with led:=U.1,gen:=aJ y.gen } U.2.1 (A.setP i { y with led:=U.1 })).1];unfold aY;have:(bH x.proc U.2.1 (A.setP i { y with led:=U.1 })).pc i = { y with led:=U.1 }:=by
   unfold Wk.pc;rw [gD];exact eM hiA _
  rw [this]
 have hlw2:=(mW x.proc i { y with led:=U.1,gen:=aJ y.gen } U.2.1 (A.setP i { y with led:=U.1 })).2 hlw;rw [hpc,hU,decide_eq_true h0] at hZ;rw [hSS] at c2 hZ hnmS hWev;rw [hA] at hy hev1 hWev hnmA;have hyi:=gl hiA { y with led:=U.1 };obtain ⟨B,hB⟩:∃B,(A.setP i { y with led:=U.1 }).setP i { y with led:=U.1,gen:=aJ y.gen } = B:=⟨_,rfl⟩;have hBq:B.c.queues=A.c.queues:=by rw [←hB];rfl
 obtain ⟨W,hW⟩:∃W,bH x.proc U.2.1 B=W:=⟨_,rfl⟩;rw [hB] at hlw2;rw [hB,hW] at c2 hZ hnmS hWev;obtain ⟨L,hL⟩:∃L,U.2.1=L:=⟨_,rfl⟩;rw [hL] at hlw2 hW hWev hUl;have hWne:L=[]∨W.c.queues≠[]:=by
  cases L with
  | nil=>exact .inl rfl
  | cons a l =>
   have h1:=hlw2.1;rw [hBq] at h1;exact .inr (zo (hnmS.trans hnmA.symm) (qi h1))
 obtain ⟨F,hF⟩:∃F,aW W.c.procs.length W=F:=⟨_,rfl⟩;have kS:=jP d W _ (AP c2 (by omega));rw [hF] at kS hZ;obtain rfl:(F,(0:Int))=Z:=hZ;have hWp:i<W.c.procs.length:=by rw [←hW,gD,←hB];show i<(List.set _ _ _).length;rw [List.length_set];exact (by rw [show (A.setP i { y with led:=U.1 }).c.procs=A.c.procs.set i { y with led:=U.1 } from rfl,List.length_set];exact hiA)
 have hBp:∃v,B.c.procs[i]? = some v∧v.proc=x.proc:=⟨{ y with led:=U.1,gen:=aJ y.gen },by rw [←hB];exact gl (by show i<(A.c.procs.set i _).length;rw [List.length_set];exact hiA) _,hyp⟩;have hdr:=fun hw=>Jn h hi hw (by omega);rw [hpc] at hdr;obtain ⟨g,L2,e⟩:=U;obtain rfl:L2=L:=hL;obtain rfl:e=0:=h0;dsimp only at hB hyi;have kW:=fun hw=>mV d w i hx (hdr hw) rfl;have hA2:A=bif x.waiting then az w i else w:=by rw [←hA];unfold kz;rw [hpc]
 clear hlw hSS hBB hA hF hdr hrest hkp c2 hnmS hnmA hU;subst hB;cases hw:x.waiting
 case' false =>
  rw [hw,cond_false] at hA2;subst hA2;clear kW;obtain rfl:x=y:=Option.some.inj (hx.symm.trans hy);repeat' (first|refine af ?_ ?_|(refine aa 9 rfl ?_;first|(refine cC [] (kU) ?_)|(refine cB [] (g6 x.gen) ?_))|(refine aa 21 rfl ?_;refine sx (aq rfl rfl) ?_)|refine ae ?_|(refine aa 4 rfl ?_;first|(refine bc (aA (z:={ x with led:=g }) rfl rfl rfl rfl hy rfl rfl rfl rfl (Nat.le_of_ble_eq_true rfl) rfl rfl) rfl rfl rfl ?_)|(refine bc (aA (z:={ x with led:=g,gen:=aJ x.gen }) rfl rfl rfl rfl hyi rfl rfl rfl rfl (Nat.le_of_ble_eq_true rfl) rfl rfl) rfl rfl rfl ?_))|exact ah|(refine ab fun hb=>?_;first|(exact absurd rfl hb)|skip))
 case' true =>
  rw [hw,cond_true] at hA2;have kW:=kW (by rw [hw]);rw [←hA2] at kW;repeat' (first|refine af ?_ ?_|(refine aa 9 rfl ?_;first|(refine cC [] (kU) ?_)|(refine cH (qf [(0,0),(1,1),(2,2),(4,1004)]) (kW) ?_)|(refine cB [] (g6 y.gen) ?_))|(refine aa 21 rfl ?_;refine sx (aq rfl rfl) ?_)|refine ae ?_|(refine aa 4 rfl ?_;first|(refine bc (aA (z:={ y with led:=g }) rfl rfl rfl rfl hy rfl rfl rfl rfl (Nat.le_of_ble_eq_true rfl) rfl rfl) rfl rfl rfl ?_)|(refine bc (aA (z:={ y with led:=g,gen:=aJ y.gen }) rfl rfl rfl rfl hyi rfl rfl rfl rfl (Nat.le_of_ble_eq_true rfl) rfl rfl) rfl rfl rfl ?_))|exact ah|(refine ab fun hb=>?_;first|(exact absurd rfl hb)|skip))
 case' false=>refine ak (fun y:Nat×Wk=>y.1≤L2.length∧bH x.proc (L2.drop y.1) y.2=W∧AE x.proc (L2.drop y.1) y.2∧∃v,y.2.c.procs[i]? = some v∧v.proc=x.proc) (fun y=>cq [0,1,2,1011] [(0,.v iS),(1,.v (pp i)),(44,.c (.sl c7 L2)),(45,.i L2.length),(46,.i y.1)] [(0,.box 91 (ze y.2 1011)),(1,.arr 66 (fu d) y.2.c.procs),(1011,.arr 79 iQ y.2.ev)]) (fun y=>L2.length-y.1) (0,(A.setP i { x with led:=g }).setP i { x with led:=g,gen:=aJ x.gen }) ⟨Nat.zero_le _,hW,hlw2,hBp⟩ (by exact bw (qf [(1011,2)])) ?_
 case' true=>refine ak (fun y:Nat×Wk=>y.1≤L2.length∧bH x.proc (L2.drop y.1) y.2=W∧AE x.proc (L2.drop y.1) y.2∧∃v,y.2.c.procs[i]? = some v∧v.proc=x.proc) (fun y=>cq [0,1,2,1011] [(0,.v iS),(1,.v (pp i)),(44,.c (.sl c7 L2)),(45,.i L2.length),(46,.i y.1)] [(0,.box 91 (ze y.2 1011)),(1,.arr 66 (fu d) y.2.c.procs),(1011,.arr 79 iQ y.2.ev)]) (fun y=>L2.length-y.1) (0,(A.setP i { y with led:=g }).setP i { y with led:=g,gen:=aJ y.gen }) ⟨Nat.zero_le _,hW,hlw2,hBp⟩ (by exact bw (qf [(1011,1004)])) ?_
 all_goals
  clear hy hyi hyc;rintro ⟨k,u⟩ ⟨hk,hu,hul,v,hv1,hv2⟩;dsimp only at *
  by_cases hlt:k<L2.length
  ·rw [List.drop_eq_getElem_cons hlt] at hu hul;obtain ⟨u1,u2,u3⟩:=hul;obtain ⟨a,ha⟩:∃a,L2[k]=a:=⟨_,rfl⟩;have hga:L2[k]? = some a:=by rw [List.getElem?_eq_getElem hlt,ha]
   rw [ha] at hu u1 u3;have hu:bH x.proc (L2.drop (k+1)) (bX u x.proc a.name a.am)=W:=hu;have hne:(bX u x.proc a.name a.am).c.queues≠[]:=fun e=>by
    have h9:=qb (p:=x.proc) (l:=L2.drop (k+1)) e;rw [hu] at h9;rcases hWne with e2|e2
    ·rw [e2] at hlt;exact absurd hlt (by simp)
    ·exact e2 h9
   have hzp:=jr u x.proc a.name a.am;obtain ⟨z,hz⟩:∃z,bX u x.proc a.name a.am=z:=⟨_,rfl⟩;have kL:=EY d u x.proc a.name a.am u1 hne u2 hz;rw [hz] at hu u3 hzp;rw [←hv2] at kL;clear hne hz;repeat' (first|refine af ?_ ?_|refine aa 9 rfl (cH (qf [(0,0),(1,1),(2,1011),(4,1020)]) (kL) ?_)|(refine aa 21 rfl ?_;refine sx (aq rfl rfl) ?_)|refine ae ?_|exact ah|refine ab fun hb=>?_)
   refine ⟨(k+1,z),⟨by dsimp only;omega,hu,u3,v,by dsimp only;rw [hzp];exact hv1,hv2⟩,by dsimp only;omega,?_⟩;dsimp only;exact bw (qf [(1011,1020)])
  ·rw [List.drop_eq_nil_of_le (by omega)] at hu;obtain rfl:u=W:=hu;repeat' (first|refine af ?_ ?_|refine aa 9 rfl (cH (qf [(0,0),(50,1),(2,1011),(4,1020)]) (kS) ?_)|refine ae ?_|exact ah|refine ab fun hb=>?_|(refine ct (qf [(4,1020)]) ?_;exact aw))
def JV (w:Wk) (a b:Nat):List D:=[.sc (.int .i64 w.c.now),.sl eX w.c.queues,.own a,.own b]
def HR (d:Nat) (w:Wk):List (Nat×Option Box):=[(0,some (.box 91 (JV w 3 4))),(3,some (.arr 66 (fu d) w.c.procs)),(4,some (.arr 79 iQ w.ev)),(1,none),(2,none)]
theorem GR (d:Nat) (w:Wk) (i:Nat) {x:Pc} (hx:w.c.procs[i]? = some x) (h:CI w.c) (hev:w.ev.length≤500000) {Z:Wk} (hZ:fG w i=Z):FSpec prog 51 [iS,uu i] (HP d w) [3,4] (.i 0) (HR d Z):=by
 refine aT func51 ?_;have hi:=(List.getElem?_eq_some_iff.1 hx).1;have hpc:=fI hx;have hp8:=h.len;have c2:=wv h hi;rw [show fG w i=aW (Ia w i).c.procs.length (Ia w i) from rfl] at hZ;unfold Ia at hZ c2;rw [hpc] at hZ c2;have hrl:=wD w.c.queues x.proc;obtain ⟨R,hR⟩:∃R,b9 w.c.queues x.proc=R:=⟨_,rfl⟩;have kR:=CK w.c.queues x.proc hR;rw [hR] at hZ c2 hrl;obtain ⟨R1,R2⟩:=R;dsimp only at hZ c2 hrl;have kT:=zf d w R1 R2 (by omega);have kD:=Et d w.c.procs i (by omega) hi rfl;obtain ⟨P,hP⟩:∃P,w.c.procs.eraseIdx i=P:=⟨_,rfl⟩;rw [hP] at kD hZ c2;have kN:=GF d ⟨{ w.c with queues:=R1,procs:=P },w.ev++R2⟩ 5 x.proc (by simp;omega);obtain ⟨S,hS⟩:∃S,Wk.note ⟨{ w.c with queues:=R1,procs:=P },w.ev++R2⟩ 5 x.proc=S:=⟨_,rfl⟩;have hSe:S.ev.length=w.ev.length+R2.length+1:=by rw [←hS,mb];simp
 have hSp:S.c.procs=P:=by rw [←hS];rfl
 rw [hS] at kN hZ c2;have kS:=jP d S _ (AP c2 (by omega));rw [hZ] at kS;clear hS hR hZ c2 hP hpc;repeat' (first|refine af ?_ ?_|(refine aa 9 rfl ?_;first|(refine cC [] (kR) ?_)|(refine cH (qf [(0,0),(1,1),(2,2),(4,1004)]) (kT) ?_)|(refine cH (qf [(1,1),(2,1001)]) (kD) ?_)|(refine cH (qf [(0,0),(1,1001),(2,1004),(4,1005)]) (kN) ?_)|(refine cH (qf [(0,0),(50,1001),(2,1005),(4,1006)]) (kS) ?_))|(refine aa 21 rfl ?_;first|refine sx (aq rfl rfl) ?_|refine sx (aE rfl rfl) ?_)|refine ae ?_|exact ah|refine ab fun hb=>?_|(refine ct (qf [(3,1001),(4,1006)]) ?_;exact aw))
end Go.Proofs.YtcgpepnbohejfaaGreatDoor
