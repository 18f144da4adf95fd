/- Part 8 of 33 of the proof of centralDoes_holds (no condition). -/
import Derived.Test.YtjndcdcbjidocaaGreatDoorL07
set_option linter.unusedVariables false
set_option linter.unusedSimpArgs false
set_option maxRecDepth 100000
set_option maxHeartbeats 64000000
namespace Go.Proofs.YtjndcdcbjidocaaGreatDoor
open Go.RowKit Go.Proofs.Tryz
structure Lg where
 entries:List En
 saves:List Sv
deriving DecidableEq
def oD (g:Lg):Bool:=j5 g.entries g.saves
def Lg.zero:Lg:=⟨[],[]⟩
structure Svs (s:List Sv) (n:Int):Prop where
 lab:∀x∈s,(1≤x.label∧x.label≤99)∧0≤x.at_∧x.at_≤n
 ord:s.Pairwise fun a b=>a.at_≤b.at_
 nd:(s.map (·.label)).Nodup
theorem pB {n:Int}:∀{l:List Sv} {k:Nat},(∀x∈l,x.label≠n)→aT n k l = -1
 | [],_,_=>rfl
 | x :: l,k,h=>by
  show (bif decide (x.label=n) then (k:Int) else aT n (k+1) l) = -1;rw [decide_eq_false (h x (by simp)),cond_false];exact pB fun y hy=>h y (by simp [hy])
theorem iE {n:Int}:∀{l:List Sv} {k:Nat},0≤aT n k l→∃i,∃h:i<l.length,aT n k l=((k+i:Nat):Int)∧l[i].label=n
 | [],k,h=>by simp [aT] at h
 | x :: l,k,h=>by
  have e:aT n k (x :: l)=bif decide (x.label=n) then (k:Int) else aT n (k+1) l:=rfl;rw [e] at h ⊢;by_cases hx:x.label=n
  ·exact ⟨0,by simp,by rw [decide_eq_true hx];simp,hx⟩
  ·rw [decide_eq_false hx,cond_false] at h ⊢;obtain ⟨i,hi,h1,h2⟩:=iE h;exact ⟨i+1,by simpa using hi,by rw [h1];omega,by simpa using h2⟩
theorem yG {n:Int} {l:List Sv} {k:Nat}:aT n k l<0↔∀x∈l,x.label≠n:=by
 constructor
 ·intro h x hx e;have gen:∀(l:List Sv) (k:Nat),x∈l→0≤aT n k l:=by
   intro l;induction l with
   | nil=>intro _ h;cases h
   | cons y l ih =>
    intro k h;show 0≤(bif decide (y.label=n) then (k:Int) else aT n (k+1) l);rcases List.mem_cons.1 h with rfl|h
    ·rw [decide_eq_true e,cond_true];omega
    ·cases decide (y.label=n) with
     | true=>rw [cond_true];omega
     | false=>exact ih (k+1) h
  have:=gen l k hx;omega
 ·intro h;rw [pB h];omega
theorem rc {n:Int}:∀(pre:List Sv) (k:Nat) (x:Sv) (l:List Sv),x.label=n→(aT n k (pre++x :: l)=((k+pre.length:Nat):Int)↔∀y∈pre,y.label≠n)
 | [],k,x,l,h=>by
  have:aT n k (x :: l)=bif decide (x.label=n) then (k:Int) else aT n (k+1) l:=rfl;simp [this,h]
 | y :: pre,k,x,l,h=>by
  have e:aT n k ((y :: pre)++x :: l)=bif decide (y.label=n) then (k:Int) else aT n (k+1) (pre++x :: l):=rfl;rw [e,List.length_cons];by_cases hy:y.label=n
  ·rw [decide_eq_true hy,cond_true];constructor
   ·intro h;omega
   ·intro h2;exact absurd hy (h2 y (by simp))
  ·rw [decide_eq_false hy,cond_false];have ih:=rc pre (k+1) x l h;have e1:((k+(pre.length+1):Nat):Int)=((k+1+pre.length:Nat):Int):=by omega
   rw [e1,ih];constructor
   ·intro h2 z hz;rcases List.mem_cons.1 hz with rfl|hz
    ·exact hy
    ·exact h2 z hz
   ·intro h2 z hz;exact h2 z (by simp [hz])
theorem rd (n:Int):∀(l pre:List Sv) (a:Int),0≤a→(pre.map (·.label)).Nodup→(mq (pre++l) n pre.length a l=true↔(∀x∈l,(1≤x.label∧x.label≤99)∧0≤x.at_∧x.at_≤n)∧(l.Pairwise fun x y=>x.at_≤y.at_)∧(∀x∈l,a≤x.at_)∧((pre++l).map (·.label)).Nodup)
 | [],pre,a,_,hp=>by
  simpa [mq] using hp
 | x :: l,pre,a,ha,hp=>by
  show (decide (1≤x.label) && decide (x.label≤99) && decide (0≤x.at_) && decide (x.at_≤n) && decide (a≤x.at_) && decide (aT x.label 0 (pre++x :: l)=(pre.length:Int)) && mq (pre++x :: l) n (pre.length+1) x.at_ l)=true↔_;simp only [Bool.and_eq_true,decide_eq_true_eq];have hf:aT x.label 0 (pre++x :: l)=(pre.length:Int)↔∀y∈pre,y.label≠x.label:=by
   have:=rc pre 0 x l rfl
   rwa [Nat.zero_add] at this
  have hpx:((pre++[x]).map (·.label)).Nodup↔∀y∈pre,y.label≠x.label:=by
   rw [List.map_append,List.nodup_append];constructor
   ·rintro ⟨_,_,h⟩ y hy;exact h y.label (List.mem_map.2 ⟨y,hy,rfl⟩) x.label (by simp)
   ·intro h;refine ⟨hp,by simp,?_⟩;intro u hu v hv;obtain ⟨y,hy,rfl⟩:=List.mem_map.1 hu;simp at hv;subst hv;exact h y hy
  have e1:pre++x :: l=(pre++[x])++l:=by simp
  have e2:pre.length+1=(pre++[x]).length:=by simp
  rw [hf];constructor
  ·rintro ⟨⟨⟨⟨⟨⟨h1,h2⟩,h3⟩,h4⟩,h5⟩,h6⟩,h7⟩;rw [e1,e2,rd n l (pre++[x]) x.at_ h3 (hpx.2 h6)] at h7;obtain ⟨k1,k2,k3,k4⟩:=h7;refine ⟨?_,List.pairwise_cons.2 ⟨k3,k2⟩,?_,by rw [e1];exact k4⟩
   ·intro y hy;rcases List.mem_cons.1 hy with rfl|hy
    ·exact ⟨⟨h1,h2⟩,h3,h4⟩
    ·exact k1 y hy
   ·intro y hy;rcases List.mem_cons.1 hy with rfl|hy
    ·exact h5
    ·have:=k3 y hy;omega
  ·rintro ⟨h1,h2,h3,h4⟩;obtain ⟨k1,k2⟩:=List.pairwise_cons.1 h2;have hx:=h1 x (by simp);rw [e1] at h4;have h6:∀y∈pre,y.label≠x.label:=hpx.1 (by rw [List.map_append] at h4;exact (List.nodup_append.1 h4).1);refine ⟨⟨⟨⟨⟨⟨hx.1.1,hx.1.2⟩,hx.2.1⟩,hx.2.2⟩,h3 x (by simp)⟩,h6⟩,?_⟩;rw [e1,e2,rd n l (pre++[x]) x.at_ hx.2.1 (hpx.2 h6)];exact ⟨fun y hy=>h1 y (by simp [hy]),k2,k1,h4⟩
structure Ld (g:Lg):Prop where
 slen:g.saves.length≤4
 ents:Ents g.entries
 nms:(bB g.entries).length≤8
 svs:Svs g.saves g.entries.length
theorem fm {g:Lg}:oD g=true↔Ld g:=by
 unfold oD j5;simp only [Bool.and_eq_true,decide_eq_true_eq,wS];have h:=rd (g.entries.length:Int) g.saves [] 0 (Int.le_refl _) (by simp);simp only [List.nil_append,List.length_nil] at h;rw [h];constructor
 ·rintro ⟨⟨⟨⟨h1,h2⟩,h3⟩,h4⟩,h5,h6,h7,h8⟩;exact ⟨h2,h3,h4,h5,h6,h8⟩
 ·rintro ⟨h2,h3,h4,h5,h6,h8⟩;exact ⟨⟨⟨⟨by have:=wU h3 h4;omega,h2⟩,h3⟩,h4⟩,h5,h6,fun x hx=>(h5 x hx).2.1,h8⟩
def dz (g:Lg) (e:En):Lg×Int:=bif !oD g then (.zero,2) else bif !oD ⟨g.entries++[e],g.saves⟩ then (.zero,1) else (⟨g.entries++[e],g.saves⟩,0)
def dP (g:Lg) (n:Int):Lg×Int :=
 bif !oD g then (.zero,2) else bif !(decide (1≤n) && decide (n≤99)) then (.zero,1) else bif decide (0≤aT n 0 g.saves) then (.zero,11) else bif decide (g.saves.length=4) then (.zero,4) else (⟨g.entries,g.saves++[⟨n,g.entries.length⟩]⟩,0)
def cc (g:Lg) (n:Int):Lg:=bif decide (n=0) then ⟨[],[]⟩ else ⟨g.entries.take ((g.saves.getD (aT n 0 g.saves).toNat ⟨0,0⟩).at_).toNat,g.saves.take ((aT n 0 g.saves).toNat+1)⟩
def cu (g:Lg) (n:Int):Lg×List Tm×Int :=
 bif !oD g then (.zero,[],2) else bif !decide (n=0) && decide (aT n 0 g.saves<0) then (.zero,[],10) else
 (cc g n,(bB (g.entries.drop (cc g n).entries.length)).map fun m=>⟨m,ax (cc g n).entries m⟩,0)
def oth (n:ByteArray) (e:En):Bool:=!ba e.name n
def fO (g:Lg) (n:ByteArray):Lg:=⟨g.entries.filter (oth n),g.saves.map fun s=>⟨s.label,((g.entries.take s.at_.toNat).filter (oth n)).length⟩⟩
def fY (g:Lg) (n:ByteArray):Lg×Bool:=bif !oD g then (.zero,false) else bif decide ((fO g n).entries.length=g.entries.length) then (.zero,false) else (fO g n,true)
def eH (g:Lg):List Tm:=((bB g.entries).map fun m=>(⟨m,ax g.entries m⟩:Tm)).filter fun a=>!aH a.am
theorem jF {l:List ByteArray} (h:mQ l):l.Nodup:=h.imp fun {a b} (hab:jo a b=true) (e:a=b)=>by rw [e,eG] at hab;cases hab
theorem oE {α:Type} [DecidableEq α] {l m:List α} (hn:l.Nodup) (hs:∀x∈l,x∈m):l.length≤m.length:=by
 induction l generalizing m with
 | nil=>exact Nat.zero_le _
 | cons x l ih =>
  rw [List.nodup_cons] at hn;have hx:=hs x (by simp);have h1:=ih (m:=m.erase x) hn.2 fun y hy=>(List.mem_erase_of_ne (fun (e:y=x)=>hn.1 (e▸hy))).2 (hs y (by simp [hy]));have h2:=List.length_erase_of_mem hx;have h3:=List.length_pos_of_mem hx;rw [List.length_cons];omega
theorem tJ {l m:List En} (h:∀e∈l,e∈m):(bB l).length≤(bB m).length :=
 oE (jF (fy l)) fun x hx=>by
  obtain ⟨e,he,hn⟩:=dh.1 hx;exact dh.2 ⟨e,h e he,hn⟩
theorem Svs.mono {s:List Sv} {n m:Int} (h:Svs s n) (hm:n≤m):Svs s m:=⟨fun x hx=>⟨(h.lab x hx).1,(h.lab x hx).2.1,by have:=(h.lab x hx).2.2;omega⟩,h.ord,h.nd⟩
theorem tK {g:Lg} (h:Ld g) {e:En} (hn:cK e.name.toList=true) (hb:e.before=ax g.entries e.name) (hg:dg e.before e.after=true) {ns:List ByteArray} (hns:ns.length≤8) (h1:∀x∈g.entries,x.name∈ns) (h2:e.name∈ns) :
  dz g e=(⟨g.entries++[e],g.saves⟩,0)∧Ld ⟨g.entries++[e],g.saves⟩:=by
 have hl:Ld ⟨g.entries++[e],g.saves⟩:=by
  refine ⟨h.slen,Ents.snoc.2 ⟨h.ents,hn,hb,hg⟩,?_,h.svs.mono (by show (g.entries.length:Int)≤((g.entries++[e]).length:Nat);rw [List.length_append];omega)⟩;have:=oE (m:=ns) (jF (fy (g.entries++[e]))) fun x hx=>by
   obtain ⟨f,hf,hfx⟩:=dh.1 hx;rcases List.mem_append.1 hf with hf|hf
   ·exact hfx▸h1 f hf
   ·rw [List.mem_singleton] at hf;subst hf;exact hfx▸h2
  show (bB (g.entries++[e])).length≤8;omega
 refine ⟨?_,hl⟩;unfold dz;rw [fm.2 h,fm.2 hl];rfl
theorem FQ {g:Lg} {n:Int} (h:(dP g n).2=0):Ld g∧dP g n=(⟨g.entries,g.saves++[⟨n,g.entries.length⟩]⟩,0)∧Ld ⟨g.entries,g.saves++[⟨n,g.entries.length⟩]⟩:=by
 unfold dP at h ⊢;cases hV:oD g with
 | false=>rw [hV] at h;simp at h
 | true =>
  have hl:=fm.1 hV;rw [hV] at h;simp only [Bool.not_true,cond_false] at h ⊢;cases hA:decide (1≤n) && decide (n≤99) with
  | false=>rw [hA] at h;simp at h
  | true =>
   rw [hA] at h;simp only [Bool.not_true,cond_false] at h ⊢;simp only [Bool.and_eq_true,decide_eq_true_eq] at hA;by_cases hF:0≤aT n 0 g.saves
   ·rw [decide_eq_true hF] at h;simp at h
   ·rw [decide_eq_false hF] at h ⊢;simp only [cond_false] at h ⊢;by_cases h4:g.saves.length=4
    ·rw [decide_eq_true h4] at h;simp at h
    ·rw [decide_eq_false h4];refine ⟨hl,rfl,by have:=hl.slen;simp;omega,hl.ents,hl.nms,?_,?_,?_⟩
     ·intro x hx;rcases List.mem_append.1 hx with hx|hx
      ·exact hl.svs.lab x hx
      ·rw [List.mem_singleton] at hx;subst hx;exact ⟨hA,by simp,by simp⟩
     ·rw [List.pairwise_append];refine ⟨hl.svs.ord,by simp,?_⟩;intro x hx y hy;rw [List.mem_singleton] at hy;subst hy;exact (hl.svs.lab x hx).2.2
     ·rw [List.map_append,List.nodup_append];refine ⟨hl.svs.nd,by simp,?_⟩;intro u hu v hv;obtain ⟨y,hy,rfl⟩:=List.mem_map.1 hu;simp at hv;subst hv;exact (yG (k:=0)).1 (by omega) y hy
theorem FR {g:Lg} {n:Int} (h:(cu g n).2.2=0):Ld g∧Ld (cc g n)∧cu g n=(cc g n,(bB (g.entries.drop (cc g n).entries.length)).map fun m=>⟨m,ax (cc g n).entries m⟩,0)∧(cc g n).entries=g.entries.take (cc g n).entries.length:=by
 unfold cu at h ⊢;cases hV:oD g with
 | false=>rw [hV] at h;simp at h
 | true =>
  have hl:=fm.1 hV;rw [hV] at h;simp only [Bool.not_true,cond_false] at h ⊢;cases hA : !decide (n=0) && decide (aT n 0 g.saves<0) with
  | true=>rw [hA] at h;simp at h
  | false =>
   refine ⟨hl,?_,rfl,?_⟩
   ·unfold cc;by_cases h0:n=0
    ·rw [decide_eq_true h0,cond_true];exact ⟨by simp,fun k hk=>absurd hk (by simp),by simp [bB,dx],fun x hx=>absurd hx (by simp),by simp,by simp⟩
    ·rw [decide_eq_false h0] at hA ⊢;simp only [Bool.not_false,Bool.true_and,decide_eq_false_iff_not] at hA;obtain ⟨i,hi,e1,e2⟩:=iE (n:=n) (l:=g.saves) (k:=0) (by omega);have e3:(aT n 0 g.saves).toNat=i:=by rw [e1];omega
     rw [e3,cond_false];have e4:g.saves.getD i ⟨0,0⟩=g.saves[i]:=by simp [hi]
     rw [e4];have hsi:=hl.svs.lab g.saves[i] (List.getElem_mem hi);refine ⟨by have:=hl.slen;simp;omega,hl.ents.take _,Nat.le_trans (tJ fun e he=>List.mem_of_mem_take he) hl.nms,?_,?_,?_⟩
     ·intro x hx;have h1:=hl.svs.lab x (List.mem_of_mem_take hx);refine ⟨h1.1,h1.2.1,?_⟩;obtain ⟨j,hj,e⟩:=List.mem_iff_getElem.1 hx;rw [List.getElem_take] at e;have hj2:j<g.saves.length:=by rw [List.length_take] at hj;omega
      have hji:j≤i:=by rw [List.length_take] at hj;omega
      have h2:g.saves[j].at_≤g.saves[i].at_:=by
       rcases Nat.lt_or_eq_of_le hji with hlt|rfl
       ·exact List.pairwise_iff_getElem.1 hl.svs.ord j i hj2 hi hlt
       ·exact Int.le_refl _
      rw [e] at h2;show x.at_≤((g.entries.take g.saves[i].at_.toNat).length:Nat);rw [List.length_take];omega
     ·exact hl.svs.ord.sublist (List.take_sublist _ _)
     ·exact hl.svs.nd.sublist ((List.take_sublist _ _).map _)
   ·unfold cc;cases decide (n=0) with
    | true=>simp
    | false =>
     simp only [cond_false];rw [List.length_take];rcases Nat.le_total (g.saves.getD (aT n 0 g.saves).toNat ⟨0,0⟩).at_.toNat g.entries.length with h|h
     ·rw [Nat.min_eq_left h]
     ·rw [Nat.min_eq_right h,List.take_of_length_le h,List.take_length]
theorem ll (n m:ByteArray):∀(l:List En) (a:Am),(m=n→a=⟨0,0⟩)→dE m a (l.filter (oth n))=if m=n then ⟨0,0⟩ else dE m a l
 | [],a,ha=>by
  by_cases h:m=n
  ·simp [dE,h,ha h]
  ·simp [dE,h]
 | e :: l,a,ha=>by
  rw [List.filter_cons];unfold oth;cases he:ba e.name n with
  | true =>
   have hen:=bb.1 he;simp only [Bool.not_true,Bool.false_eq_true,if_false];rw [show (List.filter (fun e=>!ba e.name n) l)=l.filter (oth n) from rfl,ll n m l a ha];by_cases h:m=n
   ·rw [if_pos h,if_pos h]
   ·rw [if_neg h,if_neg h];have:ba e.name m=false:=bZ.2 fun h2=>h (h2.symm.trans hen);show dE m a l=dE m (bif ba e.name m then e.after else a) l;rw [this];rfl
  | false =>
   have hen:=bZ.1 he;simp only [Bool.not_false,if_true];show dE m (bif ba e.name m then e.after else a) (l.filter (oth n))=_;rw [ll n m l _ (fun h=>by
    have:ba e.name m=false:=bZ.2 fun h2=>hen (h2.trans h);rw [this];exact ha h)]
   rfl
theorem gQ (n m:ByteArray) (l:List En):ax (l.filter (oth n)) m=if m=n then ⟨0,0⟩ else ax l m:=ll n m l _ fun _=>rfl
theorem wV {l:List En} (h:Ents l) (n:ByteArray):Ents (l.filter (oth n)):=by
 refine nK (P:=fun l=>Ents (l.filter (oth n))) (fun k hk=>absurd hk (by simp)) ?_ l h;intro l e _ he ih;rw [List.filter_append];cases ho:oth n e with
 | false =>
  have:[e].filter (oth n)=[]:=by simp [ho]
  rw [this,List.append_nil];exact ih
 | true =>
  have:[e].filter (oth n)=[e]:=by simp [ho]
  rw [this];have hne:e.name≠n:=by unfold oth at ho;rw [Bool.not_eq_true',bZ] at ho;exact ho
  exact Ents.snoc.2 ⟨ih,he.nm,by rw [gQ,if_neg hne];exact he.bef,he.gr⟩
theorem oF {α:Type} (p:α→Bool) (l:List α) {i j:Nat} (h:i≤j):((l.take i).filter p).length≤((l.take j).filter p).length:=by
 have:l.take i=(l.take j).take i:=by rw [List.take_take];congr 1;omega
 rw [this];exact ((List.take_sublist i (l.take j)).filter p).length_le
theorem FS {g:Lg} (h:Ld g) (n:ByteArray):Ld (fO g n):=by
 unfold fO;refine ⟨by have:=h.slen;simpa using this,wV h.ents n,Nat.le_trans (tJ fun e he=>(List.mem_filter.1 he).1) h.nms,?_,?_,?_⟩
 ·intro x hx;obtain ⟨s,hs,rfl⟩:=List.mem_map.1 hx;have h1:=h.svs.lab s hs;refine ⟨h1.1,Int.natCast_nonneg _,?_⟩;have:=((List.take_sublist s.at_.toNat g.entries).filter (oth n)).length_le;show (((g.entries.take s.at_.toNat).filter (oth n)).length:Int)≤((g.entries.filter (oth n)).length:Nat);omega
 ·rw [List.pairwise_map];exact h.svs.ord.imp fun {a b} (hab:a.at_≤b.at_)=>by
   have:=oF (oth n) g.entries (i:=a.at_.toNat) (j:=b.at_.toNat) (by omega);show ((_:Nat):Int)≤((_:Nat):Int);omega
 ·rw [List.map_map];exact h.svs.nd
structure Rq where
 expr:Ex
 prio:Int
 limit:Int
def Rq.zero:Rq:=⟨Ex.zero,0,0⟩
structure Pc where
 proc:Pr
 cost:Int
 led:Lg
 waiting:Bool
 req:Rq
 since:Int
 gen:Int
def B7:Pc:=⟨⟨0,0,0⟩,0,Lg.zero,false,Rq.zero,0,0⟩
structure Cs where
 now:Int
 queues:List Qu
 procs:List Pc
def Jq:Cs:=⟨0,[],[]⟩
structure Cm where
 kind:Int
 proc:Pr
 req:Rq
 name:ByteArray
 n:Int
def aW (t:List Qu) (n:ByteArray):Bool:=decide (0≤bk n 0 t)
def be (t:List Qu) (n:ByteArray):Qu:=t.getD (iQ t n) jW
def aZ (t:List Qu) (p:Pr) (x:Ex):List Bool:=(cy x).map fun a=>aW t a.name && bg (be t a.name).res (ao (be t a.name).holds p) a.am
def fc (t:List Qu):List Tm→Int
 | []=>0
 | a :: l=>bif !aW t a.name then 10 else bif !aF (be t a.name).res a.am then 12 else fc t l
def gw (t:List Qu) (x:Ex):Int:=bif !kv x then 1 else fc t (cy x)
def oG (r:Rq):Bool:=kv r.expr && decide (0≤r.prio) && decide (r.prio≤7) && decide (0≤r.limit) && decide (r.limit≤1000)
def E0 (x:Ex):Bool:=decide (x.k=0) && decide (x.atom=iB) && x.kids.isEmpty
def E3 (r:Rq):Bool:=E0 r.expr && decide (r.prio=0) && decide (r.limit=0)
theorem FT {x:Ex}:E0 x=true↔x=Ex.zero:=by
 obtain ⟨k,a,l⟩:=x;unfold E0 Ex.zero;simp only [Bool.and_eq_true,decide_eq_true_eq,List.isEmpty_iff];show (k=0∧a=iB)∧l=[]↔_;constructor
 ·rintro ⟨⟨rfl,rfl⟩,rfl⟩;rfl
 ·intro h;injection h with h1 h2 h3;exact ⟨⟨h1,h2⟩,h3⟩
theorem FU {r:Rq}:E3 r=true↔r=Rq.zero:=by
 obtain ⟨x,p,l⟩:=r;unfold E3 Rq.zero;simp only [Bool.and_eq_true,decide_eq_true_eq,FT];constructor
 ·rintro ⟨⟨rfl,rfl⟩,rfl⟩;rfl
 ·intro h;injection h with h1 h2 h3;exact ⟨⟨h1,h2⟩,h3⟩
def dH (t:List Qu) (p:Pr):List Tm:=(t.map fun q=>(⟨q.res.name,ao q.holds p⟩:Tm)).filter fun a=>!aH a.am
def bD (p:Pr):List Qu→List Tm
 | []=>[]
 | q :: l=>match ap q p with
  | some a=>⟨q.res.name,a⟩ :: bD p l
  | none=>bD p l
def b7 (q:Qu) (x:Pc):List Tm→Bool
 | []=>decide (ao q.holds x.proc=ax x.led.entries q.res.name) && !(ap q x.proc).isSome
 | a :: l=>bif !ba a.name q.res.name || bg q.res (ax x.led.entries q.res.name) a.am then b7 q x l else
  bif !(ap q x.proc).isSome then decide (ao q.holds x.proc=bG q.res (ax x.led.entries q.res.name) a.am) else
  bif q.waits.any (fun y=>decide (y.proc=x.proc) && !decide (y.prio=x.req.prio)) then false else
  decide (ao q.holds x.proc=ax x.led.entries q.res.name) && decide (ap q x.proc=some (bG q.res (ax x.led.entries q.res.name) a.am))
def mx (c:Cs) (x:Pc):Bool :=
 jl x.proc && decide (1≤x.cost) && decide (x.cost≤1000) && oD x.led && decide (0≤x.gen) && decide (x.gen≤1073741824) &&
 (eH x.led).all (fun a=>aW c.queues a.name && aF (be c.queues a.name).res a.am) &&
 bif !x.waiting then E3 x.req && decide (x.since=0) && decide (eH x.led=dH c.queues x.proc) && decide (bD x.proc c.queues=[]) else
 oG x.req && decide (gw c.queues x.req.expr=0) && decide (0≤x.since) && decide (x.since≤c.now) && (decide (x.req.limit=0) || decide (c.now<x.since+x.req.limit)) &&
 !dD x.req.expr (aZ c.queues x.proc x.req.expr) && c.queues.all (fun q=>b7 q x (cy x.req.expr))
def db (p:Pr):Nat→List Pc→Int
 | _,[]=>-1
 | k,x :: l=>bif decide (x.proc=p) then (k:Int) else db p (k+1) l
def uZ (c:Cs):Option Pr→List Pc→Bool
 | _,[]=>true
 | o,x :: l=>mx c x && EZ o x.proc && uZ c (some x.proc) l
def gx (c:Cs):Bool:=decide (0≤c.now) && decide (c.now≤1073741824) && du c.queues && decide (c.procs.length≤8) && (aC c.queues).all (fun p=>decide (0≤db p 0 c.procs)) && uZ c none c.procs
structure Wk where
 c:Cs
 ev:List Ev
def Wk.take (w:Wk) (t:List Qu) (ev:List Ev):Wk:=⟨{ w.c with queues:=t },w.ev++ev⟩
def Wk.note (w:Wk) (k:Int) (p:Pr):Wk:=⟨w.c,w.ev++[⟨k,p,⟨#[]⟩,⟨0,0⟩⟩]⟩
def Wk.pc (w:Wk) (i:Nat):Pc:=w.c.procs.getD i B7
def Wk.setP (w:Wk) (i:Nat) (x:Pc):Wk:=⟨{ w.c with procs:=w.c.procs.set i x },w.ev⟩
def gR (w:Wk) (p:Pr) (n:ByteArray):Wk:=w.take (bq w.c.queues p n).1 (bq w.c.queues p n).2.1
def d5 (w:Wk) (p:Pr) (a:Tm):Wk:=w.take (bJ w.c.queues p a).1 (bJ w.c.queues p a).2.1
def fd (w:Wk) (p:Pr) (n:ByteArray):Wk:=bif (ap (be w.c.queues n) p).isSome then gR w p n else w
def bL (w:Wk) (p:Pr) (n:ByteArray) (l:Am):Wk:=bif decide (ao (be w.c.queues n).holds p=l) then w else d5 w p ⟨n,l⟩
def bo (w:Wk) (x:Pc) (n:ByteArray):Wk:=bL (fd w x.proc n) x.proc n (ax x.led.entries n)
def dQ (w:Wk) (i:Nat):Wk:=w.setP i { w.pc i with waiting:=false,req:=Rq.zero,since:=0 }
def aU (w:Wk) (i:Nat):Wk:=w.setP i { w.pc i with gen:=aS (w.pc i).gen }
def cU (x:Pc):List Tm→Wk→Wk
 | [],w=>w
 | a :: l,w=>cU x l (bo w x a.name)
def az (w:Wk) (i:Nat):Wk:=dQ (cU (w.pc i) (cy (w.pc i).req.expr) w) i
def dA (t:List Qu) (x:Pc):Bool:=x.waiting && dD x.req.expr (aZ t x.proc x.req.expr)
def dI (t:List Qu):Nat→List Pc→Option Nat
 | _,[]=>none
 | k,x :: l=>bif dA t x then some k else dI t (k+1) l
def fA (x:Ex) (L:List Tm):Nat→List Bool→List Bool
 | 0,out=>out
 | i+1,out=>fA x L i (bif out.getD i false then out.set i (!pm (cf L (out.set i false)) x) else out)
def bX (x:Ex) (set:List Bool):List Bool :=
 bif dD x set then fA x (cy x) (cy x).length ((List.range (cy x).length).map fun i=>set.getD i false) else List.replicate (cy x).length false
def gI (w:Wk) (i:Nat) (p:Pr) (n:ByteArray):Wk :=
 bif decide (ao (be w.c.queues n).holds p=ax (w.pc i).led.entries n) then w else
 w.setP i { w.pc i with led:=(dz (w.pc i).led ⟨n,ax (w.pc i).led.entries n,ao (be w.c.queues n).holds p⟩).1 }
def cR (x:Pc) (i:Nat):List Tm→List Bool→Wk→Wk
 | a :: l,b :: bs,w=>cR x i l bs (bif b then gI w i x.proc a.name else bo w x a.name)
 | _,_,w=>w
def gS (w:Wk) (i:Nat):Wk :=
 aU (dQ (cR (w.pc i) i (cy (w.pc i).req.expr) (bX (w.pc i).req.expr (aZ w.c.queues (w.pc i).proc (w.pc i).req.expr)) (w.note 2 (w.pc i).proc)) i) i
def aQ:Nat→Wk→Wk
 | 0,w=>w
 | n+1,w=>match dI w.c.queues 0 w.c.procs with
  | none=>w
  | some i=>aQ n (gS w i)
def bS (w:Wk):Wk:=aQ w.c.procs.length w
def gy (w:Wk) (i:Nat):Wk :=
 bS (Wk.note ⟨{ w.c with queues:=(bR w.c.queues (w.pc i).proc).1,procs:=w.c.procs.eraseIdx i },w.ev++(bR w.c.queues (w.pc i).proc).2⟩ 5 (w.pc i).proc)
def ik (now:Int):Nat→List Pc→Int×Int→Int×Int
 | _,[],b=>b
 | k,x :: l,b=>ik now (k+1) l (bif x.waiting && !decide (x.req.limit=0) && decide (x.since+x.req.limit≤now) && (decide (b.1<0) || decide (x.since+x.req.limit<b.2)) then ((k:Int),x.since+x.req.limit) else b)
def eb (w:Wk):Int:=(ik w.c.now 0 w.c.procs (-1,0)).1
def j6 (x:Pc):List Pc→List Pc
 | []=>[x]
 | y :: l=>bif decide (0<bE y.proc x.proc) then x :: y :: l else y :: j6 x l
def i4 (w:Wk) (p:Pr) (cost:Int):Wk×Int :=
 bif !(jl p && decide (1≤cost) && decide (cost≤1000)) then (w,1) else bif decide (0≤db p 0 w.c.procs) then (w,11) else bif decide (w.c.procs.length=8) then (w,4) else
 (⟨{ w.c with procs:=j6 { B7 with proc:=p,cost:=cost } w.c.procs },w.ev⟩,0)
def ck (p:Pr) (prio:Int):List Tm→Wk→Wk
 | [],w=>w
 | a :: l,w=>ck p prio l (w.take (bd w.c.queues p a prio).1 (bd w.c.queues p a prio).2.1)
def cG (w:Wk) (i:Nat) (r:Rq):Wk×Int :=
 bif (w.pc i).waiting then (w,14) else bif !oG r then (w,1) else bif !decide (gw w.c.queues r.expr=0) then (w,gw w.c.queues r.expr) else
 (bS (ck (w.pc i).proc r.prio (cy r.expr) (aU (w.setP i { w.pc i with waiting:=true,req:=r,since:=w.c.now }) i)),0)
def dR (w:Wk) (i:Nat) (n:ByteArray):Wk×Int :=
 bif (w.pc i).waiting then (w,14) else bif decide (ax (w.pc i).led.entries n=⟨0,0⟩) then (w,10) else
 let w1:=d5 w (w.pc i).proc ⟨n,⟨0,0⟩⟩
 (bS (aU (w1.setP i { w1.pc i with led:=(fY (w1.pc i).led n).1 }) i),0)
def br (p:Pr):List Tm→Wk→Wk
 | [],w=>w
 | a :: l,w=>br p l (bL w p a.name a.am)
def cP (w:Wk) (i:Nat) (n:Int):Wk×Int :=
 bif !decide ((cu (w.pc i).led n).2.2=0) then (w,(cu (w.pc i).led n).2.2) else
 let w1:=bif (w.pc i).waiting then az w i else w
 let w2:=w1.setP i { w1.pc i with led:=(cu (w.pc i).led n).1 }
 (bS (aU (br (w.pc i).proc (cu (w.pc i).led n).2.1 w2) i),0)
def gL:Nat→Wk→Wk
 | 0,w=>w
 | n+1,w=>bif decide (eb w<0) then w else
  gL n (bS (aU (az (w.note 4 (w.pc (eb w).toNat).proc) (eb w).toNat) (eb w).toNat))
def iF (w:Wk) (n:Int):Wk×Int :=
 bif !(decide (0≤n) && decide (n≤1000)) then (w,1) else bif decide (1073741824-n<w.c.now) then (w,16) else (gL w.c.procs.length ⟨{ w.c with now:=w.c.now+n },w.ev⟩,0)
def zK (w:Wk) (k:Cm):Wk×Int :=
 bif !(decide (1≤k.kind) && decide (k.kind≤9)) then (w,1) else bif decide (k.kind=1) then i4 w k.proc k.n else bif decide (k.kind=9) then iF w k.n else
 bif decide (db k.proc 0 w.c.procs<0) then (w,10) else
 let i:=(db k.proc 0 w.c.procs).toNat
 bif decide (k.kind=2) then cG w i k.req else
 bif decide (k.kind=3) then (bif !(w.pc i).waiting then (w,14) else (bS (aU (az w i) i),0)) else
 bif decide (k.kind=4) then dR w i k.name else
 bif decide (k.kind=5) then (bif (w.pc i).waiting then (w,14) else bif !decide ((dP (w.pc i).led k.n).2=0) then (w,(dP (w.pc i).led k.n).2) else (aU (w.setP i { w.pc i with led:=(dP (w.pc i).led k.n).1 }) i,0)) else
 bif decide (k.kind=6) then cP w i k.n else
 bif decide (k.kind=8) && (w.pc i).waiting then (w,14) else (gy w i,0)
def nN (c:Cs) (k:Cm):Cs×List Ev×Int :=
 bif !gx c then (Jq,[],2) else bif !decide ((zK ⟨c,[]⟩ k).2=0) then (Jq,[],(zK ⟨c,[]⟩ k).2) else ((zK ⟨c,[]⟩ k).1.c,(zK ⟨c,[]⟩ k).1.ev,0)
def En.cells (x:En):List Value:=[.string x.name,.int .i64 x.before.mode,.int .i64 x.before.units,.int .i64 x.after.mode,.int .i64 x.after.units]
def Sv.cells (x:Sv):List Value:=[.int .i64 x.label,.int .i64 x.at_]
def Ev.cells (x:Ev):List Value:=[.int .i64 x.kind,.int .i64 x.proc.site,.int .i64 x.proc.inc,.int .i64 x.proc.num,.string x.name,.int .i64 x.am.mode,.int .i64 x.am.units]
def iG:El En:=El.plain 5 (by decide) En.cells (fun _=>rfl) (by intro x u hu;simp [En.cells] at hu;rcases hu with rfl|rfl|rfl|rfl|rfl <;> rfl)
def i5:El Sv:=El.plain 2 (by decide) Sv.cells (fun _=>rfl) (by intro x u hu;simp [Sv.cells] at hu;rcases hu with rfl|rfl <;> rfl)
def fG:El Ev:=El.plain 7 (by decide) Ev.cells (fun _=>rfl) (by intro x u hu;simp [Ev.cells] at hu;rcases hu with rfl|rfl|rfl|rfl|rfl|rfl|rfl <;> rfl)
theorem KQ:ElTB prog iG 58 141 48:=ElTB.mk' underlying58 (.agg #[.string { data:=#[] },.int .i64 0,.int .i64 0,.int .i64 0,.int .i64 0]) 5 48 (by kernel_rfl) rfl rfl
theorem KR:ElTB prog i5 59 143 16:=ElTB.mk' underlying59 (.agg #[.int .i64 0,.int .i64 0]) 2 16 (by kernel_rfl) rfl rfl
theorem KS:ElTB prog fG 47 67 64:=ElTB.mk' underlying47 (.agg #[.int .i64 0,.int .i64 0,.int .i64 0,.int .i64 0,.string { data:=#[] },.int .i64 0,.int .i64 0]) 7 64 (by kernel_rfl) rfl rfl
section
variable {w:World} {S:Nat→Prop} {A:Option Addr} {i:Nat}
end
structure QS (w:World) (S:Nat→Prop) (A1 A2 A3:Option Addr) (q:Qu):Prop where
 r1:RowsAt fV w S A1 q.holds
 r2:RowsAt eM w S A2 q.convs
 r3:RowsAt eM w S A3 q.waits
 m1:q.holds.length≤maxLen
 m2:q.convs.length≤maxLen
 m3:q.waits.length≤maxLen
section
variable {w w':World} {S S':Nat→Prop} {A1 A2 A3:Option Addr} {q:Qu}
theorem QS.qf (h:QS w S A1 A2 A3 q) (hS:In w S):QF w w.heap.size A1 A2 A3 q:=⟨h.r1.lo hS,h.r2.lo hS,h.r3.lo hS,h.m1,h.m2,h.m3,Nat.le_refl _⟩
end
def eI (d:Nat):El Pc where
 n:=16
 pos:=by decide
 rep:=fun w S x cs=>∃A1 c1 A2 c2 A3 c3,cs=[.int .i64 x.proc.site,.int .i64 x.proc.inc,.int .i64 x.proc.num,.int .i64 x.cost,.slice A1 x.led.entries.length c1,.slice A2 x.led.saves.length c2,.bool x.waiting,.int .i64 x.req.expr.k,.string x.req.expr.atom.name,.int .i64 x.req.expr.atom.am.mode,.int .i64 x.req.expr.atom.am.units,.slice A3 x.req.expr.kids.length c3,.int .i64 x.req.prio,.int .i64 x.req.limit,.int .i64 x.since,.int .i64 x.gen]∧
  RowsAt iG w S A1 x.led.entries∧(x.led.entries.length≤c1∧c1≤maxLen)∧RowsAt i5 w S A2 x.led.saves∧(x.led.saves.length≤c2∧c2≤maxLen)∧RowsAt (nc d) w S A3 x.req.expr.kids∧(x.req.expr.kids.length≤c3∧c3≤maxLen)
 len:=fun h=>by obtain ⟨A1,c1,A2,c2,A3,c3,rfl,_⟩:=h;rfl
 one:=fun h=>by obtain ⟨A1,c1,A2,c2,A3,c3,rfl,_⟩:=h;intro u hu;simp at hu;rcases hu with rfl|rfl|rfl|rfl|rfl|rfl|rfl|rfl|rfl|rfl|rfl|rfl|rfl|rfl|rfl|rfl <;> rfl
 same:=fun h hk hS=>by
  obtain ⟨A1,c1,A2,c2,A3,c3,e,h1,h2,h3,h4,h5,h6⟩:=h;exact ⟨A1,c1,A2,c2,A3,c3,e,h1.same hk hS,h2,h3.same hk hS,h4,h5.same hk hS,h6⟩
theorem Iq (l:List Value) (k:Nat):(l.map D.sc).any (D.has k)=false:=by
 induction l with
 | nil=>rfl
 | cons x l ih=>simp only [List.map_cons,List.any_cons,ih,D.has,Bool.or_self]
theorem Dd {w:World} {F:Nat→Prop} {ρ:Nat→Value}:∀{l vs:List Value},All2 (D.rep w F ρ) (l.map .sc) vs→vs=l
 | [],[],_=>rfl
 | _ :: _,_ :: _,h=>by rw [show _=_ from h.1,Dd h.2]
 | [],_ :: _,h=>h.elim
 | _ :: _,[],h=>h.elim
@[reducible] def fo {α:Type} (n:Nat) (pos:0<n) (f:α→List Value) (len:∀x,(f x).length=n) (one:∀x,∀u∈f x,u.oneCell'=true):Dp (El.plain n pos f len one) where
 deep:=fun x=>(f x).map .sc
 get:=fun h=>by rw [show _=_ from h];exact All2.scs _
 put:=fun h=>Dd h
 nok:=fun x k=>Iq (f x) k
instance:Dp fK:=fo _ _ _ _ _
instance:Dp zt:=fo _ _ _ _ _
instance:Dp cw:=fo _ _ _ _ _
instance:Dp fV:=fo _ _ _ _ _
instance:Dp eM:=fo _ _ _ _ _
instance:Dp iG:=fo _ _ _ _ _
instance:Dp i5:=fo _ _ _ _ _
instance:Dp fG:=fo _ _ _ _ _
instance:ST prog fV 78 197 40:=⟨KH⟩
instance:ST prog eM 79 171 56:=⟨Hz⟩
instance:ST prog iG 58 141 48:=⟨KQ⟩
instance:ST prog i5 59 143 16:=⟨KR⟩
instance:ST prog fG 47 67 64:=⟨KS⟩
instance:ST prog cw 103 39 32:=⟨KF⟩
def Pc.d (d:Nat) (x:Pc):List D:=[.sc (.int .i64 x.proc.site),.sc (.int .i64 x.proc.inc),.sc (.int .i64 x.proc.num),.sc (.int .i64 x.cost),.sl iG x.led.entries,.sl i5 x.led.saves,.sc (.bool x.waiting),.sc (.int .i64 x.req.expr.k),.sc (.string x.req.expr.atom.name),.sc (.int .i64 x.req.expr.atom.am.mode),.sc (.int .i64 x.req.expr.atom.am.units),.sl (nc d) x.req.expr.kids,.sc (.int .i64 x.req.prio),.sc (.int .i64 x.req.limit),.sc (.int .i64 x.since),.sc (.int .i64 x.gen)]
instance (d:Nat):Dp (eI d) where
 deep:=Pc.d d
 get:=by
  rintro w F ρ x cs ⟨A1,c1,A2,c2,A3,c3,rfl,h1,h2,h3,h4,h5,h6⟩;exact ⟨rfl,rfl,rfl,rfl,⟨A1,c1,rfl,h2,h1⟩,⟨A2,c2,rfl,h4,h3⟩,rfl,rfl,rfl,rfl,rfl,⟨A3,c3,rfl,h6,h5⟩,rfl,rfl,rfl,rfl,trivial⟩
 put:=by
  intro w F ρ x cs h
  match cs,h with
  | [_,_,_,_,_,_,_,_,_,_,_,_,_,_,_,_],⟨rfl,rfl,rfl,rfl,⟨A1,c1,rfl,h2,h1⟩,⟨A2,c2,rfl,h4,h3⟩,rfl,rfl,rfl,rfl,rfl,⟨A3,c3,rfl,h6,h5⟩,rfl,rfl,rfl,rfl,_⟩=>exact ⟨A1,c1,A2,c2,A3,c3,rfl,h1,h2,h3,h4,h5,h6⟩
 nok:=fun _ _=>rfl
section
variable {α:Type} {E:El α} {e:TypeId} {S:Nat→Prop}
section
variable {n:Nat} {pos:0<n} {f:α→List Value} {len:∀x,(f x).length=n} {one:∀x,∀u∈f x,u.oneCell'=true}
theorem OwnRows.nw {w:World} {base:Nat} {v:Value} {l:List α} (h:OwnRows (El.plain n pos f len one) e w base v l):∃A cap,v = .slice A l.length cap∧RowsAt (El.plain n pos f len one) w (KI base w) A l∧l.length≤cap∧cap≤maxLen:=by
 obtain ⟨A,cap,rfl,h1,h2⟩:=h.newP;obtain ⟨_,_,e,_,_,h3⟩:=h.form;injection e with _ _ e;subst e;exact ⟨A,cap,rfl,h1,h2,h3⟩
end
end
theorem pC {P:Program} {f:FuncId} {args:List V0} {res:TV} (hen:∀(vs:Array Value) (w:World),(callFunc f vs).run P w = .ok (.enter f vs) w) (hok:Bb args [] [] res []=true)
  (h:∀(w:World) (S:Nat→Prop) (ρ:Nat→Value) (vs:List Value),PinW w (fun _=>False)→In w S→All2 (V0.rep w S ρ) args vs→Calls P f vs.toArray w fun e w'=>∃v,e = .returned v∧Below w.heap.size w w'∧res.rep w' (Gr S w.heap.size w') ρ v):FSpec P f args [] [] res []:=by
 refine ⟨hen,fun q c st ρ a w vs hr _ hargs _ _=>?_⟩;simp only [Bb,Bool.and_eq_true] at hok;obtain ⟨⟨⟨⟨⟨⟨o1,_⟩,_⟩,_⟩,_⟩,o6⟩,_⟩:=hok;have hnok:∀d∈args,∀k,d.has k=true→False:=fun d hd k hk=>by have:=V0.in_has (List.all_eq_true.1 o1 d hd) hk;simp [av,aK] at this
 have hnor:∀k,res.has k=true→False:=fun k hk=>by have:=TV.in_has o6 hk;simp [av,aK] at this
 have hargs':All2 (V0.rep w (Fz c st.h ρ w) ρ) args vs:=hargs.imp fun d v hd h1=>(V0.rep_ren (ρ':=ρ) fun k hk=>(hnok d hd k hk).elim).1 h1;refine (h w (Fz c st.h ρ w) ρ vs hr.pin (fun b hb=>hb.2.1) hargs').mono ?_;rintro e w' ⟨v,rfl,hb,hv⟩;refine ⟨v,rfl,fun dst hdst=>⟨ρ,hr.app (e:=⟨res.ren q,el q [],[].map q⟩) hdst (fun k hk=>by simp [aK] at hk) (fun _ _=>rfl) (fun k hk=>by simp [el,aA] at hk) (Frx.below hb) (fun k bx g hk=>by simp [el,aA] at hk) (fun k k' b b' g hk=>by simp [el,aA] at hk) (fun k hk=>?_) (fun k k' bx hk=>by simp [el,aA] at hk) (fun k bx hk=>by simp [el,aA] at hk) ?_⟩⟩
 ·obtain ⟨k',hk',_⟩:=TV.has_ren hk;exact (hnor k' hk').elim
 ·refine ((TV.rep_ren (ρ':=ρ) fun k hk=>(hnor k hk).elim).2 hv).mono (fun b hb2=>⟨⟨?_,hb2.1,fun k bx hk he=>?_⟩,rfl⟩) fun _ _=>rfl
  ·rcases hb2.2 with h1|h1
   ·exact h1.1
   ·exact .inr (Nat.le_trans hr.frm.size h1)
  ·have hk:st.h k=some bx:=hk;rcases hb2.2 with h1|h1
   ·exact h1.2.2 k bx hk he
   ·have:=hr.ltb hk he;omega
theorem zL {w:World} {F:Nat→Prop} {ρ:Nat→Value} {ds:List D} {l:List Value} {v:Value} (hs:scs ds=some l) (h:(V0.ag ds).rep w F ρ v):v = .agg l.toArray:=by
 obtain ⟨vs,rfl,h1⟩:=h;rw [eX hs h1]
theorem gT {w w':World} {S:Nat→Prop} {ρ:Nat→Value} {v:Value} {e:Ending} (h:o9 w v e w'):∃u,e = .returned u∧Below w.heap.size w w'∧(TV.c (.sc v)).rep w' (Gr S w.heap.size w') ρ u:=⟨v,h.1,h.2,rfl⟩
theorem wW {w w':World} {S:Nat→Prop} {ρ:Nat→Value} {α:Type} {t:TypeId} {l:List α} {e:Ending} {n:Nat} {pos:0<n} {f:α→List Value} {len:∀x,(f x).length=n} {one:∀x,∀u∈f x,u.oneCell'=true} (h:uu (El.plain n pos f len one) t w l e w') :
  ∃u,e = .returned u∧Below w.heap.size w w'∧(TV.c (.sl (El.plain n pos f len one) l)).rep w' (Gr S w.heap.size w') ρ u:=by
 obtain ⟨v,rfl,hown,hb⟩:=h;obtain ⟨A,cap,rfl,hr,h1,h2⟩:=OwnRows.nw hown;exact ⟨_,rfl,hb,A,cap,rfl,⟨h1,h2⟩,hr.grNew⟩
def D.okb:D→Bool
 | .sc x=>x.oneCell'
 | .sl ..=>true
 | _=>false
theorem D.okb_has {d:D} (h:d.okb=true) (k:Nat):d.has k=false:=by cases d <;> first|rfl|cases h
theorem D.okb_one {w:World} {F:Nat→Prop} {ρ:Nat→Value} {d:D} {v:Value} (h:d.okb=true) (hd:d.rep w F ρ v):v.oneCell'=true:=by
 cases d with
 | sc x=>have hd:v=x:=hd;rw [hd];exact h
 | sl E l=>obtain ⟨A,cap,rfl,_⟩:=hd;rfl
 | _=>cases h
def El.ofD {α:Type} (n:Nat) (pos:0<n) (f:α→List D) (len:∀x,(f x).length=n) (ok:∀x,(f x).all D.okb=true):El α where
 n:=n
 pos:=pos
 rep:=fun w S x cs=>All2 (D.rep w S fun _=>undef) (f x) cs
 len:=fun h=>by rw [←h.length,len]
 one:=fun {w S x cs} h=>qR h fun d hd u hu=>D.okb_one (List.all_eq_true.1 (ok x) d hd) hu
 same:=fun {w w' S S' x cs} h hk hS=>h.imp fun d v hd h1=>D.rep.mono h1 (fun b hb=>⟨hS b hb,hk b hb⟩) fun _ _=>rfl
@[reducible] def LQ {α:Type} (n:Nat) (pos:0<n) (f:α→List D) (len:∀x,(f x).length=n) (ok:∀x,(f x).all D.okb=true):Dp (El.ofD n pos f len ok) where
 deep:=f
 get:=fun {w F ρ x cs} h=>All2.imp (R:=D.rep w F fun _=>undef) h fun d v hd h1=>D.rep.mono h1 (fun b hb=>⟨hb,rfl⟩) fun k hk=>by rw [D.okb_has (List.all_eq_true.1 (ok x) d hd) k] at hk;cases hk
 put:=fun {w F ρ x cs} h=>h.imp fun d v hd h1=>D.rep.mono h1 (fun b hb=>⟨hb,rfl⟩) fun k hk=>by rw [D.okb_has (List.all_eq_true.1 (ok x) d hd) k] at hk;cases hk
 nok:=fun x k=>by
  rw [Bool.eq_false_iff];intro h;obtain ⟨d,hd,h1⟩:=List.any_eq_true.1 h;rw [D.okb_has (List.all_eq_true.1 (ok x) d hd) k] at h1;cases h1
theorem cz {P:Program} {f:FuncId} {args:List V0} {res:TV} (hen:∀(vs:Array Value) (w:World),(callFunc f vs).run P w = .ok (.enter f vs) w) (hok:Bb args [] [] res []=true)
  (h:∀(w:World) (S:Nat→Prop) (ρ:Nat→Value) (vs:List Value),In w S→All2 (V0.rep w S ρ) args vs→Calls P f vs.toArray w fun e w'=>∃v,e = .returned v∧Below w.heap.size w w'∧res.rep w' (Gr S w.heap.size w') ρ v):FSpec P f args [] [] res [] :=
 pC hen hok fun w S ρ vs _ hS ha=>h w S ρ vs hS ha
def Pr.a (p:Pr):V0:=.ag [.sc (.int .i64 p.site),.sc (.int .i64 p.inc),.sc (.int .i64 p.num)]
def Am.a (x:Am):V0:=.ag [.sc (.int .i64 x.mode),.sc (.int .i64 x.units)]
def Tm.a (x:Tm):V0:=.ag [.sc (.string x.name),.sc (.int .i64 x.am.mode),.sc (.int .i64 x.am.units)]
def Rs.a (r:Rs):V0:=.ag [.sc (.string r.name),.sc (.int .i64 r.kind),.sc (.int .i64 r.units),.sc (.int .i64 r.home)]
def Qu.d (q:Qu):List D:=[.sc (.string q.res.name),.sc (.int .i64 q.res.kind),.sc (.int .i64 q.res.units),.sc (.int .i64 q.res.home),.sl fV q.holds,.sl eM q.convs,.sl eM q.waits,.sc (.int .i64 q.gen)]
def Qu.a (q:Qu):V0:=.ag q.d
def dC:El Qu:=El.ofD 8 (by decide) Qu.d (fun _=>rfl) fun _=>rfl
instance:Dp dC:=LQ _ _ _ _ _
def Ex.d (d:Nat) (x:Ex):List D:=[.sc (.int .i64 x.k),.sc (.string x.atom.name),.sc (.int .i64 x.atom.am.mode),.sc (.int .i64 x.atom.am.units),.sl (nc d) x.kids]
def Ex.a (d:Nat) (x:Ex):V0:=.ag (x.d d)
def Lg.a (l:Lg):V0:=.ag [.sl iG l.entries,.sl i5 l.saves]
def Pc.a (d:Nat) (x:Pc):V0:=.ag (x.d d)
def En.a (x:En):V0:=.ag [.sc (.string x.name),.sc (.int .i64 x.before.mode),.sc (.int .i64 x.before.units),.sc (.int .i64 x.after.mode),.sc (.int .i64 x.after.units)]
def Rq.d (d:Nat) (r:Rq):List D:=[.sc (.int .i64 r.expr.k),.sc (.string r.expr.atom.name),.sc (.int .i64 r.expr.atom.am.mode),.sc (.int .i64 r.expr.atom.am.units),.sl (nc d) r.expr.kids,.sc (.int .i64 r.prio),.sc (.int .i64 r.limit)]
def Rq.a (d:Nat) (r:Rq):V0:=.ag (r.d d)
section
variable {w:World} {S:Nat→Prop} {ρ:Nat→Value} {v:Value}
theorem Pr.open {p:Pr} (h:p.a.rep w S ρ v):v=p.val:=zL rfl h
theorem Rs.open {p:Rs} (h:p.a.rep w S ρ v):v=p.val:=zL rfl h
theorem Qu.open {q:Qu} (h:q.a.rep w S ρ v):∃A1 A2 A3 c1 c2 c3,v=q.val A1 A2 A3 c1 c2 c3∧QS w S A1 A2 A3 q∧(q.holds.length≤c1∧c1≤maxLen)∧(q.convs.length≤c2∧c2≤maxLen)∧(q.waits.length≤c3∧c3≤maxLen):=by
 obtain ⟨cs,rfl,h⟩:=h
 match cs,h with
 | [_,_,_,_,_,_,_,_],⟨rfl,rfl,rfl,rfl,⟨A1,c1,rfl,h1,r1⟩,⟨A2,c2,rfl,h2,r2⟩,⟨A3,c3,rfl,h3,r3⟩,rfl,_⟩ =>
  exact ⟨A1,A2,A3,c1,c2,c3,rfl,⟨r1,r2,r3,Nat.le_trans h1.1 h1.2,Nat.le_trans h2.1 h2.2,Nat.le_trans h3.1 h3.2⟩,h1,h2,h3⟩
theorem Ex.open {d:Nat} {x:Ex} (h:(x.a d).rep w S ρ v):∃A c,v=x.val A c∧RowsAt (nc d) w S A x.kids∧(x.kids.length≤c∧c≤maxLen):=by
 obtain ⟨cs,rfl,h⟩:=h
 match cs,h with
 | [_,_,_,_,_],⟨rfl,rfl,rfl,rfl,⟨A,c,rfl,h1,r1⟩,_⟩=>exact ⟨A,c,rfl,r1,h1⟩
end
section
open Go.WideShapes Go.ChangeShapes Go.Deep Go.Joins
theorem De:Opens prog iG 141 (fun _=>True):=by
 intro H enc w base spare held fuel cs x h;obtain ⟨xs,n,_,_,hl,hlen,hf⟩:=DataW.trod_struct underlying141 h;have hl2:cs.length=5:=hl.trans (by kernel_rfl);have hg:∀(i:Nat) (f:Field),_=some f→∃y,DataW.trod enc prog w base spare held n f.type ((cs.drop f.offset).take (prog.cellsOf f.type))=some y:=fun i f hi=>by
  have h1:=hf i f hi;have h2:i<xs.length:=by rw [hlen];exact (Array.getElem?_eq_some_iff.1 hi).1
  rw [List.getElem?_eq_getElem h2] at h1;exact ⟨_,h1⟩
 match cs,hl2 with
 | [c0,c1,c2,c3,c4],_ =>
  obtain ⟨_,h0⟩:=hg 0 _ rfl;obtain ⟨_,h1⟩:=hg 1 _ rfl;obtain ⟨_,h2⟩:=hg 2 _ rfl;have e1:prog.cellsOf 9=1:=by kernel_rfl
  have e2:prog.cellsOf 37=2:=by kernel_rfl
  obtain ⟨a,g0,_⟩:=lH underlying9 h0;obtain ⟨⟨m,u⟩,g1,_⟩:=kx h1;obtain ⟨⟨p,q⟩,g2,_⟩:=kx h2;refine ⟨⟨a,⟨m,u⟩,⟨p,q⟩⟩,?_,trivial⟩;have g0':([c0,c1,c2,c3,c4].drop 0).take (prog.cellsOf 9)=[.string a]:=g0;have g1':([c0,c1,c2,c3,c4].drop 1).take (prog.cellsOf 37)=[.int .i64 m,.int .i64 u]:=g1;have g2':([c0,c1,c2,c3,c4].drop 3).take (prog.cellsOf 37)=[.int .i64 p,.int .i64 q]:=g2;rw [e1] at g0';rw [e2] at g1' g2';simp at g0' g1' g2';show [c0,c1,c2,c3,c4]=[.string a,.int .i64 m,.int .i64 u,.int .i64 p,.int .i64 q];rw [g0',g1'.1,g1'.2,g2'.1,g2'.2]
theorem Df:Opens prog i5 143 (fun _=>True):=by
 intro H enc w base spare held fuel cs x h;obtain ⟨y0,y1,n,_,hl,h0,h1⟩:=trod_struct2 underlying143 h;have hl2:cs.length=2:=hl.trans (by kernel_rfl)
 match cs,hl2 with
 | [c0,c1],_ =>
  have e1:prog.cellsOf 3=1:=by kernel_rfl
  obtain ⟨a,g0,_⟩:=bw underlying3 h0;obtain ⟨b,g1,_⟩:=bw underlying3 h1;refine ⟨⟨a,b⟩,?_,trivial⟩;have g0':([c0,c1].drop 0).take (prog.cellsOf 3)=[.int .i64 a]:=g0;have g1':([c0,c1].drop 1).take (prog.cellsOf 3)=[.int .i64 b]:=g1;rw [e1] at g0' g1';simp at g0' g1';show [c0,c1]=[.int .i64 a,.int .i64 b];rw [g0',g1']
section
variable {H:Type} {enc:TypeId×Value→H} {w:World} {base:Nat} {spare:Nat→Bool} {held:Bool}
theorem wX {fuel:Nat} {cs:List Value} {x:DataW H×List MemPlace} (h:DataW.trod enc prog w base spare held fuel 61 cs=some x):∃(g:Lg) (A1 A2:Option Addr) (c1 c2:Nat),cs=[.slice A1 g.entries.length c1,.slice A2 g.saves.length c2]∧(g.entries.length≤c1∧c1≤maxLen)∧RowsAt iG w (Lo w.heap.size) A1 g.entries∧(g.saves.length≤c2∧c2≤maxLen)∧RowsAt i5 w (Lo w.heap.size) A2 g.saves:=by
 obtain ⟨y0,y1,n,_,hl,h0,h1⟩:=trod_struct2 underlying61 h;have hl2:cs.length=2:=hl.trans (by kernel_rfl)
 match cs,hl2 with
 | [c0,c1],_ =>
  have e1:prog.cellsOf 58=1:=by kernel_rfl
  have e2:prog.cellsOf 59=1:=by kernel_rfl
  obtain ⟨es,⟨A1,k1,g1,a1,b1,r1⟩,_⟩:=(De.sl underlying58 (by kernel_rfl)) h0;obtain ⟨ss,⟨A2,k2,g2,a2,b2,r2⟩,_⟩:=(Df.sl underlying59 (by kernel_rfl)) h1;have g1':([c0,c1].drop 0).take (prog.cellsOf 58)=[.slice A1 es.length k1]:=g1;have g2':([c0,c1].drop 1).take (prog.cellsOf 59)=[.slice A2 ss.length k2]:=g2;rw [e1] at g1';rw [e2] at g2';simp at g1' g2';exact ⟨⟨es,ss⟩,A1,A2,k1,k2,by rw [g1',g2'],⟨a1,b1⟩,r1,⟨a2,b2⟩,r2⟩
theorem nO {fuel:Nat} {cs:List Value} {x:DataW H×List MemPlace} (h:DataW.trod enc prog w base spare held fuel 44 cs=some x):∃(r:Rq) (d:Nat) (A:Option Addr) (c:Nat),cs=[.int .i64 r.expr.k,.string r.expr.atom.name,.int .i64 r.expr.atom.am.mode,.int .i64 r.expr.atom.am.units,.slice A r.expr.kids.length c,.int .i64 r.prio,.int .i64 r.limit]∧(r.expr.kids.length≤c∧c≤maxLen)∧RowsAt (nc d) w (Lo w.heap.size) A r.expr.kids∧d≤fuel:=by
 obtain ⟨xs,n,hN,_,hl,hlen,hf⟩:=DataW.trod_struct underlying44 h;have hl2:cs.length=7:=hl.trans (by kernel_rfl);have hg:∀(i:Nat) (f:Field),_=some f→∃y,DataW.trod enc prog w base spare held n f.type ((cs.drop f.offset).take (prog.cellsOf f.type))=some y:=fun i f hi=>by
  have h1:=hf i f hi;have h2:i<xs.length:=by rw [hlen];exact (Array.getElem?_eq_some_iff.1 hi).1
  rw [List.getElem?_eq_getElem h2] at h1;exact ⟨_,h1⟩
 match cs,hl2 with
 | [c0,c1,c2,c3,c4,c5,c6],_ =>
  obtain ⟨_,h0⟩:=hg 0 _ rfl;obtain ⟨_,h1⟩:=hg 1 _ rfl;obtain ⟨_,h2⟩:=hg 2 _ rfl;have e1:prog.cellsOf 42=5:=by kernel_rfl
  have e2:prog.cellsOf 3=1:=by kernel_rfl
  obtain ⟨⟨k,⟨nm,⟨m,u⟩⟩,ks⟩,g0,_⟩:=CK n h0;obtain ⟨pr,g1,_⟩:=bw underlying3 h1;obtain ⟨li,g2,_⟩:=bw underlying3 h2;cases n with
  | zero=>exact g0.elim
  | succ n =>
   obtain ⟨A,cap,g0,a0,b0,r0⟩:=g0;refine ⟨⟨.mk k ⟨nm,⟨m,u⟩⟩ ks,pr,li⟩,n,A,cap,?_,⟨a0,b0⟩,r0,by omega⟩;have g0':([c0,c1,c2,c3,c4,c5,c6].drop 0).take (prog.cellsOf 42)=[.int .i64 k,.string nm,.int .i64 m,.int .i64 u,.slice A ks.length cap]:=g0;have g1':([c0,c1,c2,c3,c4,c5,c6].drop 5).take (prog.cellsOf 3)=[.int .i64 pr]:=g1;have g2':([c0,c1,c2,c3,c4,c5,c6].drop 6).take (prog.cellsOf 3)=[.int .i64 li]:=g2;rw [e1] at g0';rw [e2] at g1' g2';simp at g0' g1' g2';show [c0,c1,c2,c3,c4,c5,c6]=[.int .i64 k,.string nm,.int .i64 m,.int .i64 u,.slice A ks.length cap,.int .i64 pr,.int .i64 li];rw [g0'.1,g0'.2.1,g0'.2.2.1,g0'.2.2.2.1,g0'.2.2.2.2,g1',g2']
end
end
section
variable {P:Program} {s:Mst} {o:Oper}
theorem V0.ren_id_rep {w:World} {F:Nat→Prop} {ρ:Nat→Value} {d:V0} {v:Value}:(V0.ren (fun k=>k) d).rep w F ρ v↔d.rep w F ρ v:=V0.rep_ren fun _ _=>rfl
theorem FSpec.calls {f:FuncId} {args:List V0} {res:TV} (hs:FSpec P f args [] [] res []) (hok:Bb args [] [] res []=true) {w:World} {S:Nat→Prop} {ρ:Nat→Value} {vs:List Value} (hS:∀b,S b→b<w.heap.size) (hp:PinW w fun _=>False) (ha:All2 (V0.rep w S ρ) args vs) :
  Calls P f vs.toArray w fun e w'=>∃v,e = .returned v∧Below w.heap.size w w'∧res.rep w' (Gr S w.heap.size w') ρ v:=by
 simp only [Bb,Bool.and_eq_true] at hok;obtain ⟨⟨⟨⟨⟨⟨o1,_⟩,_⟩,_⟩,_⟩,o6⟩,_⟩:=hok;have hnor:∀k,res.has k=true→False:=fun k hk=>by have:=TV.in_has o6 hk;simp [av,aK] at this
 let c:Ctx:={ w0:=w,S:=S,X:=fun _=>False,nt:=1,K:=[],ρ0:=ρ,hS:=hS,hX:=fun _ h=>h.elim,hpin:=hp }
 let st:Mst:={ t:=fun _=>.c .any,h:=fun _=>none,f:=fun _=>false }
 have hF:∀b,S b↔Fz c st.h ρ w b:=fun b=>⟨fun h=>⟨.inl h,hS b h,fun k bx hk=>by cases hk⟩,fun ⟨h,h2,_⟩=>h.elim id fun h3=>absurd h2 (Nat.not_lt.2 h3)⟩;have hr:Rp c st ρ { tmps:=#[undef],defers:=[] } w :=
  ⟨rfl,rfl,Frx.refl _ _,fun _=>trivial,fun k b hk=>(by cases hk),fun k b g hk=>(by cases hk),fun k k' b b' g hk=>(by cases hk),fun k hk=>(by cases hk),⟨fun k hk=>(by cases hk),fun k t hk=>(by cases hk),fun k k' b hk=>(by cases hk)⟩⟩
 refine (hs.ca (fun k=>k) c st ρ { tmps:=#[undef],defers:=[] } w vs hr (fun k k' hk=>by simp [av,aK] at hk) (ha.imp fun d v _ h=>V0.ren_id_rep.2 (h.mono (fun b hb=>⟨(hF b).1 hb,rfl⟩) fun _ _=>rfl)) (fun k b hk=>by cases hk) fun k hk=>by simp [aK] at hk).mono ?_;rintro e w' ⟨v,rfl,h⟩;obtain ⟨ρ',h2⟩:=h (some 0) fun d hd=>by injection hd with hd;subst hd;exact Nat.one_pos
 have h3:=h2.frm;refine ⟨v,rfl,⟨h3.os,h3.tape,h3.output,h3.size,fun b hb=>h3.keep b hb fun h=>h⟩,?_⟩;have h4:=h2.tmp 0;have h5:((st.app (some 0) ⟨res.ren fun k=>k,el (fun k=>k) [],[].map fun k=>k⟩).t 0)=res.ren fun k=>k:=rfl;rw [h5] at h4;have h6:(({ tmps:=#[undef],defers:=[] }:Act).put (some 0) v).tmps.getD 0 undef=v:=rfl;rw [h6] at h4;refine ((TV.rep_ren (ρ':=ρ) fun k hk=>(hnor k hk).elim).1 h4).mono (fun b hb=>⟨⟨hb.2.1,hb.1.imp (fun h=>h) fun h=>h⟩,rfl⟩) fun k hk=>(hnor k hk).elim
inductive DR (h:Nat→Option Box) (R:List Nat):D→D→Prop
 | same (d:D):DR h R d d
 | own {k:Nat} {α:Type} {e:TypeId} {E:El α} {l:List α} (hR:aK R k=true) (hk:h k=some (.arr e E l)):DR h R (.own k) (.sl E l)
 | ocut {k:Nat} {α:Type} {e:TypeId} {E:El α} {l:List α} (hR:aK R k=true) (hk:h k=some (.arr e E l)):DR h R (.ocut k) (.sl E l)
 | full {α:Type} {E:El α} {l:List α}:DR h R (.full E l) (.sl E l)
 | nil {α:Type} {E:El α}:DR h R (.sc (.slice none 0 0)) (.sl E [])
inductive VR (h:Nat→Option Box) (R:List Nat):V0→V0→Prop
 | same (d:V0):VR h R d d
 | one {d0 d:D} (x:DR h R d0 d):VR h R (.one d0) (.one d)
 | ag {l0 l:List D} (x:All2 (DR h R) l0 l):VR h R (.ag l0) (.ag l)
def AR (s:Mst) (R:List Nat) (x:TV) (d:V0):Prop:=∃y,x = .v y∧VR s.h R y d
theorem DR.rep {h:Nat→Option Box} {R:List Nat} {d0 d:D} (hd:DR h R d0 d) {c:Ctx} {st:Mst} {ρ:Nat→Value} {a:Act} {w:World} {F:Nat→Prop} {v:Value} (hr:Rp c st ρ a w) (hh:∀k,aK R k=true→st.h k=h k) (hF:∀b,Fz c st.h ρ w b→F b)
  (hO:∀k bx g,aK R k=true→st.h k=some bx→kb (ρ k)=some g→F g) (hv:d0.rep w (Fz c st.h ρ w) ρ v):d.rep w F ρ v:=by
 cases hd with
 | same=>exact hv.mono (fun b hb=>⟨hF b hb,rfl⟩) fun _ _=>rfl
 | @own k α e E l hR hk =>
  have hv:v=ρ k:=hv;subst hv;have hk':=(hh k hR).trans hk;obtain ⟨A,cap,hA,hc,hp⟩:=eC (hr.hp k _ hk');refine ⟨A,cap,hA,hc,?_⟩;rcases Nat.eq_zero_or_pos l.length with h0|h0
  ·obtain rfl:l=[]:=List.eq_nil_of_length_eq_zero h0;exact RowsAt.nil _ _ _ _
  ·obtain ⟨g,xs,rfl,_,h3,h4,_⟩:=hp h0;exact ⟨xs,h3.same (fun _ _=>rfl) hF,fun _=>⟨g,0,rfl,hO k _ g hR hk' (by rw [hA];rfl),fun j u hu=>by rw [Nat.zero_add];exact h4 j u hu⟩⟩
 | @ocut k α e E l hR hk =>
  obtain ⟨A0,n0,cap0,c0,hρ0,hc0,rfl⟩:=hv;have hk':=(hh k hR).trans hk;obtain ⟨A,cap,hA,hc,hp⟩:=eC (hr.hp k _ hk');have hA':=hA;rw [hρ0] at hA';injection hA' with e1 e2 e3;subst e1;subst e2;subst e3;refine ⟨A0,c0,rfl,⟨hc0.1,Nat.le_trans hc0.2 hc.2⟩,?_⟩;rcases Nat.eq_zero_or_pos l.length with h0|h0
  ·obtain rfl:l=[]:=List.eq_nil_of_length_eq_zero h0;exact RowsAt.nil _ _ _ _
  ·obtain ⟨g,xs,rfl,_,h3,h4,_⟩:=hp h0;exact ⟨xs,h3.same (fun _ _=>rfl) hF,fun _=>⟨g,0,rfl,hO k _ g hR hk' (by rw [hA];rfl),fun j u hu=>by rw [Nat.zero_add];exact h4 j u hu⟩⟩
 | full=>obtain ⟨A,h1,h2,h3⟩:=hv;exact ⟨A,_,h1,⟨Nat.le_refl _,h2⟩,h3.mono hF⟩
 | nil=>exact ⟨none,0,hv,by simp [maxLen],RowsAt.nil _ _ _ _⟩
theorem DR.reps {h:Nat→Option Box} {R:List Nat} {c:Ctx} {st:Mst} {ρ:Nat→Value} {a:Act} {w:World} {F:Nat→Prop} (hr:Rp c st ρ a w) (hh:∀k,aK R k=true→st.h k=h k) (hF:∀b,Fz c st.h ρ w b→F b)
  (hO:∀k bx g,aK R k=true→st.h k=some bx→kb (ρ k)=some g→F g):∀{l0 l:List D} {cs:List Value},All2 (DR h R) l0 l→All2 (D.rep w (Fz c st.h ρ w) ρ) l0 cs→All2 (D.rep w F ρ) l cs
 | [],[],[],_,_=>trivial
 | _ :: _,_ :: _,_ :: _,x,k=>⟨x.1.rep hr hh hF hO k.1,DR.reps hr hh hF hO x.2 k.2⟩
 | [],_ :: _,_,x,_=>x.elim
 | _ :: _,[],_,x,_=>x.elim
 | [],[],_ :: _,_,k=>k.elim
 | _ :: _,_ :: _,[],_,k=>k.elim
theorem VR.rep {h:Nat→Option Box} {R:List Nat} {d0 d:V0} (hd:VR h R d0 d) {c:Ctx} {st:Mst} {ρ:Nat→Value} {a:Act} {w:World} {F:Nat→Prop} {v:Value} (hr:Rp c st ρ a w) (hh:∀k,aK R k=true→st.h k=h k) (hF:∀b,Fz c st.h ρ w b→F b)
  (hO:∀k bx g,aK R k=true→st.h k=some bx→kb (ρ k)=some g→F g) (hv:d0.rep w (Fz c st.h ρ w) ρ v):d.rep w F ρ v:=by
 cases hd with
 | same=>exact hv.mono (fun b hb=>⟨hF b hb,rfl⟩) fun _ _=>rfl
 | one x=>exact x.rep hr hh hF hO hv
 | ag x=>obtain ⟨cs,e,h1⟩:=hv;exact ⟨cs,e,DR.reps hr hh hF hO x h1⟩
theorem re {R:List Nat} {c:Ctx} {st:Mst} {ρ:Nat→Value} {a:Act} {w:World} {F:Nat→Prop} (hr:Rp c st ρ a w) (hh:∀k,aK R k=true→st.h k=s.h k) (hF:∀b,Fz c st.h ρ w b→F b)
  (hO:∀k bx g,aK R k=true→st.h k=some bx→kb (ρ k)=some g→F g):∀{l:List Operand} {m:List V0},(∀x∈l,st.ev x=s.ev x)→All2 (fun x d=>AR s R (s.ev x) d) l m→All2 (V0.rep w F ρ) m (l.map a.eval)
 | [],[],_,_=>trivial
 | x :: l,d :: m,he,h=>by
  refine ⟨?_,re hr hh hF hO (fun y hy=>he y (by simp [hy])) h.2⟩;obtain ⟨y,h1,h2⟩:=h.1;have h3:=hr.ev x;rw [he x (by simp),h1] at h3;exact h2.rep hr hh hF hO h3
 | [],_ :: _,_,h=>h.elim
 | _ :: _,[],_,h=>h.elim
def D.isSc:D→Bool
 | .sc _=>true
 | _=>false
def V0.isSc:V0→Bool
 | .one d=>d.isSc
 | .ag l=>l.all D.isSc
def TV.isSc:TV→Bool
 | .v x=>x.isSc
 | .tup l=>l.all V0.isSc
theorem D.sc_any {w w':World} {F F':Nat→Prop} {ρ ρ':Nat→Value} {d:D} (h:d.isSc=true) {v:Value} (hv:d.rep w F ρ v):d.rep w' F' ρ' v:=by
 cases d <;> first|exact hv|cases h
theorem D.scs_any {w w':World} {F F':Nat→Prop} {ρ ρ':Nat→Value}:∀{l:List D} {vs:List Value},l.all D.isSc=true→All2 (D.rep w F ρ) l vs→All2 (D.rep w' F' ρ') l vs
 | [],[],_,_=>trivial
 | d :: l,v :: vs,h,k=>by
  simp only [List.all_cons,Bool.and_eq_true] at h;exact ⟨D.sc_any h.1 k.1,D.scs_any h.2 k.2⟩
 | [],_ :: _,_,k=>k.elim
 | _ :: _,[],_,k=>k.elim
theorem V0.sc_any {w w':World} {F F':Nat→Prop} {ρ ρ':Nat→Value} {d:V0} (h:d.isSc=true) {v:Value} (hv:d.rep w F ρ v):d.rep w' F' ρ' v:=by
 cases d with
 | one d=>exact D.sc_any (d:=d) h hv
 | ag l=>obtain ⟨cs,e,h1⟩:=hv;exact ⟨cs,e,D.scs_any h h1⟩
theorem TV.sc_any {w w':World} {F F':Nat→Prop} {ρ ρ':Nat→Value} {d:TV} (h:d.isSc=true) {v:Value} (hv:d.rep w F ρ v):d.rep w' F' ρ' v:=by
 cases d with
 | v d=>exact V0.sc_any (d:=d) h hv
 | tup l =>
  obtain ⟨vs,e,h1⟩:=hv;refine ⟨vs,e,?_⟩;clear e;induction l generalizing vs with
  | nil=>cases vs with
   | nil=>trivial
   | cons=>exact h1.elim
  | cons x l ih=>cases vs with
   | nil=>exact h1.elim
   | cons v vs =>
    simp only [TV.isSc,List.all_cons,Bool.and_eq_true] at h;exact ⟨V0.sc_any h.1 h1.1,ih h.2 vs h1.2⟩
theorem TV.sc_has {d:TV} (h:d.isSc=true) (k:Nat):d.has k=false:=by
 have h1:∀d:D,d.isSc=true→d.has k=false:=fun d h=>by cases d <;> first|rfl|cases h
 have h2:∀x:V0,x.isSc=true→x.has k=false:=fun x h=>by
  cases x with
  | one d=>exact h1 d h
  | ag l=>simp only [V0.has,List.any_eq_false];intro d hd;simp [h1 d (List.all_eq_true.1 h d hd)]
 cases d with
 | v x=>exact h2 x h
 | tup l=>simp only [TV.has,List.any_eq_false];intro d hd;simp [h2 d (List.all_eq_true.1 h d hd)]
theorem wY {f:FuncId} {xs:Array Operand} {ts:Array TypeId} {a:Act} {w:World} {K:Act→World→Prop} {Q:Ending→World→Prop} (hen:∀(vs:Array Value) (w:World),(callFunc f vs).run P w = .ok (.enter f vs) w) (ho:o.op = .call { callee:=.value (.func f),args:=xs,argTypes:=ts })
  (hc:Calls P f (xs.toList.map a.eval).toArray w Q) (hK:∀e w',Q e w'→∃v,e = .returned v∧K (a.put o.dst v) w'):o.wp P a w K fun _ _ _=>False:=by
 have he:(xs.toList.map a.eval).toArray=xs.map a.eval:=by apply Array.toList_inj.1;simp
 rw [he] at hc;unfold Oper.wp execOp;simp only [ho,resolve,Act.eval,Deferred.ofValue,invoke,Sem.run_bind,Sem.run_pure,Result.andThen_ok,Array.append_empty,Array.empty_append];rw [hen];refine hc.mono fun e w' h=>?_;obtain ⟨v,rfl,h2⟩:=hK e w' h;exact h2
theorem Bu {f:FuncId} {xs:Array Operand} {ts:Array TypeId} {args:List V0} {res:TV} (R:List Nat) (hs:FSpec P f args [] [] res []) (ho:o.op = .call { callee:=.value (.func f),args:=xs,argTypes:=ts }) (hok:Bb args [] [] res []=true) (hb:res.isSc=true)
  (ha:All2 (fun x d=>AR s R (s.ev x) d) xs.toList args):LOp P o s R ⟨res,[],[]⟩:=by
 intro c st ρ a w hr h1 h2 h3 h4;have hargs:=re (F:=fun b=>b<w.heap.size) hr (fun k hk=>h2 k hk) (fun b hb=>hb.2.1) (fun k bx g _ hk hg=>hr.ltb hk hg) (fun x hx=>h1 x (by simp [ho,Op.operands,Call.operands];exact .inr (by simpa using hx))) ha;refine wY hs.en ho (hs.calls hok (fun b hb=>hb) hr.pin hargs) ?_;rintro e w' ⟨v,rfl,hB,hv⟩;exact ⟨v,rfl,ρ,hr.app (e:=⟨res,[],[]⟩) h4 (fun k hk=>by simp [aK] at hk) (fun _ _=>rfl) (fun k hk=>by simp [aA] at hk) (Frx.below hB) (fun k bx g hk=>by simp [aA] at hk) (fun k k' b b' g hk=>by simp [aA] at hk) (fun k hk=>by rw [TV.sc_has hb k] at hk;cases hk) (fun k k' bx hk=>by simp [aA] at hk) (fun k bx hk=>by simp [aA] at hk) (TV.sc_any hb hv)⟩
def j7 (ks:List Nat):List (Nat×Option Box):=ks.map fun k=>(k,none)
theorem dv {ks:List Nat} {k:Nat}:aA (j7 ks) k=aK ks k:=by
 induction ks with
 | nil=>rfl
 | cons x l ih=>simp only [j7,List.map_cons,aA,aK];rw [←ih];rfl
theorem fH {ks:List Nat} {h:Nat→Option Box} {k:Nat} (hk:aK ks k=true):hput (j7 ks) h k=none:=by
 induction ks with
 | nil=>simp [aK] at hk
 | cons x l ih =>
  simp only [j7,List.map_cons,hput];cases hx:x.beq k with
  | true=>rfl
  | false =>
   simp only [aK,hx,Bool.false_or] at hk;exact ih hk
theorem Bv {f:FuncId} {xs:Array Operand} {ts:Array TypeId} {args:List V0} {res:TV} (ks:List Nat) (hs:FSpec P f args [] [] res []) (ho:o.op = .call { callee:=.value (.func f),args:=xs,argTypes:=ts }) (hok:Bb args [] [] res []=true)
  (hks:ks.all (fun k=>(s.h k).isSome)=true) (ha:All2 (fun x d=>AR s ks (s.ev x) d) xs.toList args):LOp P o s ks ⟨res,j7 ks,[]⟩:=by
 intro c st ρ a w hr h1 h2 h3 h4;have hsome:∀k,aK ks k=true→∃b,st.h k=some b:=fun k hk=>by
  have:=jy hks k hk;rw [←h2 k hk] at this;exact Option.isSome_iff_exists.1 this
 have hF:∀b,Fz c st.h ρ w b→Fz c (hput (j7 ks) st.h) ρ w b:=fun b ⟨f1,f2,f3⟩=>⟨f1,f2,fun k bx hk=>by
  cases hh:aA (j7 ks) k with
  | true=>rw [fH (by rw [←dv];exact hh)] at hk;cases hk
  | false=>rw [bN hh] at hk;exact f3 k bx hk⟩
 have hO:∀k bx g,aK ks k=true→st.h k=some bx→kb (ρ k)=some g→Fz c (hput (j7 ks) st.h) ρ w g:=fun k bx g hk hb hg=>by
  refine ⟨(hr.inb k bx g hb hg).imp (c.hX g) id,hr.ltb hb hg,fun k' bx' hk' he=>?_⟩;cases hh:aA (j7 ks) k' with
  | true=>rw [fH (by rw [←dv];exact hh)] at hk';cases hk'
  | false =>
   rw [bN hh] at hk';have:=hr.dis k k' bx bx' g hb hk' hg he;subst this;rw [dv,hk] at hh;cases hh
 have hargs:=re hr (fun k hk=>h2 k hk) hF hO (fun x hx=>h1 x (by simp [ho,Op.operands,Call.operands];exact .inr (by simpa using hx))) ha;have hok':=hok;simp only [Bb,Bool.and_eq_true] at hok;obtain ⟨⟨⟨⟨⟨⟨_,_⟩,_⟩,_⟩,_⟩,o6⟩,_⟩:=hok;have hnor:∀k,res.has k=true→False:=fun k hk=>by have:=TV.in_has o6 hk;simp [av,aK] at this
 refine wY hs.en ho (hs.calls hok' (fun b hb=>hb.2.1) hr.pin hargs) ?_;rintro e w' ⟨v,rfl,hB,hv⟩;refine ⟨v,rfl,ρ,hr.app (e:=⟨res,j7 ks,[]⟩) h4 (fun k hk=>by simp [aK] at hk) (fun _ _=>rfl) (fun k hk=>.inr ?_) (Frx.below hB) (fun k bx g hk hb=>?_) (fun k k' b b' g hk _ hb=>?_) (fun k hk=>(hnor k hk).elim) (fun k k' bx hk hb=>?_) (fun k bx hk hb=>?_) ?_⟩
 ·obtain ⟨b,hb⟩:=hsome k (by rw [←dv];exact hk);exact hr.nfh hb
 ·rw [fH (by rw [←dv];exact hk)] at hb;cases hb
 ·rw [fH (by rw [←dv];exact hk)] at hb;cases hb
 ·rw [fH (by rw [←dv];exact hk)] at hb;cases hb
 ·rw [fH (by rw [←dv];exact hk)] at hb;cases hb
 ·refine hv.mono (fun b hb=>⟨⟨?_,hb.1,fun k bx hk he=>?_⟩,rfl⟩) fun _ _=>rfl
  ·rcases hb.2 with h|h
   ·exact h.1
   ·exact .inr (Nat.le_trans hr.frm.size h)
  ·rcases hb.2 with h|h
   ·exact h.2.2 k bx hk he
   ·cases hh:aA (j7 ks) k with
    | true=>rw [fH (by rw [←dv];exact hh)] at hk;cases hk
    | false =>
     rw [bN hh] at hk;have:=hr.ltb hk he;omega
end
section
variable {P:Program} {nt:Nat} {Ks:List Nat} {Q:Exit→Mst→Prop} {s:Mst}
theorem bV {x:Code} {α:Type} (t k:Nat) (e:TypeId) (E:El α) (ht:s.t t = .c (.sc (.slice none 0 0))) (hf:s.f k=true) (hnt:Nat.blt t nt=true) (h:AW P nt Ks x Q (s.app (some t) ⟨.c (.own k),[(k,some (.arr e E []))],[k]⟩)):AW P nt Ks x Q s:=by
 intro c ρ a w hc hK hr;have hkk:∀k':Nat,aA [(k,some (Box.arr e E ([]:List α)))] k'=true→k'=k:=fun k' h=>by
  simp only [aA,Bool.or_false] at h;exact (Nat.eq_of_beq_eq_true h).symm
 have hv:a.tmps.getD t undef = .slice none 0 0:=by have:=hr.tmp t;rw [ht] at this;exact this
 have hput:a.put (some t) (.slice none 0 0)=a:=by
  cases a with
  | mk tmps defers =>
   simp only [Act.put];congr 1
   apply Array.ext
   ·simp
   ·intro i h1 h2;rw [Array.getElem_setIfInBounds];split
    ·rename_i h3
     subst h3;rw [←hv];simp [Array.getD_eq_getD_getElem?,h2]
    ·rfl
 have h2:=hr.app (ρ':=upd ρ k (.slice none 0 0)) (w':=w) (dst:=some t) (v:=.slice none 0 0) (e:=⟨.c (.own k),[(k,some (.arr e E []))],[k]⟩) (fun d hd=>by injection hd with hd;subst hd;rw [hc];simpa using hnt)
  (fun k' hk=>by have h9:k'=k:=(by simp [aK] at hk;exact hk.symm);subst h9;exact ⟨hf,by simp [aA]⟩)
  (fun k' hk=>df (by simpa [aK] using hk)) (fun k' hk=>.inl (by rw [hkk k' hk];simp [aK])) (Frx.refl _ _)
  (fun k' bx g hk _ hg=>by rw [hkk k' hk,aI] at hg;cases hg) (fun k1 k2 b b' g h1 h2 _ _ _ _=>by rw [hkk k1 h1,hkk k2 h2]) (fun k' hk=>.inl (by simp [TV.has,V0.has,D.has] at hk;simp [aK,hk])) (fun k1 k2 bx hk hb hx=>by
   rw [hkk k2 hk] at hb;simp only [Go.Proofs.YtjndcdcbjidocaaGreatDoor.hput,Nat.beq_refl,cond_true,Option.some.injEq] at hb;subst hb;simp [Box.has] at hx)
  (fun k' bx hk hb=>by
   rw [hkk k' hk] at hb ⊢;simp only [Go.Proofs.YtjndcdcbjidocaaGreatDoor.hput,Nat.beq_refl,cond_true,Option.some.injEq] at hb;subst hb;rw [aI];exact ⟨[],World.ownsRow_nil _ _ _ _,rfl⟩)
  (aI _ _ _).symm
 rw [hput] at h2;exact h c _ a w hc hK h2
def D.frz (d:D) (k:Nat) (r:D):D:=match d with
 | .own j=>bif j.beq k then r else .own j
 | .slb j n=>bif j.beq k then .any else .slb j n
 | .ptr j n=>bif j.beq k then .any else .ptr j n
 | .optr j m i n=>bif j.beq k then .any else .optr j m i n
 | .ocut j=>bif j.beq k then r else .ocut j
 | .osl j m a b f=>bif j.beq k then .any else .osl j m a b f
 | .clo f ks=>bif ks.any (fun j=>j.beq k) then .any else .clo f ks
 | d=>d
def V0.frz (x:V0) (k:Nat) (r:D):V0:=match x with
 | .one d=>.one (d.frz k r)
 | .ag l=>.ag (l.map (fun d=>D.frz d k r))
def TV.frz (x:TV) (k:Nat) (r:D):TV:=match x with
 | .v x=>.v (x.frz k r)
 | .tup l=>.tup (l.map (fun d=>V0.frz d k r))
def Box.frz (x:Box) (k:Nat) (r:D):Box:=match x with
 | .box t cs=>.box t (cs.map (fun d=>D.frz d k r))
 | b=>b
def Mst.frz (s:Mst) (k:Nat) (r:D):Mst:={ t:=fun t=>(s.t t).frz k r,h:=fun j=>bif j.beq k then none else (s.h j).map (fun d=>Box.frz d k r),f:=s.f }
theorem D.frz_has {k j:Nat} {α:Type} {E:El α} {l:List α} {d:D} (h:(d.frz k (.sl E l)).has j=true):d.has j=true:=by
 cases d with
 | own i=>have h0:=h;simp only [D.frz] at h0;clear h;revert h0;cases hb:i.beq k <;> intro h0 <;> first|exact h0|cases h0
 | slb i n=>have h0:=h;simp only [D.frz] at h0;clear h;revert h0;cases hb:i.beq k <;> intro h0 <;> first|exact h0|cases h0
 | ptr i n=>have h0:=h;simp only [D.frz] at h0;clear h;revert h0;cases hb:i.beq k <;> intro h0 <;> first|exact h0|cases h0
 | optr i m p n=>have h0:=h;simp only [D.frz] at h0;clear h;revert h0;cases hb:i.beq k <;> intro h0 <;> first|exact h0|cases h0
 | ocut i=>have h0:=h;simp only [D.frz] at h0;clear h;revert h0;cases hb:i.beq k <;> intro h0 <;> first|exact h0|cases h0
 | osl i m a b f=>have h0:=h;simp only [D.frz] at h0;clear h;revert h0;cases hb:i.beq k <;> intro h0 <;> first|exact h0|cases h0
 | clo f ks=>have h0:=h;simp only [D.frz] at h0;clear h;revert h0;cases hb:ks.any (fun j=>j.beq k) <;> intro h0 <;> first|exact h0|cases h0
 | _=>exact h
theorem D.frzL_has {k j:Nat} {α:Type} {E:El α} {l:List α} {ds:List D} (h:(ds.map (fun d=>D.frz d k (.sl E l))).any (D.has j)=true):ds.any (D.has j)=true:=by
 obtain ⟨d,h1,h2⟩:=List.any_eq_true.1 h;obtain ⟨d0,h3,rfl⟩:=List.mem_map.1 h1;exact List.any_eq_true.2 ⟨d0,h3,D.frz_has h2⟩
theorem V0.frz_has {k j:Nat} {α:Type} {E:El α} {l:List α} {d:V0} (h:(d.frz k (.sl E l)).has j=true):d.has j=true:=by
 cases d with
 | one d=>exact D.frz_has (d:=d) h
 | ag ds=>exact D.frzL_has (ds:=ds) h
theorem TV.frz_has {k j:Nat} {α:Type} {E:El α} {l:List α} {d:TV} (h:(d.frz k (.sl E l)).has j=true):d.has j=true:=by
 cases d with
 | v d=>exact V0.frz_has (d:=d) h
 | tup ds =>
  obtain ⟨d,h1,h2⟩:=List.any_eq_true.1 h;obtain ⟨d0,h3,rfl⟩:=List.mem_map.1 h1;exact List.any_eq_true.2 ⟨d0,h3,V0.frz_has h2⟩
theorem Box.frz_has {k j:Nat} {α:Type} {E:El α} {l:List α} {d:Box} (h:(d.frz k (.sl E l)).has j=true):d.has j=true:=by
 cases d with
 | box t ds=>exact D.frzL_has (ds:=ds) h
 | _=>exact h
theorem il {x:Code} {α:Type} {e:TypeId} {E:El α} {l:List α} (k:Nat) (hk:s.h k=some (.arr e E l)) (h:AW P nt Ks x Q (s.frz k (.sl E l))):AW P nt Ks x Q s:=by
 intro c ρ a w hc hK hr;refine h c ρ a w hc hK ?_;have hh:∀j b,(s.frz k (.sl E l)).h j=some b→j.beq k=false∧∃b0,s.h j=some b0∧b=b0.frz k (.sl E l):=fun j b hb=>by
  simp only [Mst.frz] at hb;cases hj:j.beq k with
  | true=>rw [hj] at hb;cases hb
  | false =>
   rw [hj] at hb;cases hs:s.h j with
   | none=>simp only [cond_false,hs,Option.map_none] at hb;cases hb
   | some b0=>simp only [cond_false,hs,Option.map_some,Option.some.injEq] at hb;exact ⟨rfl,b0,rfl,hb.symm⟩
 have hF:∀b,Fz c s.h ρ w b→Fz c (s.frz k (.sl E l)).h ρ w b:=fun b ⟨f1,f2,f3⟩=>⟨f1,f2,fun j bx hj=>by obtain ⟨_,b0,h1,_⟩:=hh j bx hj;exact f3 j b0 h1⟩;have hsl:∀{v:Value},(D.ocut k).rep w (Fz c s.h ρ w) ρ v→(D.sl E l).rep w (Fz c (s.frz k (.sl E l)).h ρ w) ρ v:=fun hv=>yu (h:=s.h) hr hk hv hF fun g hg=>⟨(hr.inb k _ g hk hg).imp (c.hX g) id,hr.ltb hk hg,fun j bx hj he=>by
  obtain ⟨h0,b0,h1,_⟩:=hh j bx hj;have:=hr.dis k j _ b0 g hk h1 hg he;subst this;rw [Nat.beq_refl] at h0;cases h0⟩
 have hD:∀{d:D} {v:Value},d.rep w (Fz c s.h ρ w) ρ v→(d.frz k (.sl E l)).rep w (Fz c (s.frz k (.sl E l)).h ρ w) ρ v:=fun {d v} hd=>by
  have hm:d.rep w (Fz c (s.frz k (.sl E l)).h ρ w) ρ v:=hd.mono (fun b hb=>⟨hF b hb,rfl⟩) fun _ _=>rfl;cases d with
  | own j =>
   simp only [D.frz];cases hj:j.beq k with
   | false=>exact hm
   | true =>
    have hm:v=ρ j:=hm;rw [hm,Nat.eq_of_beq_eq_true hj];exact hsl (ny hr hk rfl)
  | slb j n=>simp only [D.frz];cases hj:j.beq k with
   | false=>exact hm
   | true=>trivial
  | ptr j n=>simp only [D.frz];cases hj:j.beq k with
   | false=>exact hm
   | true=>trivial
  | optr j m i n=>simp only [D.frz];cases hj:j.beq k with
   | false=>exact hm
   | true=>trivial
  | osl j m i n f=>simp only [D.frz];cases hj:j.beq k with
   | false=>exact hm
   | true=>trivial
  | clo f ks=>simp only [D.frz];cases hj:ks.any (fun j=>j.beq k) with
   | false=>exact hm
   | true=>trivial
  | ocut j =>
   simp only [D.frz];cases hj:j.beq k with
   | false=>exact hm
   | true =>
    rw [Nat.eq_of_beq_eq_true hj] at hd;exact hsl hd
  | _=>exact hm
 have hL:∀{ds:List D} {vs:List Value},All2 (D.rep w (Fz c s.h ρ w) ρ) ds vs→All2 (D.rep w (Fz c (s.frz k (.sl E l)).h ρ w) ρ) (ds.map (fun d=>D.frz d k (.sl E l))) vs:=fun {ds vs} h=>All2.mapL.2 (h.imp fun d v _ hd=>hD hd);have hV:∀{d:V0} {v:Value},d.rep w (Fz c s.h ρ w) ρ v→(d.frz k (.sl E l)).rep w (Fz c (s.frz k (.sl E l)).h ρ w) ρ v:=fun {d v} hd=>by
  cases d with
  | one d=>exact hD (d:=d) hd
  | ag ds=>obtain ⟨cs,e,h1⟩:=hd;exact ⟨cs,e,hL h1⟩
 refine ⟨hr.dfr,hr.siz,hr.frm,fun t=>?_,fun j b hj=>?_,fun j b g hj hg=>?_,fun j j' b b' g hj hj' hg hg'=>?_,hr.ent,⟨fun j hj=>?_,fun j t hj=>?_,fun j j' b hj hb=>?_⟩⟩
 ·have h1:=hr.tmp t;show TV.rep _ _ _ ((s.t t).frz k (.sl E l)) _;generalize s.t t=d at *
  cases d with
  | v d=>exact hV (d:=d) h1
  | tup ds=>obtain ⟨vs,e,h2⟩:=h1;exact ⟨vs,e,All2.mapL.2 (h2.imp fun d v _ hd=>hV hd)⟩
 ·obtain ⟨_,b0,h1,rfl⟩:=hh j b hj;have h2:=hr.hp j b0 h1;cases b0 with
  | box t cs=>obtain ⟨g,vs,e,hB,hA,h5⟩:=h2;exact ⟨g,vs,e,hB,hL hA,h5⟩
  | arr e' E' l'=>obtain ⟨xs,h3,h4⟩:=h2;exact ⟨xs,h3,h4.same (fun _ _=>rfl) hF⟩
  | mp l'=>exact h2
  | it k' n' l'=>exact h2
 ·obtain ⟨_,b0,h1,_⟩:=hh j b hj;exact hr.inb j b0 g h1 hg
 ·obtain ⟨_,b0,h1,_⟩:=hh j b hj;obtain ⟨_,b0',h1',_⟩:=hh j' b' hj';exact hr.dis j j' b0 b0' g h1 h1' hg hg'
 ·have hj:s.f j=true:=hj;simp only [Mst.frz,hr.wf.h j hj,Option.map_none,Bool.cond_self]
 ·have hj:s.f j=true:=hj;cases h9:((s.frz k (.sl E l)).t t).has j with
  | false=>rfl
  | true=>have:=TV.frz_has (d:=s.t t) h9;rw [hr.wf.t j t hj] at this;cases this
 ·have hj:s.f j=true:=hj;obtain ⟨_,b0,h1,rfl⟩:=hh j' b hb;cases h9:(b0.frz k (.sl E l)).has j with
  | false=>rfl
  | true=>have:=Box.frz_has h9;rw [hr.wf.b j j' b0 hj h1] at this;cases this
end
end Go.Proofs.YtjndcdcbjidocaaGreatDoor
