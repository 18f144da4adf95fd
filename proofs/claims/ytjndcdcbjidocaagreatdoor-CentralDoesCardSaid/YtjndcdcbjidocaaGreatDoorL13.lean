/- Part 13 of 33 of the proof of centralDoes_holds (no condition). -/
import Derived.Test.YtjndcdcbjidocaaGreatDoorL12
set_option linter.unusedVariables false
set_option linter.unusedSimpArgs false
set_option maxRecDepth 100000
set_option maxHeartbeats 64000000
namespace Go.Proofs.YtjndcdcbjidocaaGreatDoor
open Go.RowKit Go.Proofs.Tryz
def Jr (l:List Pc):Prop:=∀x∈l,(-1000000000000≤x.since∧x.since≤1000000000000)∧-1000000000000≤x.req.limit∧x.req.limit≤1000000000000
theorem rz (now:Int) (k:Nat) (x:Pc) (l:List Pc) (b:Int×Int):ik now k (x :: l) b=ik now (k+1) l (bif x.waiting && !decide (x.req.limit=0) && decide (x.since+x.req.limit≤now) && (decide (b.1<0) || decide (x.since+x.req.limit<b.2)) then ((k:Int),x.since+x.req.limit) else b):=rfl
theorem xr (d:Nat) (w:Wk) (h8:w.c.procs.length≤100000) (hx:Jr w.c.procs):FSpec prog 163 [gA] (HI d w) [3,4] (.i (eb w)) (HO d w):=by
 refine aP func163 ?_;obtain ⟨E,hE⟩:∃E,ik w.c.now 0 w.c.procs (-1,0)=E:=⟨_,rfl⟩;rw [show eb w=E.1 from congrArg Prod.fst hE];repeat' (first|refine af ?_ ?_|refine ae ?_|exact ah|refine ab fun hb=>?_)
 refine ai (fun y:Nat×Int×Int=>y.1≤w.c.procs.length∧ik w.c.now y.1 (w.c.procs.drop y.1) y.2=E) (fun y=>bt [0,1,2] [(0,.v gA),(3,.i y.2.1),(4,.i y.2.2),(5,.i y.1)] [(0,.box 89 (B8 w 1 2)),(1,.arr 63 (eI d) w.c.procs),(2,.arr 67 fG w.ev)]) (fun y=>w.c.procs.length-y.1) (0,-1,0) ⟨Nat.zero_le _,hE⟩ aN ?_;rintro ⟨i,b⟩ ⟨hi,hs⟩;dsimp only at *
 by_cases hlt:i<w.c.procs.length
 case neg =>
  obtain rfl:b=E:=by rw [←hs,List.drop_eq_nil_of_le (by omega)];rfl
  repeat' (first|refine af ?_ ?_|refine ae ?_|exact ah|refine ab fun hb=>?_|(refine bP (qf [(3,1),(4,2)]) ?_;exact aj))
 obtain ⟨x,hxe⟩:∃x,w.c.procs[i]=x:=⟨_,rfl⟩;have hgx:w.c.procs[i]? = some x:=by rw [List.getElem?_eq_getElem hlt,hxe]
 obtain ⟨⟨k1,k2⟩,k3,k4⟩:=hx x (hxe▸List.getElem_mem hlt);rw [List.drop_eq_getElem_cons hlt,hxe,rz] at hs;by_cases hc:(x.waiting && !decide (x.req.limit=0) && decide (x.since+x.req.limit≤w.c.now) && (decide (b.1<0) || decide (x.since+x.req.limit<b.2)))=true
 ·rw [hc,cond_true] at hs;simp only [Bool.and_eq_true,Bool.or_eq_true,Bool.not_eq_true',decide_eq_true_eq,decide_eq_false_iff_not] at hc;obtain ⟨⟨⟨c1,c2⟩,c3⟩,c4⟩:=hc;repeat' (first|refine af ?_ ?_|refine ae ?_|exact ah|refine ab fun hb=>?_)
  all_goals refine ⟨(i+1,(i:Int),x.since+x.req.limit),⟨by dsimp only;omega,hs⟩,by dsimp only;omega,?_⟩
  all_goals exact aN
 ·rw [Bool.eq_false_iff.2 hc,cond_false] at hs;repeat' (first|refine af ?_ ?_|refine ae ?_|exact ah|refine ab fun hb=>?_)
  all_goals first|(exfalso;refine hc ?_;simp only [Bool.and_eq_true,Bool.or_eq_true,Bool.not_eq_true',decide_eq_true_eq,decide_eq_false_iff_not];refine ⟨⟨⟨?_,?_⟩,?_⟩,?_⟩ <;> first|assumption|(left;assumption)|(right;assumption))|(refine ⟨(i+1,b),⟨by dsimp only;omega,hs⟩,by dsimp only;omega,?_⟩;exact aN)
theorem zW {all:List Sv} {n:Int}:∀{l:List Sv} {k:Nat} {a:Int},mq all n k a l=true→∀x∈l,0≤x.at_∧x.at_≤n
 | [],_,_,_=>by simp
 | s :: l,k,a,h=>by
  simp only [mq,Bool.and_eq_true,decide_eq_true_eq] at h;intro x hx;rcases List.mem_cons.1 hx with rfl|hx
  ·exact ⟨h.1.1.1.1.2,h.1.1.1.2⟩
  ·exact zW h.2 x hx
theorem vm {l:List En} {s:List Sv} (h:j5 l s=true):∀x∈s,0≤x.at_∧x.at_≤l.length:=by
 simp only [j5,Bool.and_eq_true] at h;exact zW h.2
theorem fI:∀(l:List En) (acc:List ByteArray),(dx acc l).length≤acc.length+l.length
 | [],acc=>by simp [dx]
 | e :: l,acc=>by
  rw [jK];cases dZ e.name acc with
  | true=>have:=fI l acc;simp;omega
  | false=>have:=fI l (gP e.name acc);rw [i7] at this;simp;omega
def JV (R:Lg×List Tm×Int):TV:=.tup [R.1.a,.one (.sl cw R.2.1),.one (.sc (.int .i64 R.2.2))]
theorem Ga (l:List Sv) (n:Int) {k:Int} (h:aT n 0 l=k):FSpec prog 137 [.one (.sl i5 l),.one (.sc (.int .i64 n))] [] [] (.i k) []:=h▸jJ l n
theorem JW (g:Lg) (n:Int) {R:Lg×List Tm×Int} (hR:cu g n=R):FSpec prog 175 [g.a,.one (.sc (.int .i64 n))] [] [] (JV R) []:=by
 refine aP func175 ?_;cases hV:oD g with
 | false =>
  obtain rfl:R=(.zero,[],2):=by rw [←hR];simp [cu,hV]
  repeat' (first|refine af ?_ ?_|refine aa 9 rfl (cB [] (cI g) ?_)|refine ae ?_|exact ah|refine ab fun hb=>?_|(refine cX (qf []) ?_;exact aj))
 | true =>
  obtain ⟨h1,h2⟩:=eP hV;have hat:=vm hV;by_cases hf:n≠0∧aT n 0 g.saves<0
  case pos =>
   obtain ⟨hn0,hf⟩:=hf;obtain rfl:R=(.zero,[],10):=by rw [←hR];simp [cu,hV,hn0,hf]
   repeat' (first|refine af ?_ ?_|(refine aa 9 rfl ?_;first|(refine cB [] (cI g) ?_)|(refine cB [] (jJ g.saves n) ?_))|refine ae ?_|exact ah|refine ab fun hb=>?_|(refine cX (qf []) ?_;exact aj))
  obtain ⟨at_,sv,hX,ha1,ha2,hs1,hs2,hcase⟩:∃(at_:Int) (sv:Nat),cc g n=⟨g.entries.take at_.toNat,g.saves.take sv⟩∧0≤at_∧at_≤g.entries.length∧0≤sv∧sv≤g.saves.length∧((n=0∧at_=0∧sv=0)∨(n≠0∧∃i,∃hi:i<g.saves.length,aT n 0 g.saves=(i:Int)∧g.saves[i].at_=at_∧sv=i+1)):=by
   by_cases hn:n=0
   ·exact ⟨0,0,by simp [cc,hn],by omega,by omega,by omega,by omega,.inl ⟨hn,rfl,rfl⟩⟩
   ·obtain ⟨i,hi,he,_⟩:=iE (n:=n) (l:=g.saves) (k:=0) (by by_cases h:aT n 0 g.saves<0;exact absurd ⟨hn,h⟩ hf;omega);have he2:aT n 0 g.saves=(i:Int):=by rw [he];simp
    have:=hat _ (List.getElem_mem hi);exact ⟨g.saves[i].at_,i+1,by simp [cc,hn,he2,hi,List.getD_eq_getElem?_getD],this.1,this.2,by omega,by omega,.inr ⟨hn,i,hi,he2,rfl,rfl⟩⟩
  have hl1:(g.entries.take at_.toNat).length=at_.toNat:=by simp;omega
  obtain ⟨N,hN⟩:∃N,bB (g.entries.drop at_.toNat)=N:=⟨_,rfl⟩;have hNl:N.length≤72:=by
   rw [←hN];have:=fI (g.entries.drop at_.toNat) [];simp at this;unfold bB;omega
  obtain rfl:R=(⟨g.entries.take at_.toNat,g.saves.take sv⟩,N.map fun m=>⟨m,ax (g.entries.take at_.toNat) m⟩,0):=by
   rw [←hR];unfold cu;rw [hX,hV,hl1,hN];rcases hcase with ⟨rfl,_⟩|⟨h0,i,hi,he,_⟩
   ·simp
   ·have hi0:¬((i:Int)<0):=by omega
    simp [h0,he,hi0]
  clear hR hf hX;rcases hcase with ⟨rfl,rfl,rfl⟩|⟨h0,i,hi,he,rfl,rfl⟩
  ·skip
   repeat' (first|refine af ?_ ?_|(refine aa 9 rfl ?_;first|(refine cB [] (cI g) ?_)|(refine cC [] (rm (g.entries.drop (Int.toNat 0)) (by simp;omega)) ?_))|refine ae ?_|exact ah|refine ab fun hb=>?_)
   refine bV 11 1000 39 cw rfl rfl rfl ?_;obtain ⟨X,hXg⟩:∃X:Lg,X=⟨g.entries.take (Int.toNat 0),g.saves.take 0⟩:=⟨_,rfl⟩;refine ai (fun x:Nat×List Tm=>x.1≤N.length∧x.2.length=x.1∧x.2++((N.drop x.1).map fun m=>(⟨m,ax (g.entries.take (Int.toNat 0)) m⟩:Tm))=N.map fun m=>⟨m,ax (g.entries.take (Int.toNat 0)) m⟩) (fun x=>bt [4,10,1000,1001,1002] [(4,.c (.ptr 4 0)),(10,.c (.ptr 10 0)),(11,.c (.own 1000)),(12,.c (.sl pS N)),(13,.i x.1)] [(4,.box 61 [.sc (.slice none 0 0),.sc (.slice none 0 0)]),(10,.box 61 [.sl iG (g.entries.take (Int.toNat 0)),.sl i5 (g.saves.take 0)]),(1000,.arr 39 cw x.2)]) (fun x=>N.length-x.1) (0,[]) ⟨Nat.zero_le _,rfl,rfl⟩ (by rw [←hN];exact aN) ?_;rintro ⟨k,acc⟩ ⟨hk,hal,hs⟩;dsimp only at *
   by_cases hlt:k<N.length
   ·rw [List.drop_eq_getElem_cons hlt,List.map_cons] at hs;repeat' (first|refine af ?_ ?_|(refine aa 8 rfl ?_;refine aV (ak rfl rfl (aB rfl rfl) (aD [⟨N[k],ax (g.entries.take (Int.toNat 0)) N[k]⟩] rfl rfl rfl rfl) rfl aL aL) rfl rfl rfl ?_)|refine aa 9 rfl (cB [] (jI (g.entries.take (Int.toNat 0)) N[k]) ?_)|refine ae ?_|exact ah|refine ab fun hb=>?_)
    refine ⟨(k+1,acc++[⟨N[k],ax (g.entries.take (Int.toNat 0)) N[k]⟩]),⟨by dsimp only;omega,by simp;omega,by dsimp only;rw [←hs];simp⟩,by dsimp only;omega,?_⟩;exact a8 (qf [(1000,73)])
   ·have e:acc=N.map fun m=>⟨m,ax (g.entries.take (Int.toNat 0)) m⟩:=by rw [←hs,List.drop_eq_nil_of_le (by omega)];simp
    rw [←e];repeat' (first|refine af ?_ ?_|refine ae ?_|exact ah|refine ab fun hb=>?_|(refine cX (qf []) ?_;exact aj))
  ·skip
   repeat' (first|refine af ?_ ?_|(refine aa 9 rfl ?_;first|(refine cB [] (cI g) ?_)|(refine cB [] (Ga g.saves n he) ?_)|(refine cC [] (rm (g.entries.drop g.saves[i].at_.toNat) (by simp;omega)) ?_))|refine ae ?_|exact ah|refine ab fun hb=>?_)
   refine bV 11 1000 39 cw rfl rfl rfl ?_;obtain ⟨X,hXg⟩:∃X:Lg,X=⟨g.entries.take g.saves[i].at_.toNat,g.saves.take (i+1)⟩:=⟨_,rfl⟩;refine ai (fun x:Nat×List Tm=>x.1≤N.length∧x.2.length=x.1∧x.2++((N.drop x.1).map fun m=>(⟨m,ax (g.entries.take g.saves[i].at_.toNat) m⟩:Tm))=N.map fun m=>⟨m,ax (g.entries.take g.saves[i].at_.toNat) m⟩) (fun x=>bt [4,10,1000,1001,1002] [(4,.c (.ptr 4 0)),(10,.c (.ptr 10 0)),(11,.c (.own 1000)),(12,.c (.sl pS N)),(13,.i x.1)] [(4,.box 61 [.sc (.slice none 0 0),.sc (.slice none 0 0)]),(10,.box 61 [.sl iG (g.entries.take g.saves[i].at_.toNat),.sl i5 (g.saves.take (i+1))]),(1000,.arr 39 cw x.2)]) (fun x=>N.length-x.1) (0,[]) ⟨Nat.zero_le _,rfl,rfl⟩ (by rw [←hN];exact aN) ?_;rintro ⟨k,acc⟩ ⟨hk,hal,hs⟩;dsimp only at *
   by_cases hlt:k<N.length
   ·rw [List.drop_eq_getElem_cons hlt,List.map_cons] at hs;repeat' (first|refine af ?_ ?_|(refine aa 8 rfl ?_;refine aV (ak rfl rfl (aB rfl rfl) (aD [⟨N[k],ax (g.entries.take g.saves[i].at_.toNat) N[k]⟩] rfl rfl rfl rfl) rfl aL aL) rfl rfl rfl ?_)|refine aa 9 rfl (cB [] (jI (g.entries.take g.saves[i].at_.toNat) N[k]) ?_)|refine ae ?_|exact ah|refine ab fun hb=>?_)
    refine ⟨(k+1,acc++[⟨N[k],ax (g.entries.take g.saves[i].at_.toNat) N[k]⟩]),⟨by dsimp only;omega,by simp;omega,by dsimp only;rw [←hs];simp⟩,by dsimp only;omega,?_⟩;exact a8 (qf [(1000,73)])
   ·have e:acc=N.map fun m=>⟨m,ax (g.entries.take g.saves[i].at_.toNat) m⟩:=by rw [←hs,List.drop_eq_nil_of_le (by omega)];simp
    rw [←e];repeat' (first|refine af ?_ ?_|refine ae ?_|exact ah|refine ab fun hb=>?_|(refine cX (qf []) ?_;exact aj))
def iA (n:ByteArray) (E:List En) (i:Nat) (s:Sv):Sv:=⟨s.label,s.at_-((E.take (min i s.at_.toNat)).countP fun e=>!oth n e:Nat)⟩
theorem xt (n:ByteArray) (E:List En) (s:Sv):iA n E 0 s=s:=by
 cases s;simp [iA]
theorem xu {n:ByteArray} {E:List En} {i:Nat} (hi:i<E.length) (h:oth n E[i]=true) (s:Sv):iA n E (i+1) s=iA n E i s:=by
 unfold iA;by_cases hs:s.at_.toNat≤i
 ·rw [Nat.min_eq_right hs,Nat.min_eq_right (by omega)]
 ·rw [Nat.min_eq_left (by omega),Nat.min_eq_left (by omega),List.take_succ_eq_append_getElem hi,List.countP_append];simp [h]
theorem zX {n:ByteArray} {E:List En} {i:Nat} {s:Sv} (hs:s.at_≤i):iA n E (i+1) s=iA n E i s:=by
 unfold iA;rw [Nat.min_eq_right (by omega),Nat.min_eq_right (by omega)]
theorem xv {n:ByteArray} {E:List En} {i:Nat} (hi:i<E.length) (h:oth n E[i]=false) {s:Sv} (hs:(i:Int)<s.at_):iA n E (i+1) s=⟨s.label,(iA n E i s).at_-1⟩:=by
 unfold iA;rw [Nat.min_eq_left (by omega),Nat.min_eq_left (by omega),List.take_succ_eq_append_getElem hi,List.countP_append];simp [h];omega
theorem zY {n:ByteArray} {E:List En} {s:Sv} (h0:0≤s.at_) (h1:s.at_≤E.length):iA n E E.length s=⟨s.label,((E.take s.at_.toNat).filter (oth n)).length⟩:=by
 unfold iA;rw [Nat.min_eq_right (by omega),←List.countP_eq_length_filter];have h2:=List.length_eq_countP_add_countP (oth n) (l:=E.take s.at_.toNat);have h3:(E.take s.at_.toNat).length=s.at_.toNat:=by simp;omega
 congr 1
 have h4:(fun a=>decide ¬oth n a=true)=fun e=>!oth n e:=by funext e;cases oth n e <;> rfl
 rw [h4] at h2;omega
theorem rA {n:ByteArray} {E:List En} {i:Nat} {s:Sv} (h0:0≤s.at_):0≤(iA n E i s).at_∧(iA n E i s).at_≤s.at_:=by
 unfold iA;have:=List.countP_le_length (p:=fun e=>!oth n e) (l:=E.take (min i s.at_.toNat));rw [List.length_take] at this;dsimp only;omega
def yR (n:ByteArray) (E:List En) (S:List Sv) (i k:Nat):List Sv:=(S.take k).map (iA n E (i+1))++(S.drop k).map (iA n E i)
theorem p9 {n:ByteArray} {E:List En} {S:List Sv} {i k:Nat}:(yR n E S i k).length=S.length:=by simp [yR];omega
theorem xw {n:ByteArray} {E:List En} {S:List Sv} {i:Nat}:yR n E S i 0=S.map (iA n E i):=by simp [yR]
theorem zZ {n:ByteArray} {E:List En} {S:List Sv} {i k:Nat} (h:S.length≤k):yR n E S i k=S.map (iA n E (i+1)):=by simp [yR,List.take_of_length_le h,List.drop_eq_nil_of_le h]
theorem vn {n:ByteArray} {E:List En} {S:List Sv} {i k:Nat} (h:k≤S.length) (j:Nat):(yR n E S i k)[j]? = S[j]?.map fun s=>if j<k then iA n E (i+1) s else iA n E i s:=by
 have hl:((S.take k).map (iA n E (i+1))).length=k:=by rw [List.length_map,List.length_take];omega
 unfold yR;by_cases hj:j<k
 ·rw [List.getElem?_append_left (by omega),List.getElem?_map,List.getElem?_take_of_lt hj];simp [hj]
 ·rw [List.getElem?_append_right (by omega),hl,List.getElem?_map,List.getElem?_drop,show k+(j-k)=j by omega];simp [hj]
theorem yS {n:ByteArray} {E:List En} {S:List Sv} {i k:Nat} (h:k<S.length):(yR n E S i k)[k]? = some (iA n E i S[k]):=by
 rw [vn (by omega)];simp [h]
theorem vo {n:ByteArray} {E:List En} {S:List Sv} {i k:Nat} (h:k<S.length) {z:Sv} (hz:iA n E (i+1) S[k]=z):(yR n E S i k).set k z=yR n E S i (k+1):=by
 subst hz;apply List.ext_getElem?
 intro j;rw [List.getElem?_set,p9,vn (by omega),vn (by omega)];by_cases hj:k=j
 ·subst hj;simp [h]
 ·rw [if_neg hj];have:(j<k↔j<k+1):=by omega
  simp [this]
theorem xy {n:ByteArray} {E:List En} {S:List Sv} {i k:Nat} (h:k<S.length) (hz:iA n E (i+1) S[k]=iA n E i S[k]):yR n E S i k=yR n E S i (k+1):=by
 rw [←vo h rfl,hz];apply List.ext_getElem?
 intro j;rw [List.getElem?_set];by_cases hj:k=j
 ·subst hj;rw [yS h,p9];simp [h]
 ·rw [if_neg hj]
def He (R:Lg×Bool):TV:=.tup [R.1.a,.one (.sc (.bool R.2))]
theorem IC (g:Lg) (n:ByteArray) {R:Lg×Bool} (hR:fY g n=R):FSpec prog 174 [g.a,.one (.sc (.string n))] [] [] (He R) []:=by
 refine aP func174 ?_;cases hV:oD g with
 | false =>
  obtain rfl:R=(.zero,false):=by rw [←hR];simp [fY,hV]
  repeat' (first|refine af ?_ ?_|refine aa 9 rfl (cB [] (cI g) ?_)|refine ae ?_|exact ah|refine ab fun hb=>?_|(refine fe (qf []) ?_;exact aj))
 | true =>
  obtain ⟨h1,h2⟩:=eP hV;have hat:=vm hV;obtain ⟨E,hE⟩:∃E,g.entries=E:=⟨_,rfl⟩;obtain ⟨S,hS⟩:∃S,g.saves=S:=⟨_,rfl⟩;repeat' (first|refine af ?_ ?_|refine aa 9 rfl (cB [] (cI g) ?_)|refine ae ?_|exact ah|refine ab fun hb=>?_)
  refine lU 6 0 1000 141 iG rfl rfl rfl rfl ?_;have hX:fO g n=⟨E.filter (oth n),S.map (iA n E E.length)⟩:=by
   unfold fO;rw [←hE,←hS];congr 1
   refine List.map_congr_left fun x hx=>?_;obtain ⟨k1,k2⟩:=hat x hx;exact (zY k1 k2).symm
  have hatS:∀x∈S,0≤x.at_∧x.at_≤E.length:=by rw [←hE,←hS];exact hat
  have hst:fY g n=bif decide ((E.filter (oth n)).length=E.length) then (.zero,false) else (⟨E.filter (oth n),S.map (iA n E E.length)⟩,true):=by
   unfold fY;rw [hV,hX,hE];rfl
  rw [hst] at hR;have hf72:∀i,((E.take i).filter (oth n)).length≤i:=fun i=>by
   have:=List.length_filter_le (oth n) (E.take i);rw [List.length_take] at this;omega
  have hE72:E.length≤72:=by rw [←hE];exact h1
  have hS4:S.length≤4:=by rw [←hS];exact h2
  clear hat hst hX h1 hb;refine ai (fun i=>i≤E.length) (fun i=>bt [2,4,6,13,1000,1001] [(1,.c (.sc (.string n))),(2,.c (.ptr 2 0)),(4,.c (.ptr 4 0)),(6,.c (.ptr 6 0)),(7,.i i)] [(2,.box 61 [.sl iG E,.sl i5 S]),(4,.box 61 [.sc (.slice none 0 0),.sc (.slice none 0 0)]),(6,.box 61 [.own 1000,.own 1001]),(1000,.arr 141 iG ((E.take i).filter (oth n))),(1001,.arr 143 i5 (S.map (iA n E i)))]) (fun i=>E.length-i) 0 (Nat.zero_le _) (by rw [show iA n E 0=id from funext (xt n E),List.map_id];subst hE hS;exact a8 (qf [(1001,16)])) ?_;rintro i hi;try dsimp only at *
  by_cases hlt:i<E.length
  case neg =>
   obtain rfl:i=E.length:=by omega
   rw [List.take_length];by_cases hfl:(E.filter (oth n)).length=E.length
   ·obtain rfl:R=(.zero,false):=by rw [←hR,decide_eq_true hfl];rfl
    repeat' (first|refine af ?_ ?_|refine ae ?_|exact ah|(refine ab fun hb=>?_;first|(exact absurd (Int.ofNat.inj hb) (by omega))|skip)|(refine fe (qf []) ?_;exact aj))
   ·obtain rfl:R=(⟨E.filter (oth n),S.map (iA n E E.length)⟩,true):=by rw [←hR,decide_eq_false hfl];rfl
    repeat' (first|refine af ?_ ?_|refine ae ?_|exact ah|(refine ab fun hb=>?_;first|(exact absurd (Int.ofNat.inj hb) hfl)|skip)|(refine fe (qf []) ?_;exact aj))
  obtain ⟨e,he⟩:∃e,E[i]=e:=⟨_,rfl⟩;have hge:E[i]? = some e:=by rw [List.getElem?_eq_getElem hlt,he]
  by_cases hnm:e.name.toList=n.toList
  case neg =>
   have ho:oth n e=true:=by simp [oth,ba,hnm]
   have hf1:=hf72 i;repeat' (first|refine af ?_ ?_|(refine aa 8 rfl ?_;refine aV (ak rfl rfl (aB rfl rfl) (aD [e] rfl rfl rfl rfl) rfl aL aL) rfl rfl rfl ?_)|refine ae ?_|exact ah|refine ab fun hb=>?_)
   refine ⟨i+1,by omega,by omega,?_⟩;have e1:(E.take (i+1)).filter (oth n)=(E.take i).filter (oth n)++[e]:=by rw [List.take_succ_eq_append_getElem hlt,he,List.filter_append];simp [ho]
   have e2:S.map (iA n E (i+1))=S.map (iA n E i):=List.map_congr_left fun x _=>xu hlt (by rw [he];exact ho) x;rw [e1,e2];exact a8 (qf [(1000,41)])
  have ho:oth n e=false:=by simp [oth,ba,hnm]
  have ho':oth n E[i]=false:=by rw [he];exact ho
  have e1:(E.take (i+1)).filter (oth n)=(E.take i).filter (oth n):=by rw [List.take_succ_eq_append_getElem hlt,he,List.filter_append];simp [ho]
  repeat' (first|refine af ?_ ?_|refine ae ?_|exact ah|refine ab fun hb=>?_)
  refine ai (fun k=>k≤S.length) (fun k=>bt [2,4,6,13,1000,1001] [(1,.c (.sc (.string n))),(2,.c (.ptr 2 0)),(4,.c (.ptr 4 0)),(6,.c (.ptr 6 0)),(7,.i i),(8,.i k)] [(2,.box 61 [.sl iG E,.sl i5 S]),(4,.box 61 [.sc (.slice none 0 0),.sc (.slice none 0 0)]),(6,.box 61 [.own 1000,.own 1001]),(1000,.arr 141 iG ((E.take i).filter (oth n))),(1001,.arr 143 i5 (yR n E S i k))]) (fun k=>S.length-k) 0 (Nat.zero_le _) (by rw [xw];exact aN) ?_;rintro k hk;try dsimp only at *
  have hdl:=p9 (n:=n) (E:=E) (S:=S) (i:=i) (k:=k);by_cases hlk:k<S.length
  case neg =>
   have hend:=zZ (n:=n) (E:=E) (S:=S) (i:=i) (k:=k) (by omega);rw [hend] at hdl ⊢;clear hend;repeat' (first|refine af ?_ ?_|refine ae ?_|exact ah|refine ab fun hb=>?_)
   refine ⟨i+1,by omega,by omega,?_⟩;rw [e1];exact aN
  obtain ⟨x,hx⟩:∃x,S[k]=x:=⟨_,rfl⟩;have hgx:S[k]? = some x:=by rw [List.getElem?_eq_getElem hlk,hx]
  have hgd:=yS (n:=n) (E:=E) (i:=i) hlk;rw [hx] at hgd;obtain ⟨k1,k2⟩:=hatS x (hx▸List.getElem_mem hlk);have hyb:=rA (n:=n) (E:=E) (i:=i) k1;obtain ⟨y,hy⟩:∃y,iA n E i x=y:=⟨_,rfl⟩;by_cases hgt:(i:Int)<x.at_
  ·have hz:iA n E (i+1) x=⟨x.label,y.at_-1⟩:=by rw [xv hlt ho' hgt,hy]
   have hyl:y.label=x.label:=by rw [←hy];rfl
   rw [hy] at hgd hyb;have hset:=vo (i:=i) (n:=n) (E:=E) hlk (z:=⟨y.label,y.at_-1⟩) (by rw [hx,hz,hyl]);repeat' (first|refine af ?_ ?_|refine ae ?_|(refine aa 4 rfl ?_;refine aR (aq (z:=⟨y.label,y.at_-1⟩) rfl rfl rfl rfl hgd rfl rfl rfl rfl (Nat.le_of_ble_eq_true rfl) rfl rfl) rfl rfl rfl ?_)|exact ah|refine ab fun hb=>?_)
   refine ⟨k+1,by omega,by omega,?_⟩;rw [←hset];exact aN
  ·have hsm:=xy (n:=n) (E:=E) (i:=i) hlk (by rw [hx];exact zX (by omega));repeat' (first|refine af ?_ ?_|refine ae ?_|exact ah|refine ab fun hb=>?_)
   refine ⟨k+1,by omega,by omega,?_⟩;rw [←hsm];exact aN
structure Kp (w w':Wk):Prop where
 kw:KW w.c.procs w'.c.procs
 now:w'.c.now=w.c.now
 pr:w'.c.procs.map (·.proc)=w.c.procs.map (·.proc)
 nm:fk w'.c.queues=fk w.c.queues
theorem Kp.trans {a b c:Wk} (h:Kp a b) (k:Kp b c):Kp a c:=⟨h.kw.trans k.kw,k.now.trans h.now,k.pr.trans h.pr,k.nm.trans h.nm⟩
theorem Kp.len {a b:Wk} (h:Kp a b):b.c.procs.length=a.c.procs.length:=by have:=congrArg List.length h.pr;simpa using this
theorem ja {w:Wk} (h:CI w.c):CI (bS w).c∧(∀x∈(bS w).c.procs,dA (bS w).c.queues x=false)∧Kp w (bS w):=by
 obtain ⟨h1,h2,h3,h4,_,h6,_,h8⟩:=i9 h;exact ⟨h1,h2,h6,h4,h3,h8⟩
theorem md {w:Wk} (h:CI w.c):KN w.c.procs (bS w).c.procs:=(i9 h).2.2.2.2.2.2.1
def KO (p:Pr) (l l':List Pc):Prop:=∀x∈l,x.proc≠p→∃x'∈l',GrP x x'
theorem KO.then {p:Pr} {a b c:List Pc} (h:KO p a b) (k:KG b c):KO p a c:=fun x hx hp=>by
 obtain ⟨y,hy,h1⟩:=h x hx hp;obtain ⟨z,hz,h2⟩:=k y hy;exact ⟨z,hz,h1.trans h2⟩
theorem KO.pre {p:Pr} {a b c:List Pc} (h:KG a b) (k:KO p b c):KO p a c:=fun x hx hp=>by
 obtain ⟨y,hy,h1⟩:=h x hx;obtain ⟨z,hz,h2⟩:=k y hy (by rw [h1.proc];exact hp);exact ⟨z,hz,h1.trans h2⟩
theorem KO.set {p:Pr} {l:List Pc} {i:Nat} (hi:i<l.length) (hp:l[i].proc=p) (y:Pc):KO p l (l.set i y):=fun x hx hxp=>by
 obtain ⟨j,hj,e⟩:=List.mem_iff_getElem.1 hx;have hji:j≠i:=fun e2=>by subst e2;rw [e] at hp;exact hxp hp
 refine ⟨x,List.mem_iff_getElem.2 ⟨j,by simpa using hj,?_⟩,GrP.refl x⟩;rw [List.getElem_set_ne (fun e2=>hji e2.symm)];exact e
theorem GrP.led {x y:Pc} (hp:y.proc=x.proc) (hl:y.led=x.led):GrP x y:=⟨hp,⟨[],by rw [hl];simp⟩,by rw [hl]⟩
theorem Gb {w:Wk} {i:Nat} (hi:i<w.c.procs.length):KG w.c.procs (aU w i).c.procs:=by
 have hps:(aU w i).c.procs=w.c.procs.set i { w.pc i with gen:=aS (w.pc i).gen }:=rfl;rw [hps];exact KG.set hi (GrP.led (by rw [bU hi]) (by rw [bU hi]))
theorem fR {l:List Pc} {i:Nat} (hi:i<l.length) {y:Pc} (hp:y.proc=l[i].proc):(l.set i y).map (·.proc)=l.map (·.proc):=by
 rw [List.map_set];apply List.ext_getElem
 ·simp
 ·intro j h1 h2;rw [List.getElem_set];split
  ·next e=>subst e;simp [hp]
  ·rfl
theorem dV {w:Wk} {i:Nat} (h:CI w.c) (hi:i<w.c.procs.length) (hw:(w.pc i).waiting=true) :
  CI (az w i).c∧cJ (az w i).c.procs+1=cJ w.c.procs∧Kp w (az w i)∧(az w i).c.procs=w.c.procs.set i { w.pc i with waiting:=false,req:=Rq.zero,since:=0 }∧∀n,aW (az w i).c.queues n=true→FitR (az w i).c.queues n (w.pc i):=by
 have hpc:=bU hi;have hinv:=h.inv _ (List.getElem_mem hi);rw [←hpc] at hinv;obtain ⟨hwt,hfit⟩:=hinv.wat hw;obtain ⟨hve,hrsl⟩:=oM hwt.rs;obtain ⟨hws,hfr,hdt⟩:=rp (cy (w.pc i).req.expr) w (w.pc i) h.tv hinv.stat (mZ _) hrsl hfit;have e:az w i=dQ (cU (w.pc i) (cy (w.pc i).req.expr) w) i:=rfl;generalize hg:cU (w.pc i) (cy (w.pc i).req.expr) w=g at *
 rw [e];have hgi:i<g.c.procs.length:=by rw [hws.procs];exact hi
 have hgp:g.pc i=w.pc i:=by unfold Wk.pc;rw [hws.procs]
 have hps:(dQ g i).c.procs=w.c.procs.set i { w.pc i with waiting:=false,req:=Rq.zero,since:=0 }:=by
  unfold dQ Wk.setP;rw [hgp];show g.c.procs.set i _=_;rw [hws.procs]
 have hfin:PInv g.c.queues g.c.now { w.pc i with waiting:=false,req:=Rq.zero,since:=0 }:=xp (hinv.stat.tp hws.tp) fun n hn=>hfr n (by rw [hws.tp.hasE] at hn;exact hn);refine ⟨h.upd (c':=(dQ g i).c) hi hps hws.now (by rw [hpc]) hws.tp hfin,?_,⟨by rw [hps];exact KW.set rfl,hws.now,by rw [hps];exact fR hi (by rw [hpc]),hws.tp.nm⟩,hps,fun n hn=>hfr n (by
  have h5:aW g.c.queues n=true:=hn;rw [hws.tp.hasE] at h5;exact h5)⟩
 rw [hps];exact tT hi (by rw [←hpc];exact hw) rfl
theorem iI {w:Wk} {i:Nat} (h:CI w.c) (hi:i<w.c.procs.length) (hw:(w.pc i).waiting=false):CI (aU w i).c∧Kp w (aU w i)∧cJ (aU w i).c.procs=cJ w.c.procs:=by
 have hpc:=bU hi;have hinv:=h.inv _ (List.getElem_mem hi);rw [←hpc] at hinv;have hps:(aU w i).c.procs=w.c.procs.set i { w.pc i with gen:=aS (w.pc i).gen }:=rfl;refine ⟨h.upd (c':=(aU w i).c) hi hps rfl (by rw [hpc]) (TP.refl h.tv _) (hinv.regen _),⟨by rw [hps];exact KW.set hw,rfl,by rw [hps];exact fR hi (by rw [hpc]),rfl⟩,?_⟩;rw [hps];unfold cJ;have gen:∀(l:List Pc) (i:Nat) (y:Pc),(∀h:i<l.length,l[i].waiting=y.waiting)→((l.set i y).filter (·.waiting)).length=(l.filter (·.waiting)).length:=by
  intro l;induction l with
  | nil=>intro i y _;rfl
  | cons x l ih =>
   intro i y hxy;cases i with
   | zero =>
    have:x.waiting=y.waiting:=hxy (by simp);rw [List.set_cons_zero,List.filter_cons,List.filter_cons,this];cases y.waiting <;> rfl
   | succ i =>
    have:=ih i y (fun h=>by have:=hxy (by simpa using h);simpa using this);rw [List.set_cons_succ,List.filter_cons,List.filter_cons];cases x.waiting with
    | true=>rw [if_pos rfl,if_pos rfl,List.length_cons,List.length_cons,this]
    | false=>rw [if_neg (by simp),if_neg (by simp),this]
 exact gen _ _ _ fun h=>by rw [←hpc]
theorem jL {w:Wk} {i:Nat} (h:CI w.c) (hi:i<w.c.procs.length) (hw:(w.pc i).waiting=true):DrT (w.pc i) (cy (w.pc i).req.expr) w:=by
 have hpc:=bU hi;have hinv:=h.inv _ (List.getElem_mem hi);rw [←hpc] at hinv;obtain ⟨hwt,hfit⟩:=hinv.wat hw;obtain ⟨hve,hrsl⟩:=oM hwt.rs;exact (rp (cy (w.pc i).req.expr) w (w.pc i) h.tv hinv.stat (mZ _) hrsl hfit).2.2
def Gc (w:Wk) (i:Nat) (r:Rq):Wk:=aU (w.setP i { w.pc i with waiting:=true,req:=r,since:=w.c.now }) i
def z6 (w:Wk) (i:Nat) (r:Rq):Wk:=ck (w.pc i).proc r.prio (cy r.expr) (Gc w i r)
theorem lA {w:Wk} {i:Nat} {r:Rq} (h:CI w.c) (hi:i<w.c.procs.length) (hw:(w.pc i).waiting=false) (hq:oG r=true) (hr:gw w.c.queues r.expr=0) :
  CI (z6 w i r).c∧(z6 w i r).c.procs=w.c.procs.set i { w.pc i with waiting:=true,req:=r,since:=w.c.now,gen:=aS (w.pc i).gen }∧(z6 w i r).c.now=w.c.now∧fk (z6 w i r).c.queues=fk w.c.queues:=by
 have hpc:=bU hi;unfold z6 Gc;have hinv:=h.inv _ (List.getElem_mem hi);rw [←hpc] at hinv;obtain ⟨_,_,hrun⟩:=hinv.run hw;obtain ⟨hve,hrsl⟩:=oM hr;have hx:aU (w.setP i { w.pc i with waiting:=true,req:=r,since:=w.c.now }) i=w.setP i { w.pc i with waiting:=true,req:=r,since:=w.c.now,gen:=aS (w.pc i).gen }:=by
  unfold aU;rw [fQ hi,gf]
 rw [hx];have hst:PStat w.c.queues { w.pc i with waiting:=true,req:=r,since:=w.c.now,gen:=aS (w.pc i).gen }:=⟨hinv.stat.vp,hinv.stat.cost,hinv.stat.led,by have:=nD (n:=(w.pc i).gen);show 0≤aS (w.pc i).gen∧aS (w.pc i).gen≤1073741824;omega,hinv.stat.hf⟩;have hprio:0≤r.prio∧r.prio≤7:=by unfold oG at hq;simp only [Bool.and_eq_true,decide_eq_true_eq] at hq;exact ⟨hq.1.1.1.2,hq.1.1.2⟩
 obtain ⟨hws,hfw,_⟩:=tQ (w.c.procs.map (fun x:Pc=>x.proc)) (by simpa using h.len) (cy r.expr) [] (w.setP i { w.pc i with waiting:=true,req:=r,since:=w.c.now,gen:=aS (w.pc i).gen }) { w.pc i with waiting:=true,req:=r,since:=w.c.now,gen:=aS (w.pc i).gen } h.tv hst (List.mem_map.2 ⟨_,List.getElem_mem hi,by rw [←hpc]⟩) h.cov hprio (mZ _) hrsl
  (fun n hn=>by
   have h1:FitR w.c.queues n { w.pc i with waiting:=true,req:=r,since:=w.c.now,gen:=aS (w.pc i).gen }:=(hrun n hn).led rfl rfl;refine ⟨fun h2=>?_,fun a _=>h1⟩;unfold FitW;rw [List.nil_append,h2];exact h1)
 rw [List.nil_append] at hfw;have e:ck (w.pc i).proc r.prio (cy r.expr) (w.setP i { w.pc i with waiting:=true,req:=r,since:=w.c.now,gen:=aS (w.pc i).gen })=ck ({ w.pc i with waiting:=true,req:=r,since:=w.c.now,gen:=aS (w.pc i).gen }:Pc).proc ({ w.pc i with waiting:=true,req:=r,since:=w.c.now,gen:=aS (w.pc i).gen }:Pc).req.prio (cy r.expr) (w.setP i { w.pc i with waiting:=true,req:=r,since:=w.c.now,gen:=aS (w.pc i).gen }):=rfl;rw [e];generalize ck ({ w.pc i with waiting:=true,req:=r,since:=w.c.now,gen:=aS (w.pc i).gen }:Pc).proc ({ w.pc i with waiting:=true,req:=r,since:=w.c.now,gen:=aS (w.pc i).gen }:Pc).req.prio (cy r.expr) (w.setP i { w.pc i with waiting:=true,req:=r,since:=w.c.now,gen:=aS (w.pc i).gen })=g at *
 have hps:g.c.procs=w.c.procs.set i { w.pc i with waiting:=true,req:=r,since:=w.c.now,gen:=aS (w.pc i).gen }:=hws.procs;have hnow:g.c.now=w.c.now:=hws.now;have hpv:PInv g.c.queues g.c.now { w.pc i with waiting:=true,req:=r,since:=w.c.now,gen:=aS (w.pc i).gen }:=by
  refine ⟨hst.tp hws.tp,fun hf=>(by cases hf),fun _=>⟨⟨hq,?_,?_⟩,fun n hn=>?_⟩⟩
  ·rw [zS hws.tp];exact hr
  ·rw [hnow];exact ⟨h.now.1,Int.le_refl _⟩
  ·exact hfw n (by rw [hws.tp.hasE] at hn;exact hn)
 have hci:=h.upd (c':=g.c) hi hps hnow (by rw [hpc]) hws.tp hpv;exact ⟨hci,hps,hnow,hws.tp.nm⟩
theorem yT {w:Wk} {i:Nat} {r:Rq} (h:CI w.c) (hi:i<w.c.procs.length) (he:(cG w i r).2=0) :
  CI (cG w i r).1.c∧(∀x∈(cG w i r).1.c.procs,dA (cG w i r).1.c.queues x=false)∧(cG w i r).1.c.now=w.c.now∧(cG w i r).1.c.procs.map (·.proc)=w.c.procs.map (·.proc)∧(∀x∈(cG w i r).1.c.procs,x.waiting=true→x∈w.c.procs∨(x = { w.pc i with waiting:=true,req:=r,since:=w.c.now,gen:=aS (w.pc i).gen }))∧KG w.c.procs (cG w i r).1.c.procs∧fk (cG w i r).1.c.queues=fk w.c.queues:=by
 unfold cG at he ⊢;cases hw:(w.pc i).waiting with
 | true=>rw [hw] at he;simp at he
 | false =>
  rw [hw] at he;simp only [cond_false] at he ⊢;cases hq:oG r with
  | false=>rw [hq] at he;simp at he
  | true =>
   rw [hq] at he;simp only [Bool.not_true,cond_false] at he ⊢;by_cases hr:gw w.c.queues r.expr=0
   ·rw [decide_eq_true hr];simp only [Bool.not_true,cond_false];have hpc:=bU hi;obtain ⟨hci,hps,hnow,hnm⟩:=lA h hi hw hq hr;have e:ck (w.pc i).proc r.prio (cy r.expr) (aU (w.setP i { w.pc i with waiting:=true,req:=r,since:=w.c.now }) i)=z6 w i r:=rfl;rw [e];generalize z6 w i r=g at *
    obtain ⟨k1,k2,k3⟩:=ja hci;refine ⟨k1,k2,k3.now.trans hnow,k3.pr.trans (by rw [hps];exact fR hi (by rw [hpc])),fun x hx hxw=>?_,KG.trans (by rw [hps];exact KG.set hi (GrP.led (by rw [hpc]) (by rw [hpc]))) (md hci).gr,k3.nm.trans hnm⟩;have h5:=k3.kw x hx hxw;rw [hps] at h5;rcases List.mem_or_eq_of_mem_set h5 with h6|rfl
    ·exact .inl h6
    ·exact .inr rfl
   ·rw [decide_eq_false hr] at he;simp only [Bool.not_false,cond_true] at he;exact absurd he hr
theorem BB {g:Lg} (h:Ld g) {n:ByteArray} (hn:ax g.entries n≠⟨0,0⟩):(fY g n).1=fO g n:=by
 have hne:(fO g n).entries.length≠g.entries.length:=by
  intro e;have h1:g.entries.filter (oth n)=g.entries:=List.Sublist.eq_of_length List.filter_sublist e;have h2:=gQ n n g.entries;rw [h1,if_pos rfl] at h2;exact hn h2
 unfold fY;rw [fm.2 h,decide_eq_false hne];rfl
def oN (w:Wk) (i:Nat) (n:ByteArray):Wk:=aU ((d5 w (w.pc i).proc ⟨n,⟨0,0⟩⟩).setP i { w.pc i with led:=(fY (w.pc i).led n).1 }) i
theorem lB {w:Wk} {i:Nat} {n:ByteArray} (h:CI w.c) (hi:i<w.c.procs.length) (hw:(w.pc i).waiting=false) (h0:ax (w.pc i).led.entries n≠⟨0,0⟩) :
  CI (oN w i n).c∧(oN w i n).c.procs=w.c.procs.set i { w.pc i with led:=fO (w.pc i).led n,gen:=aS (w.pc i).gen }∧(oN w i n).c.now=w.c.now∧fk (oN w i n).c.queues=fk w.c.queues:=by
 have hpc:=bU hi;unfold oN;have hinv:=h.inv _ (List.getElem_mem hi);rw [←hpc] at hinv;obtain ⟨hrq,hsn,hrun⟩:=hinv.run hw;obtain ⟨hn,hfit⟩:=hinv.stat.hf n h0;have hfr:=hrun n hn;have hcov:bg (be w.c.queues n).res (ao (be w.c.queues n).holds (w.pc i).proc) ⟨0,0⟩=true:=by
  rw [hfr.h];have p0:bj (be w.c.queues n).res ⟨0,0⟩=true:=by unfold bj aH;rw [l9 h.tv hn];rfl
  unfold bg;rw [da hfit,p0];rfl
 obtain ⟨_,hst,k1,k2⟩:=oJ (p:=(w.pc i).proc) (a:=⟨n,⟨0,0⟩⟩) h.tv hn (by rw [hfr.h];exact h0) hfr.w hcov;have hws:WS w (d5 w (w.pc i).proc ⟨n,⟨0,0⟩⟩) (w.pc i).proc (· = n):=WS.take h.tv hst;generalize hg:d5 w (w.pc i).proc ⟨n,⟨0,0⟩⟩=g at *
 have hgq:g.c.queues=(bJ w.c.queues (w.pc i).proc ⟨n,⟨0,0⟩⟩).1:=by rw [←hg];rfl
 rw [←hgq] at k1 k2;have hgi:i<g.c.procs.length:=by rw [hws.procs];exact hi
 have hgp:g.pc i=w.pc i:=by unfold Wk.pc;rw [hws.procs]
 have hdr:=BB hinv.stat.led h0;have hx:aU (g.setP i { w.pc i with led:=(fY (w.pc i).led n).1 }) i=g.setP i { w.pc i with led:=fO (w.pc i).led n,gen:=aS (w.pc i).gen }:=by
  unfold aU;rw [fQ hgi,gf,hdr]
 rw [hx];have hlh:∀m,gD { w.pc i with led:=fO (w.pc i).led n,gen:=aS (w.pc i).gen } m=if m=n then ⟨0,0⟩ else gD (w.pc i) m:=fun m=>gQ n m _
 have hps:(g.setP i { w.pc i with led:=fO (w.pc i).led n,gen:=aS (w.pc i).gen }).c.procs=w.c.procs.set i { w.pc i with led:=fO (w.pc i).led n,gen:=aS (w.pc i).gen }:=by
  show g.c.procs.set i _=_;rw [hws.procs]
 have hpv:PInv g.c.queues g.c.now { w.pc i with led:=fO (w.pc i).led n,gen:=aS (w.pc i).gen }:=by
  refine ⟨⟨hinv.stat.vp,hinv.stat.cost,FS hinv.stat.led n,by have:=nD (n:=(w.pc i).gen);show 0≤aS (w.pc i).gen∧aS (w.pc i).gen≤1073741824;omega,fun m hm=>?_⟩,fun _=>⟨hrq,hsn,fun m hm=>?_⟩,fun hf=>by
   have:(w.pc i).waiting=true:=hf;rw [hw] at this;cases this⟩
  ·rw [hlh] at hm ⊢;by_cases e:m=n
   ·rw [if_pos e] at hm;exact absurd rfl hm
   ·rw [if_neg e] at hm ⊢;exact (hinv.stat.tp hws.tp).hf m hm
  ·rw [hws.tp.hasE] at hm;by_cases e:m=n
   ·subst e;exact ⟨by rw [hlh,if_pos rfl];exact k1,k2⟩
   ·have e1:=hws.oth m e hm;exact ((hrun m hm).eq e1).led rfl (by rw [hlh,if_neg e])
 have hci:=h.upd (c':=(g.setP i { w.pc i with led:=fO (w.pc i).led n,gen:=aS (w.pc i).gen }).c) hi hps hws.now (by rw [hpc]) hws.tp hpv;exact ⟨hci,hps,hws.now,hws.tp.nm⟩
theorem yU {w:Wk} {i:Nat} {n:ByteArray} (h:CI w.c) (hi:i<w.c.procs.length) (he:(dR w i n).2=0) :
  CI (dR w i n).1.c∧(∀x∈(dR w i n).1.c.procs,dA (dR w i n).1.c.queues x=false)∧Kp w (dR w i n).1∧KO (w.pc i).proc w.c.procs (dR w i n).1.c.procs:=by
 unfold dR at he ⊢;cases hw:(w.pc i).waiting with
 | true=>rw [hw] at he;simp at he
 | false =>
  rw [hw] at he;simp only [cond_false] at he ⊢;by_cases h0:ax (w.pc i).led.entries n=⟨0,0⟩
  ·rw [decide_eq_true h0] at he;simp at he
  ·rw [decide_eq_false h0];simp only [cond_false];have hpc:=bU hi;obtain ⟨hci,hps,hnow,hnm⟩:=lB h hi hw h0;have e:aU ((d5 w (w.pc i).proc ⟨n,⟨0,0⟩⟩).setP i { (d5 w (w.pc i).proc ⟨n,⟨0,0⟩⟩).pc i with led:=(fY ((d5 w (w.pc i).proc ⟨n,⟨0,0⟩⟩).pc i).led n).1 }) i=oN w i n:=rfl;rw [e];generalize oN w i n=g at *
   obtain ⟨q1,q2,q3⟩:=ja hci;have hk:Kp w g:=⟨by rw [hps];exact KW.set hw,hnow,by rw [hps];exact fR hi (by rw [hpc]),hnm⟩;exact ⟨q1,q2,hk.trans q3,KO.then (by rw [hps];exact KO.set hi (by rw [hpc]) _) (md hci).gr⟩
theorem rB {r:Rs} {b a:Am} (hb:aF r b=true) (h:a=⟨0,0⟩∨G9 b a):bg r b a=true:=by
 have hs:bc r=true:=by unfold aF at hb;rw [Bool.and_eq_true] at hb;exact hb.1
 rcases h with rfl|h
 ·have p0:bj r ⟨0,0⟩=true:=by unfold bj aH;rw [hs];rfl
  unfold bg;rw [da hb,p0];rfl
 ·rcases h with rfl|⟨h1,h2,h3⟩
  ·exact qX hb
  ·have hfb:=hb;unfold aF at hfb;have key:aF r a=true∧(if r.kind=1 then dw b.mode a.mode else decide (a.units≤b.units))=true:=by
    rcases cj hs with ⟨hk,_⟩|⟨hk,_⟩
    ·rw [if_pos hk] at hfb ⊢;simp only [Bool.and_eq_true,decide_eq_true_eq,f8] at hfb;rcases h3 with ⟨h4,h5⟩|⟨_,h4,_⟩
     ·refine ⟨?_,h5⟩;unfold aF;rw [if_pos hk,hs];rcases dy h1 with ⟨h6,h7⟩|⟨h6,_⟩
      ·rw [h6,h7];rfl
      ·exact absurd h6 h4
     ·omega
    ·have hk1:¬r.kind=1:=by omega
     rw [if_neg hk1] at hfb ⊢;simp only [Bool.and_eq_true,decide_eq_true_eq] at hfb;rcases h3 with ⟨_,h5⟩|⟨h4,_,h5⟩
     ·rw [nL] at h5;omega
     ·refine ⟨?_,by rw [decide_eq_true_eq];omega⟩;unfold aF;rw [if_neg hk1,hs];simp only [Bool.and_eq_true,decide_eq_true_eq,Bool.true_and];rcases dy h1 with ⟨h6,_⟩|⟨_,h6,_⟩
      ·rw [f8] at h6;omega
      ·omega
   unfold bg;rw [da hb,da key.1,eu hb,key.2];simp
def LwT (p:Pr):List Tm→Wk→Prop
 | [],_=>True
 | a :: l,w=>aW w.c.queues a.name=true∧LwT p l (bL w p a.name a.am)
theorem tU:∀(l:List Tm) (w:Wk) (x y:Pc),du w.c.queues=true→PStat w.c.queues x→y.proc=x.proc→B9 l→
  (∀a∈l,a.am=gD y a.name∧gD x a.name≠⟨0,0⟩∧(a.am=⟨0,0⟩∨G9 (gD x a.name) a.am))→
  (∀n,aW w.c.queues n=true→(∀a,dq l n=some a→FitR w.c.queues n x)∧(dq l n=none→FitR w.c.queues n y))→
  WS w (br x.proc l w) x.proc (fun _=>True)∧(∀n,aW w.c.queues n=true→FitR (br x.proc l w).c.queues n y)∧LwT x.proc l w
 | [],w,x,y,hv,_,_,_,_,hf=>⟨WS.refl hv _ _,fun n hn=>(hf n hn).2 rfl,trivial⟩
 | a :: l,w,x,y,hv,hs,hp,hnd,hl,hf=>by
  obtain ⟨h1,h2⟩:=List.pairwise_cons.1 hnd;obtain ⟨e1,e2,e3⟩:=hl a (by simp);obtain ⟨hn,hfit⟩:=hs.hf a.name e2;have hfr:FitR w.c.queues a.name x:=(hf a.name hn).1 a (by rw [di,bb.2 rfl];rfl);have hnone:dq l a.name=none:=ip.2 fun b hb e=>h1 b hb e.symm;have hat:∀n,n≠a.name→dq (a :: l) n=dq l n:=fun n hn=>by rw [di,bZ.2 (fun h=>hn h.symm)];rfl
  have step:∃g,bL w x.proc a.name a.am=g∧WS w g x.proc (· = a.name)∧FitR g.c.queues a.name y:=by
   unfold bL;by_cases hd:ao (be w.c.queues a.name).holds x.proc=a.am
   ·rw [decide_eq_true hd];exact ⟨w,rfl,WS.refl hv _ _,by rw [hp,hd,e1],by rw [hp];exact hfr.w⟩
   ·rw [decide_eq_false hd];obtain ⟨_,hst,k1,k2⟩:=oJ (p:=x.proc) (a:=⟨a.name,a.am⟩) hv hn (by rw [hfr.h];exact e2) hfr.w (by rw [hfr.h];exact rB hfit e3);exact ⟨_,rfl,WS.take hv hst,by rw [hp,←e1];exact k1,by rw [hp];exact k2⟩
  obtain ⟨g,hg,hws,hfy⟩:=step;have e:br x.proc (a :: l) w=br x.proc l g:=by
   show br x.proc l (bL w x.proc a.name a.am)=_;rw [hg]
  rw [e];have ih:=tU l g x y hws.tp.v (hs.tp hws.tp) hp h2 (fun b hb=>hl b (by simp [hb])) (fun n hn2=>by
   rw [hws.tp.hasE] at hn2;by_cases en:n=a.name
   ·subst en;exact ⟨fun b hb=>(by rw [hnone] at hb;cases hb),fun _=>hfy⟩
   ·have h3:=hf n hn2;rw [hat n en] at h3;have e4:=hws.oth n en hn2;exact ⟨fun b hb=>(h3.1 b hb).eq e4,fun h4=>(h3.2 h4).eq e4⟩)
  exact ⟨(hws.mono fun _ _=>trivial).trans ih.1,fun n hn2=>ih.2.1 n (by rw [hws.tp.hasE];exact hn2),hn,by rw [hg];exact ih.2.2⟩
theorem gh (n:ByteArray):∀(m:List En) (a:Am),(∀e∈m,e.name≠n)→dE n a m=a
 | [],_,_=>rfl
 | e :: m,a,h=>by
  show dE n (bif ba e.name n then e.after else a) m=a;rw [bZ.2 (h e (by simp))];exact gh n m a fun f hf=>h f (by simp [hf])
theorem rC {l:List En} {k:Nat} {n:ByteArray} (h:n ∉ bB (l.drop k)):ax l n=ax (l.take k) n:=by
 conv=>lhs;rw [←List.take_append_drop k l]
 unfold ax;rw [mP,gh n (l.drop k) _ fun e he e2=>h (dh.2 ⟨e,he,e2⟩)]
structure Rest (w w1:Wk) (i:Nat):Prop where
 ci:CI w1.c
 hi:i<w1.c.procs.length
 kp:Kp w w1
 led:(w1.pc i).led=(w.pc i).led
 proc:(w1.pc i).proc=(w.pc i).proc
 run:(w1.pc i).waiting=false
 kg:KG w.c.procs w1.c.procs
theorem z7 {w:Wk} {i:Nat} (h:CI w.c) (hi:i<w.c.procs.length):Rest w (bif (w.pc i).waiting then az w i else w) i:=by
 cases hw:(w.pc i).waiting with
 | false=>exact ⟨h,hi,⟨KW.refl _,rfl,rfl,rfl⟩,rfl,rfl,hw,KG.refl _⟩
 | true =>
  obtain ⟨k1,_,k3,k4,_⟩:=dV h hi hw;have hlen:i<(az w i).c.procs.length:=by rw [k3.len];exact hi
  have hp:(az w i).pc i = { w.pc i with waiting:=false,req:=Rq.zero,since:=0 }:=by rw [bU hlen];simp [k4]
  exact ⟨k1,hlen,k3,by rw [cond_true,hp],by rw [cond_true,hp],by rw [cond_true,hp],by rw [cond_true,k4];exact KG.set hi (GrP.led (by rw [bU hi]) (by rw [bU hi]))⟩
def jb (w:Wk) (i:Nat):Wk:=bif (w.pc i).waiting then az w i else w
def pU (w:Wk) (i:Nat) (n:Int):Wk:=(jb w i).setP i { (jb w i).pc i with led:=(cu (w.pc i).led n).1 }
def mr (w:Wk) (i:Nat) (n:Int):Wk:=aU (br (w.pc i).proc (cu (w.pc i).led n).2.1 (pU w i n)) i
theorem jM {w:Wk} {i:Nat} {n:Int} (h:CI w.c) (hi:i<w.c.procs.length) (hu:(cu (w.pc i).led n).2.2=0) :
  LwT (w.pc i).proc (cu (w.pc i).led n).2.1 (pU w i n)∧CI (mr w i n).c∧Kp w (mr w i n)∧KO (w.pc i).proc w.c.procs (mr w i n).c.procs∧∃y∈(mr w i n).c.procs,y.proc=(w.pc i).proc∧y.waiting=false∧y.led=cc (w.pc i).led n:=by
 obtain ⟨hld,hld2,hue,htk⟩:=FR hu;have hr:Rest w (jb w i) i:=z7 h hi;unfold mr pU;generalize jb w i=w1 at *
 have hpc:=bU hr.hi;have hinv:=hr.ci.inv _ (List.getElem_mem hr.hi);rw [←hpc] at hinv;obtain ⟨hrq,hsn,hrun⟩:=hinv.run hr.run;rw [hue];dsimp only;have hst:=hinv.stat;have hlt:∀m,gD { w1.pc i with led:=cc (w.pc i).led n } m=ax ((w1.pc i).led.entries.take (cc (w.pc i).led n).entries.length) m:=by
  intro m;show ax (cc (w.pc i).led n).entries m=_;rw [hr.led];exact congrArg (ax · m) htk
 have hst2:PStat w1.c.queues { w1.pc i with led:=cc (w.pc i).led n }:=by
  refine ⟨hst.vp,hst.cost,hld2,hst.gen,fun m hm=>?_⟩;rw [hlt] at hm ⊢;rcases tH hst.led.ents m (cc (w.pc i).led n).entries.length with h1|h1
  ·exact absurd h1 hm
  ·have hne:gD (w1.pc i) m≠⟨0,0⟩:=by
    intro e0;have e0':ax (w1.pc i).led.entries m=⟨0,0⟩:=e0;rw [e0'] at h1;rcases h1 with h1|⟨_,h2,_⟩
    ·exact hm h1
    ·exact absurd h2 (by decide)
   obtain ⟨k1,k2⟩:=hst.hf m hne;refine ⟨k1,?_⟩;have hc:=rB k2 (.inr h1);unfold bg bj at hc;simp only [Bool.and_eq_true,Bool.or_eq_true] at hc;rcases hc.1.2.2 with h3|h3
   ·exact absurd (of_decide_eq_true h3) hm
   ·exact h3
 have hw2:(w1.setP i { w1.pc i with led:=cc (w.pc i).led n }).c.queues=w1.c.queues:=rfl;obtain ⟨hws,hfy,hlw⟩:=tU ((bB ((w.pc i).led.entries.drop (cc (w.pc i).led n).entries.length)).map fun m=>(⟨m,ax (cc (w.pc i).led n).entries m⟩:Tm)) (w1.setP i { w1.pc i with led:=cc (w.pc i).led n }) (w1.pc i) { w1.pc i with led:=cc (w.pc i).led n } hr.ci.tv hst rfl
  (by
   have h1:=jF (fy ((w.pc i).led.entries.drop (cc (w.pc i).led n).entries.length));unfold B9;rw [List.pairwise_map];exact h1.imp fun {a b} (hab:a≠b)=>hab)
  (fun a ha=>by
   obtain ⟨m,hm,rfl⟩:=List.mem_map.1 ha;refine ⟨rfl,?_,?_⟩
   ·obtain ⟨e,he2,hen⟩:=dh.1 hm;have:=zT hld.ents e (List.mem_of_mem_drop he2);rw [hen,←hr.led] at this;exact this
   ·have h1:=tH hst.led.ents m (cc (w.pc i).led n).entries.length;rw [←hlt m] at h1;exact h1)
  (fun m hm=>by
   have hm':aW w1.c.queues m=true:=hm;refine ⟨fun a _=>hrun m hm',fun hno=>(hrun m hm').led rfl ?_⟩;rw [hlt];have h1:m ∉ bB ((w1.pc i).led.entries.drop (cc (w.pc i).led n).entries.length):=by
    rw [hr.led];intro hmem;exact ip.1 hno ⟨m,ax (cc (w.pc i).led n).entries m⟩ (List.mem_map.2 ⟨m,hmem,rfl⟩) rfl
   exact (rC h1).symm)
 rw [←hr.proc];refine ⟨hlw,?_⟩;clear hlw;generalize br (w1.pc i).proc ((bB ((w.pc i).led.entries.drop (cc (w.pc i).led n).entries.length)).map fun m=>(⟨m,ax (cc (w.pc i).led n).entries m⟩:Tm)) (w1.setP i { w1.pc i with led:=cc (w.pc i).led n })=g at *
 have hps:g.c.procs=w1.c.procs.set i { w1.pc i with led:=cc (w.pc i).led n }:=hws.procs;have hpv:PInv g.c.queues g.c.now { w1.pc i with led:=cc (w.pc i).led n } :=
  ⟨hst2.tp hws.tp,fun _=>⟨hrq,hsn,fun m hm=>hfy m (by
   rw [hws.tp.hasE] at hm;exact hm)⟩,fun hf=>by
   have:(w1.pc i).waiting=true:=hf;rw [hr.run] at this;cases this⟩
 have hci:=hr.ci.upd (c':=g.c) hr.hi hps hws.now (by rw [hpc]) hws.tp hpv;have hgi:i<g.c.procs.length:=by rw [hps];simpa using hr.hi
 have hgp:g.pc i = { w1.pc i with led:=cc (w.pc i).led n }:=by rw [bU hgi];simp [hps]
 obtain ⟨n1,n2,_⟩:=iI hci hgi (by rw [hgp];exact hr.run);have hk:Kp w1 g:=⟨by rw [hps];exact KW.set hr.run,hws.now,by rw [hps];exact fR hr.hi (by rw [hpc]),hws.tp.nm⟩;refine ⟨n1,(hr.kp.trans hk).trans n2,?_,?_⟩
 ·refine KO.then (KO.pre hr.kg ?_) (Gb hgi);rw [hps];exact KO.set hr.hi (by rw [←hpc]) _
 ·refine ⟨{ g.pc i with gen:=aS (g.pc i).gen },List.mem_iff_getElem.2 ⟨i,by show i<(g.c.procs.set i _).length;simpa using hgi,by show (g.c.procs.set i _)[i]'_=_;simp⟩,?_,?_,?_⟩
  ·show (g.pc i).proc=_;rw [hgp]
  ·show (g.pc i).waiting=false;rw [hgp];exact hr.run
  ·show (g.pc i).led=_;rw [hgp]
theorem xz {w:Wk} {i:Nat} {n:Int} (h:CI w.c) (hi:i<w.c.procs.length) (he:(cP w i n).2=0) :
  CI (cP w i n).1.c∧(∀x∈(cP w i n).1.c.procs,dA (cP w i n).1.c.queues x=false)∧Kp w (cP w i n).1∧KO (w.pc i).proc w.c.procs (cP w i n).1.c.procs∧∃y∈(cP w i n).1.c.procs,y.proc=(w.pc i).proc∧y.waiting=false∧y.led=cc (w.pc i).led n:=by
 unfold cP at he ⊢;by_cases hu:(cu (w.pc i).led n).2.2=0
 ·rw [decide_eq_true hu];simp only [Bool.not_true,cond_false];obtain ⟨_,n1,n2,hko,y,hy,hy1,hy2,hy3⟩:=jM h hi hu;have e:aU (br (w.pc i).proc (cu (w.pc i).led n).2.1 ((bif (w.pc i).waiting then az w i else w).setP i { (bif (w.pc i).waiting then az w i else w).pc i with led:=(cu (w.pc i).led n).1 })) i=mr w i n:=rfl;rw [e];generalize mr w i n=g at *
  obtain ⟨q1,q2,q3⟩:=ja n1;have hkn:=md n1;exact ⟨q1,q2,n2.trans q3,hko.then hkn.gr,y,hkn.nw _ hy hy2,hy1,hy2,hy3⟩
 ·rw [decide_eq_false hu] at he;simp only [Bool.not_false,cond_true] at he;exact absurd he hu
def oO (p:Pr) (q:Qu):Qu:=bif !eF q p then q else (a7 q p).1
theorem pG (p:Pr):∀t:List Qu,(aG p t).1=t.map (oO p)
 | []=>rfl
 | q :: t=>by
  rw [List.map_cons,←pG p t];have e:aG p (q :: t)=bif !eF q p then (q :: (aG p t).1,(aG p t).2) else
   ((a7 q p).1 :: (aG p t).1,(bif aH (ao q.holds p) then [] else [⟨3,p,q.res.name,⟨0,0⟩⟩])++aE (a7 q p).1.res.name (a7 q p).2.1++(aG p t).2):=rfl
  rw [e];unfold oO;cases eF q p <;> rfl
theorem me {p:Pr} {q:Qu} (h:aw q=true):Out q (oO p q) p∧eF (oO p q) p=false:=by
 unfold oO;cases hh:eF q p with
 | false=>exact ⟨Out.same p h,hh⟩
 | true =>
  obtain ⟨h1,h2,h3⟩:=wR (uY h hh);refine ⟨h1,?_⟩;show eF (a7 q p).1 p=false;unfold eF;rw [h2,h3];rfl
theorem xA {f:Qu→Qu} (hf:∀q,aw q=true→aw (f q)=true∧(f q).res=q.res):∀{l:List Qu} {o:Option ByteArray},mo o l=true→mo o (l.map f)=true
 | [],_,h=>h
 | q :: l,o,h=>by
  rw [ef] at h;simp only [Bool.and_eq_true] at h;obtain ⟨h1,h2⟩:=hf q h.1.1;rw [List.map_cons,ef,h2];simp only [Bool.and_eq_true];exact ⟨⟨h1,h.1.2⟩,xA hf h.2⟩
theorem tV {t:List Qu} (hv:du t=true) (p:Pr):TP t (bR t p).1 p∧p ∉ aC (bR t p).1:=by
 have e:(bR t p).1=t.map (oO p):=by
  unfold bR;rw [hv];exact pG p t
 rw [e];obtain ⟨h1,h2,h3⟩:=bf hv;have hsd:∀q∈t,aw q=true:=fun q hq=>ct hv hq;have hnm:fk (t.map (oO p))=fk t:=by
  unfold fk;rw [List.map_map];exact List.map_congr_left fun q hq=>by
   show (oO p q).res.name=_;rw [(me (hsd q hq)).1.res]
 have hnp:p ∉ aC (t.map (oO p)):=by
  intro hm;unfold aC at hm;rw [cN,gu] at hm;obtain ⟨q,hq,hpq⟩:=hm;obtain ⟨q0,hq0,rfl⟩:=List.mem_map.1 hq;have k:=me (p:=p) (hsd q0 hq0);have:=(dY (aJ k.1.ok) p).1 hpq;rw [k.2] at this;cases this
 have hsub:∀r∈aC (t.map (oO p)),r=p∨r∈aC t:=by
  intro r hr;by_cases hrp:r=p
  ·exact .inl hrp
  ·right
   unfold aC at hr ⊢;rw [cN,gu] at hr ⊢;obtain ⟨q,hq,hrq⟩:=hr;obtain ⟨q0,hq0,rfl⟩:=List.mem_map.1 hq;have k:=me (p:=p) (hsd q0 hq0);exact ⟨q0,hq0,(dY (aJ (hsd q0 hq0)) r).2 ((k.1.eff r hrp).has ((dY (aJ k.1.ok) r).1 hrq))⟩
 refine ⟨⟨?_,hnm,fun n hn=>?_,hsub⟩,hnp⟩
 ·unfold du fZ;simp only [Bool.and_eq_true,decide_eq_true_eq];refine ⟨⟨by simpa using h1,xA (fun q hq=>⟨(me hq).1.ok,(me hq).1.res⟩) h2⟩,?_⟩;have:=ij (m:=aC t) (fN (t.map (oO p))) fun r hr=>by
   rcases hsub r hr with e|e
   ·exact absurd (e▸hr) hnp
   ·exact e
  omega
 ·obtain ⟨i,hi,e1,e2,e3⟩:=oI hn;have e4:be (t.map (oO p)) n=oO p (be t n):=by
   rw [e3];unfold be;rw [(g8 hnm n).2,e1];simp [hi]
  rw [e4];exact (me (ct hv (dL hn).1)).1
def DN (w:Wk) (i:Nat):Wk:=Wk.note ⟨{ w.c with queues:=(bR w.c.queues (w.pc i).proc).1,procs:=w.c.procs.eraseIdx i },w.ev++(bR w.c.queues (w.pc i).proc).2⟩ 5 (w.pc i).proc
theorem rD {w:Wk} {i:Nat} (h:CI w.c) (hi:i<w.c.procs.length):CI (DN w i).c:=by
 obtain ⟨htp,hnp⟩:=tV h.tv (w.pc i).proc;have hpc:=bU hi;have hmem:∀{x:Pc},x∈w.c.procs.eraseIdx i→x∈w.c.procs:=fun hx=>List.mem_of_mem_eraseIdx hx;have hne:∀x∈w.c.procs.eraseIdx i,x.proc≠(w.pc i).proc:=by
  intro x hx;obtain ⟨j,hj,hji,e⟩:=List.mem_eraseIdx_iff_getElem.1 hx;rw [hpc,←e];exact xo h hj hi hji
 show CI ({ w.c with queues:=(bR w.c.queues (w.pc i).proc).1,procs:=w.c.procs.eraseIdx i }:Cs);refine ⟨h.now,htp.v,?_,?_,fun r hr=>?_,fun x hx=>?_⟩
 ·have:=(List.eraseIdx_sublist w.c.procs i).length_le;have:=h.len;show (w.c.procs.eraseIdx i).length≤8;omega
 ·exact h.asc.sublist ((List.eraseIdx_sublist _ _).map _)
 ·have hrp:r≠(w.pc i).proc:=fun e=>hnp (e▸hr);rcases htp.sub r hr with e|e
  ·exact absurd e hrp
  ·obtain ⟨x,hx,hxr⟩:=List.mem_map.1 (h.cov r e);obtain ⟨j,hj,e2⟩:=List.mem_iff_getElem.1 hx;refine List.mem_map.2 ⟨x,List.mem_eraseIdx_iff_getElem.2 ⟨j,hj,fun e3=>?_,e2⟩,hxr⟩;subst e3;apply hrp
   rw [hpc,e2,hxr]
 ·exact (h.inv x (hmem hx)).tp htp (hne x hx)
theorem Gd {w:Wk} {i:Nat} (h:CI w.c) (hi:i<w.c.procs.length):CI (gy w i).c∧(∀x∈(gy w i).c.procs,dA (gy w i).c.queues x=false)∧KW w.c.procs (gy w i).c.procs∧(gy w i).c.now=w.c.now∧(gy w i).c.procs.map (·.proc)=(w.c.procs.eraseIdx i).map (·.proc)∧KO (w.pc i).proc w.c.procs (gy w i).c.procs∧fk (gy w i).c.queues=fk w.c.queues:=by
 have htp:=(tV h.tv (w.pc i).proc).1;have hpc:=bU hi;have hmem:∀{x:Pc},x∈w.c.procs.eraseIdx i→x∈w.c.procs:=fun hx=>List.mem_of_mem_eraseIdx hx;have hci:CI (DN w i).c:=rD h hi;have e:gy w i=bS (Wk.note ⟨{ w.c with queues:=(bR w.c.queues (w.pc i).proc).1,procs:=w.c.procs.eraseIdx i },w.ev++(bR w.c.queues (w.pc i).proc).2⟩ 5 (w.pc i).proc):=rfl;rw [e];obtain ⟨k1,k2,k3⟩:=ja (w:=Wk.note ⟨{ w.c with queues:=(bR w.c.queues (w.pc i).proc).1,procs:=w.c.procs.eraseIdx i },w.ev++(bR w.c.queues (w.pc i).proc).2⟩ 5 (w.pc i).proc) hci;refine ⟨k1,k2,fun x hx hw=>hmem (k3.kw x hx hw),k3.now,k3.pr,KO.then (fun x hx hxp=>?_) (md (w:=Wk.note ⟨{ w.c with queues:=(bR w.c.queues (w.pc i).proc).1,procs:=w.c.procs.eraseIdx i },w.ev++(bR w.c.queues (w.pc i).proc).2⟩ 5 (w.pc i).proc) hci).gr,k3.nm.trans htp.nm⟩;obtain ⟨j,hj,e2⟩:=List.mem_iff_getElem.1 hx;exact ⟨x,List.mem_eraseIdx_iff_getElem.2 ⟨j,hj,fun e3=>by subst e3;rw [hpc,e2] at hxp;exact hxp rfl,e2⟩,GrP.refl x⟩
def Hf (w:Wk) (i:Nat) (n:ByteArray):Prop:=i<w.c.procs.length∧w.ev.length≤900000∧((w.pc i).waiting=false→ax (w.pc i).led.entries n≠⟨0,0⟩→StOk (oN w i n).c.procs.length (oN w i n))
theorem rE (w:Wk) (i:Nat) (n:ByteArray):dR w i n=bif (w.pc i).waiting then (w,14) else bif decide (ax (w.pc i).led.entries n=⟨0,0⟩) then (w,10) else (aQ (oN w i n).c.procs.length (oN w i n),0):=rfl
theorem DO (d:Nat) (w:Wk) (i:Nat) (n:ByteArray) (hok:Hf w i n) {Z:Wk×Int} (hZ:dR w i n=Z):FSpec prog 93 [gA,oK i,.one (.sc (.string n))] (HI d w) [3,4] (.i Z.2) (HO d Z.1):=by
 refine aP func93 ?_;obtain ⟨hi,hev,hst⟩:=hok;obtain ⟨x,hx⟩:∃x,w.c.procs[i]? = some x:=⟨_,List.getElem?_eq_getElem hi⟩;have hpc:=dJ hx;rw [rE] at hZ;unfold oN at hZ hst;rw [hpc] at hZ hst;cases hw:x.waiting with
 | true =>
  obtain rfl:Z=(w,14):=by rw [←hZ,hw];rfl
  repeat' (first|refine af ?_ ?_|refine ae ?_|exact ah|(refine ab fun hb=>?_;first|(cases hw.symm.trans hb;done)|skip)|(refine bP (qf [(3,1),(4,2)]) ?_;exact aj))
 | false =>
  obtain ⟨l,hl⟩:∃l,ax x.led.entries n=l:=⟨_,rfl⟩;have kL:=jI x.led.entries n;rw [hw,hl,cond_false] at hZ;rw [hl] at hst kL;by_cases h0:l=⟨0,0⟩
  ·obtain rfl:Z=(w,10):=by rw [←hZ,decide_eq_true h0];rfl
   repeat' (first|refine af ?_ ?_|refine aa 9 rfl (cB [] (kL) ?_)|refine ae ?_|exact ah|(refine ab fun hb=>?_;first|(cases hw.symm.trans hb;done)|(exact absurd h0 hb)|skip)|(refine bP (qf [(3,1),(4,2)]) ?_;exact aj))
  ·have hs:=hst hw h0;rw [decide_eq_false h0,cond_false] at hZ;obtain ⟨R,hR⟩:∃R,bJ w.c.queues x.proc ⟨n,⟨0,0⟩⟩=R:=⟨_,rfl⟩;have hll:=fC w.c.queues x.proc ⟨n,⟨0,0⟩⟩;rw [hR] at hll;obtain ⟨D0,hD⟩:∃D0,fY x.led n=D0:=⟨_,rfl⟩;unfold d5 at hZ hs;rw [hR,hD] at hZ hs;have hvi:i<((w.take R.1 R.2.1).setP i { x with led:=D0.1 }).c.procs.length:=by rw [gC];exact hi
   have hgt:(w.take R.1 R.2.1).c.procs.length=w.c.procs.length:=rfl;obtain ⟨F,hF⟩:∃F,aQ (aU ((w.take R.1 R.2.1).setP i { x with led:=D0.1 }) i).c.procs.length (aU ((w.take R.1 R.2.1).setP i { x with led:=D0.1 }) i)=F:=⟨_,rfl⟩;obtain rfl:Z=(F,0):=by rw [←hZ];exact congrArg (fun z=>(z,(0:Int))) hF
   have kS:=mb d _ _ hs;rw [show aQ (aU ((w.take R.1 R.2.1).setP i { x with led:=D0.1 }) i).c.procs.length (aU ((w.take R.1 R.2.1).setP i { x with led:=D0.1 }) i)=F from hF] at kS;clear hZ hst hF;repeat' (first|refine af ?_ ?_|(refine aa 9 rfl ?_;first|(refine cB [] (kL) ?_)|(refine cC [] (p8 w.c.queues x.proc ⟨n,⟨0,0⟩⟩ hR) ?_)|(refine cH (qf [(3,1003),(4,1004)]) (pF d w R.1 R.2.1 (by omega)) ?_)|(refine cC [] (IC x.led n hD) ?_)|(refine cH (qf [(1,1003),(2,1004),(3,1005),(4,1006)]) (mY d ((w.take R.1 R.2.1).setP i { x with led:=D0.1 }) i hvi) ?_)|(refine cH (qf [(1,1005),(2,1006),(3,1007),(4,1008)]) (kS) ?_))|refine ae ?_|(refine aa 4 rfl ?_;refine aR (aq (z:={ x with led:=D0.1 }) rfl rfl rfl rfl hx rfl rfl rfl rfl (Nat.le_of_ble_eq_true rfl) rfl rfl) rfl rfl rfl ?_)|exact ah|(refine ab fun hb=>?_;first|(cases hw.symm.trans hb;done)|(exact absurd hb h0)|skip)|(refine bP (qf [(3,1007),(4,1008)]) ?_;exact aj))
   all_goals fail "stands"
theorem lC (w:Wk) (x:Pc) (n:ByteArray):(bo w x n).c.procs=w.c.procs:=by
 unfold bo bL;have h1:(fd w x.proc n).c.procs=w.c.procs:=by unfold fd;cases (ap (be w.c.queues n) x.proc).isSome <;> rfl
 cases decide (ao (be (fd w x.proc n).c.queues n).holds x.proc=ax x.led.entries n)
 ·exact h1
 ·exact h1
theorem cV (x:Pc):∀(l:List Tm) (w:Wk),(cU x l w).c.procs=w.c.procs
 | [],_=>rfl
 | a :: l,w=>(cV x l (bo w x a.name)).trans (lC w x a.name)
def vq (p:Pr):List Tm→Wk→Prop
 | [],_=>True
 | a :: l,w=>aW w.c.queues a.name=true∧w.ev.length≤900000∧vq p l (bL w p a.name a.am)
theorem lD (w:Wk) (p:Pr) (n:ByteArray) (l:Am):(bL w p n l).c.procs=w.c.procs:=by
 unfold bL;cases decide (ao (be w.c.queues n).holds p=l) <;> rfl
theorem gl (p:Pr):∀(l:List Tm) (w:Wk),(br p l w).c.procs=w.c.procs
 | [],_=>rfl
 | a :: l,w=>(gl p l (bL w p a.name a.am)).trans (lD w p a.name a.am)
def Hg (w:Wk) (i:Nat) (n:Int):Prop:=i<w.c.procs.length∧((cu (w.pc i).led n).2.2=0→((w.pc i).waiting=true→yP (w.pc i) (cy (w.pc i).req.expr) w)∧vq (w.pc i).proc (cu (w.pc i).led n).2.1 (pU w i n)∧StOk (mr w i n).c.procs.length (mr w i n))
theorem pH (w:Wk) (i:Nat) (n:Int):cP w i n=bif !decide ((cu (w.pc i).led n).2.2=0) then (w,(cu (w.pc i).led n).2.2) else (aQ (mr w i n).c.procs.length (mr w i n),0):=rfl
theorem z8 {w:Wk} {i:Nat} {x:Pc} (hx:w.c.procs[i]? = some x):∃y,(jb w i).c.procs[i]? = some y∧y.proc=x.proc:=by
 have hi:=(List.getElem?_eq_some_iff.1 hx).1;unfold jb;cases (w.pc i).waiting with
 | false=>exact ⟨x,hx,rfl⟩
 | true =>
  refine ⟨{ (cU (w.pc i) (cy (w.pc i).req.expr) w).pc i with waiting:=false,req:=Rq.zero,since:=0 },?_,?_⟩
  ·show (List.set _ _ _)[i]? = _;rw [List.getElem?_set_self (by rw [cV];exact hi)]
  ·show ((cU (w.pc i) (cy (w.pc i).req.expr) w).pc i).proc=x.proc;unfold Wk.pc;rw [cV,List.getD_eq_getElem?_getD,hx];rfl
theorem xB (w:Wk) (i:Nat):(jb w i).c.procs.length=w.c.procs.length:=by
 unfold jb;cases (w.pc i).waiting with
 | false=>rfl
 | true=>show (az w i).c.procs.length=_;unfold az dQ;rw [gC,cV]
theorem tW (g:Lg) (n:Int):(cu g n).2.1.length≤72:=by
 unfold cu;cases hV:oD g with
 | false=>simp
 | true =>
  have h1:=(eP hV).1;rw [Bool.not_true,cond_false];cases (!decide (n=0) && decide (aT n 0 g.saves<0)) with
  | true=>simp
  | false =>
   rw [cond_false];simp only [List.length_map];have:=fI (g.entries.drop (cc g n).entries.length) [];simp at this;unfold bB;omega
theorem BC (d:Nat) (w:Wk) (i:Nat) (n:Int) (hok:Hg w i n) {Z:Wk×Int} (hZ:cP w i n=Z):FSpec prog 95 [gA,oK i,oK n] (HI d w) [3,4] (.i Z.2) (HO d Z.1):=by
 refine aP func95 ?_;obtain ⟨hi,hst⟩:=hok;obtain ⟨x,hx⟩:∃x,w.c.procs[i]? = some x:=⟨_,List.getElem?_eq_getElem hi⟩;have hpc:=dJ hx;rw [pH] at hZ;obtain ⟨y,hy,hyp⟩:=z8 hx;have hyc:=dJ hy;have hal:=xB w i;unfold mr at hZ hst;unfold pU at hZ hst;rw [hyc,hpc] at hZ hst;obtain ⟨U,hU⟩:∃U,cu x.led n=U:=⟨_,rfl⟩;rw [hU] at hZ hst;have kU:=JW x.led n hU;by_cases h0:U.2.2=0
 case neg =>
  obtain rfl:Z=(w,U.2.2):=by rw [←hZ,decide_eq_false h0];rfl
  repeat' (first|refine af ?_ ?_|refine aa 9 rfl (cC [] (kU) ?_)|refine ae ?_|exact ah|(refine ab fun hb=>?_;first|(exact absurd hb h0)|skip)|(refine bP (qf [(3,1),(4,2)]) ?_;exact aj))
 obtain ⟨hdr,hlw,hs⟩:=hst h0;rw [decide_eq_true h0] at hZ;obtain ⟨A,hA⟩:∃A,jb w i=A:=⟨_,rfl⟩;rw [hA] at hZ hlw hs hy hal;clear hst hyc;have kS:=mb d _ _ hs;obtain ⟨F,hF⟩:∃F,aQ (aU (br x.proc U.2.1 (A.setP i { y with led:=U.1 })) i).c.procs.length (aU (br x.proc U.2.1 (A.setP i { y with led:=U.1 })) i)=F:=⟨_,rfl⟩;obtain rfl:Z=(F,0):=by rw [←hZ];exact congrArg (fun z=>(z,(0:Int))) hF
 rw [hF] at kS;clear hZ hF hs;obtain ⟨B,hB⟩:∃B,A.setP i { y with led:=U.1 } = B:=⟨_,rfl⟩;rw [hB] at hlw kS;obtain ⟨W,hW⟩:∃W,br x.proc U.2.1 B=W:=⟨_,rfl⟩;rw [hW] at kS;have hWl:i<W.c.procs.length:=by rw [←hW,gl,←hB,gC,hal];exact hi
 have hyi:i<A.c.procs.length:=by rw [hal];exact hi
 have hUl:U.2.1.length≤72:=by rw [←hU];exact tW x.led n
 obtain ⟨L,hL⟩:∃L,U.2.1=L:=⟨_,rfl⟩;rw [hL] at hUl hlw hW;rw [←hyp] at hlw hW;obtain ⟨Q,hQ⟩:∃Q,y.proc=Q:=⟨_,rfl⟩;rw [hQ] at hlw hW;cases hw:x.waiting
 case' true =>
  obtain rfl:az w i=A:=by rw [←hA];unfold jb;rw [hpc,hw];rfl
  have kW:=oL d w i hi (by rw [hpc];exact hdr hw) (by rw [cV];exact hi);repeat' (first|refine af ?_ ?_|(refine aa 9 rfl ?_;first|(refine cC [] (kU) ?_)|(refine cH (qf [(3,1003),(4,1004)]) (kW) ?_))|refine ae ?_|(refine aa 4 rfl ?_;refine aR (aq (z:={ y with led:=U.1 }) rfl rfl rfl rfl hy rfl rfl rfl rfl (Nat.le_of_ble_eq_true rfl) rfl rfl) rfl rfl rfl ?_)|exact ah|(refine ab fun hb=>?_;first|(cases hw.symm.trans hb;done)|(exact absurd h0 hb)|skip))
  refine ai (fun y:Nat×Wk=>y.1≤L.length∧vq Q (L.drop y.1) y.2∧br Q (L.drop y.1) y.2=W) (fun y=>bt [0,1,2,7,10,1010,1011] [(0,.v gA),(1,.v (oK i)),(8,.c (.sl cw L)),(10,.c (.ptr 10 0)),(11,.i y.1)] [(0,.box 89 (B8 y.2 1010 1011)),(10,.box 35 [.sc (.int .i64 Q.site),.sc (.int .i64 Q.inc),.sc (.int .i64 Q.num)]),(1010,.arr 63 (eI d) y.2.c.procs),(1011,.arr 67 fG y.2.ev)]) (fun y=>L.length-y.1) (0,B) ⟨Nat.zero_le _,hlw,hW⟩ (by subst hB hL hQ;exact a8 (qf [(1010,1003),(1011,1004)])) ?_
 case' false =>
  obtain rfl:w=A:=by rw [←hA];unfold jb;rw [hpc,hw];rfl
  have hxy:y=x:=by rw [hx] at hy;exact (Option.some.inj hy).symm
  subst hxy;repeat' (first|refine af ?_ ?_|refine aa 9 rfl (cC [] (kU) ?_)|refine ae ?_|(refine aa 4 rfl ?_;refine aR (aq (z:={ y with led:=U.1 }) rfl rfl rfl rfl hy rfl rfl rfl rfl (Nat.le_of_ble_eq_true rfl) rfl rfl) rfl rfl rfl ?_)|exact ah|(refine ab fun hb=>?_;first|(cases hw.symm.trans hb;done)|(exact absurd h0 hb)|skip))
  refine ai (fun y:Nat×Wk=>y.1≤L.length∧vq Q (L.drop y.1) y.2∧br Q (L.drop y.1) y.2=W) (fun y=>bt [0,1,2,7,10,1010,1011] [(0,.v gA),(1,.v (oK i)),(8,.c (.sl cw L)),(10,.c (.ptr 10 0)),(11,.i y.1)] [(0,.box 89 (B8 y.2 1010 1011)),(10,.box 35 [.sc (.int .i64 Q.site),.sc (.int .i64 Q.inc),.sc (.int .i64 Q.num)]),(1010,.arr 63 (eI d) y.2.c.procs),(1011,.arr 67 fG y.2.ev)]) (fun y=>L.length-y.1) (0,B) ⟨Nat.zero_le _,hlw,hW⟩ (by subst hB hL hQ;exact a8 (qf [(1010,1),(1011,2)])) ?_
 all_goals
  clear kU hU hpc hx hy hB hA hal hdr hyi hw;try clear kW
  rintro ⟨k,v⟩ ⟨hk,hv,hs⟩;dsimp only at *
  by_cases hlt:k<L.length
  case neg =>
   obtain rfl:v=W:=by rw [←hs,List.drop_eq_nil_of_le (by omega)];rfl
   repeat' (first|refine af ?_ ?_|(refine aa 9 rfl ?_;first|(refine cH (qf [(1,1010),(2,1011),(3,1020),(4,1021)]) (mY d v i hWl) ?_)|(refine cH (qf [(1,1020),(2,1021),(3,1030),(4,1031)]) (kS) ?_))|refine ae ?_|exact ah|refine ab fun hb=>?_|(refine bP (qf [(3,1030),(4,1031)]) ?_;exact aj))
  rw [List.drop_eq_getElem_cons hlt] at hv hs;obtain ⟨a,ha⟩:∃a,L[k]=a:=⟨_,rfl⟩;have hga:L[k]? = some a:=by rw [List.getElem?_eq_getElem hlt,ha]
  rw [ha] at hv hs;obtain ⟨v1,v2,v3⟩:=hv;obtain ⟨j,hj,hFj,hqj⟩:=lz v1;obtain ⟨h,hh⟩:∃h,ao v.c.queues[j].holds Q=h:=⟨_,rfl⟩;have kH:=fg v.c.queues[j] Q;rw [hh] at kH;have hs:br Q (L.drop (k+1)) (bL v Q a.name a.am)=W:=hs;have hbe:bL v Q a.name a.am=bif decide (h=a.am) then v else d5 v Q ⟨a.name,a.am⟩:=by unfold bL;rw [hqj,hh]
  rw [hbe] at v3 hs;by_cases hhl:h=a.am
  ·rw [decide_eq_true hhl,cond_true] at v3 hs;repeat' (first|refine af ?_ ?_|(refine aa 9 rfl ?_;first|(refine cB [] (dl v.c.queues a.name hFj) ?_)|(refine cB [] (kH) ?_))|refine ae ?_|exact ah|refine ab fun hb=>?_)
   refine ⟨(k+1,v),⟨by dsimp only;omega,v3,hs⟩,by dsimp only;omega,?_⟩;exact aN
  ·rw [decide_eq_false hhl,cond_false] at v3 hs;obtain ⟨R,hR⟩:∃R,bJ v.c.queues Q a=R:=⟨_,rfl⟩;have hll:=fC v.c.queues Q a;rw [hR] at hll;have hlw:d5 v Q ⟨a.name,a.am⟩=v.take R.1 R.2.1:=by rw [←hR];rfl
   rw [hlw] at v3 hs;repeat' (first|refine af ?_ ?_|(refine aa 9 rfl ?_;first|(refine cB [] (dl v.c.queues a.name hFj) ?_)|(refine cB [] (kH) ?_)|(refine cC [] (p8 v.c.queues Q a hR) ?_)|(refine cH (qf [(1,1010),(2,1011),(3,1020),(4,1021)]) (pF d v R.1 R.2.1 (by omega)) ?_))|refine ae ?_|exact ah|refine ab fun hb=>?_)
   refine ⟨(k+1,v.take R.1 R.2.1),⟨by dsimp only;omega,v3,hs⟩,by dsimp only;omega,?_⟩;exact a8 (qf [(1010,1020),(1011,1021)])
theorem vr (w:Wk) (i:Nat):(az w i).c.procs.length=w.c.procs.length:=by unfold az dQ;rw [gC,cV]
def Ge (w:Wk):Wk:=aU (az (w.note 4 (w.pc (eb w).toNat).proc) (eb w).toNat) (eb w).toNat
def TkOk:Nat→Wk→Prop
 | 0,w=>w.c.procs.length≤100000∧Jr w.c.procs∧eb w<0
 | n+1,w=>w.c.procs.length≤100000∧Jr w.c.procs∧(0≤eb w→w.ev.length≤900000∧(eb w).toNat<w.c.procs.length∧
   yP (w.pc (eb w).toNat) (cy (w.pc (eb w).toNat).req.expr) (w.note 4 (w.pc (eb w).toNat).proc)∧StOk (Ge w).c.procs.length (Ge w)∧TkOk n (aQ (Ge w).c.procs.length (Ge w)))
theorem TkOk.len {n:Nat} {v:Wk} (h:TkOk n v):v.c.procs.length≤100000∧Jr v.c.procs:=by cases n <;> exact ⟨h.1,h.2.1⟩
theorem jN (n:Nat) (w:Wk):gL (n+1) w=bif decide (eb w<0) then w else gL n (aQ (Ge w).c.procs.length (Ge w)):=rfl
def E5 (w:Wk) (n:Int):Wk:=⟨{ w.c with now:=w.c.now+n },w.ev⟩
theorem Aa (w:Wk) (n:Int):iF w n=bif !(decide (0≤n) && decide (n≤1000)) then (w,1) else bif decide (1073741824-n<w.c.now) then (w,16) else (gL w.c.procs.length (E5 w n),0):=rfl
theorem JX (d:Nat) (w:Wk) (n:Int) (h0 : -1000000000000≤w.c.now) (hok:0≤n→n≤1000→w.c.now≤1073741824-n→TkOk w.c.procs.length (E5 w n)) {Z:Wk×Int} (hZ:iF w n=Z):FSpec prog 88 [gA,oK n] (HI d w) [3,4] (.i Z.2) (HO d Z.1):=by
 refine aP func88 ?_;rw [Aa] at hZ;by_cases h1:0≤n∧n≤1000
 case neg =>
  obtain rfl:Z=(w,1):=by
   rw [←hZ,show (decide (0≤n) && decide (n≤1000))=false by rw [Bool.and_eq_false_iff];simp;omega];rfl
  repeat' (first|refine af ?_ ?_|refine ae ?_|exact ah|refine ab fun hb=>?_|(refine bP (qf [(3,1),(4,2)]) ?_;exact aj))
 obtain ⟨h1,h2⟩:=h1;rw [decide_eq_true h1,decide_eq_true h2] at hZ;by_cases h3:1073741824-n<w.c.now
 ·obtain rfl:Z=(w,16):=by rw [←hZ,decide_eq_true h3];rfl
  repeat' (first|refine af ?_ ?_|refine ae ?_|exact ah|refine ab fun hb=>?_|(refine bP (qf [(3,1),(4,2)]) ?_;exact aj))
 ·obtain ⟨V,hV⟩:∃V,E5 w n=V:=⟨_,rfl⟩;have hk:=hok h1 h2 (by omega);obtain ⟨W,hW⟩:∃W,gL w.c.procs.length (E5 w n)=W:=⟨_,rfl⟩;obtain rfl:Z=(W,0):=by rw [←hZ,decide_eq_false h3,hW];rfl
  obtain ⟨k1,k2⟩:=hk.len;repeat' (first|refine af ?_ ?_|refine aa 9 rfl (cH (qf [(1,1),(2,2),(3,1003),(4,1004)]) (xr d (E5 w n) k1 k2) ?_)|refine ae ?_|exact ah|refine ab fun hb=>?_)
  refine ai (fun y:Nat×Wk=>TkOk y.1 y.2∧gL y.1 y.2=W) (fun y=>bt [0,1,2,1010,1011] [(0,.v gA),(5,.i (eb y.2))] [(0,.box 89 (B8 y.2 1010 1011)),(1010,.arr 63 (eI d) y.2.c.procs),(1011,.arr 67 fG y.2.ev)]) (fun y=>y.1) (w.c.procs.length,E5 w n) ⟨hk,hW⟩ (by exact a8 (qf [(1010,1003),(1011,1004)])) ?_;clear hk hW hok hV k1 k2 hZ;rintro ⟨m,v⟩ ⟨hv,hs⟩;dsimp only at *
  obtain ⟨e,he⟩:∃e,eb v=e:=⟨_,rfl⟩;by_cases hneg:e<0
  ·obtain rfl:v=W:=by
    rw [←hs];cases m with
    | zero=>rfl
    | succ m=>rw [jN,he,decide_eq_true hneg];rfl
   rw [he];repeat' (first|refine af ?_ ?_|refine ae ?_|exact ah|refine ab fun hb=>?_|(refine bP (qf [(3,1010),(4,1011)]) ?_;exact aj))
  ·cases m with
   | zero=>exact absurd (he▸hv.2.2) hneg
   | succ m =>
    obtain ⟨_,_,hall⟩:=hv;rw [jN,he,decide_eq_false hneg,cond_false] at hs;unfold Ge at hall hs;rw [he] at hall hs ⊢;obtain ⟨u1,u2,u3,u4,u5⟩:=hall (by omega);obtain ⟨i,hi⟩:∃i:Nat,e=(i:Int):=⟨e.toNat,by omega⟩;subst hi;simp only [Int.toNat_natCast] at u2 u3 u4 u5 hs;obtain ⟨x,hx⟩:∃x,v.c.procs[i]? = some x:=⟨_,List.getElem?_eq_getElem u2⟩;have hpc:=dJ hx;rw [hpc] at u3 u4 u5 hs;obtain ⟨N0,hN⟩:∃N0,v.note 4 x.proc=N0:=⟨_,rfl⟩;have kN:=DG d v 4 x.proc (by omega);have hNp:N0.c.procs=v.c.procs:=by rw [←hN];rfl
    rw [hN] at u3 u4 u5 hs kN;have hNc:N0.pc i=x:=by unfold Wk.pc;rw [hNp];exact hpc
    have kW:=oL d N0 i (by rw [hNp];exact u2) (by rw [hNc];exact u3) (by rw [cV,hNp];exact u2);have kX:=mY d (az N0 i) i (by rw [vr,hNp];exact u2);obtain ⟨y,hy⟩:∃y,aU (az N0 i) i=y:=⟨_,rfl⟩;rw [hy] at u4 u5 hs kX;have kS:=mb d y _ u4;obtain ⟨F,hF⟩:∃F,aQ y.c.procs.length y=F:=⟨_,rfl⟩;rw [hF] at kS u5 hs;obtain ⟨f1,f2⟩:=u5.len;clear hy hF u4 u3 hNc hall hN hNp;repeat' (first|refine af ?_ ?_|(refine aa 9 rfl ?_;first|(refine cH (qf [(1,1010),(2,1011),(3,1020),(4,1021)]) (kN) ?_)|(refine cH (qf [(1,1020),(2,1021),(3,1030),(4,1031)]) (kW) ?_)|(refine cH (qf [(1,1030),(2,1031),(3,1040),(4,1041)]) (kX) ?_)|(refine cH (qf [(1,1040),(2,1041),(3,1050),(4,1051)]) (kS) ?_)|(refine cH (qf [(1,1050),(2,1051),(3,1060),(4,1061)]) (xr d F f1 f2) ?_))|refine ae ?_|exact ah|refine ab fun hb=>?_)
    refine ⟨(m,F),⟨u5,hs⟩,by dsimp only;omega,?_⟩;exact a8 (qf [(1010,1060),(1011,1061)])
end Go.Proofs.YtjndcdcbjidocaaGreatDoor
