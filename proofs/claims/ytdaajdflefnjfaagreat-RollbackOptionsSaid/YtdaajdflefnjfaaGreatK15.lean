/- Part 15 of 24 of the proof of rollbackOptions_holds (no condition). -/
import Derived.Test.YtdaajdflefnjfaaGreatK14
set_option linter.unusedVariables false
set_option linter.unusedSimpArgs false
set_option maxRecDepth 100000
set_option maxHeartbeats 64000000
namespace Go.Proofs.YtdaajdflefnjfaaGreat
open Go.RowKit Go.Proofs.Tryz
def fW (s:List Sv) (i:Nat):Int:=if i=0 then 0 else (s[i-1]?.map (·.at_)).getD 0
theorem G8 (l:List En) (s:List Sv):FSpec prog 30 [.ag [.sl iI l,.sl iF s]] [] [] (.b (kh l s)) []:=by
 refine bJ func30 ?_
 obtain ⟨b,hB⟩:∃b,kh l s=b:=⟨_,rfl⟩
 rw [hB]
 refine bY (fun c ρ a w hr=>lR (t:=0) (i:=0) hr rfl rfl) (fun hl0_0=>?_)
 refine bY (fun c ρ a w hr=>lR (t:=0) (i:=1) hr rfl rfl) (fun hl0_1=>?_)
 by_cases h72:l.length≤72
 case neg =>
  obtain rfl:b=false:=by rw [←hB];simp [kh,h72]
  repeat' (first
   | refine af ?_ ?_
   | refine en ?_
   | exact ah|refine ae fun hb=>?_
   | (refine aP (qf []) ?_;exact ab))
 by_cases h4:s.length≤4
 case neg =>
  obtain rfl:b=false:=by rw [←hB];simp [kh,h4]
  repeat' (first
   | refine af ?_ ?_
   | refine en ?_
   | exact ah|refine ae fun hb=>?_
   | (refine aP (qf []) ?_;exact ab))
 repeat' (first
  | refine af ?_ ?_
  | refine en ?_
  | exact ah|refine ae fun hb=>?_)
 refine ao (fun i=>i≤l.length∧fO (l.take i) (l.drop i)=fO [] l) (fun i=>cy [1] [(1,.c (.ptr 1 0)),(3,.i i)] [(1,.box 27 [.sl iI l,.sl iF s])]) (fun i=>l.length-i) 0 ⟨Nat.zero_le _,by simp⟩ (by exact ap (qf [])) ?_
 rintro i ⟨hi,hs⟩
 by_cases hlt:i<l.length
 ·obtain ⟨e,he⟩:∃e,l[i]=e:=⟨_,rfl⟩
  have hge:l[i]? = some e:=by rw [List.getElem?_eq_getElem hlt,he]
  have hst:fO [] l=(bE e.name.toList && decide (e.before=ay (l.take i) e.name) && cm e.before e.after && fO (l.take (i+1)) (l.drop (i+1))):=by
   rw [←hs,List.drop_eq_getElem_cons hlt,he,List.take_succ_eq_append_getElem hlt,he]
   rfl
  by_cases hok:bE e.name.toList=true∧e.before=ay (l.take i) e.name∧cm e.before e.after=true
  ·obtain ⟨k1,k2,k3⟩:=hok
   repeat' (first
    | refine af ?_ ?_
    | (refine aa 9 rfl ?_;first
     | (refine cB [] (sg e.name) ?_)
     | (refine cB [] (iY (l.take i) e.name) ?_)
     | (refine cB [] (Ek e.before e.after) ?_))
    | refine en ?_
    | exact ah|refine ae fun hb=>?_)
   refine ⟨i+1,⟨by omega,?_⟩,by omega,?_⟩
   ·rw [hst,k1,k3];simp [k2]
   ·exact ap (qf [])
  ·obtain rfl:b=false:=by
    rw [←hB]
    have:fO [] l=false:=by
     rw [hst]
     cases h1:bE e.name.toList with
     | false=>rfl
     | true =>
      cases h3:cm e.before e.after with
      | false=>simp
      | true =>
       have:e.before≠ay (l.take i) e.name:=fun h=>hok ⟨h1,h,h3⟩
       simp [this]
    simp [kh,this]
   have hok1:bE e.name.toList=true→e.before=ay (l.take i) e.name→cm e.before e.after=true→False:=fun a b c=>hok ⟨a,b,c⟩
   clear hok
   repeat' (first
    | refine af ?_ ?_
    | (refine aa 9 rfl ?_;first
     | (refine cB [] (sg e.name) ?_)
     | (refine cB [] (iY (l.take i) e.name) ?_)
     | (refine cB [] (Ek e.before e.after) ?_))
    | refine en ?_
    | exact ah|(refine ae fun hb=>?_;first|(exact (hok1 (by assumption) (by assumption) (by assumption)).elim)|skip)
    | (refine aP (qf []) ?_;exact ab))
 have hE:fO [] l=true:=by rw [←hs,List.drop_eq_nil_of_le (by omega)];rfl
 by_cases h8:(bp l).length≤8
 case neg =>
  obtain rfl:b=false:=by rw [←hB];simp [kh,h8]
  repeat' (first
   | refine af ?_ ?_
   | refine aa 9 rfl (cC [] (sy l (by omega)) ?_)
   | refine en ?_
   | exact ah|refine ae fun hb=>?_
   | (refine aP (qf []) ?_;exact ab))
 repeat' (first
  | refine af ?_ ?_
  | refine aa 9 rfl (cC [] (sy l (by omega)) ?_)
  | refine en ?_
  | exact ah|refine ae fun hb=>?_)
 refine ao (fun i=>i≤s.length∧mt s l.length i (fW s i) (s.drop i)=mt s l.length 0 0 s) (fun i=>cy [1] [(1,.c (.ptr 1 0)),(5,.i i)] [(1,.box 27 [.sl iI l,.sl iF s])]) (fun i=>s.length-i) 0 ⟨Nat.zero_le _,rfl⟩ (by exact ap (qf [])) ?_
 clear hs hi hlt
 rintro j ⟨hj,hs⟩
 have hBB:b=mt s l.length 0 0 s:=by rw [←hB];simp [kh,h72,h4,hE,h8]
 by_cases hlt:j<s.length
 case neg =>
  obtain rfl:b=true:=by rw [hBB,←hs,List.drop_eq_nil_of_le (by omega)];rfl
  repeat' (first
   | refine af ?_ ?_
   | refine en ?_
   | exact ah|refine ae fun hb=>?_
   | (refine aP (qf []) ?_;exact ab))
 obtain ⟨x,hx⟩:∃x,s[j]=x:=⟨_,rfl⟩
 have hgx:s[j]? = some x:=by rw [List.getElem?_eq_getElem hlt,hx]
 have hst:mt s l.length 0 0 s=(decide (1≤x.label) && decide (x.label≤99) && decide (0≤x.at_) && decide (x.at_≤l.length) && decide (fW s j≤x.at_) && decide (aE x.label 0 s=(j:Int)) && mt s l.length (j+1) x.at_ (s.drop (j+1))):=by
  rw [←hs,List.drop_eq_getElem_cons hlt,hx]
  rfl
 have hnx:fW s (j+1)=x.at_:=by simp [fW,hgx]
 by_cases hok:(1≤x.label∧x.label≤99)∧(0≤x.at_∧x.at_≤l.length)∧fW s j≤x.at_∧aE x.label 0 s=(j:Int)
 ·obtain ⟨⟨k1,k2⟩,⟨k3,k4⟩,k5,k6⟩:=hok
  have hgo:mt s l.length (j+1) (fW s (j+1)) (s.drop (j+1))=mt s l.length 0 0 s:=by rw [hst,hnx];simp [k1,k2,k3,k4,k5,k6]
  rcases Nat.eq_zero_or_pos j with h0|h0
  ·subst h0
   repeat' (first
    | refine af ?_ ?_
    | refine aa 9 rfl (cB [] (jK s x.label) ?_)
    | refine en ?_
    | exact ah|refine ae fun hb=>?_)
   refine ⟨0+1,⟨by omega,hgo⟩,by omega,?_⟩
   exact ap (qf [])
  ·obtain ⟨y,hy⟩:∃y,s[((j:Int)-1).toNat]? = some y:=⟨_,List.getElem?_eq_getElem (by omega)⟩
   have hp:fW s j=y.at_:=by
    have e:((j:Int)-1).toNat=j-1:=by omega
    rw [e] at hy
    simp [fW,hy,show j≠0 by omega]
   repeat' (first
    | refine af ?_ ?_
    | refine aa 9 rfl (cB [] (jK s x.label) ?_)
    | refine en ?_
    | exact ah|refine ae fun hb=>?_)
   refine ⟨j+1,⟨by omega,hgo⟩,by omega,?_⟩
   exact ap (qf [])
 ·have hok1:1≤x.label→x.label≤99→0≤x.at_→x.at_≤l.length→fW s j≤x.at_→aE x.label 0 s=(j:Int)→False:=fun a b c d e f=>hok ⟨⟨a,b⟩,⟨c,d⟩,e,f⟩
  obtain rfl:b=false:=by
   rw [hBB,hst]
   cases hh:(decide (1≤x.label) && decide (x.label≤99) && decide (0≤x.at_) && decide (x.at_≤l.length) && decide (fW s j≤x.at_) && decide (aE x.label 0 s=(j:Int))) with
   | false=>rfl
   | true =>
    simp only [Bool.and_eq_true,decide_eq_true_eq] at hh
    exact (hok1 hh.1.1.1.1.1 hh.1.1.1.1.2 hh.1.1.1.2 hh.1.1.2 hh.1.2 hh.2).elim
  clear hok
  rcases Nat.eq_zero_or_pos j with h0|h0
  ·subst h0
   have hp:fW s 0=0:=rfl
   repeat' (first
    | refine af ?_ ?_
    | refine aa 9 rfl (cB [] (jK s x.label) ?_)
    | refine en ?_
    | exact ah|(refine ae fun hb=>?_;first|(exact (hok1 (by omega) (by omega) (by omega) (by omega) (by omega) (by omega)).elim)|skip)
    | (refine aP (qf []) ?_;exact ab))
  ·obtain ⟨y,hy⟩:∃y,s[((j:Int)-1).toNat]? = some y:=⟨_,List.getElem?_eq_getElem (by omega)⟩
   have hp:fW s j=y.at_:=by
    have e:((j:Int)-1).toNat=j-1:=by omega
    rw [e] at hy
    simp [fW,hy,show j≠0 by omega]
   repeat' (first
    | refine af ?_ ?_
    | refine aa 9 rfl (cB [] (jK s x.label) ?_)
    | refine en ?_
    | exact ah|(refine ae fun hb=>?_;first|(exact (hok1 (by omega) (by omega) (by omega) (by omega) (by omega) (by omega)).elim)|skip)
    | (refine aP (qf []) ?_;exact ab))
def K6 (R:Lg×Int):TV:=.tup [R.1.a,.one (.sc (.int .i64 R.2))]
theorem gh {l:List En} {s:List Sv} (h:kh l s=true):l.length≤72∧s.length≤4:=by
 simp only [kh,Bool.and_eq_true,decide_eq_true_eq] at h
 exact ⟨h.1.1.1.1,h.1.1.1.2⟩
theorem bZ (g:Lg):FSpec prog 30 [g.a] [] [] (.b (n8 g)) []:=G8 g.entries g.saves
theorem G9 (g:Lg) (e:En) {R:Lg×Int} (hR:gS g e=R):FSpec prog 192 [g.a,e.a] [] [] (K6 R) []:=by
 refine bJ func192 ?_
 cases hV:n8 g with
 | false =>
  obtain rfl:R=(.zero,2):=by rw [←hR];simp [gS,hV]
  repeat' (first
   | refine af ?_ ?_
   | refine aa 9 rfl (cB [] (bZ g) ?_)
   | refine en ?_
   | exact ah|refine ae fun hb=>?_
   | (refine mu (qf []) ?_;exact ab))
 | true =>
  obtain ⟨h1,h2⟩:=gh hV
  cases hV2:n8 ⟨g.entries++[e],g.saves⟩ with
  | false =>
   obtain rfl:R=(.zero,1):=by rw [←hR];simp [gS,hV,hV2]
   repeat' (first
    | refine af ?_ ?_
    | (refine aa 8 rfl ?_;refine bc (ak rfl rfl (aI rfl rfl) (aO [e] rfl rfl rfl rfl) rfl aJ aJ) rfl rfl rfl ?_)
    | (refine aa 9 rfl ?_;first
     | (refine cB [] (bZ g) ?_)
     | (refine cB [17,21] (bZ ⟨g.entries++[e],g.saves⟩) ?_))
    | refine en ?_
    | exact ah|refine ae fun hb=>?_
    | (refine mu (qf []) ?_;exact ab))
  | true =>
   obtain rfl:R=(⟨g.entries++[e],g.saves⟩,0):=by rw [←hR];simp [gS,hV,hV2]
   repeat' (first
    | refine af ?_ ?_
    | (refine aa 8 rfl ?_;refine bc (ak rfl rfl (aI rfl rfl) (aO [e] rfl rfl rfl rfl) rfl aJ aJ) rfl rfl rfl ?_)
    | (refine aa 9 rfl ?_;first
     | (refine cB [] (bZ g) ?_)
     | (refine cB [17,21] (bZ ⟨g.entries++[e],g.saves⟩) ?_))
    | refine en ?_
    | exact ah|refine ae fun hb=>?_
    | (refine mu (qf []) ?_;exact ab))
theorem K7 (g:Lg) (n:Int) {R:Lg×Int} (hR:iN g n=R):FSpec prog 134 [g.a,.one (.sc (.int .i64 n))] [] [] (K6 R) []:=by
 refine bJ func134 ?_
 cases hV:n8 g with
 | false =>
  obtain rfl:R=(.zero,2):=by rw [←hR];simp [iN,hV]
  repeat' (first
   | refine af ?_ ?_
   | refine aa 9 rfl (cB [] (bZ g) ?_)
   | refine en ?_
   | exact ah|refine ae fun hb=>?_
   | (refine mu (qf []) ?_;exact ab))
 | true =>
  obtain ⟨h1,h2⟩:=gh hV
  by_cases hn:1≤n∧n≤99
  case neg =>
   obtain rfl:R=(.zero,1):=by
    rw [←hR];unfold iN;rw [hV]
    have:(decide (1≤n) && decide (n≤99))=false:=by rw [Bool.and_eq_false_iff];simp;omega
    rw [this];rfl
   repeat' (first
    | refine af ?_ ?_
    | refine aa 9 rfl (cB [] (bZ g) ?_)
    | refine en ?_
    | exact ah|refine ae fun hb=>?_
    | (refine mu (qf []) ?_;exact ab))
  obtain ⟨hn1,hn2⟩:=hn
  by_cases hf:0≤aE n 0 g.saves
  case pos =>
   obtain rfl:R=(.zero,11):=by rw [←hR];simp [iN,hV,hn1,hn2,hf]
   repeat' (first
    | refine af ?_ ?_
    | (refine aa 9 rfl ?_;first
     | (refine cB [] (bZ g) ?_)
     | (refine cB [] (jK g.saves n) ?_))
    | refine en ?_
    | exact ah|refine ae fun hb=>?_
    | (refine mu (qf []) ?_;exact ab))
  by_cases h4:g.saves.length=4
  case pos =>
   obtain rfl:R=(.zero,4):=by rw [←hR];simp [iN,hV,hn1,hn2,hf,h4]
   repeat' (first
    | refine af ?_ ?_
    | (refine aa 9 rfl ?_;first
     | (refine cB [] (bZ g) ?_)
     | (refine cB [] (jK g.saves n) ?_))
    | refine en ?_
    | exact ah|refine ae fun hb=>?_
    | (refine mu (qf []) ?_;exact ab))
  obtain rfl:R=(⟨g.entries,g.saves++[⟨n,g.entries.length⟩]⟩,0):=by rw [←hR];simp [iN,hV,hn1,hn2,hf,h4]
  repeat' (first
   | refine af ?_ ?_
   | (refine aa 8 rfl ?_;refine bc (ak rfl rfl (aI rfl rfl) (aO [⟨n,g.entries.length⟩] rfl rfl rfl rfl) rfl aJ aJ) rfl rfl rfl ?_)
   | (refine aa 9 rfl ?_;first
    | (refine cB [] (bZ g) ?_)
    | (refine cB [] (jK g.saves n) ?_))
   | refine en ?_
   | exact ah|refine ae fun hb=>?_
   | (refine mu (qf []) ?_;exact ab))
theorem zP (g:Lg) (h72:g.entries.length≤72):FSpec prog 170 [g.a] [] [] (.c (.sl cL (iv g))) []:=by
 refine bJ func170 ?_
 have hnl:(bp g.entries).length≤72:=by
  have:∀(l:List En) (acc:List ByteArray),(dh acc l).length≤acc.length+l.length:=by
   intro l
   induction l with
   | nil=>intro acc;simp [dh]
   | cons e l ih =>
    intro acc
    rw [jL]
    cases dF e.name acc with
    | true=>have:=ih acc;simp;omega
    | false=>have:=ih (gR e.name acc);rw [jj] at this;simp;omega
  have:=this g.entries []
  simp at this
  exact Nat.le_trans this h72
 repeat' (first
  | refine af ?_ ?_
  | refine aa 9 rfl (cC [] (sy g.entries (by omega)) ?_)
  | refine en ?_
  | exact ah|refine ae fun hb=>?_)
 obtain ⟨N,hN⟩:∃N,bp g.entries=N:=⟨_,rfl⟩
 rw [hN] at hnl
 obtain ⟨F,hF⟩:∃F:List ByteArray→List Tm,F=fun L=>(L.map fun m=>(⟨m,ay g.entries m⟩:Tm)).filter fun a=>!aF a.am:=⟨_,rfl⟩
 have hH:iv g=F N:=by rw [hF,←hN];rfl
 rw [hH,hN]
 refine dS 3 1000 31 cL rfl rfl rfl ?_
 refine ao (fun x:Nat×List Tm=>x.1≤N.length∧x.2.length≤x.1∧x.2++F (N.drop x.1)=F N) (fun x=>cy [1,1000] [(1,.c (.ptr 1 0)),(3,.c (.own 1000)),(4,.c (.sl dU N)),(5,.i x.1)] [(1,.box 27 [.sl iI g.entries,.sl iF g.saves]),(1000,.arr 31 cL x.2)]) (fun x=>N.length-x.1) (0,[]) ⟨Nat.zero_le _,Nat.le_refl _,rfl⟩ (by exact ap (qf [])) ?_
 rintro ⟨i,acc⟩ ⟨hi,hal,hs⟩
 dsimp only at *
 by_cases hlt:i<N.length
 ·have e:F (N.drop i)=(bif aF (ay g.entries N[i]) then [] else [⟨N[i],ay g.entries N[i]⟩])++F (N.drop (i+1)):=by
   rw [List.drop_eq_getElem_cons hlt,hF]
   dsimp only
   rw [List.map_cons,List.filter_cons]
   cases aF (ay g.entries N[i]) <;> rfl
  rw [e] at hs
  repeat' (first
   | refine af ?_ ?_
   | (refine aa 8 rfl ?_;refine bc (ak rfl rfl (aI rfl rfl) (aO [⟨N[i],ay g.entries N[i]⟩] rfl rfl rfl rfl) rfl aJ aJ) rfl rfl rfl ?_)
   | refine aa 9 rfl (cB [] (iY g.entries N[i]) ?_)
   | refine en ?_
   | exact ah|refine ae fun hb=>?_)
  ·refine ⟨(i+1,acc++[⟨N[i],ay g.entries N[i]⟩]),⟨by dsimp only;omega,by simp;omega,?_⟩,by dsimp only;omega,?_⟩
   ·rw [←hs];simp [aF,hb]
   ·exact ap (qf [(1000,34)])
  ·refine ⟨(i+1,acc),⟨by dsimp only;omega,by dsimp only;omega,?_⟩,by dsimp only;omega,?_⟩
   ·rw [←hs];simp [aF,hb]
   ·exact ap (qf [])
 ·have e:acc=F N:=by rw [←hs,List.drop_eq_nil_of_le (by omega)];simp [hF]
  repeat' (first
   | refine af ?_ ?_
   | refine en ?_
   | exact ah|refine ae fun hb=>?_)
  rw [←e]
  refine aP (qf []) ?_;exact ab
theorem Bc {all:List Sv} {n:Int}:∀{l:List Sv} {k:Nat} {a:Int},mt all n k a l=true→∀x∈l,0≤x.at_∧x.at_≤n
 | [],_,_,_=>by simp
 | s :: l,k,a,h=>by
  simp only [mt,Bool.and_eq_true,decide_eq_true_eq] at h
  intro x hx
  rcases List.mem_cons.1 hx with rfl|hx
  ·exact ⟨h.1.1.1.1.2,h.1.1.1.2⟩
  ·exact Bc h.2 x hx
theorem zQ {l:List En} {s:List Sv} (h:kh l s=true):∀x∈s,0≤x.at_∧x.at_≤l.length:=by
 simp only [kh,Bool.and_eq_true] at h
 exact Bc h.2
theorem gF:∀(l:List En) (acc:List ByteArray),(dh acc l).length≤acc.length+l.length
 | [],acc=>by simp [dh]
 | e :: l,acc=>by
  rw [jL]
  cases dF e.name acc with
  | true=>have:=gF l acc;simp;omega
  | false=>have:=gF l (gR e.name acc);rw [jj] at this;simp;omega
def K8 (R:Lg×List Tm×Int):TV:=.tup [R.1.a,.one (.sl cL R.2.1),.one (.sc (.int .i64 R.2.2))]
theorem Ha (l:List Sv) (n:Int) {k:Int} (h:aE n 0 l=k):FSpec prog 75 [.one (.sl iF l),.one (.sc (.int .i64 n))] [] [] (.i k) []:=h▸jK l n
theorem IL (g:Lg) (n:Int) {R:Lg×List Tm×Int} (hR:bU g n=R):FSpec prog 32 [g.a,.one (.sc (.int .i64 n))] [] [] (K8 R) []:=by
 refine bJ func32 ?_
 cases hV:n8 g with
 | false =>
  obtain rfl:R=(.zero,[],2):=by rw [←hR];simp [bU,hV]
  repeat' (first
   | refine af ?_ ?_
   | refine aa 9 rfl (cB [] (bZ g) ?_)
   | refine en ?_
   | exact ah|refine ae fun hb=>?_
   | (refine gK (qf []) ?_;exact ab))
 | true =>
  obtain ⟨h1,h2⟩:=gh hV
  have hat:=zQ hV
  by_cases hf:n≠0∧aE n 0 g.saves<0
  case pos =>
   obtain ⟨hn0,hf⟩:=hf
   obtain rfl:R=(.zero,[],10):=by rw [←hR];simp [bU,hV,hn0,hf]
   repeat' (first
    | refine af ?_ ?_
    | (refine aa 9 rfl ?_;first
     | (refine cB [] (bZ g) ?_)
     | (refine cB [] (jK g.saves n) ?_))
    | refine en ?_
    | exact ah|refine ae fun hb=>?_
    | (refine gK (qf []) ?_;exact ab))
  obtain ⟨at_,sv,hX,ha1,ha2,hs1,hs2,hcase⟩:∃(at_:Int) (sv:Nat),bi g n=⟨g.entries.take at_.toNat,g.saves.take sv⟩∧0≤at_∧at_≤g.entries.length∧0≤sv∧sv≤g.saves.length∧((n=0∧at_=0∧sv=0)∨(n≠0∧∃i,∃hi:i<g.saves.length,aE n 0 g.saves=(i:Int)∧g.saves[i].at_=at_∧sv=i+1)):=by
   by_cases hn:n=0
   ·exact ⟨0,0,by simp [bi,hn],by omega,by omega,by omega,by omega,.inl ⟨hn,rfl,rfl⟩⟩
   ·obtain ⟨i,hi,he,_⟩:=gC (n:=n) (l:=g.saves) (k:=0) (by by_cases h:aE n 0 g.saves<0;exact absurd ⟨hn,h⟩ hf;omega)
    have he2:aE n 0 g.saves=(i:Int):=by rw [he];simp
    have:=hat _ (List.getElem_mem hi)
    exact ⟨g.saves[i].at_,i+1,by simp [bi,hn,he2,hi,List.getD_eq_getElem?_getD],this.1,this.2,by omega,by omega,.inr ⟨hn,i,hi,he2,rfl,rfl⟩⟩
  have hl1:(g.entries.take at_.toNat).length=at_.toNat:=by simp;omega
  obtain ⟨N,hN⟩:∃N,bp (g.entries.drop at_.toNat)=N:=⟨_,rfl⟩
  have hNl:N.length≤72:=by
   rw [←hN]
   have:=gF (g.entries.drop at_.toNat) []
   simp at this
   unfold bp
   omega
  obtain rfl:R=(⟨g.entries.take at_.toNat,g.saves.take sv⟩,N.map fun m=>⟨m,ay (g.entries.take at_.toNat) m⟩,0):=by
   rw [←hR]
   unfold bU
   rw [hX,hV,hl1,hN]
   rcases hcase with ⟨rfl,_⟩|⟨h0,i,hi,he,_⟩
   ·simp
   ·have hi0:¬((i:Int)<0):=by omega
    simp [h0,he,hi0]
  clear hR hf hX
  rcases hcase with ⟨rfl,rfl,rfl⟩|⟨h0,i,hi,he,rfl,rfl⟩
  ·skip
   repeat' (first
    | refine af ?_ ?_
    | (refine aa 9 rfl ?_;first
     | (refine cB [] (bZ g) ?_)
     | (refine cC [] (sy (g.entries.drop (Int.toNat 0)) (by simp;omega)) ?_))
    | refine en ?_
    | exact ah|refine ae fun hb=>?_)
   refine dS 11 1000 31 cL rfl rfl rfl ?_
   obtain ⟨X,hXg⟩:∃X:Lg,X=⟨g.entries.take (Int.toNat 0),g.saves.take 0⟩:=⟨_,rfl⟩
   refine ao (fun x:Nat×List Tm=>x.1≤N.length∧x.2.length=x.1∧x.2++((N.drop x.1).map fun m=>(⟨m,ay (g.entries.take (Int.toNat 0)) m⟩:Tm))=N.map fun m=>⟨m,ay (g.entries.take (Int.toNat 0)) m⟩) (fun x=>cy [4,10,1000,1001,1002] [(4,.c (.ptr 4 0)),(10,.c (.ptr 10 0)),(11,.c (.own 1000)),(12,.c (.sl dU N)),(13,.i x.1)] [(4,.box 27 [.sc (.slice none 0 0),.sc (.slice none 0 0)]),(10,.box 27 [.sl iI (g.entries.take (Int.toNat 0)),.sl iF (g.saves.take 0)]),(1000,.arr 31 cL x.2)]) (fun x=>N.length-x.1) (0,[]) ⟨Nat.zero_le _,rfl,rfl⟩ (by rw [←hN];exact ap (qf [])) ?_
   rintro ⟨k,acc⟩ ⟨hk,hal,hs⟩
   dsimp only at *
   by_cases hlt:k<N.length
   ·rw [List.drop_eq_getElem_cons hlt,List.map_cons] at hs
    repeat' (first
     | refine af ?_ ?_
     | (refine aa 8 rfl ?_;refine bc (ak rfl rfl (aI rfl rfl) (aO [⟨N[k],ay (g.entries.take (Int.toNat 0)) N[k]⟩] rfl rfl rfl rfl) rfl aJ aJ) rfl rfl rfl ?_)
     | refine aa 9 rfl (cB [] (iY (g.entries.take (Int.toNat 0)) N[k]) ?_)
     | refine en ?_
     | exact ah|refine ae fun hb=>?_)
    refine ⟨(k+1,acc++[⟨N[k],ay (g.entries.take (Int.toNat 0)) N[k]⟩]),⟨by dsimp only;omega,by simp;omega,by dsimp only;rw [←hs];simp⟩,by dsimp only;omega,?_⟩
    exact ap (qf [(1000,73)])
   ·have e:acc=N.map fun m=>⟨m,ay (g.entries.take (Int.toNat 0)) m⟩:=by rw [←hs,List.drop_eq_nil_of_le (by omega)];simp
    rw [←e]
    repeat' (first
     | refine af ?_ ?_
     | refine en ?_
     | exact ah|refine ae fun hb=>?_
     | (refine gK (qf []) ?_;exact ab))
  ·skip
   repeat' (first
    | refine af ?_ ?_
    | (refine aa 9 rfl ?_;first
     | (refine cB [] (bZ g) ?_)
     | (refine cB [] (Ha g.saves n he) ?_)
     | (refine cC [] (sy (g.entries.drop g.saves[i].at_.toNat) (by simp;omega)) ?_))
    | refine en ?_
    | exact ah|refine ae fun hb=>?_)
   refine dS 11 1000 31 cL rfl rfl rfl ?_
   obtain ⟨X,hXg⟩:∃X:Lg,X=⟨g.entries.take g.saves[i].at_.toNat,g.saves.take (i+1)⟩:=⟨_,rfl⟩
   refine ao (fun x:Nat×List Tm=>x.1≤N.length∧x.2.length=x.1∧x.2++((N.drop x.1).map fun m=>(⟨m,ay (g.entries.take g.saves[i].at_.toNat) m⟩:Tm))=N.map fun m=>⟨m,ay (g.entries.take g.saves[i].at_.toNat) m⟩) (fun x=>cy [4,10,1000,1001,1002] [(4,.c (.ptr 4 0)),(10,.c (.ptr 10 0)),(11,.c (.own 1000)),(12,.c (.sl dU N)),(13,.i x.1)] [(4,.box 27 [.sc (.slice none 0 0),.sc (.slice none 0 0)]),(10,.box 27 [.sl iI (g.entries.take g.saves[i].at_.toNat),.sl iF (g.saves.take (i+1))]),(1000,.arr 31 cL x.2)]) (fun x=>N.length-x.1) (0,[]) ⟨Nat.zero_le _,rfl,rfl⟩ (by rw [←hN];exact ap (qf [])) ?_
   rintro ⟨k,acc⟩ ⟨hk,hal,hs⟩
   dsimp only at *
   by_cases hlt:k<N.length
   ·rw [List.drop_eq_getElem_cons hlt,List.map_cons] at hs
    repeat' (first
     | refine af ?_ ?_
     | (refine aa 8 rfl ?_;refine bc (ak rfl rfl (aI rfl rfl) (aO [⟨N[k],ay (g.entries.take g.saves[i].at_.toNat) N[k]⟩] rfl rfl rfl rfl) rfl aJ aJ) rfl rfl rfl ?_)
     | refine aa 9 rfl (cB [] (iY (g.entries.take g.saves[i].at_.toNat) N[k]) ?_)
     | refine en ?_
     | exact ah|refine ae fun hb=>?_)
    refine ⟨(k+1,acc++[⟨N[k],ay (g.entries.take g.saves[i].at_.toNat) N[k]⟩]),⟨by dsimp only;omega,by simp;omega,by dsimp only;rw [←hs];simp⟩,by dsimp only;omega,?_⟩
    exact ap (qf [(1000,73)])
   ·have e:acc=N.map fun m=>⟨m,ay (g.entries.take g.saves[i].at_.toNat) m⟩:=by rw [←hs,List.drop_eq_nil_of_le (by omega)];simp
    rw [←e]
    repeat' (first
     | refine af ?_ ?_
     | refine en ?_
     | exact ah|refine ae fun hb=>?_
     | (refine gK (qf []) ?_;exact ab))
structure Opn where
 proc:Pr
 label:Int
 cost:Int
 lower:List Tm
def Opn.d (o:Opn):List D:=[.sc (.int .i64 o.proc.site),.sc (.int .i64 o.proc.inc),.sc (.int .i64 o.proc.num),.sc (.int .i64 o.label),.sc (.int .i64 o.cost),.sl cL o.lower]
def Opn.a (o:Opn):V0:=.ag o.d
def uh:El Opn where
 n:=6
 pos:=by decide
 rep:=fun w S x cs=>∃A c,cs=[.int .i64 x.proc.site,.int .i64 x.proc.inc,.int .i64 x.proc.num,.int .i64 x.label,.int .i64 x.cost,.slice A x.lower.length c]∧RowsAt cL w S A x.lower∧(x.lower.length≤c∧c≤maxLen)
 len:=fun h=>by obtain ⟨A,c,rfl,_⟩:=h;rfl
 one:=fun h=>by obtain ⟨A,c,rfl,_⟩:=h;intro u hu;simp at hu;rcases hu with rfl|rfl|rfl|rfl|rfl|rfl <;> rfl
 same:=fun h hk hS=>by
  obtain ⟨A,c,e,h1,h2⟩:=h
  exact ⟨A,c,e,h1.same hk hS,h2⟩
instance:Dp uh where
 deep:=Opn.d
 get:=by
  rintro w F ρ x cs ⟨A,c,rfl,h1,h2⟩
  exact ⟨rfl,rfl,rfl,rfl,rfl,⟨A,c,rfl,h2,h1⟩,trivial⟩
 put:=by
  intro w F ρ x cs h
  match cs,h with
  | [_,_,_,_,_,_],⟨rfl,rfl,rfl,rfl,rfl,⟨A,c,rfl,h2,h1⟩,_⟩=>exact ⟨A,c,rfl,h1,h2⟩
 nok:=fun _ _=>rfl
instance:ST prog uh 51 41 64:=⟨ElTB.mk' underlying51 (.agg #[.int .i64 0,.int .i64 0,.int .i64 0,.int .i64 0,.int .i64 0,.slice none 0 0]) 6 64 (by kernel_rfl) rfl rfl⟩
theorem JS (a b:ByteArray):(Op.bytesLess a.toList b.toList || a.toList == b.toList) = !Op.bytesLess b.toList a.toList:=by
 have h1:fD a b=Op.bytesLess a.toList b.toList:=rfl
 have h2:fD b a=Op.bytesLess b.toList a.toList:=rfl
 rw [←h1,←h2]
 by_cases e:a=b
 ·subst e;rw [dt];simp
 ·rw [show (a.toList == b.toList)=false from beq_eq_false_iff_ne.2 fun h=>e (toList_inj h),Bool.or_false]
  cases h:fD b a with
  | true =>
   cases h':fD a b with
   | false=>rfl
   | true=>have:=eh h h';rw [dt] at this;cases this
  | false=>rw [lV h (fun h=>e h.symm)];rfl
theorem Hb {P:Program} {o:Oper} {s:Mst} {t t':TypeId} {x y:Operand} {a b:ByteArray} (ho:o.op = .binOp .leq t x y t') (hx:s.ev x = .c (.sc (.string a))) (hy:s.ev y = .c (.sc (.string b))):LOp P o s [] ⟨.b (!Op.bytesLess b.toList a.toList),[],[]⟩ :=
 fy (by rw [ho];rfl) hx hy fun ev w hx hy=>by simp [execOp,ho,hx,hy,eqGuard,binOp,Op.stringOp,←JS]
def gT (n:ByteArray):List ByteArray→List ByteArray
 | []=>[n]
 | x :: l=>bif fD x n then x :: gT n l else bif aT x n then x :: l else n :: x :: l
theorem Bd (n:ByteArray):∀(l:List ByteArray) (i:Nat) (hi:i≤l.length),(∀j (hj:j<l.length),j<i→fD l[j] n=true)→gT n l=l.take i++gT n (l.drop i)
 | [],i,hi,_=>by
  obtain rfl:i=0:=by simpa using hi
  rfl
 | x :: l,0,_,_=>rfl
 | x :: l,i+1,hi,h=>by
  have h0:=h 0 (by simp) (by omega)
  simp only [List.getElem_cons_zero] at h0
  have ih:=Bd n l i (by simpa using hi) (fun j hj hji=>by have:=h (j+1) (by simpa using hj) (by omega);simpa using this)
  show (bif fD x n then x :: gT n l else bif aT x n then x :: l else n :: x :: l)=_
  rw [h0,cond_true,ih]
  rfl
theorem om (n:ByteArray):∀l:List ByteArray,(gT n l).length≤l.length+1
 | []=>by simp [gT]
 | x :: l=>by
  have:=om n l
  show (bif fD x n then x :: gT n l else bif aT x n then x :: l else n :: x :: l).length≤_
  cases fD x n with
  | true=>rw [cond_true,List.length_cons,List.length_cons];omega
  | false=>cases aT x n <;> simp
theorem JT (l:List ByteArray) (n:ByteArray) (hl:l.length≤100000) {R:List ByteArray} (hR:gT n l=R):FSpec prog 77 [.one (.sl dU l),.one (.sc (.string n))] [] [] (.c (.sl dU R)) []:=by
 refine bJ func77 ?_
 repeat' (first
  | refine af ?_ ?_
  | refine en ?_
  | exact ah|refine ae fun hb=>?_)
 refine ao (fun i=>i≤l.length∧∀j (hj:j<l.length),j<i→fD l[j] n=true) (fun i=>cy [] [(0,.c (.sl dU l)),(1,.c (.sc (.string n))),(5,.i i)] []) (fun i=>l.length-i) 0 ⟨Nat.zero_le _,fun j hj h=>absurd h (by omega)⟩ (by exact ap (qf [])) ?_
 rintro i ⟨hi,hlow⟩
 have hat:=Bd n l i hi hlow
 by_cases hlt:i<l.length
 ·obtain ⟨x,hx⟩:∃x,l[i]? = some x:=⟨_,List.getElem?_eq_getElem hlt⟩
  have ex:l[i]=x:=(List.getElem?_eq_some_iff.1 hx).2
  obtain ⟨t,ht⟩:∃t,Op.bytesLess x.toList n.toList=t:=⟨_,rfl⟩
  cases t with
  | true =>
   repeat' (first
    | refine af ?_ ?_
    | refine en ?_
    | exact ah|(refine ae fun hb=>?_;first|(exact Bool.noConfusion (hb.symm.trans ht))|(exact Bool.noConfusion (ht.symm.trans hb))|skip))
   refine ⟨i+1,⟨by omega,fun j hj h=>?_⟩,by omega,?_⟩
   ·by_cases e:j=i
    ·subst e;rw [ex];exact ht
    ·exact hlow j hj (by omega)
   ·exact ap (qf [])
  | false =>
   rw [List.drop_eq_getElem_cons hlt,ex] at hat
   have hat:gT n l=l.take i++(bif Op.bytesLess x.toList n.toList then x :: gT n (l.drop (i+1)) else bif (x.toList == n.toList) then x :: l.drop (i+1) else n :: x :: l.drop (i+1)):=hat
   rw [ht,cond_false] at hat
   by_cases he:x.toList=n.toList
   ·obtain rfl:R=l:=by
     rw [←hR,hat,beq_iff_eq.2 he,cond_true]
     conv=>rhs;rw [←List.take_append_drop i l,List.drop_eq_getElem_cons hlt,ex]
    repeat' (first
     | refine af ?_ ?_
     | refine en ?_
     | exact ah|(refine ae fun hb=>?_;first|(exact Bool.noConfusion (hb.symm.trans ht))|(exact Bool.noConfusion (ht.symm.trans hb))|(exact absurd he hb)|skip)
     | (refine aP (qf []) ?_;exact ab))
   ·obtain rfl:R=(l.take i++[n])++l.drop i:=by
     rw [←hR,hat,beq_eq_false_iff_ne.2 he,cond_false,List.drop_eq_getElem_cons hlt,ex]
     simp
    repeat' (first
     | refine af ?_ ?_
     | (refine aa 8 rfl ?_;refine bc (ak rfl rfl (aI rfl rfl) (aO [n] rfl rfl rfl rfl) rfl aJ aJ) rfl rfl rfl ?_)
     | refine en ?_
     | exact ah|(refine ae fun hb=>?_;first|(exact Bool.noConfusion (hb.symm.trans ht))|(exact Bool.noConfusion (ht.symm.trans hb))|(exact absurd hb he)|skip)
     | (refine aP (qf []) ?_;exact ab))
 ·obtain rfl:R=(l.take i++[n])++l.drop i:=by
   rw [←hR,hat,List.drop_eq_nil_of_le (by omega)]
   simp [gT]
  repeat' (first
   | refine af ?_ ?_
   | (refine aa 8 rfl ?_;refine bc (ak rfl rfl (aI rfl rfl) (aO [n] rfl rfl rfl rfl) rfl aJ aJ) rfl rfl rfl ?_)
   | refine en ?_
   | exact ah|refine ae fun hb=>?_
   | (refine aP (qf []) ?_;exact ab))
section
open Go.WideShapes Go.ChangeShapes Go.Deep Go.Joins
theorem EB:Opens prog iI 112 (fun _=>True):=by
 intro H enc w base spare held fuel cs x h
 obtain ⟨xs,n,_,_,hl,hlen,hf⟩:=DataW.trod_struct underlying112 h
 have hl2:cs.length=5:=hl.trans (by kernel_rfl)
 have hg:∀(i:Nat) (f:Field),_=some f→∃y,DataW.trod enc prog w base spare held n f.type ((cs.drop f.offset).take (prog.cellsOf f.type))=some y:=fun i f hi=>by
  have h1:=hf i f hi
  have h2:i<xs.length:=by rw [hlen];exact (Array.getElem?_eq_some_iff.1 hi).1
  rw [List.getElem?_eq_getElem h2] at h1
  exact ⟨_,h1⟩
 match cs,hl2 with
 | [c0,c1,c2,c3,c4],_ =>
  obtain ⟨_,h0⟩:=hg 0 _ rfl
  obtain ⟨_,h1⟩:=hg 1 _ rfl
  obtain ⟨_,h2⟩:=hg 2 _ rfl
  have e1:prog.cellsOf 9=1:=by kernel_rfl
  have e2:prog.cellsOf 29=2:=by kernel_rfl
  obtain ⟨a,g0,_⟩:=tH underlying9 h0
  obtain ⟨⟨m,u⟩,g1,_⟩:=ru h1
  obtain ⟨⟨p,q⟩,g2,_⟩:=ru h2
  refine ⟨⟨a,⟨m,u⟩,⟨p,q⟩⟩,?_,trivial⟩
  have g0':([c0,c1,c2,c3,c4].drop 0).take (prog.cellsOf 9)=[.string a]:=g0
  have g1':([c0,c1,c2,c3,c4].drop 1).take (prog.cellsOf 29)=[.int .i64 m,.int .i64 u]:=g1
  have g2':([c0,c1,c2,c3,c4].drop 3).take (prog.cellsOf 29)=[.int .i64 p,.int .i64 q]:=g2
  rw [e1] at g0'
  rw [e2] at g1' g2'
  simp at g0' g1' g2'
  show [c0,c1,c2,c3,c4]=[.string a,.int .i64 m,.int .i64 u,.int .i64 p,.int .i64 q]
  rw [g0',g1'.1,g1'.2,g2'.1,g2'.2]
theorem EC:Opens prog iF 80 (fun _=>True):=by
 intro H enc w base spare held fuel cs x h
 obtain ⟨y0,y1,n,_,hl,h0,h1⟩:=trod_struct2 underlying80 h
 have hl2:cs.length=2:=hl.trans (by kernel_rfl)
 match cs,hl2 with
 | [c0,c1],_ =>
  have e1:prog.cellsOf 3=1:=by kernel_rfl
  obtain ⟨a,g0,_⟩:=bR underlying3 h0
  obtain ⟨b,g1,_⟩:=bR underlying3 h1
  refine ⟨⟨a,b⟩,?_,trivial⟩
  have g0':([c0,c1].drop 0).take (prog.cellsOf 3)=[.int .i64 a]:=g0
  have g1':([c0,c1].drop 1).take (prog.cellsOf 3)=[.int .i64 b]:=g1
  rw [e1] at g0' g1'
  simp at g0' g1'
  show [c0,c1]=[.int .i64 a,.int .i64 b]
  rw [g0',g1']
section
variable {H:Type} {enc:TypeId×Value→H} {w:World} {base:Nat} {spare:Nat→Bool} {held:Bool}
theorem xZ {fuel:Nat} {cs:List Value} {x:DataW H×List MemPlace} (h:DataW.trod enc prog w base spare held fuel 27 cs=some x):∃(g:Lg) (A1 A2:Option Addr) (c1 c2:Nat),cs=[.slice A1 g.entries.length c1,.slice A2 g.saves.length c2]∧(g.entries.length≤c1∧c1≤maxLen)∧RowsAt iI w (Lo w.heap.size) A1 g.entries∧(g.saves.length≤c2∧c2≤maxLen)∧RowsAt iF w (Lo w.heap.size) A2 g.saves:=by
 obtain ⟨y0,y1,n,_,hl,h0,h1⟩:=trod_struct2 underlying27 h
 have hl2:cs.length=2:=hl.trans (by kernel_rfl)
 match cs,hl2 with
 | [c0,c1],_ =>
  have e1:prog.cellsOf 24=1:=by kernel_rfl
  have e2:prog.cellsOf 25=1:=by kernel_rfl
  obtain ⟨es,⟨A1,k1,g1,a1,b1,r1⟩,_⟩:=(EB.sl underlying24 (by kernel_rfl)) h0
  obtain ⟨ss,⟨A2,k2,g2,a2,b2,r2⟩,_⟩:=(EC.sl underlying25 (by kernel_rfl)) h1
  have g1':([c0,c1].drop 0).take (prog.cellsOf 24)=[.slice A1 es.length k1]:=g1
  have g2':([c0,c1].drop 1).take (prog.cellsOf 25)=[.slice A2 ss.length k2]:=g2
  rw [e1] at g1'
  rw [e2] at g2'
  simp at g1' g2'
  exact ⟨⟨es,ss⟩,A1,A2,k1,k2,by rw [g1',g2'],⟨a1,b1⟩,r1,⟨a2,b2⟩,r2⟩
theorem vV {fuel:Nat} {cs:List Value} {x:DataW H×List MemPlace} (h:DataW.trod enc prog w base spare held fuel 36 cs=some x):∃(r:Rq) (d:Nat) (A:Option Addr) (c:Nat),cs=[.int .i64 r.expr.k,.string r.expr.atom.name,.int .i64 r.expr.atom.am.mode,.int .i64 r.expr.atom.am.units,.slice A r.expr.kids.length c,.int .i64 r.prio,.int .i64 r.limit]∧(r.expr.kids.length≤c∧c≤maxLen)∧RowsAt (oN d) w (Lo w.heap.size) A r.expr.kids:=by
 obtain ⟨xs,n,hN,_,hl,hlen,hf⟩:=DataW.trod_struct underlying36 h
 have hl2:cs.length=7:=hl.trans (by kernel_rfl)
 have hg:∀(i:Nat) (f:Field),_=some f→∃y,DataW.trod enc prog w base spare held n f.type ((cs.drop f.offset).take (prog.cellsOf f.type))=some y:=fun i f hi=>by
  have h1:=hf i f hi
  have h2:i<xs.length:=by rw [hlen];exact (Array.getElem?_eq_some_iff.1 hi).1
  rw [List.getElem?_eq_getElem h2] at h1
  exact ⟨_,h1⟩
 match cs,hl2 with
 | [c0,c1,c2,c3,c4,c5,c6],_ =>
  obtain ⟨_,h0⟩:=hg 0 _ rfl
  obtain ⟨_,h1⟩:=hg 1 _ rfl
  obtain ⟨_,h2⟩:=hg 2 _ rfl
  have e1:prog.cellsOf 34=5:=by kernel_rfl
  have e2:prog.cellsOf 3=1:=by kernel_rfl
  obtain ⟨⟨k,⟨nm,⟨m,u⟩⟩,ks⟩,g0,_⟩:=Dx n h0
  obtain ⟨pr,g1,_⟩:=bR underlying3 h1
  obtain ⟨li,g2,_⟩:=bR underlying3 h2
  cases n with
  | zero=>exact g0.elim
  | succ n =>
   obtain ⟨A,cap,g0,a0,b0,r0⟩:=g0
   refine ⟨⟨.mk k ⟨nm,⟨m,u⟩⟩ ks,pr,li⟩,n,A,cap,?_,⟨a0,b0⟩,r0⟩
   have g0':([c0,c1,c2,c3,c4,c5,c6].drop 0).take (prog.cellsOf 34)=[.int .i64 k,.string nm,.int .i64 m,.int .i64 u,.slice A ks.length cap]:=g0
   have g1':([c0,c1,c2,c3,c4,c5,c6].drop 5).take (prog.cellsOf 3)=[.int .i64 pr]:=g1
   have g2':([c0,c1,c2,c3,c4,c5,c6].drop 6).take (prog.cellsOf 3)=[.int .i64 li]:=g2
   rw [e1] at g0'
   rw [e2] at g1' g2'
   simp at g0' g1' g2'
   show [c0,c1,c2,c3,c4,c5,c6]=[.int .i64 k,.string nm,.int .i64 m,.int .i64 u,.slice A ks.length cap,.int .i64 pr,.int .i64 li]
   rw [g0'.1,g0'.2.1,g0'.2.2.1,g0'.2.2.2.1,g0'.2.2.2.2,g1',g2']
theorem ED {r:Reach} {b0:Nat} {v:Value} {d:DataW H} {p:List MemPlace} (hv:Value.okWide prog w r b0 38 v) (h:DataW.Trod enc prog w base spare held 38 v d p):∃(x:Pc) (D:Nat),∀ρ,(x.a D).rep w (Lo w.heap.size) ρ v:=by
 obtain ⟨cs0,rfl,hsz⟩:=okWide_struct underlying38 hv
 obtain ⟨fuel,hf⟩:=h
 have hc2:(Value.agg cs0).cells.toList=cs0.toList:=by simp [Value.cells]
 rw [hc2] at hf
 obtain ⟨cs⟩:=cs0
 obtain ⟨xs,n,hN,_,hl,hlen,hf⟩:=DataW.trod_struct underlying38 hf
 have hf:∀i f,_→_:=hf
 have hl2:cs.length=16:=hl.trans (by kernel_rfl)
 have hg:∀(i:Nat) (f:Field),_=some f→∃y,DataW.trod enc prog w base spare held n f.type ((cs.drop f.offset).take (prog.cellsOf f.type))=some y:=fun i f hi=>by
  have h1:=hf i f hi
  have h2:i<xs.length:=by rw [hlen];exact (Array.getElem?_eq_some_iff.1 hi).1
  rw [List.getElem?_eq_getElem h2] at h1
  exact ⟨_,h1⟩
 match cs,hl2 with
 | [c0,c1,c2,c3,c4,c5,c6,c7,c8,c9,c10,c11,c12,c13,c14,c15],_ =>
  obtain ⟨_,h0⟩:=hg 0 _ rfl
  obtain ⟨_,h1⟩:=hg 1 _ rfl
  obtain ⟨_,h2⟩:=hg 2 _ rfl
  obtain ⟨_,h3⟩:=hg 3 _ rfl
  obtain ⟨_,h4⟩:=hg 4 _ rfl
  obtain ⟨_,h5⟩:=hg 5 _ rfl
  obtain ⟨_,h6⟩:=hg 6 _ rfl
  have e1:prog.cellsOf 23=3:=by kernel_rfl
  have e2:prog.cellsOf 3=1:=by kernel_rfl
  have e3:prog.cellsOf 27=2:=by kernel_rfl
  have e4:prog.cellsOf 4=1:=by kernel_rfl
  have e5:prog.cellsOf 36=7:=by kernel_rfl
  obtain ⟨⟨pa,pb,pc⟩,g0,_⟩:=wE h0
  obtain ⟨co,g1,_⟩:=bR underlying3 h1
  obtain ⟨g,A1,A2,k1,k2,g2,l1,r1,l2,r2⟩:=xZ h2
  obtain ⟨wa,g3,_⟩:=y7 underlying4 h3
  obtain ⟨q,D,A3,k3,g4,l3,r3⟩:=vV h4
  obtain ⟨si,g5,_⟩:=bR underlying3 h5
  obtain ⟨ge,g6,_⟩:=bR underlying3 h6
  have g0':([c0,c1,c2,c3,c4,c5,c6,c7,c8,c9,c10,c11,c12,c13,c14,c15].drop 0).take (prog.cellsOf 23)=[.int .i64 pa,.int .i64 pb,.int .i64 pc]:=g0
  have g1':([c0,c1,c2,c3,c4,c5,c6,c7,c8,c9,c10,c11,c12,c13,c14,c15].drop 3).take (prog.cellsOf 3)=[.int .i64 co]:=g1
  have g2':([c0,c1,c2,c3,c4,c5,c6,c7,c8,c9,c10,c11,c12,c13,c14,c15].drop 4).take (prog.cellsOf 27)=_:=g2
  have g3':([c0,c1,c2,c3,c4,c5,c6,c7,c8,c9,c10,c11,c12,c13,c14,c15].drop 6).take (prog.cellsOf 4)=[.bool wa]:=g3
  have g4':([c0,c1,c2,c3,c4,c5,c6,c7,c8,c9,c10,c11,c12,c13,c14,c15].drop 7).take (prog.cellsOf 36)=_:=g4
  have g5':([c0,c1,c2,c3,c4,c5,c6,c7,c8,c9,c10,c11,c12,c13,c14,c15].drop 14).take (prog.cellsOf 3)=[.int .i64 si]:=g5
  have g6':([c0,c1,c2,c3,c4,c5,c6,c7,c8,c9,c10,c11,c12,c13,c14,c15].drop 15).take (prog.cellsOf 3)=[.int .i64 ge]:=g6
  rw [e1] at g0'
  rw [e2] at g1' g5' g6'
  rw [e3] at g2'
  rw [e4] at g3'
  rw [e5] at g4'
  simp at g0' g1' g2' g3' g4' g5' g6'
  refine ⟨⟨⟨pa,pb,pc⟩,co,g,wa,q,si,ge⟩,D,fun ρ=>⟨[c0,c1,c2,c3,c4,c5,c6,c7,c8,c9,c10,c11,c12,c13,c14,c15],rfl,g0'.1,g0'.2.1,g0'.2.2,g1',⟨A1,k1,g2'.1,l1,r1⟩,⟨A2,k2,g2'.2,l2,r2⟩,g3',g4'.1,g4'.2.1,g4'.2.2.1,g4'.2.2.2.1,⟨A3,k3,g4'.2.2.2.2.1,l3,r3⟩,g4'.2.2.2.2.2.1,g4'.2.2.2.2.2.2,g5',g6',trivial⟩⟩
theorem Pc.up {d d':Nat} (hd:d≤d') {S:Nat→Prop} {ρ:Nat→Value} {x:Pc} {v:Value} (h:(x.a d).rep w S ρ v):(x.a d').rep w S ρ v:=by
 obtain ⟨cs,e,hA⟩:=h
 match cs,hA with
 | [_,_,_,_,_,_,_,_,_,_,_,_,_,_,_,_],⟨k0,k1,k2,k3,k4,k5,k6,k7,k8,k9,k10,⟨A,cap,e1,e2,h3⟩,k12,k13,k14,k15,_⟩ =>
  exact ⟨_,e,k0,k1,k2,k3,k4,k5,k6,k7,k8,k9,k10,⟨A,cap,e1,e2,h3.map fun _ _ hx=>uY hd hx⟩,k12,k13,k14,k15,trivial⟩
theorem EF {r:Reach} {b0:Nat} {v:Value} {d:DataW H} {p:List MemPlace} (hv:Value.okWide prog w r b0 41 v) (h:DataW.Trod enc prog w base spare held 41 v d p):∃x:Opn,∀ρ,x.a.rep w (Lo w.heap.size) ρ v:=by
 obtain ⟨cs0,rfl,hsz⟩:=okWide_struct underlying41 hv
 obtain ⟨fuel,hf⟩:=h
 have hc2:(Value.agg cs0).cells.toList=cs0.toList:=by simp [Value.cells]
 rw [hc2] at hf
 obtain ⟨cs⟩:=cs0
 obtain ⟨y0,y1,y2,y3,n,_,hl,h0,h1,h2,h3⟩:=trod_struct4 underlying41 hf
 have hl2:cs.length=6:=hl.trans (by kernel_rfl)
 match cs,hl2 with
 | [c0,c1,c2,c3,c4,c5],_ =>
  have e1:prog.cellsOf 23=3:=by kernel_rfl
  have e2:prog.cellsOf 3=1:=by kernel_rfl
  have e3:prog.cellsOf 39=1:=by kernel_rfl
  obtain ⟨⟨pa,pb,pc⟩,g0,_⟩:=wE h0
  obtain ⟨la,g1,_⟩:=bR underlying3 h1
  obtain ⟨co,g2,_⟩:=bR underlying3 h2
  obtain ⟨lo,⟨A,k,g3,l1,l2,r1⟩,_⟩:=(wZ.sl underlying39 (by kernel_rfl)) h3
  have g0':([c0,c1,c2,c3,c4,c5].drop 0).take (prog.cellsOf 23)=[.int .i64 pa,.int .i64 pb,.int .i64 pc]:=g0
  have g1':([c0,c1,c2,c3,c4,c5].drop 3).take (prog.cellsOf 3)=[.int .i64 la]:=g1
  have g2':([c0,c1,c2,c3,c4,c5].drop 4).take (prog.cellsOf 3)=[.int .i64 co]:=g2
  have g3':([c0,c1,c2,c3,c4,c5].drop 5).take (prog.cellsOf 39)=[.slice A lo.length k]:=g3
  rw [e1] at g0'
  rw [e2] at g1' g2'
  rw [e3] at g3'
  simp at g0' g1' g2' g3'
  exact ⟨⟨⟨pa,pb,pc⟩,la,co,lo⟩,fun ρ=>⟨[c0,c1,c2,c3,c4,c5],rfl,g0'.1,g0'.2.1,g0'.2.2,g1',g2',⟨A,k,g3',⟨l1,l2⟩,r1⟩,trivial⟩⟩
theorem zR {r:Reach} {b0:Nat} {v:Value} {d:DataW H} {p:List MemPlace} (hv:Value.okWide prog w r b0 42 v) (h:DataW.Trod enc prog w base spare held 42 v d p):∃l:List Int,∀ρ,(V0.one (.sl fk l)).rep w (Lo w.heap.size) ρ v:=by
 obtain ⟨a0,len,cap0,rfl⟩:=okWide_slice underlying42 hv
 obtain ⟨fuel,hf⟩:=h
 obtain ⟨l,⟨A,cap,hc,h1,h2,h3⟩,_⟩:=(Opens.sl (E:=fk) (fits:=F4) (bR underlying3) underlying42 (by kernel_rfl)) hf
 have hc':[Value.slice a0 len cap0]=[.slice A l.length cap]:=by simpa [Value.cells] using hc
 injection hc' with hc'
 exact ⟨l,fun ρ=>⟨A,cap,hc',⟨h1,h2⟩,h3⟩⟩
end
end
def fG:List ByteArray→List ByteArray→List ByteArray
 | a,[]=>a
 | a,n :: l=>fG (gT n a) l
def vW (p:Pc) (g:Lg):List ByteArray:=fG (fG [] ((p.led.entries.drop g.entries.length).map (·.name))) (bif p.waiting then (cY p.req.expr).map (·.name) else [])
def Hc (p:Pc) (g:Lg) (label:Int):Opn:=⟨p.proc,label,p.cost*((p.led.entries.length:Int)-g.entries.length+1),(vW p g).map fun n=>⟨n,ay g.entries n⟩⟩
theorem py:∀(l a:List ByteArray),(fG a l).length≤a.length+l.length
 | [],a=>Nat.le_refl _
 | n :: l,a=>by
  have h1:=py l (gT n a)
  have h2:=om n a
  show (fG (gT n a) l).length≤_
  rw [List.length_cons]
  omega
theorem Be (l:List ByteArray) (n:ByteArray) (hl:l.length≤100000):FSpec prog 77 [.one (.sl dU l),.one (.sc (.string n))] [] [] (.c (.sl dU (gT n l))) []:=JT l n hl rfl
theorem Bf (d:Nat) (p:Pc) (g:Lg) (label:Int) (hg:g.entries.length≤p.led.entries.length) (h72:p.led.entries.length≤72) (hc:0≤p.cost∧p.cost≤1000) {R:Opn} (hR:Hc p g label=R):FSpec prog 33 [p.a d,g.a,mb label] [] [] (.v R.a) []:=by
 refine bJ func33 ?_
 unfold Hc vW at hR
 obtain ⟨E,hE⟩:∃E,p.led.entries.drop g.entries.length=E:=⟨_,rfl⟩
 have hEl:E.length≤72:=by rw [←hE];simp;omega
 have hE2:p.led.entries.drop ((g.entries.length:Int)).toNat=E:=by rw [Int.toNat_natCast];exact hE
 obtain ⟨c9,hc9⟩:∃c9,p.cost*((p.led.entries.length:Int)-g.entries.length+1)=c9:=⟨_,rfl⟩
 have hmul : -9223372036854775808≤p.cost*((p.led.entries.length:Int)-g.entries.length+1)∧p.cost*((p.led.entries.length:Int)-g.entries.length+1)≤9223372036854775807:=by
  obtain ⟨k,hk⟩:∃k:Int,(p.led.entries.length:Int)-g.entries.length+1=k:=⟨_,rfl⟩
  rw [hk]
  have k1:0≤k:=by omega
  have k2:k≤73:=by omega
  have m1:=Int.mul_nonneg hc.1 k1
  have m2:p.cost*k≤1000*73:=Int.mul_le_mul hc.2 k2 k1 (by omega)
  omega
 obtain ⟨N1,hN1⟩:∃N,fG [] (E.map (·.name))=N:=⟨_,rfl⟩
 have hN1l:N1.length≤72:=by rw [←hN1];have:=py (E.map (·.name)) [];simp at this;omega
 rw [hE,hN1] at hR
 repeat' (first
  | refine af ?_ ?_
  | (refine aa 14 rfl ?_;refine sx (cR rfl rfl rfl rfl (by omega) (by omega) hE2) ?_)
  | refine en ?_
  | exact ah|refine ae fun hb=>?_)
 refine ao (fun y:Nat×List ByteArray=>y.1≤E.length∧y.2.length≤y.1∧fG y.2 ((E.drop y.1).map (·.name))=N1) (fun y=>cy [3,4,6] [(2,.v (mb label)),(3,.c (.ptr 3 0)),(4,.c (.ptr 4 0)),(6,.c (.ptr 6 0)),(7,.c (.sl dU y.2)),(21,.c (.sl iI E)),(22,.i E.length),(23,.i y.1)] [(3,.box 38 (p.d d)),(4,.box 27 [.sl iI g.entries,.sl iF g.saves]),(6,.box 41 [.sc (.int .i64 0),.sc (.int .i64 0),.sc (.int .i64 0),.sc (.int .i64 0),.sc (.int .i64 0),.sc (.slice none 0 0)])]) (fun y=>E.length-y.1) (0,[]) ⟨Nat.zero_le _,Nat.le_refl _,hN1⟩ (by exact ap (qf [])) ?_
 clear hN1 hE hE2
 rintro ⟨i,A⟩ ⟨hi,hA,hs⟩
 dsimp only at *
 by_cases hlt:i<E.length
 ·obtain ⟨e,he⟩:∃e,E[i]? = some e:=⟨_,List.getElem?_eq_getElem hlt⟩
  have ee:E[i]=e:=(List.getElem?_eq_some_iff.1 he).2
  rw [List.drop_eq_getElem_cons hlt,ee] at hs
  have kI:=Be A e.name (by omega)
  have hil:=om e.name A
  repeat' (first
   | refine af ?_ ?_
   | refine aa 9 rfl (cC [] (kI) ?_)
   | refine en ?_
   | exact ah|refine ae fun hb=>?_)
  refine ⟨(i+1,gT e.name A),⟨by dsimp only;omega,by dsimp only;omega,hs⟩,by dsimp only;omega,?_⟩
  exact ap (qf [])
 rw [List.drop_eq_nil_of_le (by omega)] at hs
 obtain rfl:A=N1:=hs
 clear hA
 obtain ⟨N,hN⟩:∃N,fG A (bif p.waiting then (cY p.req.expr).map (·.name) else [])=N:=⟨_,rfl⟩
 have h8:=dy p.req.expr
 have hNl:N.length≤80:=by
  rw [←hN]
  have:=py (bif p.waiting then (cY p.req.expr).map (·.name) else []) A
  cases hw:p.waiting with
  | true=>rw [hw] at this;simp at this ⊢;omega
  | false=>rw [hw] at this;simp at this ⊢;omega
 rw [hN] at hR
 obtain ⟨M,hM⟩:∃M:List Tm,N.map (fun n=>(⟨n,ay g.entries n⟩:Tm))=M:=⟨_,rfl⟩
 rw [hM] at hR
 obtain rfl:R=⟨p.proc,label,p.cost*((p.led.entries.length:Int)-g.entries.length+1),M⟩:=hR.symm
 clear hR hc9 c9
 cases hw:p.waiting
 case' true =>
  rw [hw,cond_true] at hN
  obtain ⟨T,hT⟩:∃T,cY p.req.expr=T:=⟨_,rfl⟩
  rw [hT] at hN h8
  have kA:=ji d p.req.expr hT
  repeat' (first
   | refine af ?_ ?_
   | refine aa 9 rfl (cC [] (kA) ?_)
   | refine en ?_
   | exact ah|(refine ae fun hb=>?_;first|(cases hw.symm.trans hb;done)|skip))
  refine ao (fun y:Nat×List ByteArray=>y.1≤T.length∧y.2.length≤72+y.1∧fG y.2 ((T.drop y.1).map (·.name))=N) (fun y=>cy [3,4,6] [(2,.v (mb label)),(3,.c (.ptr 3 0)),(4,.c (.ptr 4 0)),(6,.c (.ptr 6 0)),(7,.c (.sl dU y.2)),(37,.c (.sl cL T)),(38,.i T.length),(39,.i y.1)] [(3,.box 38 (p.d d)),(4,.box 27 [.sl iI g.entries,.sl iF g.saves]),(6,.box 41 [.sc (.int .i64 0),.sc (.int .i64 0),.sc (.int .i64 0),.sc (.int .i64 0),.sc (.int .i64 0),.sc (.slice none 0 0)])]) (fun y=>T.length-y.1) (0,A) ⟨Nat.zero_le _,by dsimp only;omega,hN⟩ (by exact ap (qf [])) ?_
  clear hN
  rintro ⟨i,B⟩ ⟨hi,hBl,hs⟩
  dsimp only at *
  by_cases hlt:i<T.length
  case pos =>
   obtain ⟨a,ha⟩:∃a,T[i]? = some a:=⟨_,List.getElem?_eq_getElem hlt⟩
   have ea:T[i]=a:=(List.getElem?_eq_some_iff.1 ha).2
   rw [List.drop_eq_getElem_cons hlt,ea] at hs
   have kI:=Be B a.name (by omega)
   have hil:=om a.name B
   repeat' (first
    | refine af ?_ ?_
    | refine aa 9 rfl (cC [] (kI) ?_)
    | refine en ?_
    | exact ah|refine ae fun hb=>?_)
   refine ⟨(i+1,gT a.name B),⟨by dsimp only;omega,by dsimp only;omega,hs⟩,by dsimp only;omega,?_⟩
   exact ap (qf [])
  rw [List.drop_eq_nil_of_le (by omega)] at hs
  obtain rfl:N=B:=hs.symm
  repeat' (first
   | refine af ?_ ?_
   | (refine aa 10 rfl ?_;refine sx (nR rfl rfl rfl (IntWalk.i64_in _ hmul)) ?_)
   | refine en ?_
   | exact ah|refine ae fun hb=>?_)
 case' false =>
  rw [hw,cond_false] at hN
  obtain rfl:N=A:=hN.symm
  repeat' (first
   | refine af ?_ ?_
   | (refine aa 10 rfl ?_;refine sx (nR rfl rfl rfl (IntWalk.i64_in _ hmul)) ?_)
   | refine en ?_
   | exact ah|(refine ae fun hb=>?_;first|(cases hw.symm.trans hb;done)|skip))
 all_goals
  refine jJ 12 5 1000 31 cL rfl rfl rfl rfl ?_
  refine ao (fun y:Nat×List Tm=>y.1≤N.length∧y.2.length=y.1∧y.2++(N.drop y.1).map (fun n=>(⟨n,ay g.entries n⟩:Tm))=M) (fun y=>cy [4,6,12,1000] [(4,.c (.ptr 4 0)),(6,.c (.ptr 6 0)),(12,.c (.ptr 12 0)),(64,.c (.sl dU N)),(65,.i N.length),(66,.i y.1)] [(4,.box 27 [.sl iI g.entries,.sl iF g.saves]),(6,.box 41 [.sc (.int .i64 0),.sc (.int .i64 0),.sc (.int .i64 0),.sc (.int .i64 0),.sc (.int .i64 0),.sc (.slice none 0 0)]),(12,.box 41 [.sc (.int .i64 p.proc.site),.sc (.int .i64 p.proc.inc),.sc (.int .i64 p.proc.num),.sc (.int .i64 label),.sc (.int .i64 (p.cost*((p.led.entries.length:Int)-g.entries.length+1))),.own 1000]),(1000,.arr 31 cL y.2)]) (fun y=>N.length-y.1) (0,[]) ⟨Nat.zero_le _,rfl,hM⟩ (by exact ap (qf [])) ?_
  clear hM
  rintro ⟨i,Y⟩ ⟨hi,hYl,hs⟩
  dsimp only at *
  by_cases hlt:i<N.length
  ·obtain ⟨n,hn⟩:∃n,N[i]? = some n:=⟨_,List.getElem?_eq_getElem hlt⟩
   have en1:N[i]=n:=(List.getElem?_eq_some_iff.1 hn).2
   rw [List.drop_eq_getElem_cons hlt,en1,List.map_cons] at hs
   have kH:=iY g.entries n
   obtain ⟨a,ha⟩:∃a,ay g.entries n=a:=⟨_,rfl⟩
   rw [ha] at kH hs
   repeat' (first
    | refine af ?_ ?_
    | (refine aa 8 rfl ?_;refine bc (ak rfl rfl (aI rfl rfl) (aO [⟨n,a⟩] rfl rfl rfl rfl) rfl aJ aJ) rfl rfl rfl ?_)
    | refine aa 9 rfl (cB [] (kH) ?_)
    | refine en ?_
    | exact ah|refine ae fun hb=>?_)
   refine ⟨(i+1,Y++[⟨n,a⟩]),⟨by dsimp only;omega,by simp [hYl],?_⟩,by dsimp only;omega,?_⟩
   ·dsimp only
    rw [←hs]
    simp
   ·exact ap (qf [(1000,79)])
  ·rw [List.drop_eq_nil_of_le (by omega)] at hs
   obtain rfl:Y=M:=by rw [←hs];simp
   repeat' (first
    | refine af ?_ ?_
    | refine en ?_
    | exact ah|refine ae fun hb=>?_
    | (refine aP (qf []) ?_;exact ab))
def tA:Option ByteArray→List Tm→Bool
 | _,[]=>true
 | o,a :: l=>bE a.name.toList && (aF a.am || aR a.am) && (match o with|none=>true|some n=>fD n a.name) && tA (some a.name) l
def nk (o:Opn):Bool:=fo o.proc && (decide (o.label = -1) || decide (1≤o.label) && decide (o.label≤99)) && decide (1≤o.cost) && decide (o.cost≤1073741824) && decide (o.lower.length≤8) && tA none o.lower
theorem pz (o:Option ByteArray) (a:Tm) (l:List Tm):tA o (a :: l)=(bE a.name.toList && (aF a.am || aR a.am) && (match o with|none=>true|some n=>fD n a.name) && tA (some a.name) l):=rfl
theorem Bg (o:Opn) {b:Bool} (hB:nk o=b):FSpec prog 13 [o.a] [] [] (.b b) []:=by
 refine bJ func13 ?_
 unfold nk at hB
 have kV:=iA o.proc
 obtain ⟨v,hv⟩:∃v,fo o.proc=v:=⟨_,rfl⟩
 rw [hv] at kV hB
 cases v with
 | false =>
  obtain rfl:b=false:=by rw [←hB];rfl
  repeat' (first
   | refine af ?_ ?_
   | refine aa 9 rfl (cB [] (kV) ?_)
   | refine en ?_
   | exact ah|refine ae fun hb=>?_
   | (refine aP (qf []) ?_;exact ab))
 | true =>
  by_cases hA:(o.label = -1∨1≤o.label∧o.label≤99)∧1≤o.cost∧o.cost≤1073741824∧o.lower.length≤8
  case neg =>
   obtain rfl:b=false:=by
    rw [←hB]
    cases hh:(true && (decide (o.label = -1) || decide (1≤o.label) && decide (o.label≤99)) && decide (1≤o.cost) && decide (o.cost≤1073741824) && decide (o.lower.length≤8)) with
    | false=>rfl
    | true =>
     simp only [Bool.and_eq_true,Bool.or_eq_true,decide_eq_true_eq] at hh
     exact absurd ⟨hh.1.1.1.2,hh.1.1.2,hh.1.2,hh.2⟩ hA
   have hA':(o.label = -1∨1≤o.label∧o.label≤99)→1≤o.cost→o.cost≤1073741824→o.lower.length≤8→False:=fun a b c d=>hA ⟨a,b,c,d⟩
   clear hA
   repeat' (first
    | refine af ?_ ?_
    | refine aa 9 rfl (cB [] (kV) ?_)
    | refine en ?_
    | exact ah|(refine ae fun hb=>?_;first|(exact (hA' (by omega) (by omega) (by omega) (by omega)).elim)|skip)
    | (refine aP (qf []) ?_;exact ab))
  obtain ⟨hA1,hA2,hA3,hA4⟩:=hA
  have e1:(decide (o.label = -1) || decide (1≤o.label) && decide (o.label≤99))=true:=by simpa using hA1
  rw [e1,decide_eq_true hA2,decide_eq_true hA3,decide_eq_true hA4] at hB
  simp only [Bool.true_and] at hB
  repeat' (first
   | refine af ?_ ?_
   | refine aa 9 rfl (cB [] (kV) ?_)
   | refine en ?_
   | exact ah|refine ae fun hb=>?_)
  all_goals
   refine ao (fun y:Nat×Option ByteArray=>y.1≤o.lower.length∧(y.1=0∧y.2=none∨0<y.1∧∃z,o.lower[((y.1:Int)-1).toNat]? = some z∧y.2=some z.name)∧tA y.2 (o.lower.drop y.1)=b) (fun y=>cy [1] [(1,.c (.ptr 1 0)),(3,.i y.1)] [(1,.box 41 o.d)]) (fun y=>o.lower.length-y.1) (0,none) ⟨Nat.zero_le _,.inl ⟨rfl,rfl⟩,hB⟩ (by exact ap (qf [])) ?_
   clear hB e1 kV
   rintro ⟨i,p⟩ ⟨hi,hp,hs⟩
   dsimp only at *
   by_cases hlt:i<o.lower.length
   ·obtain ⟨a,ha⟩:∃a,o.lower[i]? = some a:=⟨_,List.getElem?_eq_getElem hlt⟩
    have ea:o.lower[i]=a:=(List.getElem?_eq_some_iff.1 ha).2
    rw [List.drop_eq_getElem_cons hlt,ea,pz] at hs
    have kN:=sg a.name
    have kZ:=j5 a.am
    have kU:=vL a.am
    obtain ⟨n,hn⟩:∃n,bE a.name.toList=n:=⟨_,rfl⟩
    obtain ⟨z,hz⟩:∃z,aF a.am=z:=⟨_,rfl⟩
    obtain ⟨u,hu⟩:∃u,aR a.am=u:=⟨_,rfl⟩
    rw [hn] at kN hs
    rw [hz] at kZ hs
    rw [hu] at kU hs
    clear hn hz hu
    obtain ⟨G,hG⟩:∃G,tA (some a.name) (o.lower.drop (i+1))=G:=⟨_,rfl⟩
    rw [hG] at hs
    rcases hp with ⟨h0,rfl⟩|⟨h0,y,hy,rfl⟩
    ·have hs:(n && (z || u) && true && G)=b:=hs
     repeat' (first
      | refine af ?_ ?_
      | (refine aa 9 rfl ?_;first
       | (refine cB [] (kN) ?_)
       | (refine cB [] (kZ) ?_)
       | (refine cB [] (kU) ?_))
      | refine en ?_
      | exact ah|refine ae fun hb=>?_)
     any_goals (refine pp ?_;rw [←hs];simp [*];done)
     all_goals
      refine ⟨(i+1,some a.name),⟨by dsimp only;omega,.inr ⟨by dsimp only;omega,a,?_,rfl⟩,?_⟩,by dsimp only;omega,?_⟩
      ·dsimp only
       rw [←ha]
       congr 1
       omega
      ·dsimp only
       rw [←hs,hG]
       simp [*]
      ·exact ap (qf [])
    ·have hs:(n && (z || u) && Op.bytesLess y.name.toList a.name.toList && G)=b:=hs
     have ha':o.lower[((i+1:Nat):Int).toNat-1]? = some a:=ha
     repeat' (first
      | refine af ?_ ?_
      | (refine aa 9 rfl ?_;first
       | (refine cB [] (kN) ?_)
       | (refine cB [] (kZ) ?_)
       | (refine cB [] (kU) ?_))
      | (refine aa 10 rfl ?_;refine sx (Hb rfl rfl rfl) ?_)
      | refine en ?_
      | exact ah|refine ae fun hb=>?_)
     any_goals (refine pp ?_;rw [←hs];simp [*];done)
     all_goals
      refine ⟨(i+1,some a.name),⟨by dsimp only;omega,.inr ⟨by dsimp only;omega,a,?_,rfl⟩,?_⟩,by dsimp only;omega,?_⟩
      ·dsimp only
       rw [←ha]
       congr 1
       omega
      ·dsimp only
       rw [←hs,hG]
       simp [*]
      ·exact ap (qf [])
   ·rw [List.drop_eq_nil_of_le (by omega)] at hs
    obtain rfl:b=true:=hs.symm
    repeat' (first
     | refine af ?_ ?_
     | refine en ?_
     | exact ah|refine ae fun hb=>?_
     | (refine aP (qf []) ?_;exact ab))
def K9 (p:Pc) (s:Sv):Opn:=Hc p (bi p.led s.label) s.label
def qQ (p:Pc):List Opn:=p.led.saves.reverse.map (K9 p)++[Hc p Lg.zero (-1)]
def lC (p:Pc):List Opn:=bif !(fo p.proc && decide (1≤p.cost) && decide (p.cost≤1000) && n8 p.led && (!p.waiting || qo p.req)) then [] else bif (qQ p).all nk then qQ p else []
theorem ui {g:Lg} (h:n8 g=true) {s:Sv} (hs:s∈g.saves):∃A,bU g s.label=(bi g s.label,A,0)∧(bi g s.label).entries.length≤g.entries.length:=by
 have hl:=(eS.1 h)
 have h1:¬s.label=0:=by have:=(hl.svs.lab s hs).1.1;omega
 have h2:¬aE s.label 0 g.saves<0:=fun hn=>mT.1 hn s hs rfl
 refine ⟨_,by unfold bU;rw [h,decide_eq_false h1,decide_eq_false h2];rfl,?_⟩
 unfold bi
 rw [decide_eq_false h1,cond_false]
 simp
 omega
theorem EG (d:Nat) (p:Pc) {R:List Opn} (hR:lC p=R):FSpec prog 10 [p.a d] [] [] (.c (.sl uh R)) []:=by
 refine bJ func10 ?_
 unfold lC at hR
 have kV:=iA p.proc
 have kG:=bZ p.led
 have kQ:=sm d p.req
 obtain ⟨v,hv⟩:∃v,fo p.proc=v:=⟨_,rfl⟩
 obtain ⟨g,hg⟩:∃g,n8 p.led=g:=⟨_,rfl⟩
 obtain ⟨q,hq⟩:∃q,qo p.req=q:=⟨_,rfl⟩
 rw [hv] at kV hR
 rw [hg] at kG hR
 rw [hq] at kQ hR
 by_cases hA:v=true∧(1≤p.cost∧p.cost≤1000)∧g=true∧(p.waiting=true→q=true)
 case neg =>
  obtain rfl:R=[]:=by
   rw [←hR]
   cases hh:v && decide (1≤p.cost) && decide (p.cost≤1000) && g && (!p.waiting || q) with
   | false=>rfl
   | true =>
    simp only [Bool.and_eq_true,Bool.or_eq_true,decide_eq_true_eq,Bool.not_eq_true'] at hh
    exact absurd ⟨hh.1.1.1.1,⟨hh.1.1.1.2,hh.1.1.2⟩,hh.1.2,fun hw=>by
     rcases hh.2 with h|h
     ·rw [hw] at h;cases h
     ·exact h⟩ hA
  cases v with
  | false =>
   repeat' (first
    | refine af ?_ ?_
    | refine aa 9 rfl (cB [] (kV) ?_)
    | refine en ?_
    | exact ah|refine ae fun hb=>?_
    | (refine aP (qf []) ?_;exact ab))
  | true =>
   by_cases hc:p.cost<1
   ·repeat' (first
     | refine af ?_ ?_
     | refine aa 9 rfl (cB [] (kV) ?_)
     | refine en ?_
     | exact ah|refine ae fun hb=>?_
     | (refine aP (qf []) ?_;exact ab))
   by_cases hc2:1000<p.cost
   ·repeat' (first
     | refine af ?_ ?_
     | refine aa 9 rfl (cB [] (kV) ?_)
     | refine en ?_
     | exact ah|refine ae fun hb=>?_
     | (refine aP (qf []) ?_;exact ab))
   cases g with
   | false =>
    repeat' (first
     | refine af ?_ ?_
     | (refine aa 9 rfl ?_;first
      | (refine cB [] (kV) ?_)
      | (refine cB [] (kG) ?_))
     | refine en ?_
     | exact ah|refine ae fun hb=>?_
     | (refine aP (qf []) ?_;exact ab))
   | true =>
    cases hw:p.waiting with
    | false=>exact absurd ⟨rfl,⟨by omega,by omega⟩,rfl,fun h=>by rw [hw] at h;cases h⟩ hA
    | true =>
     cases q with
     | true=>exact absurd ⟨rfl,⟨by omega,by omega⟩,rfl,fun _=>rfl⟩ hA
     | false =>
      repeat' (first
       | refine af ?_ ?_
       | (refine aa 9 rfl ?_;first
        | (refine cB [] (kV) ?_)
        | (refine cB [] (kG) ?_)
        | (refine cB [] (kQ) ?_))
       | refine en ?_
       | exact ah|(refine ae fun hb=>?_;first|(cases hw.symm.trans hb;done)|skip)
       | (refine aP (qf []) ?_;exact ab))
 obtain ⟨rfl,⟨hc1,hc2⟩,rfl,hwq⟩:=hA
 rw [decide_eq_true hc1,decide_eq_true hc2,show (!p.waiting || q)=true by cases hw:p.waiting with|false=>rfl|true=>rw [hwq hw];rfl] at hR
 have hR:(bif (qQ p).all nk then qQ p else [])=R:=hR
 obtain ⟨h72,h4⟩:=gh hg
 cases hw:p.waiting
 case' true =>
  have hq1:=hwq hw
  subst hq1
  repeat' (first
   | refine af ?_ ?_
   | (refine aa 9 rfl ?_;first
    | (refine cB [] (kV) ?_)
    | (refine cB [] (kG) ?_)
    | (refine cB [] (kQ) ?_))
   | refine en ?_
   | exact ah|(refine ae fun hb=>?_;first|(cases hw.symm.trans hb;done)|skip))
 case' false =>
  repeat' (first
   | refine af ?_ ?_
   | (refine aa 9 rfl ?_;first
    | (refine cB [] (kV) ?_)
    | (refine cB [] (kG) ?_))
   | refine en ?_
   | exact ah|(refine ae fun hb=>?_;first|(cases hw.symm.trans hb;done)|skip))
 all_goals
  refine dS 3 1000 41 uh rfl rfl rfl ?_
  refine ao (fun y:Nat×List Opn=>y.1≤p.led.saves.length∧y.2.length+y.1=p.led.saves.length∧y.2=(p.led.saves.drop y.1).reverse.map (K9 p)) (fun y=>cy [1,1000] [(1,.c (.ptr 1 0)),(3,.c (.own 1000)),(4,.i ((y.1:Int)-1))] [(1,.box 38 (p.d d)),(1000,.arr 41 uh y.2)]) (fun y=>y.1) (p.led.saves.length,[]) ⟨Nat.le_refl _,by simp,by simp⟩ (by exact ap (qf [])) ?_
  rintro ⟨k,T⟩ ⟨hk,hTl,hT⟩
  dsimp only at *
  cases k with
  | succ m =>
   have hm:m<p.led.saves.length:=hk
   have em:(((m+1:Nat):Int)-1).toNat=m:=by omega
   obtain ⟨s,hs⟩:∃s,p.led.saves[(((m+1:Nat):Int)-1).toNat]? = some s:=⟨_,by rw [em];exact List.getElem?_eq_getElem hm⟩
   have hs':p.led.saves[m]=s:=by
    rw [em] at hs
    exact (List.getElem?_eq_some_iff.1 hs).2
   obtain ⟨A,hU,hle⟩:=ui hg (hs'▸List.getElem_mem hm)
   have kU:=IL p.led s.label hU
   obtain ⟨O,hO⟩:∃O,K9 p s=O:=⟨_,rfl⟩
   have kO:=Bf d p (bi p.led s.label) s.label hle h72 ⟨by omega,hc2⟩ hO
   have hnx:T++[O]=(p.led.saves.drop m).reverse.map (K9 p):=by
    rw [hT,List.drop_eq_getElem_cons hm,hs',List.reverse_cons,List.map_append,←hO]
    rfl
   generalize bi p.led s.label=X at *
   clear hU hO hle
   repeat' (first
    | refine af ?_ ?_
    | (refine aa 8 rfl ?_;refine bc (ak rfl rfl (aI rfl rfl) (aO [O] rfl rfl rfl rfl) rfl aJ aJ) rfl rfl rfl ?_)
    | (refine aa 9 rfl ?_;first
     | (refine cC [] (kU) ?_)
     | (refine cC [] (kO) ?_))
    | refine en ?_
    | exact ah|refine ae fun hb=>?_)
   refine ⟨(m,T++[O]),⟨by dsimp only;omega,by simp;omega,hnx⟩,by dsimp only;omega,?_⟩
   exact ap (qf [(1000,77)])
  | zero =>
   obtain ⟨O,hO⟩:∃O,Hc p Lg.zero (-1)=O:=⟨_,rfl⟩
   have kO:=Bf d p Lg.zero (-1) (Nat.zero_le _) h72 ⟨by omega,hc2⟩ hO
   have hL:qQ p=T++[O]:=by unfold qQ;rw [hT,hO];simp
   rw [hL] at hR
   have hLl:(T++[O]).length≤5:=by simp;omega
   clear hO hL hT
   repeat' (first
    | refine af ?_ ?_
    | (refine aa 8 rfl ?_;refine bc (ak rfl rfl (aI rfl rfl) (aO [O] rfl rfl rfl rfl) rfl aJ aJ) rfl rfl rfl ?_)
    | refine aa 9 rfl (cC [] (kO) ?_)
    | refine en ?_
    | exact ah|refine ae fun hb=>?_)
   generalize T++[O]=L at *
   refine ao (fun i=>i≤L.length∧L.all nk=(L.drop i).all nk) (fun i=>cy [1,1000] [(1,.c (.ptr 1 0)),(3,.c (.own 1000)),(84,.c (.own 1000)),(85,.i L.length),(86,.i i)] [(1,.box 38 (p.d d)),(1000,.arr 41 uh L)]) (fun i=>L.length-i) 0 ⟨Nat.zero_le _,rfl⟩ (by exact ap (qf [(1000,83)])) ?_
   rintro i ⟨hi,hs⟩
   by_cases hlt:i<L.length
   ·obtain ⟨x,hx⟩:∃x,L[i]? = some x:=⟨_,List.getElem?_eq_getElem hlt⟩
    have ex:L[i]=x:=(List.getElem?_eq_some_iff.1 hx).2
    rw [List.drop_eq_getElem_cons hlt,ex,List.all_cons] at hs
    obtain ⟨b,hb0⟩:∃b,nk x=b:=⟨_,rfl⟩
    have kX:=Bg x hb0
    rw [hb0] at hs
    cases b with
    | false =>
     rw [hs] at hR
     obtain rfl:R=[]:=hR.symm
     repeat' (first
      | refine af ?_ ?_
      | refine aa 9 rfl (cB [] (kX) ?_)
      | refine en ?_
      | exact ah|refine ae fun hb=>?_
      | (refine aP (qf []) ?_;exact ab))
    | true =>
     repeat' (first
      | refine af ?_ ?_
      | refine aa 9 rfl (cB [] (kX) ?_)
      | refine en ?_
      | exact ah|refine ae fun hb=>?_)
     refine ⟨i+1,⟨by omega,by rw [hs,Bool.true_and]⟩,by omega,?_⟩
     exact ap (qf [])
   ·rw [List.drop_eq_nil_of_le (by omega),List.all_nil] at hs
    rw [hs] at hR
    obtain rfl:R=L:=hR.symm
    repeat' (first
     | refine af ?_ ?_
     | refine en ?_
     | exact ah|refine ae fun hb=>?_
     | (refine aP (qf []) ?_;exact ab))
end Go.Proofs.YtdaajdflefnjfaaGreat
