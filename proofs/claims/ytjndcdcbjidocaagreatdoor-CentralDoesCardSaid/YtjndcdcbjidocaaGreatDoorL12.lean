/- Part 12 of 33 of the proof of centralDoes_holds (no condition). -/
import Derived.Test.YtjndcdcbjidocaaGreatDoorL11
set_option linter.unusedVariables false
set_option linter.unusedSimpArgs false
set_option maxRecDepth 100000
set_option maxHeartbeats 64000000
namespace Go.Proofs.YtjndcdcbjidocaaGreatDoor
open Go.RowKit Go.Proofs.Tryz
def gc (s:List Sv) (i:Nat):Int:=if i=0 then 0 else (s[i-1]?.map (·.at_)).getD 0
theorem F6 (l:List En) (s:List Sv):FSpec prog 63 [.ag [.sl iG l,.sl i5 s]] [] [] (.b (j5 l s)) []:=by
 refine aP func63 ?_;obtain ⟨b,hB⟩:∃b,j5 l s=b:=⟨_,rfl⟩;rw [hB];refine aM (fun c ρ a w hr=>dj (t:=0) (i:=0) hr rfl rfl) (fun hl0_0=>?_);refine aM (fun c ρ a w hr=>dj (t:=0) (i:=1) hr rfl rfl) (fun hl0_1=>?_);by_cases h72:l.length≤72
 case neg =>
  obtain rfl:b=false:=by rw [←hB];simp [j5,h72]
  repeat' (first|refine af ?_ ?_|refine ae ?_|exact ah|refine ab fun hb=>?_|exact aX|fail)
 by_cases h4:s.length≤4
 case neg =>
  obtain rfl:b=false:=by rw [←hB];simp [j5,h4]
  repeat' (first|refine af ?_ ?_|refine ae ?_|exact ah|refine ab fun hb=>?_|exact aX|fail)
 repeat' (first|refine af ?_ ?_|refine ae ?_|exact ah|refine ab fun hb=>?_)
 refine ai (fun i=>i≤l.length∧fX (l.take i) (l.drop i)=fX [] l) (fun i=>bt [1] [(1,.c (.ptr 1 0)),(3,.i i)] [(1,.box 61 [.sl iG l,.sl i5 s])]) (fun i=>l.length-i) 0 ⟨Nat.zero_le _,by simp⟩ aN ?_;rintro i ⟨hi,hs⟩;by_cases hlt:i<l.length
 ·obtain ⟨e,he⟩:∃e,l[i]=e:=⟨_,rfl⟩;have hge:l[i]? = some e:=by rw [List.getElem?_eq_getElem hlt,he]
  have hst:fX [] l=(cK e.name.toList && decide (e.before=ax (l.take i) e.name) && dg e.before e.after && fX (l.take (i+1)) (l.drop (i+1))):=by
   rw [←hs,List.drop_eq_getElem_cons hlt,he,List.take_succ_eq_append_getElem hlt,he];rfl
  by_cases hok:cK e.name.toList=true∧e.before=ax (l.take i) e.name∧dg e.before e.after=true
  ·obtain ⟨k1,k2,k3⟩:=hok;repeat' (first|refine af ?_ ?_|(refine aa 9 rfl ?_;first|(refine cB [] (vf e.name) ?_)|(refine cB [] (jI (l.take i) e.name) ?_)|(refine cB [] (DB e.before e.after) ?_))|refine ae ?_|exact ah|refine ab fun hb=>?_)
   refine ⟨i+1,⟨by omega,?_⟩,by omega,?_⟩
   ·rw [hst,k1,k3];simp [k2]
   ·exact aN
  ·obtain rfl:b=false:=by
    rw [←hB];have:fX [] l=false:=by
     rw [hst];cases h1:cK e.name.toList with
     | false=>rfl
     | true =>
      cases h3:dg e.before e.after with
      | false=>simp
      | true =>
       have:e.before≠ax (l.take i) e.name:=fun h=>hok ⟨h1,h,h3⟩;simp [this]
    simp [j5,this]
   have hok1:cK e.name.toList=true→e.before=ax (l.take i) e.name→dg e.before e.after=true→False:=fun a b c=>hok ⟨a,b,c⟩;clear hok;repeat' (first|refine af ?_ ?_|(refine aa 9 rfl ?_;first|(refine cB [] (vf e.name) ?_)|(refine cB [] (jI (l.take i) e.name) ?_)|(refine cB [] (DB e.before e.after) ?_))|refine ae ?_|exact ah|(refine ab fun hb=>?_;first|(exact (hok1 (by assumption) (by assumption) (by assumption)).elim)|skip)|exact aX|fail)
 have hE:fX [] l=true:=by rw [←hs,List.drop_eq_nil_of_le (by omega)];rfl
 by_cases h8:(bB l).length≤8
 case neg =>
  obtain rfl:b=false:=by rw [←hB];simp [j5,h8]
  repeat' (first|refine af ?_ ?_|refine aa 9 rfl (cC [] (rm l (by omega)) ?_)|refine ae ?_|exact ah|refine ab fun hb=>?_|exact aX|fail)
 repeat' (first|refine af ?_ ?_|refine aa 9 rfl (cC [] (rm l (by omega)) ?_)|refine ae ?_|exact ah|refine ab fun hb=>?_)
 refine ai (fun i=>i≤s.length∧mq s l.length i (gc s i) (s.drop i)=mq s l.length 0 0 s) (fun i=>bt [1] [(1,.c (.ptr 1 0)),(5,.i i)] [(1,.box 61 [.sl iG l,.sl i5 s])]) (fun i=>s.length-i) 0 ⟨Nat.zero_le _,rfl⟩ aN ?_;clear hs hi hlt;rintro j ⟨hj,hs⟩;have hBB:b=mq s l.length 0 0 s:=by rw [←hB];simp [j5,h72,h4,hE,h8]
 by_cases hlt:j<s.length
 case neg =>
  obtain rfl:b=true:=by rw [hBB,←hs,List.drop_eq_nil_of_le (by omega)];rfl
  repeat' (first|refine af ?_ ?_|refine ae ?_|exact ah|refine ab fun hb=>?_|exact aX|fail)
 obtain ⟨x,hx⟩:∃x,s[j]=x:=⟨_,rfl⟩;have hgx:s[j]? = some x:=by rw [List.getElem?_eq_getElem hlt,hx]
 have hst:mq s l.length 0 0 s=(decide (1≤x.label) && decide (x.label≤99) && decide (0≤x.at_) && decide (x.at_≤l.length) && decide (gc s j≤x.at_) && decide (aT x.label 0 s=(j:Int)) && mq s l.length (j+1) x.at_ (s.drop (j+1))):=by
  rw [←hs,List.drop_eq_getElem_cons hlt,hx];rfl
 have hnx:gc s (j+1)=x.at_:=by simp [gc,hgx]
 by_cases hok:(1≤x.label∧x.label≤99)∧(0≤x.at_∧x.at_≤l.length)∧gc s j≤x.at_∧aT x.label 0 s=(j:Int)
 ·obtain ⟨⟨k1,k2⟩,⟨k3,k4⟩,k5,k6⟩:=hok;have hgo:mq s l.length (j+1) (gc s (j+1)) (s.drop (j+1))=mq s l.length 0 0 s:=by rw [hst,hnx];simp [k1,k2,k3,k4,k5,k6]
  rcases Nat.eq_zero_or_pos j with h0|h0
  ·subst h0;repeat' (first|refine af ?_ ?_|refine aa 9 rfl (cB [] (jJ s x.label) ?_)|refine ae ?_|exact ah|refine ab fun hb=>?_)
   refine ⟨0+1,⟨by omega,hgo⟩,by omega,?_⟩;exact aN
  ·obtain ⟨y,hy⟩:∃y,s[((j:Int)-1).toNat]? = some y:=⟨_,List.getElem?_eq_getElem (by omega)⟩;have hp:gc s j=y.at_:=by
    have e:((j:Int)-1).toNat=j-1:=by omega
    rw [e] at hy;simp [gc,hy,show j≠0 by omega]
   repeat' (first|refine af ?_ ?_|refine aa 9 rfl (cB [] (jJ s x.label) ?_)|refine ae ?_|exact ah|refine ab fun hb=>?_)
   refine ⟨j+1,⟨by omega,hgo⟩,by omega,?_⟩;exact aN
 ·have hok1:1≤x.label→x.label≤99→0≤x.at_→x.at_≤l.length→gc s j≤x.at_→aT x.label 0 s=(j:Int)→False:=fun a b c d e f=>hok ⟨⟨a,b⟩,⟨c,d⟩,e,f⟩;obtain rfl:b=false:=by
   rw [hBB,hst];cases hh:(decide (1≤x.label) && decide (x.label≤99) && decide (0≤x.at_) && decide (x.at_≤l.length) && decide (gc s j≤x.at_) && decide (aT x.label 0 s=(j:Int))) with
   | false=>rfl
   | true =>
    simp only [Bool.and_eq_true,decide_eq_true_eq] at hh;exact (hok1 hh.1.1.1.1.1 hh.1.1.1.1.2 hh.1.1.1.2 hh.1.1.2 hh.1.2 hh.2).elim
  clear hok;rcases Nat.eq_zero_or_pos j with h0|h0
  ·subst h0;have hp:gc s 0=0:=rfl;repeat' (first|refine af ?_ ?_|refine aa 9 rfl (cB [] (jJ s x.label) ?_)|refine ae ?_|exact ah|(refine ab fun hb=>?_;first|(exact (hok1 (by omega) (by omega) (by omega) (by omega) (by omega) (by omega)).elim)|skip)|exact aX|fail)
  ·obtain ⟨y,hy⟩:∃y,s[((j:Int)-1).toNat]? = some y:=⟨_,List.getElem?_eq_getElem (by omega)⟩;have hp:gc s j=y.at_:=by
    have e:((j:Int)-1).toNat=j-1:=by omega
    rw [e] at hy;simp [gc,hy,show j≠0 by omega]
   repeat' (first|refine af ?_ ?_|refine aa 9 rfl (cB [] (jJ s x.label) ?_)|refine ae ?_|exact ah|(refine ab fun hb=>?_;first|(exact (hok1 (by omega) (by omega) (by omega) (by omega) (by omega) (by omega)).elim)|skip)|exact aX|fail)
def F7 (R:Lg×Int):TV:=.tup [R.1.a,.one (.sc (.int .i64 R.2))]
theorem eP {l:List En} {s:List Sv} (h:j5 l s=true):l.length≤72∧s.length≤4:=by
 simp only [j5,Bool.and_eq_true,decide_eq_true_eq] at h;exact ⟨h.1.1.1.1,h.1.1.1.2⟩
theorem cI (g:Lg):FSpec prog 63 [g.a] [] [] (.b (oD g)) []:=F6 g.entries g.saves
theorem F8 (g:Lg) (e:En) {R:Lg×Int} (hR:dz g e=R):FSpec prog 172 [g.a,e.a] [] [] (F7 R) []:=by
 refine aP func172 ?_;cases hV:oD g with
 | false =>
  obtain rfl:R=(.zero,2):=by rw [←hR];simp [dz,hV]
  repeat' (first|refine af ?_ ?_|refine aa 9 rfl (cB [] (cI g) ?_)|refine ae ?_|exact ah|refine ab fun hb=>?_|(refine fe (qf []) ?_;exact aj))
 | true =>
  obtain ⟨h1,h2⟩:=eP hV;cases hV2:oD ⟨g.entries++[e],g.saves⟩ with
  | false =>
   obtain rfl:R=(.zero,1):=by rw [←hR];simp [dz,hV,hV2]
   repeat' (first|refine af ?_ ?_|(refine aa 8 rfl ?_;refine aV (ak rfl rfl (aB rfl rfl) (aD [e] rfl rfl rfl rfl) rfl aL aL) rfl rfl rfl ?_)|(refine aa 9 rfl ?_;first|(refine cB [] (cI g) ?_)|(refine cB [17,21] (cI ⟨g.entries++[e],g.saves⟩) ?_))|refine ae ?_|exact ah|refine ab fun hb=>?_|(refine fe (qf []) ?_;exact aj))
  | true =>
   obtain rfl:R=(⟨g.entries++[e],g.saves⟩,0):=by rw [←hR];simp [dz,hV,hV2]
   repeat' (first|refine af ?_ ?_|(refine aa 8 rfl ?_;refine aV (ak rfl rfl (aB rfl rfl) (aD [e] rfl rfl rfl rfl) rfl aL aL) rfl rfl rfl ?_)|(refine aa 9 rfl ?_;first|(refine cB [] (cI g) ?_)|(refine cB [17,21] (cI ⟨g.entries++[e],g.saves⟩) ?_))|refine ae ?_|exact ah|refine ab fun hb=>?_|(refine fe (qf []) ?_;exact aj))
theorem JT (g:Lg) (n:Int) {R:Lg×Int} (hR:dP g n=R):FSpec prog 94 [g.a,.one (.sc (.int .i64 n))] [] [] (F7 R) []:=by
 refine aP func94 ?_;cases hV:oD g with
 | false =>
  obtain rfl:R=(.zero,2):=by rw [←hR];simp [dP,hV]
  repeat' (first|refine af ?_ ?_|refine aa 9 rfl (cB [] (cI g) ?_)|refine ae ?_|exact ah|refine ab fun hb=>?_|(refine fe (qf []) ?_;exact aj))
 | true =>
  obtain ⟨h1,h2⟩:=eP hV;by_cases hn:1≤n∧n≤99
  case neg =>
   obtain rfl:R=(.zero,1):=by
    rw [←hR];unfold dP;rw [hV];have:(decide (1≤n) && decide (n≤99))=false:=by rw [Bool.and_eq_false_iff];simp;omega
    rw [this];rfl
   repeat' (first|refine af ?_ ?_|refine aa 9 rfl (cB [] (cI g) ?_)|refine ae ?_|exact ah|refine ab fun hb=>?_|(refine fe (qf []) ?_;exact aj))
  obtain ⟨hn1,hn2⟩:=hn;by_cases hf:0≤aT n 0 g.saves
  case pos =>
   obtain rfl:R=(.zero,11):=by rw [←hR];simp [dP,hV,hn1,hn2,hf]
   repeat' (first|refine af ?_ ?_|(refine aa 9 rfl ?_;first|(refine cB [] (cI g) ?_)|(refine cB [] (jJ g.saves n) ?_))|refine ae ?_|exact ah|refine ab fun hb=>?_|(refine fe (qf []) ?_;exact aj))
  by_cases h4:g.saves.length=4
  case pos =>
   obtain rfl:R=(.zero,4):=by rw [←hR];simp [dP,hV,hn1,hn2,hf,h4]
   repeat' (first|refine af ?_ ?_|(refine aa 9 rfl ?_;first|(refine cB [] (cI g) ?_)|(refine cB [] (jJ g.saves n) ?_))|refine ae ?_|exact ah|refine ab fun hb=>?_|(refine fe (qf []) ?_;exact aj))
  obtain rfl:R=(⟨g.entries,g.saves++[⟨n,g.entries.length⟩]⟩,0):=by rw [←hR];simp [dP,hV,hn1,hn2,hf,h4]
  repeat' (first|refine af ?_ ?_|(refine aa 8 rfl ?_;refine aV (ak rfl rfl (aB rfl rfl) (aD [⟨n,g.entries.length⟩] rfl rfl rfl rfl) rfl aL aL) rfl rfl rfl ?_)|(refine aa 9 rfl ?_;first|(refine cB [] (cI g) ?_)|(refine cB [] (jJ g.saves n) ?_))|refine ae ?_|exact ah|refine ab fun hb=>?_|(refine fe (qf []) ?_;exact aj))
theorem yN (g:Lg) (h72:g.entries.length≤72):FSpec prog 64 [g.a] [] [] (.c (.sl cw (eH g))) []:=by
 refine aP func64 ?_;have hnl:(bB g.entries).length≤72:=by
  have:∀(l:List En) (acc:List ByteArray),(dx acc l).length≤acc.length+l.length:=by
   intro l;induction l with
   | nil=>intro acc;simp [dx]
   | cons e l ih =>
    intro acc;rw [jK];cases dZ e.name acc with
    | true=>have:=ih acc;simp;omega
    | false=>have:=ih (gP e.name acc);rw [i7] at this;simp;omega
  have:=this g.entries [];simp at this;exact Nat.le_trans this h72
 repeat' (first|refine af ?_ ?_|refine aa 9 rfl (cC [] (rm g.entries (by omega)) ?_)|refine ae ?_|exact ah|refine ab fun hb=>?_)
 obtain ⟨N,hN⟩:∃N,bB g.entries=N:=⟨_,rfl⟩;rw [hN] at hnl;obtain ⟨F,hF⟩:∃F:List ByteArray→List Tm,F=fun L=>(L.map fun m=>(⟨m,ax g.entries m⟩:Tm)).filter fun a=>!aH a.am:=⟨_,rfl⟩;have hH:eH g=F N:=by rw [hF,←hN];rfl
 rw [hH,hN];refine bV 3 1000 39 cw rfl rfl rfl ?_;refine ai (fun x:Nat×List Tm=>x.1≤N.length∧x.2.length≤x.1∧x.2++F (N.drop x.1)=F N) (fun x=>bt [1,1000] [(1,.c (.ptr 1 0)),(3,.c (.own 1000)),(4,.c (.sl pS N)),(5,.i x.1)] [(1,.box 61 [.sl iG g.entries,.sl i5 g.saves]),(1000,.arr 39 cw x.2)]) (fun x=>N.length-x.1) (0,[]) ⟨Nat.zero_le _,Nat.le_refl _,rfl⟩ aN ?_;rintro ⟨i,acc⟩ ⟨hi,hal,hs⟩;dsimp only at *
 by_cases hlt:i<N.length
 ·have e:F (N.drop i)=(bif aH (ax g.entries N[i]) then [] else [⟨N[i],ax g.entries N[i]⟩])++F (N.drop (i+1)):=by
   rw [List.drop_eq_getElem_cons hlt,hF];dsimp only;rw [List.map_cons,List.filter_cons];cases aH (ax g.entries N[i]) <;> rfl
  rw [e] at hs;repeat' (first|refine af ?_ ?_|(refine aa 8 rfl ?_;refine aV (ak rfl rfl (aB rfl rfl) (aD [⟨N[i],ax g.entries N[i]⟩] rfl rfl rfl rfl) rfl aL aL) rfl rfl rfl ?_)|refine aa 9 rfl (cB [] (jI g.entries N[i]) ?_)|refine ae ?_|exact ah|refine ab fun hb=>?_)
  ·refine ⟨(i+1,acc++[⟨N[i],ax g.entries N[i]⟩]),⟨by dsimp only;omega,by simp;omega,?_⟩,by dsimp only;omega,?_⟩
   ·rw [←hs];simp [aH,hb]
   ·exact a8 (qf [(1000,34)])
  ·refine ⟨(i+1,acc),⟨by dsimp only;omega,by dsimp only;omega,?_⟩,by dsimp only;omega,?_⟩
   ·rw [←hs];simp [aH,hb]
   ·exact aN
 ·have e:acc=F N:=by rw [←hs,List.drop_eq_nil_of_le (by omega)];simp [hF]
  repeat' (first|refine af ?_ ?_|refine ae ?_|exact ah|refine ab fun hb=>?_)
  rw [←e];refine bP (qf []) ?_;exact aj
theorem F9 (t:List Qu) (p:Pr) (a:Tm) (prio:Int) {R:List Qu×List Ev×Int} (hR:bd t p a prio=R):FSpec prog 165 [.one (.sl dC t),p.a,a.a,.one (.sc (.int .i64 prio))] [] [] (Bz R) []:=by
 refine aP func165 ?_;cases hV:du t with
 | false =>
  obtain rfl:R=dO 2:=by rw [←hR];simp [bd,hV]
  repeat' (first|refine af ?_ ?_|refine aa 9 rfl (cB [] (dB t) ?_)|refine ae ?_|exact ah|refine ab fun hb=>?_|(refine cX (qf []) ?_;exact aj))
 | true =>
  have hm:=(bf hV).1;have h8:∀q∈t,eU q:=fun q hq=>cA (ct hV hq);by_cases hf:bk a.name 0 t<0
  case pos =>
   obtain rfl:R=dO 10:=by rw [←hR];simp [bd,hV,hf]
   repeat' (first|refine af ?_ ?_|(refine aa 9 rfl ?_;first|(refine cB [] (dB t) ?_)|(refine cB [] (oH t a.name) ?_))|refine ae ?_|exact ah|refine ab fun hb=>?_|(refine cX (qf []) ?_;exact aj))
  obtain ⟨i,hi,hF,hq,hx⟩:=d8 hf;by_cases hN:(aC t).length=8∧p ∉ aC t
  case pos =>
   obtain ⟨hN1,hN2⟩:=hN;obtain rfl:R=dO 4:=by rw [←hR];simp [bd,hV,hf,hN1,hN2]
   repeat' (first|refine af ?_ ?_|(refine aa 9 rfl ?_;first|(refine cB [] (dB t) ?_)|(refine cB [] (dl t a.name hF) ?_)|(refine cC [] (nS t (by omega) h8) ?_)|(refine cB [] (xd (aC t) p) ?_))|refine ae ?_|exact ah|refine ab fun hb=>?_|(refine cX (qf []) ?_;exact aj))
  have hS:=ct hV (List.getElem_mem hi);obtain ⟨Q,hQ⟩:∃Q,bv t[i] p a.am prio=Q:=⟨_,rfl⟩;have hQl:=mV hS p a.am prio;rw [hQ] at hQl;have hlen:Q.2.1.length≤100000:=by omega
  have hN3:(decide ((aC t).length=8) && !decide (p∈aC t))=false:=by
   rw [Bool.and_eq_false_iff];by_cases h:(aC t).length=8
   ·right
    have:p∈aC t:=Classical.byContradiction fun h2=>hN ⟨h,h2⟩;simp [this]
   ·left;simp [h]
  by_cases he:Q.2.2=0
  ·obtain rfl:R=(t.set i Q.1,aE a.name Q.2.1,0):=by rw [←hR];unfold bd;rw [hq,hQ,hx,hN3];simp [hV,hf,he]
   clear hN3;repeat' (first|refine af ?_ ?_|(refine aa 9 rfl ?_;first|(refine cB [] (dB t) ?_)|(refine cB [] (dl t a.name hF) ?_)|(refine cC [] (nS t (by omega) h8) ?_)|(refine cB [] (xd (aC t) p) ?_)|(refine cC [] (zR t[i] p a.am prio hQ) ?_)|(refine cC [] (nV t i Q.1 hi (by omega)) ?_)|(refine cC [] (lY a.name Q.2.1 hlen) ?_))|refine ae ?_|exact ah|(refine ab fun hb=>?_;first|(exact (hN ⟨by omega,by assumption⟩).elim)|skip)|(refine cX (qf []) ?_;exact aj))
  ·obtain rfl:R=dO Q.2.2:=by rw [←hR];unfold bd;rw [hq,hQ,hx,hN3];simp [hV,hf,he]
   clear hN3;repeat' (first|refine af ?_ ?_|(refine aa 9 rfl ?_;first|(refine cB [] (dB t) ?_)|(refine cB [] (dl t a.name hF) ?_)|(refine cC [] (nS t (by omega) h8) ?_)|(refine cB [] (xd (aC t) p) ?_)|(refine cC [] (zR t[i] p a.am prio hQ) ?_))|refine ae ?_|exact ah|(refine ab fun hb=>?_;first|(exact (hN ⟨by omega,by assumption⟩).elim)|skip)|(refine cX (qf []) ?_;exact aj))
theorem DH (t:List Qu) (p:Pr) {R:List Qu×List Ev} (hR:bR t p=R):FSpec prog 176 [.one (.sl dC t),p.a] [] [] (.tup [.one (.sl dC R.1),.one (.sl fG R.2)]) []:=by
 refine aP func176 ?_;cases hV:du t with
 | false =>
  obtain rfl:R=([],[]):=by rw [←hR];simp [bR,hV]
  repeat' (first|refine af ?_ ?_|refine aa 9 rfl (cB [] (dB t) ?_)|refine ae ?_|exact ah|refine ab fun hb=>?_|(refine fe (qf []) ?_;exact aj))
 | true =>
  have hm:=(bf hV).1;have hR2:aG p t=R:=by rw [←hR];simp [bR,hV]
  repeat' (first|refine af ?_ ?_|refine aa 9 rfl (cB [] (dB t) ?_)|refine ae ?_|exact ah|refine ab fun hb=>?_)
  refine bV 7 1000 67 fG rfl rfl rfl ?_;refine ai (fun x:Nat×List Qu×List Ev=>x.1≤t.length∧x.2.1.length=x.1∧x.2.2.length≤18*x.1∧x.2.1++(aG p (t.drop x.1)).1=R.1∧x.2.2++(aG p (t.drop x.1)).2=R.2) (fun x=>bt [3,1000,1001] [(3,.c (.ptr 3 0)),(6,.c (.own 1001)),(7,.c (.own 1000)),(8,.i x.1)] [(3,.box 35 [.sc (.int .i64 p.site),.sc (.int .i64 p.inc),.sc (.int .i64 p.num)]),(1001,.arr 81 dC (x.2.1++t.drop x.1)),(1000,.arr 67 fG x.2.2)]) (fun x=>t.length-x.1) (0,[],[]) ⟨Nat.zero_le _,rfl,Nat.le_refl _,by rw [←hR2];rfl,by rw [←hR2];rfl⟩ (by exact a8 (qf [(1001,17)])) ?_;rintro ⟨i,o,ev⟩ ⟨hi,hol,hel,hs1,hs2⟩;dsimp only at *
  have hlen:(o++t.drop i).length=t.length:=by simp;omega
  by_cases hlt:i<t.length
  ·obtain ⟨q,hq⟩:∃q,q=t[i]:=⟨_,rfl⟩;have dU:(o++t.drop i)[i]? = some q:=by
    rw [List.getElem?_append_right (by omega),hol,Nat.sub_self,List.getElem?_drop];simp [hq,hlt]
   have hS:aw q=true:=ct hV (hq▸List.getElem_mem hlt);rw [List.drop_eq_getElem_cons hlt,←hq] at hs1 hs2;have e0:o++t.drop i=(o++[q])++t.drop (i+1):=by rw [List.drop_eq_getElem_cons hlt,←hq];simp
   cases hh:eF q p with
   | false =>
    rw [show aG p (q :: t.drop (i+1))=(q :: (aG p (t.drop (i+1))).1,(aG p (t.drop (i+1))).2) by simp [aG,hh]] at hs1 hs2;repeat' (first|refine af ?_ ?_|refine aa 9 rfl (cB [] (DE q p) ?_)|refine ae ?_|exact ah|refine ab fun hb=>?_)
    refine ⟨(i+1,o++[q],ev),⟨by dsimp only;omega,by simp;omega,by dsimp only;omega,by dsimp only;rw [←hs1];simp,hs2⟩,by dsimp only;omega,?_⟩;dsimp only;rw [←e0];exact aN
   | true =>
    obtain ⟨Q,hQ⟩:∃Q,a7 q p=Q:=⟨_,rfl⟩;have hQl:=lr hS p;rw [hQ] at hQl;have hgl:(aE Q.1.res.name Q.2.1).length≤17:=by unfold aE;rw [List.length_map];exact hQl
    have hset:(o++t.drop i).set i Q.1=(o++[Q.1])++t.drop (i+1):=by
     have e9:(t.drop i).set 0 Q.1=Q.1 :: t.drop (i+1):=by rw [List.drop_eq_getElem_cons hlt];rfl
     rw [List.set_append_right _ _ (by omega),hol,Nat.sub_self,e9];simp
    cases hz:aH (ao q.holds p) with
    | true =>
     rw [show aG p (q :: t.drop (i+1))=(Q.1 :: (aG p (t.drop (i+1))).1,aE Q.1.res.name Q.2.1++(aG p (t.drop (i+1))).2) by simp [aG,hh,hQ,hz]] at hs1 hs2;repeat' (first|refine af ?_ ?_|(refine aa 9 rfl ?_;first|(refine cB [] (DE q p) ?_)|(refine cB [] (fg q p) ?_)|(refine cB [] (fP (ao q.holds p)) ?_)|(refine cC [] (xi q p hQ) ?_)|(refine cC [] (lY Q.1.res.name Q.2.1 (by omega)) ?_))|refine ae ?_|(refine aa 4 rfl ?_;refine aR (aq (z:=Q.1) rfl rfl rfl rfl (by first|assumption|exact List.getElem?_eq_getElem (by omega)) rfl rfl rfl rfl (Nat.le_of_ble_eq_true rfl) rfl rfl) rfl rfl rfl ?_)|exact ah|refine ab fun hb=>?_)
     refine ⟨(i+1,o++[Q.1],ev++aE Q.1.res.name Q.2.1),⟨by dsimp only;omega,by simp;omega,by simp;omega,by dsimp only;rw [←hs1];simp,by dsimp only;rw [←hs2];simp⟩,by dsimp only;omega,?_⟩;dsimp only;rw [←hset];exact a8 (qf [(1000,70)])
    | false =>
     rw [show aG p (q :: t.drop (i+1))=(Q.1 :: (aG p (t.drop (i+1))).1,[⟨3,p,q.res.name,⟨0,0⟩⟩]++aE Q.1.res.name Q.2.1++(aG p (t.drop (i+1))).2) by simp [aG,hh,hQ,hz]] at hs1 hs2;repeat' (first|refine af ?_ ?_|(refine aa 8 rfl ?_;refine aV (ak rfl rfl (aB rfl rfl) (aD [⟨3,p,q.res.name,⟨0,0⟩⟩] rfl rfl rfl rfl) rfl aL aL) rfl rfl rfl ?_)|(refine aa 9 rfl ?_;first|(refine cB [] (DE q p) ?_)|(refine cB [] (fg q p) ?_)|(refine cB [] (fP (ao q.holds p)) ?_)|(refine cC [] (xi q p hQ) ?_)|(refine cC [] (lY Q.1.res.name Q.2.1 (by omega)) ?_))|refine ae ?_|(refine aa 4 rfl ?_;refine aR (aq (z:=Q.1) rfl rfl rfl rfl (by first|assumption|exact List.getElem?_eq_getElem (by omega)) rfl rfl rfl rfl (Nat.le_of_ble_eq_true rfl) rfl rfl) rfl rfl rfl ?_)|exact ah|refine ab fun hb=>?_)
     refine ⟨(i+1,o++[Q.1],ev++[⟨3,p,q.res.name,⟨0,0⟩⟩]++aE Q.1.res.name Q.2.1),⟨by dsimp only;omega,by simp;omega,by simp;omega,by dsimp only;rw [←hs1];simp,by dsimp only;rw [←hs2];simp⟩,by dsimp only;omega,?_⟩;dsimp only;rw [←hset];exact a8 (qf [(1000,70)])
  ·have e:(o++t.drop i,ev)=R:=by
    rw [List.drop_eq_nil_of_le (by omega)] at hs1 hs2 ⊢;simp [aG] at hs1 hs2;rw [hs2,List.append_nil,hs1]
   repeat' (first|refine af ?_ ?_|refine ae ?_|exact ah|refine ab fun hb=>?_)
   rw [←e];refine fe (qf []) ?_;exact aj
theorem Eff.trans {a b c:Qu} {p:Pr} (h:Eff a b p) (k:Eff b c p):Eff a c p:=by
 rcases h with ⟨h1,h2⟩|⟨x,h1,h2,h3⟩
 ·rcases k with ⟨k1,k2⟩|⟨x,k1,k2,k3⟩
  ·exact .inl ⟨k1.trans h1,k2.trans h2⟩
  ·exact .inr ⟨x,h2.symm.trans k1,k2,k3⟩
 ·rcases k with ⟨k1,k2⟩|⟨y,k1,_⟩
  ·exact .inr ⟨x,h1,k1.trans h2,k2.trans h3⟩
  ·rw [h3] at k1;cases k1
theorem Out.trans {a b c:Qu} {p:Pr} (h:Out a b p) (k:Out b c p):Out a c p :=
 ⟨k.ok,k.res.trans h.res,fun r hr=>(h.eff r hr).trans (k.eff r hr),fun x hx hp=>by
  obtain ⟨y,hy,e1,e2⟩:=k.prio x hx hp;obtain ⟨z,hz,e3,e4⟩:=h.prio y hy (by rw [e1];exact hp);exact ⟨z,hz,e3.trans e1,e4.trans e2⟩⟩
theorem TP.refl {t:List Qu} (hv:du t=true) (p:Pr):TP t t p:=⟨hv,rfl,fun _ hn=>Out.same p (ct hv (dL hn).1),fun _ hr=>.inr hr⟩
theorem TP.trans {a b c:List Qu} {p:Pr} (h:TP a b p) (k:TP b c p):TP a c p :=
 ⟨k.v,k.nm.trans h.nm,fun n hn=>(h.out n hn).trans (k.out n (by rw [h.hasE];exact hn)),fun r hr=>by
  rcases k.sub r hr with e|e
  ·exact .inl e
  ·exact h.sub r e⟩
structure WS (w w':Wk) (p:Pr) (N:ByteArray→Prop):Prop where
 tp:TP w.c.queues w'.c.queues p
 oth:∀m,¬N m→aW w.c.queues m=true→be w'.c.queues m=be w.c.queues m
 procs:w'.c.procs=w.c.procs
 now:w'.c.now=w.c.now
theorem WS.refl {w:Wk} (hv:du w.c.queues=true) (p:Pr) (N:ByteArray→Prop):WS w w p N:=⟨TP.refl hv p,fun _ _ _=>rfl,rfl,rfl⟩
theorem WS.trans {a b c:Wk} {p:Pr} {N:ByteArray→Prop} (h:WS a b p N) (k:WS b c p N):WS a c p N :=
 ⟨h.tp.trans k.tp,fun m hm hh=>(k.oth m hm (by rw [h.tp.hasE];exact hh)).trans (h.oth m hm hh),k.procs.trans h.procs,k.now.trans h.now⟩
theorem WS.mono {a b:Wk} {p:Pr} {N M:ByteArray→Prop} (h:WS a b p N) (hm:∀m,N m→M m):WS a b p M:=⟨h.tp,fun m hM hh=>h.oth m (fun e=>hM (hm m e)) hh,h.procs,h.now⟩
theorem WS.take {w:Wk} {t:List Qu} {ev:List Ev} {p:Pr} {n:ByteArray} (hv:du w.c.queues=true) (h:TStep w.c.queues t p n):WS w (w.take t ev) p (· = n):=⟨h.tp hv,fun m hm hh=>h.oth m hm hh,rfl,rfl⟩
theorem DI {r:Rs} {l a:Am} (hs:bc r=true) (ha:aF r a=true) (hc:bg r l a=false) (hl:l=⟨0,0⟩∨aF r l=true) :
  aF r (bG r l a)=true∧bg r (bG r l a) l=true∧bg r (bG r l a) a=true∧bG r l a≠l:=by
 rcases hl with rfl|hl
 ·rw [ra ha];have p0:bj r ⟨0,0⟩=true:=by unfold bj aH;rw [hs];rfl
  refine ⟨ha,?_,qX ha,?_⟩
  ·unfold bg;rw [da ha,p0];rfl
  ·exact bl.1 (eu ha)
 ·exact zG hl ha hc
theorem lx {t:List Qu} {x:Pc} (h:PStat t x) (n:ByteArray):gD x n=⟨0,0⟩∨aF (be t n).res (gD x n)=true:=by
 by_cases e:gD x n=⟨0,0⟩
 ·exact .inl e
 ·exact .inr (h.hf n e).2
theorem l9 {t:List Qu} (hv:du t=true) {n:ByteArray} (h:aW t n=true):bc (be t n).res=true:=(aJ (ct hv (dL h).1)).hv.shp
theorem ro {w:Wk} {x:Pc} {n:ByteArray} {a:Am} (hv:du w.c.queues=true) (hn:aW w.c.queues n=true) (hs:PStat w.c.queues x) (ha:aF (be w.c.queues n).res a=true) (hf:FitA w.c.queues n x a) :
  WS w (bo w x n) x.proc (· = n)∧FitR (bo w x n).c.queues n x:=by
 have same:FitR w.c.queues n x→WS w (bo w x n) x.proc (· = n)∧FitR (bo w x n).c.queues n x:=by
  intro h;have e1:fd w x.proc n=w:=by unfold fd;rw [h.w];rfl
  have e2:bo w x n=w:=by
   unfold bo bL;rw [e1,decide_eq_true h.h];rfl
  rw [e2];exact ⟨WS.refl hv _ _,h⟩
 rcases hf with ⟨_,h⟩|⟨hc,⟨h1,h2⟩|⟨h1,h2,_⟩⟩
 ·exact same h
 ·obtain ⟨j1,j2,_,j4⟩:=DI (l9 hv hn) ha hc (lx hs n);have e1:fd w x.proc n=w:=by unfold fd;rw [h2];rfl
  have hne:ao (be w.c.queues n).holds x.proc≠ax x.led.entries n:=by rw [h1];exact j4
  have h0:ao (be w.c.queues n).holds x.proc≠⟨0,0⟩:=by rw [h1];exact bl.1 (eu j1)
  obtain ⟨e,hst,k1,k2⟩:=oJ (a:=⟨n,ax x.led.entries n⟩) hv hn h0 h2 (by rw [h1];exact j2);have e2:bo w x n=d5 w x.proc ⟨n,ax x.led.entries n⟩:=by
   unfold bo bL;rw [e1,decide_eq_false hne];rfl
  rw [e2];exact ⟨WS.take hv hst,⟨k1,k2⟩⟩
 ·obtain ⟨e,hst,k1,k2⟩:=mX (p:=x.proc) hv hn (by rw [h2];rfl);have e1:fd w x.proc n=gR w x.proc n:=by unfold fd;rw [h2];rfl
  have hq:ao (be (gR w x.proc n).c.queues n).holds x.proc=ax x.led.entries n:=k1.trans h1;have e2:bo w x n=gR w x.proc n:=by
   unfold bo bL;rw [e1,decide_eq_true hq];rfl
  rw [e2];exact ⟨WS.take hv hst,⟨hq,k2⟩⟩
theorem yO {l:List Tm} {n:ByteArray} {a:Tm} (h:dq l n=some a):a∈l∧a.name=n:=by
 unfold dq at h;exact ⟨List.mem_of_find?_eq_some h,bb.1 (by have:=List.find?_some h;simpa using this)⟩
theorem ip {l:List Tm} {n:ByteArray}:dq l n=none↔∀a∈l,a.name≠n:=by
 unfold dq;rw [List.find?_eq_none];constructor
 ·intro h a ha e;exact h a ha (bb.2 e)
 ·intro h a ha e;exact h a ha (bb.1 e)
theorem di (a:Tm) (l:List Tm) (n:ByteArray):dq (a :: l) n=bif ba a.name n then some a else dq l n:=by
 unfold dq;rw [List.find?_cons];cases ba a.name n <;> rfl
def B9 (l:List Tm):Prop:=l.Pairwise fun a b=>a.name≠b.name
def Rsl (t:List Qu) (l:List Tm):Prop:=∀a∈l,aW t a.name=true∧aF (be t a.name).res a.am=true
theorem tP {t:List Qu}:∀{l:List Tm},fc t l=0↔Rsl t l
 | []=>by simp [fc,Rsl]
 | a :: l=>by
  unfold fc;cases h1:aW t a.name with
  | false =>
   simp only [Bool.not_false,cond_true];constructor
   ·intro h;cases h
   ·intro h;have:=(h a (by simp)).1;rw [h1] at this;cases this
  | true =>
   simp only [Bool.not_true,cond_false];cases h2:aF (be t a.name).res a.am with
   | false =>
    simp only [Bool.not_false,cond_true];constructor
    ·intro h;cases h
    ·intro h;have:=(h a (by simp)).2;rw [h2] at this;cases this
   | true =>
    simp only [Bool.not_true,cond_false];rw [tP];constructor
    ·intro h b hb;rcases List.mem_cons.1 hb with rfl|hb
     ·exact ⟨h1,h2⟩
     ·exact h b hb
    ·intro h b hb;exact h b (by simp [hb])
theorem Rsl.tp {t t':List Qu} {p:Pr} {l:List Tm} (hs:TP t t' p) (h:Rsl t l):Rsl t' l:=fun a ha=>by
 obtain ⟨h1,h2⟩:=h a ha;exact ⟨by rw [hs.hasE];exact h1,by rw [(hs.out _ h1).res];exact h2⟩
theorem FitR.eq {t t':List Qu} {n:ByteArray} {x:Pc} (h:FitR t n x) (e:be t' n=be t n):FitR t' n x:=⟨by rw [e];exact h.h,by rw [e];exact h.w⟩
theorem FitA.eq {t t':List Qu} {n:ByteArray} {x:Pc} {a:Am} (h:FitA t n x a) (e:be t' n=be t n):FitA t' n x a:=by
 unfold FitA jn at *
 rw [e];rcases h with ⟨h1,h2⟩|h
 ·exact .inl ⟨h1,h2.eq e⟩
 ·exact .inr h
theorem FitW.eq {t t':List Qu} {n:ByteArray} {x:Pc} {l:List Tm} (h:FitW t n x l) (e:be t' n=be t n):FitW t' n x l:=by
 unfold FitW at *
 cases hf:dq l n with
 | none=>rw [hf] at h;exact h.eq e
 | some a=>rw [hf] at h;exact h.eq e
def DrT (x:Pc):List Tm→Wk→Prop
 | [],_=>True
 | a :: l,w=>du w.c.queues=true∧aW w.c.queues a.name=true∧DrT x l (bo w x a.name)
theorem rp:∀(l:List Tm) (w:Wk) (x:Pc),du w.c.queues=true→PStat w.c.queues x→B9 l→Rsl w.c.queues l→(∀n,aW w.c.queues n=true→FitW w.c.queues n x l)→
  WS w (cU x l w) x.proc (fun _=>True)∧(∀n,aW w.c.queues n=true→FitR (cU x l w).c.queues n x)∧DrT x l w
 | [],w,x,hv,_,_,_,hf=>⟨WS.refl hv _ _,fun n hn=>hf n hn,trivial⟩
 | a :: l,w,x,hv,hs,hnd,hr,hf=>by
  obtain ⟨h1,h2⟩:=List.pairwise_cons.1 hnd;obtain ⟨ha1,ha2⟩:=hr a (by simp);have hfa:FitA w.c.queues a.name x a.am:=by
   have:=hf a.name ha1;unfold FitW at this;rw [di,bb.2 rfl] at this;exact this
  obtain ⟨k1,k2⟩:=ro hv ha1 hs ha2 hfa;have ih:=rp l (bo w x a.name) x k1.tp.v (hs.tp k1.tp) h2 ((show Rsl w.c.queues l from fun b hb=>hr b (by simp [hb])).tp k1.tp) (fun n hn=>by
   rw [k1.tp.hasE] at hn;by_cases e:n=a.name
   ·subst e;unfold FitW;rw [ip.2 (fun b hb e=>h1 b hb e.symm)];exact k2
   ·have e1:=k1.oth n e hn;have h3:=hf n hn;unfold FitW at h3;rw [di,bZ.2 (fun h=>e h.symm)] at h3;exact FitW.eq (l:=l) h3 e1)
  exact ⟨(k1.mono fun _ _=>trivial).trans ih.1,fun n hn=>ih.2.1 n (by rw [k1.tp.hasE];exact hn),hv,ha1,ih.2.2⟩
theorem gB (n:ByteArray) (l:List Ho):(aE n l).length=l.length:=List.length_map ..
theorem ly (t:List Qu) (p:Pr) (n:ByteArray):(bq t p n).2.1.length≤17:=by
 unfold bq;cases hV:du t with
 | false=>simp [dO]
 | true =>
  by_cases hf:bk n 0 t<0
  ·simp [hf,dO]
  ·obtain ⟨i,hi,hF,hq,hx⟩:=d8 hf;have:=lq (ct hV (List.getElem_mem hi)) p;rw [hq];cases decide ((bh t[i] p).2.2=0) with
   | false=>simp [hf,dO]
   | true=>simp [hf,gB];exact this
theorem fC (t:List Qu) (p:Pr) (a:Tm):(bJ t p a).2.1.length≤18:=by
 unfold bJ;cases hV:du t with
 | false=>simp [dO]
 | true =>
  by_cases hf:bk a.name 0 t<0
  ·simp [hf,dO]
  ·obtain ⟨i,hi,hF,hq,hx⟩:=d8 hf;have:=mW (ct hV (List.getElem_mem hi)) p a.am;rw [hq];cases decide ((bi t[i] p a.am).2.2=0) with
   | false=>simp [hf,dO]
   | true =>
    cases decide (ao t[i].holds p=a.am) with
    | true=>simp [hf,gB];omega
    | false=>simp [hf,gB];omega
theorem lz {t:List Qu} {n:ByteArray} (h:aW t n=true):∃i,∃hi:i<t.length,bk n 0 t=(i:Int)∧be t n=t[i]:=by
 have hf:¬bk n 0 t<0:=by simpa [aW] using h
 obtain ⟨i,hi,hF,hq,_⟩:=d8 hf;exact ⟨i,hi,hF,hq⟩
theorem Hd (d:Nat) (w:Wk) (x:Pc) (n:ByteArray) (hV:du w.c.queues=true) (hn:aW w.c.queues n=true) (hl:w.ev.length≤900000):FSpec prog 167 [gA,x.a d,.one (.sc (.string n))] (HI d w) [3,4] (.tup []) (HO d (bo w x n)):=by
 refine aP func167 ?_;obtain ⟨i,hi,hF,hq⟩:=lz hn;obtain ⟨l,hL⟩:∃l,ax x.led.entries n=l:=⟨_,rfl⟩;have kL:=jI x.led.entries n;rw [hL] at kL;obtain ⟨o,hw⟩:∃o,ap w.c.queues[i] x.proc=o:=⟨_,rfl⟩;have hcl:=ly w.c.queues x.proc n;cases o with
 | none =>
  have e1:bo w x n=bL w x.proc n l:=by unfold bo fd;rw [hq,hw,hL];rfl
  rw [e1];obtain ⟨h,hh⟩:∃h,ao w.c.queues[i].holds x.proc=h:=⟨_,rfl⟩;have kH:=fg w.c.queues[i] x.proc;rw [hh] at kH;have hll:=fC w.c.queues x.proc ⟨n,l⟩;by_cases hhl:h=l
  ·rw [show bL w x.proc n l=w by unfold bL;rw [hq,hh];simp [hhl]];repeat' (first|refine af ?_ ?_|(refine aa 9 rfl ?_;first|(refine cB [] (dl w.c.queues n hF) ?_)|(refine cB [] (cl w.c.queues[i] x.proc hw) ?_)|(refine cB [] (kL) ?_)|(refine cB [] (kH) ?_))|refine ae ?_|exact ah|refine ab fun hb=>?_|(exact mS (qf [(3,1),(4,2)])))
  ·obtain ⟨R,hR⟩:∃R,bJ w.c.queues x.proc ⟨n,l⟩=R:=⟨_,rfl⟩;rw [hR] at hll;rw [show bL w x.proc n l=w.take R.1 R.2.1 by unfold bL d5;rw [hq,hh,hR];simp [hhl]];repeat' (first|refine af ?_ ?_|(refine aa 9 rfl ?_;first|(refine cB [] (dl w.c.queues n hF) ?_)|(refine cB [] (cl w.c.queues[i] x.proc hw) ?_)|(refine cB [] (kL) ?_)|(refine cB [] (kH) ?_)|(refine cC [] (p8 w.c.queues x.proc ⟨n,l⟩ hR) ?_)|(refine cH (qf [(3,1003),(4,1004)]) (pF d w R.1 R.2.1 (by omega)) ?_))|refine ae ?_|exact ah|refine ab fun hb=>?_|(exact mS (qf [(3,1003),(4,1004)])))
 | some m =>
  obtain ⟨C,hC⟩:∃C,bq w.c.queues x.proc n=C:=⟨_,rfl⟩;have hts:=(mX (p:=x.proc) hV hn (by rw [hq,hw];rfl)).2.1;rw [hC] at hts hcl;have hF2:bk n 0 C.1=(i:Int):=by rw [ls n 0 hts.nm];exact hF
  have hi2:i<C.1.length:=by
   have:=congrArg List.length hts.nm;simp [fk] at this;omega
  have hq2:be C.1 n=C.1[i]:=by
   obtain ⟨j,hj,hFj,hqj⟩:=lz (t:=C.1) (n:=n) (by simp [aW,hF2]);have:j=i:=by rw [hF2] at hFj;omega
   subst this;exact hqj
  have e1:bo w x n=bL (w.take C.1 C.2.1) x.proc n l:=by unfold bo fd gR;rw [hq,hw,hL,hC];rfl
  rw [e1];obtain ⟨h,hh⟩:∃h,ao C.1[i].holds x.proc=h:=⟨_,rfl⟩;have kH:=fg C.1[i] x.proc;rw [hh] at kH;have hll:=fC C.1 x.proc ⟨n,l⟩;have hi3:i<(w.take C.1 C.2.1).c.queues.length:=hi2;have hgq:(w.take C.1 C.2.1).c.queues[i]? = some C.1[i]:=List.getElem?_eq_getElem hi2;by_cases hhl:h=l
  ·rw [show bL (w.take C.1 C.2.1) x.proc n l=w.take C.1 C.2.1 by unfold bL;rw [show (w.take C.1 C.2.1).c.queues=C.1 from rfl,hq2,hh];simp [hhl]];repeat' (first|refine af ?_ ?_|(refine aa 9 rfl ?_;first|(refine cB [] (dl w.c.queues n hF) ?_)|(refine cB [] (cl w.c.queues[i] x.proc hw) ?_)|(refine cC [] (xj w.c.queues x.proc n hC) ?_)|(refine cB [] (kL) ?_)|(refine cB [] (kH) ?_)|(refine cH (qf [(3,1003),(4,1004)]) (pF d w C.1 C.2.1 (by omega)) ?_))|refine ae ?_|exact ah|refine ab fun hb=>?_|(exact mS (qf [(3,1003),(4,1004)])))
  ·obtain ⟨R,hR⟩:∃R,bJ C.1 x.proc ⟨n,l⟩=R:=⟨_,rfl⟩;rw [hR] at hll;have hev:(w.take C.1 C.2.1).ev.length+R.2.1.length≤1000000:=by simp [Wk.take];omega
   rw [show bL (w.take C.1 C.2.1) x.proc n l=(w.take C.1 C.2.1).take R.1 R.2.1 by unfold bL d5;rw [show (w.take C.1 C.2.1).c.queues=C.1 from rfl,hq2,hh,hR];simp [hhl]];repeat' (first|refine af ?_ ?_|(refine aa 9 rfl ?_;first|(refine cB [] (dl w.c.queues n hF) ?_)|(refine cB [] (cl w.c.queues[i] x.proc hw) ?_)|(refine cC [] (xj w.c.queues x.proc n hC) ?_)|(refine cB [] (kL) ?_)|(refine cB [] (kH) ?_)|(refine cC [] (p8 C.1 x.proc ⟨n,l⟩ hR) ?_)|(refine cH (qf [(3,1003),(4,1004)]) (pF d w C.1 C.2.1 (by omega)) ?_)|(refine cH (qf [(1,1003),(2,1004),(3,1005),(4,1006)]) (pF d (w.take C.1 C.2.1) R.1 R.2.1 hev) ?_))|refine ae ?_|exact ah|refine ab fun hb=>?_|(exact mS (qf [(3,1005),(4,1006)])))
def yP (x:Pc):List Tm→Wk→Prop
 | [],_=>True
 | a :: l,w=>du w.c.queues=true∧aW w.c.queues a.name=true∧w.ev.length≤900000∧yP x l (bo w x a.name)
theorem oL (d:Nat) (w:Wk) (i:Nat) (hi:i<w.c.procs.length) (hok:yP (w.pc i) (cy (w.pc i).req.expr) w) (hi2:i<(cU (w.pc i) (cy (w.pc i).req.expr) w).c.procs.length):FSpec prog 90 [gA,oK i] (HI d w) [3,4] (.tup []) (HO d (az w i)):=by
 refine aP func90 ?_;obtain ⟨x,hx⟩:∃x,w.c.procs[i]? = some x:=⟨_,List.getElem?_eq_getElem hi⟩;have hpc:=dJ hx;unfold az;rw [hpc] at hok hi2 ⊢;have h8:=cd x.req.expr;obtain ⟨L,hL⟩:∃L,cy x.req.expr=L:=⟨_,rfl⟩;rw [hL] at hok hi2 h8 ⊢;obtain ⟨W,hW⟩:∃W,cU x L w=W:=⟨_,rfl⟩;rw [hW] at hi2 ⊢;repeat' (first|refine af ?_ ?_|refine aa 9 rfl (cC [] (lv d x.req.expr hL) ?_)|refine ae ?_|exact ah|refine ab fun hb=>?_)
 refine ai (fun y:Nat×Wk=>y.1≤L.length∧yP x (L.drop y.1) y.2∧cU x (L.drop y.1) y.2=W) (fun y=>bt [0,1,2,4,1010,1011] [(0,.v gA),(1,.v (oK i)),(4,.c (.ptr 4 0)),(5,.c (.sl cw L)),(6,.i y.1)] [(0,.box 89 (B8 y.2 1010 1011)),(4,.box 63 (x.d d)),(1010,.arr 63 (eI d) y.2.c.procs),(1011,.arr 67 fG y.2.ev)]) (fun y=>L.length-y.1) (0,w) ⟨Nat.zero_le _,hok,hW⟩ (by exact a8 (qf [(1010,1),(1011,2)])) ?_;rintro ⟨k,v⟩ ⟨hk,hv,hs⟩;dsimp only at *
 by_cases hlt:k<L.length
 ·rw [List.drop_eq_getElem_cons hlt] at hv hs;obtain ⟨v1,v2,v3,v4⟩:=hv;repeat' (first|refine af ?_ ?_|refine aa 9 rfl (cH (qf [(1,1010),(2,1011),(3,1003),(4,1004)]) (Hd d v x L[k].name v1 v2 v3) ?_)|refine ae ?_|exact ah|refine ab fun hb=>?_)
  refine ⟨(k+1,bo v x L[k].name),⟨by dsimp only;omega,v4,hs⟩,by dsimp only;omega,?_⟩;exact a8 (qf [(1010,1003),(1011,1004)])
 ·obtain rfl:v=W:=by rw [←hs,List.drop_eq_nil_of_le (by omega)];rfl
  repeat' (first|refine af ?_ ?_|refine aa 9 rfl (cH (qf [(1,1010),(2,1011),(3,1005),(4,1006)]) (Hb d v i hi2) ?_)|refine ae ?_|exact ah|refine ab fun hb=>?_|(exact mS (qf [(3,1005),(4,1006)])))
theorem DJ {t:List Qu} {L:List Pr} (hc:∀r∈aC t,r∈L) (hl:L.length≤8) {p:Pr} (hp:p∈L):(aC t).length≤7∨p∈aC t:=by
 by_cases h:p∈aC t
 ·exact .inr h
 ·left
  have:=ij (l:=p :: aC t) (m:=L) (List.nodup_cons.2 ⟨h,fN t⟩) fun r hr=>by
   rcases List.mem_cons.1 hr with rfl|hr
   ·exact hp
   ·exact hc r hr
  rw [List.length_cons] at this;omega
theorem DK {t:List Qu} {L:List Pr} (hv:du t=true) (hc:∀r∈aC t,r∈L) (hl:L.length≤8) {p:Pr} (hp:p∈L) {n:ByteArray} (hn:aW t n=true) (hw:ap (be t n) p=none) :
  ao (be t n).holds p≠⟨0,0⟩∨(be t n).holds.length+(be t n).waits.length<8:=by
 by_cases h0:ao (be t n).holds p=⟨0,0⟩
 ·right
  have hq:=dL hn;have hd:=aJ (ct hv hq.1);have hno:=eh.1 hw;have hnd:(cQ (be t n).holds++bW (be t n).waits).Nodup:=by
   rw [List.nodup_append];refine ⟨hd.hv.asc.imp fun {a b} (hab:fT a b) (e:a=b)=>by rw [e] at hab;exact bH b hab,hd.wnd,?_⟩;intro u hu v hv2 e;obtain ⟨x,hx,rfl⟩:=List.mem_map.1 hu;obtain ⟨y,hy,rfl⟩:=List.mem_map.1 hv2;have h1:=lh hd.hv.asc hx;rw [e,(hd.wok y hy).2.2] at h1;exact bl.1 (eu (hd.hv.fit x hx).2) h1.symm
  have hpn:p ∉ cQ (be t n).holds++bW (be t n).waits:=by
   intro hm;rcases List.mem_append.1 hm with hm|hm
   ·obtain ⟨x,hx,rfl⟩:=List.mem_map.1 hm;have h1:=lh hd.hv.asc hx;rw [h0] at h1;exact bl.1 (eu (hd.hv.fit x hx).2) h1.symm
   ·obtain ⟨y,hy,e⟩:=List.mem_map.1 hm;exact hno y (by simp [hy]) e
  have hsub:∀r∈p :: (cQ (be t n).holds++bW (be t n).waits),r∈L:=by
   intro r hr;rcases List.mem_cons.1 hr with rfl|hr
   ·exact hp
   ·refine hc r ?_;unfold aC;rw [cN,gu];refine ⟨_,hq.1,?_⟩;unfold fq;rw [cN];rcases List.mem_append.1 hr with hr|hr
    ·exact List.mem_append.2 (.inl hr)
    ·refine List.mem_append.2 (.inr ?_);show r∈bW ((be t n).convs++(be t n).waits);unfold bW at hr ⊢;rw [List.map_append];exact List.mem_append.2 (.inr hr)
  have:=ij (List.nodup_cons.2 ⟨hpn,hnd⟩) hsub;rw [List.length_cons,List.length_append] at this;unfold cQ bW at this;rw [List.length_map,List.length_map] at this;omega
 ·exact .inl h0
theorem tQ (L:List Pr) (hl:L.length≤8):∀(l pre:List Tm) (w:Wk) (x:Pc),du w.c.queues=true→PStat w.c.queues x→x.proc∈L→(∀r∈aC w.c.queues,r∈L)→(0≤x.req.prio∧x.req.prio≤7)→B9 (pre++l)→Rsl w.c.queues l→
  (∀n,aW w.c.queues n=true→(dq l n=none→FitW w.c.queues n x (pre++l))∧(∀a,dq l n=some a→FitR w.c.queues n x))→
  WS w (ck x.proc x.req.prio l w) x.proc (fun _=>True)∧(∀n,aW w.c.queues n=true→FitW (ck x.proc x.req.prio l w).c.queues n x (pre++l))∧∀r∈aC (ck x.proc x.req.prio l w).c.queues,r∈L
 | [],pre,w,x,hv,_,_,hc,_,_,_,hf=>⟨WS.refl hv _ _,fun n hn=>(hf n hn).1 rfl,hc⟩
 | a :: l,pre,w,x,hv,hs,hpL,hc,hpr,hnd,hr,hf=>by
  have hnd2:B9 (a :: l):=(List.pairwise_append.1 hnd).2.1;obtain ⟨h1,h2⟩:=List.pairwise_cons.1 hnd2;obtain ⟨ha1,ha2⟩:=hr a (by simp);have hfr:FitR w.c.queues a.name x:=(hf a.name ha1).2 a (by rw [di,bb.2 rfl];rfl);obtain ⟨e,hst,ho⟩:=BA (a:=a) (prio:=x.req.prio) hv ha1 hs.vp hpr ha2 hfr.w (DK hv hc hl hpL ha1 hfr.w) (DJ hc hl hpL);have hws:=WS.take (ev:=(bd w.c.queues x.proc a x.req.prio).2.1) hv hst;have hc2:∀r∈aC (bd w.c.queues x.proc a x.req.prio).1,r∈L:=fun r hr2=>by
   rcases hst.sub r hr2 with e|e
   ·rw [e];exact hpL
   ·exact hc r e
  have hres:=hst.out.res;have hfa:FitA (bd w.c.queues x.proc a x.req.prio).1 a.name x a.am:=by
   unfold FitA jn;rw [hres];have hh:=hfr.h;rcases ho.own with ⟨k1,k2⟩|⟨k1,k2⟩
   ·rw [hh] at k1;exact .inl ⟨k1,hfr.eq k2⟩
   ·rw [hh] at k1 k2;rcases k2 with ⟨k3,k4⟩|⟨k3,k4⟩
    ·exact .inr ⟨k1,.inr ⟨k3,k4,fun y hy hyp=>ho.pr y hy hyp⟩⟩
    ·exact .inr ⟨k1,.inl ⟨k3,k4⟩⟩
  have happ:pre++a :: l=(pre++[a])++l:=by simp
  have hat:∀n,dq (pre++a :: l) n=some a∨n≠a.name:=by
   intro n;by_cases e:n=a.name
   ·left
    subst e;unfold dq;rw [List.find?_append];have hpre:List.find? (fun b:Tm=>ba b.name a.name) pre=none:=by
     rw [List.find?_eq_none];intro b hb e2;exact (List.pairwise_append.1 hnd).2.2 b hb a (by simp) (bb.1 e2)
    rw [hpre,List.find?_cons,bb.2 rfl];rfl
   ·exact .inr e
  have ih:=tQ L hl l (pre++[a]) (w.take (bd w.c.queues x.proc a x.req.prio).1 (bd w.c.queues x.proc a x.req.prio).2.1) x hws.tp.v (hs.tp hws.tp) hpL hc2 hpr (by rw [←happ];exact hnd) ((show Rsl w.c.queues l from fun b hb=>hr b (by simp [hb])).tp hws.tp) (fun n hn=>by
   rw [hws.tp.hasE] at hn;rw [←happ];by_cases e:n=a.name
   ·subst e;refine ⟨fun _=>?_,fun b hb=>?_⟩
    ·unfold FitW;rcases hat a.name with h3|h3
     ·rw [h3];exact hfa
     ·exact absurd rfl h3
    ·have:=yO hb;exact absurd this.2.symm (h1 b this.1)
   ·have e1:=hws.oth n e hn;have h3:=hf n hn;rw [di,bZ.2 (fun h=>e h.symm),cond_false] at h3;exact ⟨fun h4=>FitW.eq (h3.1 h4) e1,fun b hb=>(h3.2 b hb).eq e1⟩)
  rw [←happ] at ih;exact ⟨(hws.mono fun _ _=>trivial).trans ih.1,fun n hn=>ih.2.1 n (by rw [hws.tp.hasE];exact hn),ih.2.2⟩
theorem xn {r:Rs} {l j:Am} (hj:aF r j=true) (hc:bg r j l=true) (hne:j≠l) (hl:l=⟨0,0⟩∨aF r l=true):dg l j=true:=by
 unfold dg;rw [lg hj,decide_eq_false (fun e=>hne e.symm)];rcases hl with rfl|hl
 ·rfl
 ·rw [lg hl];have z:=eu hl;have zj:=eu hj;have hs:bc r=true:=by unfold aF at hj;rw [Bool.and_eq_true] at hj;exact hj.1
  unfold bg at hc;rw [da hj,da hl,z,zj] at hc;unfold aF at hl hj;simp only [Bool.true_and,Bool.false_or,Bool.not_false] at hc ⊢;rw [z,Bool.false_or];rcases cj hs with ⟨hk,_⟩|⟨hk,_⟩
  ·rw [if_pos hk] at hc hl;simp only [Bool.and_eq_true,f8] at hl;rw [decide_eq_false (show ¬l.mode=0 by omega)];exact hc
  ·rw [if_neg (by omega)] at hc hl hj;simp only [Bool.and_eq_true,decide_eq_true_eq] at hl hj hc;rw [decide_eq_true hl.2.1.1];simp only [Bool.not_true,cond_false,decide_eq_true_eq];rcases Int.lt_or_eq_of_le hc with h|h
   ·exact h
   ·exfalso;apply hne
    obtain ⟨lm,lu⟩:=l;obtain ⟨jm,ju⟩:=j;dsimp only at *
    rw [hl.2.1.1,hj.2.1.1,h]
theorem zT {l:List En} (h:Ents l):∀e∈l,ax l e.name≠⟨0,0⟩:=by
 refine nK (P:=fun l=>∀e∈l,ax l e.name≠⟨0,0⟩) (fun e he=>absurd he (by simp)) ?_ l h;intro l e _ he ih f hf;have hu:∀a:Am,bQ a=true→a≠⟨0,0⟩:=fun a ha e=>by rw [e] at ha;exact absurd ha (by decide)
 rw [jE];rcases List.mem_append.1 hf with hf|hf
 ·cases ba e.name f.name with
  | true=>exact hu _ (nM he.gr).1
  | false=>exact ih f hf
 ·rw [List.mem_singleton] at hf;subst hf;rw [bb.2 rfl];exact hu _ (nM he.gr).1
theorem tR {t:List Qu} {x:Pc} (hs:PStat t x):∀e∈x.led.entries,e.name∈fk t:=fun e he=>by
 obtain ⟨h1,_⟩:=hs.hf e.name (zT hs.led.ents e he);obtain ⟨h2,h3⟩:=dL h1;exact List.mem_map.2 ⟨_,h2,h3⟩
theorem zU {t:List Qu} (hv:du t=true) {n:ByteArray} (hn:aW t n=true):cK n.toList=true:=by
 obtain ⟨h2,h3⟩:=dL hn;have h4:=(aJ (ct hv h2)).res;unfold mm Rs.key at h4;rw [h3] at h4;simp only [Bool.and_eq_true] at h4;exact h4.1.1.1
structure GrP (x y:Pc):Prop where
 proc:y.proc=x.proc
 ents:∃m,y.led.entries=x.led.entries++m
 svs:y.led.saves=x.led.saves
theorem GrP.refl (x:Pc):GrP x x:=⟨rfl,⟨[],by simp⟩,rfl⟩
theorem GrP.trans {x y z:Pc} (h:GrP x y) (k:GrP y z):GrP x z:=by
 obtain ⟨h1,⟨m,h2⟩,h3⟩:=h;obtain ⟨k1,⟨m',k2⟩,k3⟩:=k;exact ⟨k1.trans h1,⟨m++m',by rw [k2,h2,List.append_assoc]⟩,k3.trans h3⟩
structure LedOf (t:List Qu) (x y:Pc):Prop where
 eq:y = { x with led:=y.led }
 stat:PStat t y
 gr:GrP x y
theorem LedOf.proc {t:List Qu} {x y:Pc} (h:LedOf t x y):y.proc=x.proc:=by rw [h.eq]
theorem DL {w:Wk} {i:Nat} {x y:Pc} {n:ByteArray} {a:Am} (hv:du w.c.queues=true) (hn:aW w.c.queues n=true) (hy:w.pc i=y) (hi:i<w.c.procs.length) (hl:LedOf w.c.queues x y) (hlh:gD y n=gD x n) (ha:aF (be w.c.queues n).res a=true) (hf:FitA w.c.queues n x a)
  (hc:bg (be w.c.queues n).res (ao (be w.c.queues n).holds x.proc) a=true) :
  ∃y',gI w i x.proc n=w.setP i y'∧LedOf w.c.queues x y'∧FitR w.c.queues n y'∧∀m,m≠n→gD y' m=gD y m:=by
 have same:FitR w.c.queues n x→∃y',gI w i x.proc n=w.setP i y'∧LedOf w.c.queues x y'∧FitR w.c.queues n y'∧∀m,m≠n→gD y' m=gD y m:=by
  intro h;have h1:ao (be w.c.queues n).holds x.proc=ax (w.pc i).led.entries n:=by rw [hy];exact h.h.trans hlh.symm
  refine ⟨y,?_,hl,⟨?_,?_⟩,fun _ _=>rfl⟩
  ·unfold gI;rw [decide_eq_true h1,cond_true];unfold Wk.setP;have:w.c.procs.set i y=w.c.procs:=by
    apply List.ext_getElem
    ·simp
    ·intro j h1 h2;rw [List.getElem_set];split
     ·next e =>
      subst e;unfold Wk.pc at hy;rw [←hy];simp [hi]
     ·rfl
   rw [this]
  ·rw [hl.proc];exact h.h.trans hlh.symm
  ·rw [hl.proc];exact h.w
 rcases hf with ⟨_,h⟩|⟨hc2,⟨h1,h2⟩|⟨h1,h2,_⟩⟩
 ·exact same h
 ·obtain ⟨j1,j2,_,j4⟩:=DI (l9 hv hn) ha hc2 (by rw [←hlh];exact lx hl.stat n);have hne:ao (be w.c.queues n).holds x.proc≠ax (w.pc i).led.entries n:=by rw [hy,h1,show ax y.led.entries n=gD x n from hlh];exact j4
  have hgr:dg (gD x n) (jn w.c.queues n x a)=true:=xn j1 j2 j4 (by rw [←hlh];exact lx hl.stat n);obtain ⟨e1,e2⟩:=tK (g:=y.led) hl.stat.led (e:=⟨n,gD x n,jn w.c.queues n x a⟩) (zU hv hn) (by show gD x n=ax y.led.entries n;exact hlh.symm) hgr (ns:=fk w.c.queues) (by unfold fk;rw [List.length_map];exact (bf hv).1) (tR hl.stat) (by obtain ⟨h3,h4⟩:=dL hn;exact List.mem_map.2 ⟨_,h3,h4⟩);have hlhn:∀m,ax (y.led.entries++[(⟨n,gD x n,jn w.c.queues n x a⟩:En)]) m=bif ba n m then jn w.c.queues n x a else gD y m:=fun m=>jE _ _ _;refine ⟨{ y with led:=⟨y.led.entries++[⟨n,gD x n,jn w.c.queues n x a⟩],y.led.saves⟩ },?_,⟨?_,?_,hl.gr.trans ⟨rfl,⟨_,rfl⟩,rfl⟩⟩,⟨?_,?_⟩,fun m hm=>?_⟩
  ·unfold gI;rw [decide_eq_false hne,cond_false,hy,h1,show ax y.led.entries n=gD x n from hlh,e1]
  ·have:=hl.eq;generalize y.led=g at *
   subst this;rfl
  ·have hst:=hl.stat;refine ⟨hst.vp,hst.cost,e2,hst.gen,fun m hm=>?_⟩;have h5:gD { y with led:=⟨y.led.entries++[⟨n,gD x n,jn w.c.queues n x a⟩],y.led.saves⟩ } m=bif ba n m then jn w.c.queues n x a else gD y m:=hlhn m;rw [h5] at hm ⊢;cases he:ba n m with
   | true =>
    have:=bb.1 he;subst this;exact ⟨hn,j1⟩
   | false =>
    rw [he] at hm;exact hst.hf m hm
  ·show ao (be w.c.queues n).holds y.proc=ax _ n;rw [hl.proc,h1,hlhn,bb.2 rfl];rfl
  ·show ap (be w.c.queues n) y.proc=none;rw [hl.proc];exact h2
  ·show ax _ m=_;rw [hlhn,bZ.2 (fun e=>hm e.symm)];rfl
 ·rw [h1,hc2] at hc;cases hc
theorem fQ {w:Wk} {i:Nat} (hi:i<w.c.procs.length) (x:Pc):(w.setP i x).pc i=x:=by
 unfold Wk.setP Wk.pc;simp [hi]
theorem gf (w:Wk) (i:Nat) (x y:Pc):(w.setP i x).setP i y=w.setP i y:=by
 unfold Wk.setP;simp
theorem LedOf.refl {t:List Qu} {x:Pc} (h:PStat t x):LedOf t x x:=⟨rfl,h,GrP.refl x⟩
theorem FitR.led {t:List Qu} {n:ByteArray} {x y:Pc} (h:FitR t n x) (hp:y.proc=x.proc) (hl:gD y n=gD x n):FitR t n y:=⟨by rw [hp,hl];exact h.h,by rw [hp];exact h.w⟩
def FinT (x:Pc) (i:Nat):List Tm→List Bool→Wk→Prop
 | a :: l,b :: bs,w=>du w.c.queues=true∧aW w.c.queues a.name=true∧i<w.c.procs.length∧FinT x i l bs (bif b then gI w i x.proc a.name else bo w x a.name)
 | _,_,_=>True
theorem rr:∀(l:List Tm) (bs:List Bool) (w:Wk) (i:Nat) (x y:Pc),l.length=bs.length→du w.c.queues=true→w.pc i=y→i<w.c.procs.length→PStat w.c.queues x→LedOf w.c.queues x y→(∀a∈l,gD y a.name=gD x a.name)→B9 l→Rsl w.c.queues l→
  (∀n,aW w.c.queues n=true→(∀a,dq l n=some a→FitA w.c.queues n x a.am)∧(dq l n=none→FitR w.c.queues n y))→
  (∀k (h:k<l.length),bs.getD k false=true→bg (be w.c.queues l[k].name).res (ao (be w.c.queues l[k].name).holds x.proc) l[k].am=true)→
  ∃y',TP w.c.queues (cR x i l bs w).c.queues x.proc∧(cR x i l bs w).c.procs=w.c.procs.set i y'∧(cR x i l bs w).c.now=w.c.now∧LedOf (cR x i l bs w).c.queues x y'∧(∀n,aW w.c.queues n=true→FitR (cR x i l bs w).c.queues n y')∧FinT x i l bs w
 | [],bs,w,i,x,y,_,hv,hy,hi,_,hl,_,_,_,hf,_=>by
  have e:cR x i [] bs w=w:=by cases bs <;> rfl
  rw [e];refine ⟨y,TP.refl hv _,?_,rfl,hl,fun n hn=>(hf n hn).2 rfl,by cases bs <;> trivial⟩;apply List.ext_getElem
  ·simp
  ·intro j h1 h2;rw [List.getElem_set];split
   ·next e =>
    subst e;unfold Wk.pc at hy;rw [←hy];simp [hi]
   ·rfl
 | a :: l,[],w,i,x,y,hlen,_,_,_,_,_,_,_,_,_,_=>by simp at hlen
 | a :: l,b :: bs,w,i,x,y,hlen,hv,hy,hi,hsx,hl,hlh,hnd,hr,hf,hc=>by
  obtain ⟨h1,h2⟩:=List.pairwise_cons.1 hnd;obtain ⟨ha1,ha2⟩:=hr a (by simp);have hfa:FitA w.c.queues a.name x a.am:=(hf a.name ha1).1 a (by rw [di,bb.2 rfl];rfl);have hr2:Rsl w.c.queues l:=fun b hb=>hr b (by simp [hb]);have hat:∀n,n≠a.name→dq (a :: l) n=dq l n:=fun n hn=>by rw [di,bZ.2 (fun h=>hn h.symm)];rfl
  have hnone:dq l a.name=none:=ip.2 fun b hb e=>h1 b hb e.symm;cases b with
  | true =>
   obtain ⟨y1,e1,k1,k2,k3⟩:=DL hv ha1 hy hi hl (hlh a (by simp)) ha2 hfa (by have:=hc 0 (by simp) (by simp);simpa using this);have e:cR x i (a :: l) (true :: bs) w=cR x i l bs (w.setP i y1):=by
    show cR x i l bs (bif true then gI w i x.proc a.name else bo w x a.name)=_;rw [cond_true,e1]
   rw [e];have ih:=rr l bs (w.setP i y1) i x y1 (by simpa using hlen) hv (fQ hi y1) (by show i<(w.c.procs.set i y1).length;simpa using hi) hsx k1 (fun b hb=>by rw [k3 _ (fun e=>h1 b hb e.symm)];exact hlh b (by simp [hb])) h2 hr2
    (fun n hn=>by
     by_cases en:n=a.name
     ·subst en;exact ⟨fun b hb=>(by rw [hnone] at hb;cases hb),fun _=>k2⟩
     ·have h3:=hf n hn;rw [hat n en] at h3;exact ⟨h3.1,fun h4=>(h3.2 h4).led (by rw [k1.proc,hl.proc]) (k3 n en)⟩)
    (fun k hk hb=>by
     have h5:=hc (k+1) (by simpa using hk) (by simpa using hb);simp only [List.getElem_cons_succ] at h5;exact h5)
   obtain ⟨y',q1,q2,q3,q4,q5,q6⟩:=ih;refine ⟨y',q1,?_,q3,q4,q5,hv,ha1,hi,by rw [cond_true,e1];exact q6⟩;rw [q2];show (w.c.procs.set i y1).set i y'=_;simp
  | false =>
   obtain ⟨k1,k2⟩:=ro hv ha1 hsx ha2 hfa;have e:cR x i (a :: l) (false :: bs) w=cR x i l bs (bo w x a.name):=rfl;rw [e];have ih:=rr l bs (bo w x a.name) i x y (by simpa using hlen) k1.tp.v (by unfold Wk.pc at hy ⊢;rw [k1.procs];exact hy) (by rw [k1.procs];exact hi) (hsx.tp k1.tp) ⟨hl.eq,hl.stat.tp k1.tp,hl.gr⟩ (fun b hb=>hlh b (by simp [hb])) h2 (hr2.tp k1.tp)
    (fun n hn=>by
     rw [k1.tp.hasE] at hn;by_cases en:n=a.name
     ·subst en;exact ⟨fun b hb=>(by rw [hnone] at hb;cases hb),fun _=>k2.led hl.proc (hlh a (by simp))⟩
     ·have h3:=hf n hn;rw [hat n en] at h3;have e1:=k1.oth n en hn;exact ⟨fun b hb=>(h3.1 b hb).eq e1,fun h4=>(h3.2 h4).eq e1⟩)
    (fun k hk hb=>by
     have h5:=hc (k+1) (by simpa using hk) (by simpa using hb);simp only [List.getElem_cons_succ] at h5;have hm:l[k]∈l:=List.getElem_mem hk;rw [k1.oth l[k].name (fun e=>h1 _ hm e.symm) (hr2 _ hm).1];exact h5)
   obtain ⟨y',q1,q2,q3,q4,q5,q6⟩:=ih;exact ⟨y',k1.tp.trans q1,by rw [q2,k1.procs],q3.trans k1.now,q4,fun n hn=>q5 n (by rw [k1.tp.hasE];exact hn),hv,ha1,hi,q6⟩
theorem rt (x:Ex) (L:List Tm):∀(n:Nat) (out:List Bool) (k:Nat),(fA x L n out).getD k false=true→out.getD k false=true
 | 0,_,_,h=>h
 | n+1,out,k,h=>by
  have h1:=rt x L n _ k h;cases hb:out.getD n false with
  | false=>rw [hb] at h1;exact h1
  | true =>
   rw [hb,cond_true] at h1;by_cases hk:k=n
   ·subst hk;exact hb
   ·rw [List.getD_eq_getElem?_getD,List.getElem?_set_ne (fun e=>hk e.symm),←List.getD_eq_getElem?_getD] at h1;exact h1
theorem rv (x:Ex) (L:List Tm):∀(n:Nat) (out:List Bool),(fA x L n out).length=out.length
 | 0,_=>rfl
 | n+1,out=>by
  unfold fA;rw [rv x L n];cases out.getD n false <;> simp
theorem ma (x:Ex) (set:List Bool):(bX x set).length=(cy x).length:=by
 unfold bX;cases dD x set with
 | true=>rw [cond_true,rv];simp
 | false=>simp
theorem tS {x:Ex} {set:List Bool} {k:Nat} (h:(bX x set).getD k false=true):set.getD k false=true:=by
 unfold bX at h;cases hh:dD x set with
 | true =>
  rw [hh,cond_true] at h;have h1:=rt x (cy x) _ _ k h;rw [List.getD_eq_getElem?_getD,List.getElem?_map] at h1;by_cases hk:k<(cy x).length
  ·rw [List.getElem?_range hk] at h1;exact h1
  ·rw [List.getElem?_eq_none (by simpa using hk)] at h1;cases h1
 | false =>
  rw [hh,cond_false,List.getD_eq_getElem?_getD] at h;by_cases hk:k<(cy x).length
  ·rw [List.getElem?_replicate,if_pos hk] at h;cases h
  ·rw [List.getElem?_replicate,if_neg hk] at h;cases h
theorem DM {x:Ex} (h:kv x=true):B9 (cy x):=by
 have h1:=(mI h).2.2;unfold cy;rw [h,cond_true];unfold kv at h;simp only [Bool.and_eq_true,decide_eq_true_eq] at h;exact h.2.2.2
theorem mZ (x:Ex):B9 (cy x):=by
 cases h:kv x with
 | true=>exact DM h
 | false=>rw [ov h];exact List.Pairwise.nil
structure CI (c:Cs):Prop where
 now:0≤c.now∧c.now≤1073741824
 tv:du c.queues=true
 len:c.procs.length≤8
 asc:(c.procs.map (·.proc)).Pairwise fT
 cov:∀r∈aC c.queues,r∈c.procs.map (·.proc)
 inv:∀x∈c.procs,PInv c.queues c.now x
theorem bU {w:Wk} {i:Nat} (hi:i<w.c.procs.length):w.pc i=w.c.procs[i]:=by unfold Wk.pc;simp [hi]
theorem xo {c:Cs} (h:CI c) {i j:Nat} (hi:i<c.procs.length) (hj:j<c.procs.length) (hij:i≠j):c.procs[i].proc≠c.procs[j].proc:=by
 intro e;have hp:=List.pairwise_iff_getElem.1 h.asc;rcases Nat.lt_or_gt_of_ne hij with hlt|hlt
 ·have:=hp i j (by simpa using hi) (by simpa using hj) hlt;simp only [List.getElem_map] at this;rw [e] at this;exact bH _ this
 ·have:=hp j i (by simpa using hj) (by simpa using hi) hlt;simp only [List.getElem_map] at this;rw [e] at this;exact bH _ this
theorem CI.upd {c c':Cs} (h:CI c) {i:Nat} (hi:i<c.procs.length) {y:Pc} (hp:c'.procs=c.procs.set i y) (hn:c'.now=c.now) (hyp:y.proc=c.procs[i].proc) (ht:TP c.queues c'.queues y.proc) (hy:PInv c'.queues c'.now y):CI c':=by
 have hm:c'.procs.map (·.proc)=c.procs.map (·.proc):=by
  rw [hp,List.map_set,hyp];apply List.ext_getElem
  ·simp
  ·intro j h1 h2;rw [List.getElem_set];split
   ·next e=>subst e;simp
   ·rfl
 refine ⟨by rw [hn];exact h.now,ht.v,by rw [hp];simpa using h.len,by rw [hm];exact h.asc,fun r hr=>?_,fun x hx=>?_⟩
 ·rw [hm];rcases ht.sub r hr with e|e
  ·rw [e,hyp];exact List.mem_map.2 ⟨_,List.getElem_mem hi,rfl⟩
  ·exact h.cov r e
 ·rw [hp] at hx;obtain ⟨j,hj,e⟩:=List.mem_iff_getElem.1 hx;rw [List.getElem_set] at e;have hj2:j<c.procs.length:=by simpa using hj
  split at e
  ·subst e;exact hy
  ·next hij =>
   subst e;have h1:=h.inv _ (List.getElem_mem hj2);rw [←hn] at h1;exact h1.tp ht (by rw [hyp];exact xo h hj2 hi (fun e=>hij e.symm))
def cJ (l:List Pc):Nat:=(l.filter (·.waiting)).length
theorem tT {l:List Pc} {i:Nat} (hi:i<l.length) {y:Pc} (h1:l[i].waiting=true) (h2:y.waiting=false):cJ (l.set i y)+1=cJ l:=by
 unfold cJ;induction l generalizing i with
 | nil=>simp at hi
 | cons x l ih =>
  cases i with
  | zero =>
   have h1':x.waiting=true:=h1;rw [List.set_cons_zero,List.filter_cons,List.filter_cons,if_neg (by rw [h2];simp),if_pos h1'];rfl
  | succ i =>
   have:=ih (i:=i) (by simpa using hi) (by simpa using h1);rw [List.set_cons_succ,List.filter_cons,List.filter_cons];cases x.waiting with
   | true=>rw [if_pos rfl,if_pos rfl,List.length_cons,List.length_cons];omega
   | false=>rw [if_neg (by simp),if_neg (by simp)];exact this
theorem i8 (l:List Pc):cJ l≤l.length:=List.length_filter_le _ _
theorem xp {t:List Qu} {now:Int} {y:Pc} (hs:PStat t y) (hf:∀n,aW t n=true→FitR t n y):PInv t now { y with waiting:=false,req:=Rq.zero,since:=0 } :=
 ⟨⟨hs.vp,hs.cost,hs.led,hs.gen,hs.hf⟩,fun _=>⟨rfl,rfl,fun n hn=>⟨(hf n hn).h,(hf n hn).w⟩⟩,fun h=>by cases h⟩
theorem PInv.regen {t:List Qu} {now:Int} {y:Pc} (h:PInv t now y) (g:Int):PInv t now { y with gen:=aS g } :=
 ⟨⟨h.stat.vp,h.stat.cost,h.stat.led,by have:=nD (n:=g);show 0≤aS g∧aS g≤1073741824;omega,h.stat.hf⟩,fun hw=>by
  obtain ⟨h1,h2,h3⟩:=h.run hw;exact ⟨h1,h2,fun n hn=>⟨(h3 n hn).h,(h3 n hn).w⟩⟩,fun hw=>by
  obtain ⟨h1,h2⟩:=h.wat hw;refine ⟨⟨h1.rq,h1.rs,h1.sn⟩,fun n hn=>?_⟩;have:=h2 n hn;unfold FitW at this ⊢;cases ha:dq (cy y.req.expr) n with
  | none=>rw [ha] at this;exact ⟨this.h,this.w⟩
  | some a =>
   rw [ha] at this;rcases this with ⟨k1,k2⟩|k
   ·exact .inl ⟨k1,k2.h,k2.w⟩
   ·exact .inr k⟩
theorem oM {t:List Qu} {x:Ex} (h:gw t x=0):kv x=true∧Rsl t (cy x):=by
 unfold gw at h;cases hv:kv x with
 | false=>rw [hv] at h;cases h
 | true =>
  rw [hv] at h;exact ⟨rfl,tP.1 h⟩
def KW (l l':List Pc):Prop:=∀x∈l',x.waiting=true→x∈l
theorem KW.refl (l:List Pc):KW l l:=fun _ h _=>h
theorem KW.trans {a b c:List Pc} (h:KW a b) (k:KW b c):KW a c:=fun x hx hw=>h x (k x hx hw) hw
theorem KW.set {l:List Pc} {i:Nat} {y:Pc} (hy:y.waiting=false):KW l (l.set i y):=fun x hx hw=>by
 rcases List.mem_or_eq_of_mem_set hx with h|rfl
 ·exact h
 ·rw [hy] at hw;cases hw
def KG (l l':List Pc):Prop:=∀x∈l,∃x'∈l',GrP x x'
theorem KG.refl (l:List Pc):KG l l:=fun x h=>⟨x,h,GrP.refl x⟩
theorem KG.trans {a b c:List Pc} (h:KG a b) (k:KG b c):KG a c:=fun x hx=>by
 obtain ⟨y,hy,h1⟩:=h x hx;obtain ⟨z,hz,h2⟩:=k y hy;exact ⟨z,hz,h1.trans h2⟩
theorem KG.set {l:List Pc} {i:Nat} (hi:i<l.length) {y:Pc} (hy:GrP l[i] y):KG l (l.set i y):=fun x hx=>by
 obtain ⟨j,hj,e⟩:=List.mem_iff_getElem.1 hx;by_cases hji:j=i
 ·subst hji;exact ⟨y,List.mem_iff_getElem.2 ⟨j,by simpa using hj,by simp⟩,by rw [←e];exact hy⟩
 ·refine ⟨x,List.mem_iff_getElem.2 ⟨j,by simpa using hj,?_⟩,GrP.refl x⟩;rw [List.getElem_set_ne (fun e2=>hji e2.symm)];exact e
structure KN (l l':List Pc):Prop where
 nw:∀x∈l,x.waiting=false→x∈l'
 gr:KG l l'
theorem KN.refl (l:List Pc):KN l l:=⟨fun _ h _=>h,KG.refl l⟩
theorem KN.trans {a b c:List Pc} (h:KN a b) (k:KN b c):KN a c:=⟨fun x hx hw=>k.nw x (h.nw x hx hw) hw,h.gr.trans k.gr⟩
theorem KN.set {l:List Pc} {i:Nat} (hi:i<l.length) (hw:l[i].waiting=true) {y:Pc} (hy:GrP l[i] y):KN l (l.set i y):=⟨fun x hx hxw=>by
 obtain ⟨j,hj,e⟩:=List.mem_iff_getElem.1 hx;have hji:j≠i:=fun e2=>by subst e2;rw [e,hxw] at hw;cases hw
 refine List.mem_iff_getElem.2 ⟨j,by simpa using hj,?_⟩;rw [List.getElem_set_ne (fun e2=>hji e2.symm)];exact e,KG.set hi hy⟩
theorem yQ {w:Wk} {i:Nat} (h:CI w.c) (hi:i<w.c.procs.length) (hw:(w.pc i).waiting=true) :
  CI (gS w i).c∧cJ (gS w i).c.procs+1=cJ w.c.procs∧(gS w i).c.procs.length=w.c.procs.length∧(gS w i).c.now=w.c.now∧KW w.c.procs (gS w i).c.procs∧(gS w i).c.procs.map (·.proc)=w.c.procs.map (·.proc)∧KN w.c.procs (gS w i).c.procs∧fk (gS w i).c.queues=fk w.c.queues∧FinT (w.pc i) i (cy (w.pc i).req.expr) (bX (w.pc i).req.expr (aZ w.c.queues (w.pc i).proc (w.pc i).req.expr)) (w.note 2 (w.pc i).proc):=by
 have hpc:=bU hi;have hinv:=h.inv _ (List.getElem_mem hi);rw [←hpc] at hinv;obtain ⟨hwt,hfit⟩:=hinv.wat hw;obtain ⟨hve,hrsl⟩:=oM hwt.rs;obtain ⟨y',q1,q2,q3,q4,q5,q6⟩:=rr (cy (w.pc i).req.expr) (bX (w.pc i).req.expr (aZ w.c.queues (w.pc i).proc (w.pc i).req.expr)) (w.note 2 (w.pc i).proc) i (w.pc i) (w.pc i) (ma _ _).symm h.tv rfl hi hinv.stat (LedOf.refl hinv.stat) (fun _ _=>rfl) (mZ _) hrsl
  (fun n hn=>by
   have:=hfit n hn;unfold FitW at this;exact ⟨fun a ha=>by rw [ha] at this;exact this,fun ha=>by rw [ha] at this;exact this⟩)
  (fun k hk hb=>by
   have h1:=tS hb;unfold aZ at h1;rw [List.getD_eq_getElem?_getD,List.getElem?_map,List.getElem?_eq_getElem hk] at h1;have h2:(aW w.c.queues (cy (w.pc i).req.expr)[k].name && bg (be w.c.queues (cy (w.pc i).req.expr)[k].name).res (ao (be w.c.queues (cy (w.pc i).req.expr)[k].name).holds (w.pc i).proc) (cy (w.pc i).req.expr)[k].am)=true:=h1;rw [Bool.and_eq_true] at h2;exact h2.2)
 have e:∀g:Wk,cR (w.pc i) i (cy (w.pc i).req.expr) (bX (w.pc i).req.expr (aZ w.c.queues (w.pc i).proc (w.pc i).req.expr)) (w.note 2 (w.pc i).proc)=g→gS w i=aU (dQ g i) i:=fun g hg=>by unfold gS;rw [hg]
 generalize hg:cR (w.pc i) i (cy (w.pc i).req.expr) (bX (w.pc i).req.expr (aZ w.c.queues (w.pc i).proc (w.pc i).req.expr)) (w.note 2 (w.pc i).proc)=g at *
 rw [e g rfl];have q2':g.c.procs=w.c.procs.set i y':=q2;have hgi:i<g.c.procs.length:=by rw [q2'];simpa using hi
 have hgp:g.pc i=y':=by rw [bU hgi];simp [q2']
 have hproc:y'.proc=w.c.procs[i].proc:=by rw [q4.proc,hpc]
 have e2:aU (dQ g i) i=g.setP i { y' with waiting:=false,req:=Rq.zero,since:=0,gen:=aS y'.gen }:=by
  unfold aU dQ;rw [hgp,fQ hgi,gf]
 rw [e2];have hfin:PInv g.c.queues g.c.now { y' with waiting:=false,req:=Rq.zero,since:=0,gen:=aS y'.gen } :=
  (xp q4.stat (fun n hn=>q5 n (by have:=q1.hasE n;rw [this] at hn;exact hn)):PInv g.c.queues g.c.now { y' with waiting:=false,req:=Rq.zero,since:=0 }).regen y'.gen
 have hps:(g.setP i { y' with waiting:=false,req:=Rq.zero,since:=0,gen:=aS y'.gen }).c.procs=w.c.procs.set i { y' with waiting:=false,req:=Rq.zero,since:=0,gen:=aS y'.gen }:=by
  show g.c.procs.set i _=_;rw [q2',List.set_set]
 have hn:g.c.now=w.c.now:=q3;have hmap:(w.c.procs.set i { y' with waiting:=false,req:=Rq.zero,since:=0,gen:=aS y'.gen }).map (·.proc)=w.c.procs.map (·.proc):=by
  rw [List.map_set];apply List.ext_getElem
  ·simp
  ·intro j h1 h2;rw [List.getElem_set];split
   ·next e=>subst e;simp [hproc]
   ·rfl
 refine ⟨h.upd hi hps hn hproc ?_ hfin,?_,by rw [hps];simp,hn,by rw [hps];exact KW.set rfl,by rw [hps];exact hmap,by rw [hps];exact KN.set hi (by rw [←hpc];exact hw) (by rw [←hpc];exact ⟨q4.gr.proc,q4.gr.ents,q4.gr.svs⟩),q1.nm,q6⟩
 ·have:y'.proc=(w.pc i).proc:=q4.proc;show TP w.c.queues g.c.queues y'.proc;rw [this];exact q1
 ·rw [hps];exact tT hi (by rw [←hpc];exact hw) rfl
theorem gg {t:List Qu}:∀{l:List Pc} {k i:Nat},dI t k l=some i→∃j,∃h:j<l.length,i=k+j∧dA t l[j]=true
 | [],_,_,h=>by cases h
 | x :: l,k,i,h=>by
  unfold dI at h;cases hs:dA t x with
  | true =>
   rw [hs,cond_true] at h;injection h with h;exact ⟨0,by simp,by omega,hs⟩
  | false =>
   rw [hs,cond_false] at h;obtain ⟨j,hj,e,h2⟩:=gg h;exact ⟨j+1,by simpa using hj,by omega,by simpa using h2⟩
theorem rx {t:List Qu}:∀{l:List Pc} {k:Nat},dI t k l=none→∀x∈l,dA t x=false
 | [],_,_,x,hx=>absurd hx (by simp)
 | y :: l,k,h,x,hx=>by
  unfold dI at h;cases hs:dA t y with
  | true=>rw [hs] at h;cases h
  | false =>
   rw [hs,cond_false] at h;rcases List.mem_cons.1 hx with rfl|hx
   ·exact hs
   ·exact rx h x hx
theorem g9 {l:List Pc} {i:Nat} (hi:i<l.length) (h:l[i].waiting=true):0<cJ l:=by
 unfold cJ;exact List.length_pos_of_mem (List.mem_filter.2 ⟨List.getElem_mem hi,h⟩)
theorem ry:∀(n:Nat) (w:Wk),CI w.c→cJ w.c.procs≤n→CI (aQ n w).c∧(∀x∈(aQ n w).c.procs,dA (aQ n w).c.queues x=false)∧(aQ n w).c.procs.map (·.proc)=w.c.procs.map (·.proc)∧(aQ n w).c.now=w.c.now∧cJ (aQ n w).c.procs≤cJ w.c.procs∧KW w.c.procs (aQ n w).c.procs∧KN w.c.procs (aQ n w).c.procs∧fk (aQ n w).c.queues=fk w.c.queues
 | 0,w,h,hn=>by
  refine ⟨h,fun x hx=>?_,rfl,rfl,Nat.le_refl _,KW.refl _,KN.refl _,rfl⟩;cases hw:x.waiting with
  | false=>unfold dA;rw [hw];rfl
  | true =>
   obtain ⟨i,hi,e⟩:=List.mem_iff_getElem.1 hx;have:=g9 hi (by rw [e];exact hw);have hn':cJ w.c.procs≤0:=hn;have this':0<cJ w.c.procs:=this;omega
 | n+1,w,h,hn=>by
  unfold aQ;cases hs:dI w.c.queues 0 w.c.procs with
  | none=>exact ⟨h,rx hs,rfl,rfl,Nat.le_refl _,KW.refl _,KN.refl _,rfl⟩
  | some i =>
   obtain ⟨j,hj,e,h2⟩:=gg hs;have e':i=j:=by omega
   subst e';have hwt:(w.pc i).waiting=true:=by
    rw [bU hj];unfold dA at h2;rw [Bool.and_eq_true] at h2;exact h2.1
   obtain ⟨k1,k2,k3,k4,k5,k6,k7,k8,_⟩:=yQ h hj hwt;obtain ⟨l1,l2,l3,l4,l5,l6,l7,l8⟩:=ry n (gS w i) k1 (by omega);exact ⟨l1,l2,l3.trans k6,l4.trans k4,Nat.le_trans l5 (by omega),k5.trans l6,k7.trans l7,l8.trans k8⟩
theorem i9 {w:Wk} (h:CI w.c):CI (bS w).c∧(∀x∈(bS w).c.procs,dA (bS w).c.queues x=false)∧(bS w).c.procs.map (·.proc)=w.c.procs.map (·.proc)∧(bS w).c.now=w.c.now∧cJ (bS w).c.procs≤cJ w.c.procs∧KW w.c.procs (bS w).c.procs∧KN w.c.procs (bS w).c.procs∧fk (bS w).c.queues=fk w.c.queues :=
 ry _ w h (i8 _)
def zV (x:Pc) (i:Nat):List Tm→List Bool→Wk→Prop
 | a :: l,b :: bs,w=>du w.c.queues=true∧aW w.c.queues a.name=true∧w.ev.length≤900000∧i<w.c.procs.length∧zV x i l bs (bif b then gI w i x.proc a.name else bo w x a.name)
 | _,_,_=>True
def JU (v:Wk) (i:Nat):Wk:=cR (v.pc i) i (cy (v.pc i).req.expr) (bX (v.pc i).req.expr (aZ v.c.queues (v.pc i).proc (v.pc i).req.expr)) (v.note 2 (v.pc i).proc)
def StOk:Nat→Wk→Prop
 | 0,v=>v.c.procs.length≤100000∧dI v.c.queues 0 v.c.procs=none
 | n+1,v=>v.c.procs.length≤100000∧v.ev.length≤900000∧∀i,dI v.c.queues 0 v.c.procs=some i→i<v.c.procs.length∧i<(JU v i).c.procs.length∧
   zV (v.pc i) i (cy (v.pc i).req.expr) (bX (v.pc i).req.expr (aZ v.c.queues (v.pc i).proc (v.pc i).req.expr)) (v.note 2 (v.pc i).proc)∧StOk n (gS v i)
theorem StOk.len {n:Nat} {v:Wk} (h:StOk n v):v.c.procs.length≤100000:=by cases n <;> exact h.1
theorem xq (d:Nat) (w:Wk) (h8:w.c.procs.length≤100000) {o:Option Nat} (ho:dI w.c.queues 0 w.c.procs=o):FSpec prog 170 [gA] (HI d w) [3,4] (.i (Hc o)) (HO d w):=ho▸rj d w h8
theorem gC (w:Wk) (i:Nat) (x:Pc):(w.setP i x).c.procs.length=w.c.procs.length:=List.length_set
theorem mb (d:Nat) (w:Wk) (n:Nat) (hok:StOk n w):FSpec prog 92 [gA] (HI d w) [3,4] (.tup []) (HO d (aQ n w)):=by
 refine aP func92 ?_;obtain ⟨W,hW⟩:∃W,aQ n w=W:=⟨_,rfl⟩;rw [hW];have h0:=hok.len;repeat' (first|refine af ?_ ?_|refine aa 9 rfl (cH (qf [(3,1003),(4,1004)]) (rj d w h0) ?_)|refine ae ?_|exact ah|refine ab fun hb=>?_)
 refine ai (fun y:Nat×Wk=>StOk y.1 y.2∧aQ y.1 y.2=W) (fun y=>bt [0,1,2,1010,1011] [(0,.v gA),(2,.i (Hc (dI y.2.c.queues 0 y.2.c.procs)))] [(0,.box 89 (B8 y.2 1010 1011)),(1010,.arr 63 (eI d) y.2.c.procs),(1011,.arr 67 fG y.2.ev)]) (fun y=>y.1) (n,w) ⟨hok,hW⟩ (by exact a8 (qf [(1010,1003),(1011,1004)])) ?_;rintro ⟨m,v⟩ ⟨hv,hs⟩;dsimp only at *
 cases ho:dI v.c.queues 0 v.c.procs with
 | none =>
  obtain rfl:v=W:=by
   rw [←hs];cases m with
   | zero=>rfl
   | succ m=>simp [aQ,ho]
  have hneg:Hc none = -1:=rfl;repeat' (first|refine af ?_ ?_|refine ae ?_|exact ah|(refine ab fun hb=>?_;first|(exact absurd hb (by decide))|skip)|(exact mS (qf [(3,1010),(4,1011)])))
 | some i =>
  cases m with
  | zero=>rw [hv.2] at ho;cases ho
  | succ m =>
   obtain ⟨_,hev,hall⟩:=hv;obtain ⟨hi,hi2,hfin,hnext⟩:=hall i ho;rw [show aQ (m+1) v=aQ m (gS v i) by simp [aQ,ho]] at hs;obtain ⟨x,hx⟩:∃x,v.c.procs[i]? = some x:=⟨_,List.getElem?_eq_getElem hi⟩;have hpc:=dJ hx;unfold JU at hi2;have hfw:gS v i=aU (dQ (cR (v.pc i) i (cy (v.pc i).req.expr) (bX (v.pc i).req.expr (aZ v.c.queues (v.pc i).proc (v.pc i).req.expr)) (v.note 2 (v.pc i).proc)) i) i:=rfl;rw [hfw] at hs hnext;clear hfw;rw [hpc] at hi2 hfin hs hnext;have h8:=cd x.req.expr;obtain ⟨L,hL⟩:∃L,cy x.req.expr=L:=⟨_,rfl⟩;have hgl:(aZ v.c.queues x.proc x.req.expr).length≤1000:=by simp [aZ];omega
   obtain ⟨keep,hkeep⟩:∃keep,bX x.req.expr (aZ v.c.queues x.proc x.req.expr)=keep:=⟨_,rfl⟩;have hkl:keep.length=L.length:=by rw [←hkeep,ma,hL]
   have kP:=IA d x.req.expr (aZ v.c.queues x.proc x.req.expr) hgl;rw [hkeep] at kP hi2 hfin hs hnext;rw [hL] at hi2 hfin hs hnext h8;obtain ⟨F,hF⟩:∃F,cR x i L keep (v.note 2 x.proc)=F:=⟨_,rfl⟩;rw [hF] at hi2 hs hnext;have hx1:Hc (some i)=(i:Int):=rfl;repeat' (first|refine af ?_ ?_|(refine aa 9 rfl ?_;first|(refine cH (qf [(1,1010),(2,1011),(3,1003),(4,1004)]) (DG d v 2 x.proc (by omega)) ?_)|(refine cC [] (lw d v.c.queues x.proc x.req.expr) ?_)|(refine cC [] (kP) ?_)|(refine cC [] (lv d x.req.expr hL) ?_))|refine ae ?_|exact ah|(refine ab fun hb=>?_;first|(exact absurd hb (by rw [hx1];omega))|skip))
   refine ai (fun y:Nat×Wk=>y.1≤L.length∧zV x i (L.drop y.1) (keep.drop y.1) y.2∧cR x i (L.drop y.1) (keep.drop y.1) y.2=F) (fun y=>bt [0,1,2,3,1020,1021] [(0,.v gA),(2,.i i),(3,.c (.ptr 3 0)),(4,.c (.sl cg keep)),(5,.c (.sl cw L)),(6,.i y.1)] [(0,.box 89 (B8 y.2 1020 1021)),(3,.box 63 (x.d d)),(1020,.arr 63 (eI d) y.2.c.procs),(1021,.arr 67 fG y.2.ev)]) (fun y=>L.length-y.1) (0,v.note 2 x.proc) ⟨Nat.zero_le _,hfin,hF⟩ (by exact a8 (qf [(1020,1003),(1021,1004)])) ?_;rintro ⟨k,u⟩ ⟨hk,hu,hg⟩;dsimp only at *
   by_cases hlt:k<L.length
   case neg =>
    obtain rfl:u=F:=by rw [←hg,List.drop_eq_nil_of_le (by omega),List.drop_eq_nil_of_le (by omega)];rfl
    obtain ⟨o2,ho2⟩:∃o2,dI (aU (dQ u i) i).c.queues 0 (aU (dQ u i) i).c.procs=o2:=⟨_,rfl⟩;have hl2:i<(dQ u i).c.procs.length:=by rw [dQ,gC];exact hi2
    have hl3:=hnext.len;repeat' (first|refine af ?_ ?_|(refine aa 9 rfl ?_;first|(refine cH (qf [(1,1020),(2,1021),(3,1040),(4,1041)]) (Hb d u i hi2) ?_)|(refine cH (qf [(1,1040),(2,1041),(3,1050),(4,1051)]) (mY d (dQ u i) i hl2) ?_)|(refine cH (qf [(1,1050),(2,1051),(3,1060),(4,1061)]) (xq d (aU (dQ u i) i) hl3 ho2) ?_))|refine ae ?_|exact ah|refine ab fun hb=>?_)
    refine ⟨(m,aU (dQ u i) i),⟨hnext,hs⟩,by dsimp only;omega,?_⟩;dsimp only;rw [ho2];exact a8 (qf [(1010,1060),(1011,1061)])
   rw [List.drop_eq_getElem_cons hlt,List.drop_eq_getElem_cons (l:=keep) (by omega)] at hu hg;obtain ⟨u1,u2,u3,u4,u5⟩:=hu;obtain ⟨b,hb1⟩:∃b,keep[k]'(by omega)=b:=⟨_,rfl⟩;have hgb:keep[k]? = some b:=by rw [List.getElem?_eq_getElem (by omega),hb1]
   obtain ⟨a,ha⟩:∃a,L[k]=a:=⟨_,rfl⟩;have hga:L[k]? = some a:=by rw [List.getElem?_eq_getElem hlt,ha]
   rw [hb1] at u5 hg;rw [ha] at u2 u5 hg;cases b with
   | false =>
    repeat' (first|refine af ?_ ?_|refine aa 9 rfl (cH (qf [(1,1020),(2,1021),(3,1030),(4,1031)]) (Hd d u x a.name u1 u2 u3) ?_)|refine ae ?_|exact ah|refine ab fun hb=>?_)
    refine ⟨(k+1,bo u x a.name),⟨by dsimp only;omega,u5,hg⟩,by dsimp only;omega,?_⟩;exact a8 (qf [(1020,1030),(1021,1031)])
   | true =>
    obtain ⟨j,hj,hFj,hqj⟩:=lz u2;obtain ⟨y,hy⟩:∃y,u.c.procs[i]? = some y:=⟨_,List.getElem?_eq_getElem u4⟩;have hpy:=dJ hy;obtain ⟨h,hh⟩:∃h,ao u.c.queues[j].holds x.proc=h:=⟨_,rfl⟩;have kH:=fg u.c.queues[j] x.proc;rw [hh] at kH;obtain ⟨l,hll⟩:∃l,ax y.led.entries a.name=l:=⟨_,rfl⟩;have kLh:=jI y.led.entries a.name;rw [hll] at kLh;have hrec:gI u i x.proc a.name=bif decide (h=l) then u else u.setP i { y with led:=(dz y.led ⟨a.name,l,h⟩).1 }:=by
     unfold gI;rw [hqj,hh,hpy,hll]
    rw [show cR x i (a :: L.drop (k+1)) (true :: keep.drop (k+1)) u=cR x i (L.drop (k+1)) (keep.drop (k+1)) (gI u i x.proc a.name) from rfl,hrec] at hg;rw [hrec] at u5;by_cases hhl:h=l
    ·rw [decide_eq_true hhl,cond_true] at u5 hg;repeat' (first|refine af ?_ ?_|(refine aa 9 rfl ?_;first|(refine cB [] (dl u.c.queues a.name hFj) ?_)|(refine cB [] (kH) ?_)|(refine cB [] (kLh) ?_))|refine ae ?_|exact ah|refine ab fun hb=>?_)
     refine ⟨(k+1,u),⟨by dsimp only;omega,u5,hg⟩,by dsimp only;omega,?_⟩;exact aN
    ·rw [decide_eq_false hhl,cond_false] at u5 hg;obtain ⟨R,hR⟩:∃R,dz y.led ⟨a.name,l,h⟩=R:=⟨_,rfl⟩;rw [hR] at u5 hg;repeat' (first|refine af ?_ ?_|(refine aa 9 rfl ?_;first|(refine cB [] (dl u.c.queues a.name hFj) ?_)|(refine cB [] (kH) ?_)|(refine cB [] (kLh) ?_)|(refine cC [] (F8 y.led ⟨a.name,l,h⟩ hR) ?_))|refine ae ?_|(refine aa 4 rfl ?_;refine aR (aq (z:={ y with led:=R.1 }) rfl rfl rfl rfl hy rfl rfl rfl rfl (Nat.le_of_ble_eq_true rfl) rfl rfl) rfl rfl rfl ?_)|exact ah|refine ab fun hb=>?_)
     refine ⟨(k+1,u.setP i { y with led:=R.1 }),⟨by dsimp only;omega,u5,hg⟩,by dsimp only;omega,?_⟩;exact aN
end Go.Proofs.YtjndcdcbjidocaaGreatDoor
