/- Part 19 of 33 of the proof of centralDoes_holds (no condition). -/
import Derived.Test.YtjndcdcbjidocaaGreatDoorL18
import Derived.Shelf.Small.Bits
import Derived.Shelf.Small.Strs
import Derived.Shelf.Strconv.Itoa0
set_option linter.unusedVariables false
set_option linter.unusedSimpArgs false
set_option maxRecDepth 100000
set_option maxHeartbeats 64000000
namespace Go.Proofs.YtjndcdcbjidocaaGreatDoor
open Go.RowKit Go.Proofs.Tryz
section
variable {β:Type} {z a:β} {n:ByteArray}
theorem xS (m:ByteArray):∀l:List (ByteArray×β),m8 z m (ed n a l)=bif ba n m then a else m8 z m l
 | []=>rfl
 | x :: l=>by
  have ih:=xS m l;unfold ed;cases hx:ba x.1 n with
  | true =>
   obtain rfl:=bb.1 hx;show (bif ba x.1 m then a else m8 z m l)=bif ba x.1 m then a else bif ba x.1 m then x.2 else m8 z m l;cases ba x.1 m <;> rfl
  | false =>
   show (bif ba x.1 m then x.2 else m8 z m (ed n a l))=bif ba n m then a else bif ba x.1 m then x.2 else m8 z m l;rw [ih];cases h1:ba x.1 m with
   | false=>rfl
   | true =>
    cases h2:ba n m with
    | false=>rfl
    | true =>
     obtain rfl:=bb.1 h1;obtain rfl:=bb.1 h2;rw [bb.2 rfl] at hx;cases hx
theorem vE:∀l:List (ByteArray×β),(ed n a l).length=bif dZ n (l.map (·.1)) then l.length else l.length+1
 | []=>rfl
 | x :: l=>by
  have ih:=vE l;unfold ed;show _=bif (ba x.1 n || dZ n (l.map (·.1))) then _ else _;cases hx:ba x.1 n with
  | true=>rfl
  | false =>
   rw [Bool.false_or,cond_false,List.length_cons,ih,List.length_cons];cases dZ n (l.map (·.1)) <;> rfl
theorem vF (m:ByteArray):∀l:List (ByteArray×β),dZ m ((ed n a l).map (·.1))=(ba n m || dZ m (l.map (·.1)))
 | []=>rfl
 | x :: l=>by
  have ih:=vF m l;unfold ed;cases hx:ba x.1 n with
  | true =>
   obtain rfl:=bb.1 hx;show (ba x.1 m || dZ m (l.map (·.1)))=(ba x.1 m || (ba x.1 m || dZ m (l.map (·.1))));cases ba x.1 m <;> rfl
  | false =>
   show (ba x.1 m || dZ m ((ed n a l).map (·.1)))=(ba n m || (ba x.1 m || dZ m (l.map (·.1))));rw [ih];cases ba x.1 m <;> cases ba n m <;> rfl
end
def et:List (ByteArray×Am)→List En→List (ByteArray×Am)
 | m,[]=>m
 | m,e :: l=>et (ed e.name e.after m) l
def eS (l:List En):List (ByteArray×Am):=et [] l
theorem m9:∀(l k:List En) (m:List (ByteArray×Am)),et m (l++k)=et (et m l) k
 | [],_,_=>rfl
 | e :: l,k,m=>m9 l k _
theorem BQ (l:List En) (e:En):eS (l++[e])=ed e.name e.after (eS l):=by
 unfold eS;rw [m9];rfl
theorem rP (n:ByteArray):∀(l:List En) (m:List (ByteArray×Am)),oV n (et m l)=dE n (oV n m) l
 | [],_=>rfl
 | e :: l,m=>by
  show oV n (et (ed e.name e.after m) l)=dE n (bif ba e.name n then e.after else oV n m) l;rw [rP n l,show oV n (ed e.name e.after m)=_ from xS n m]
theorem ia (l:List En) (n:ByteArray):oV n (eS l)=ax l n:=rP n l []
theorem EE (n m:ByteArray) (l:List ByteArray):dZ m (gP n l)=(ba n m || dZ m l):=by
 rw [Bool.eq_iff_iff,gv,nH,Bool.or_eq_true,bb,gv];exact or_congr_left eq_comm
theorem pQ:∀(l:List En) (m:List (ByteArray×Am)) (acc:List ByteArray),m.length=acc.length→(∀x,dZ x (m.map (·.1))=dZ x acc)→(et m l).length=(dx acc l).length
 | [],_,_,h,_=>h
 | e :: l,m,acc,h,hh=>by
  show (et (ed e.name e.after m) l).length=(dx (bif dZ e.name acc then acc else gP e.name acc) l).length;refine pQ l _ _ ?_ fun x=>?_
  ·rw [vE,hh,h];cases dZ e.name acc with
   | true=>rfl
   | false=>rw [cond_false,cond_false,i7]
  ·rw [vF,hh];cases ha:dZ e.name acc with
   | false=>rw [cond_false,EE]
   | true =>
    rw [cond_true];cases he:ba e.name x with
    | false=>rfl
    | true=>rw [←bb.1 he,ha];rfl
theorem oc (l:List En):(eS l).length=(bB l).length:=pQ l [] [] rfl fun _=>rfl
theorem uh:∀(l:List En) (m:List (ByteArray×Am)),m.length≤(et m l).length
 | [],_=>Nat.le_refl _
 | e :: l,m=>by
  refine Nat.le_trans ?_ (uh l (ed e.name e.after m));rw [vE];cases dZ e.name (m.map (·.1)) <;> simp
theorem BR (l k:List En):(eS l).length≤(eS (l++k)).length:=by
 unfold eS;rw [m9];exact uh k _
theorem pR (n:Int):∀(l:List Sv) (k i:Nat) (h:i<l.length),l[i].label=n→(aT n k l=((k+i:Nat):Int)↔aT n k (l.take i)<0)
 | s :: l,k,0,_,hn=>by
  have hn:s.label=n:=hn;show (bif decide (s.label=n) then (k:Int) else _)=_↔_;rw [decide_eq_true hn];simp [aT]
 | s :: l,k,i+1,h,hn=>by
  have ih:=pR n l (k+1) i (by simpa using h) (by simpa using hn);show (bif decide (s.label=n) then (k:Int) else aT n (k+1) l)=_↔(bif decide (s.label=n) then (k:Int) else aT n (k+1) (l.take i))<0;by_cases hs:s.label=n
  ·rw [decide_eq_true hs,cond_true,cond_true];constructor <;> intro h <;> omega
  ·rw [decide_eq_false hs,cond_false,cond_false,←ih,show k+1+i=k+(i+1) by omega]
def IW (all:List Sv) (n:Int):Nat→Int→List Sv→Bool
 | _,_,[]=>true
 | k,at_,s :: l=>decide (1≤s.label) && decide (s.label≤99) && decide (aT s.label 0 (all.take k)<0) && decide (at_≤s.at_) && decide (s.at_≤n) && IW all n (k+1) s.at_ l
theorem EF (all:List Sv) (n:Int):∀(l:List Sv) (k:Nat) (at_:Int),all.drop k=l→0≤at_→IW all n k at_ l=mq all n k at_ l
 | [],_,_,_,_=>rfl
 | s :: l,k,at_,h,h0=>by
  have hk:k<all.length:=by
   have:=congrArg List.length h;simp at this;omega
  have hs:all[k]=s∧all.drop (k+1)=l:=by
   rw [List.drop_eq_getElem_cons hk] at h;injection h with h1 h2;exact ⟨h1,h2⟩
  have hf:=pR s.label all 0 k hk (by rw [hs.1]);rw [Nat.zero_add] at hf;show (decide (1≤s.label) && decide (s.label≤99) && decide (aT s.label 0 (all.take k)<0) && decide (at_≤s.at_) && decide (s.at_≤n) && IW all n (k+1) s.at_ l)=(decide (1≤s.label) && decide (s.label≤99) && decide (0≤s.at_) && decide (s.at_≤n) && decide (at_≤s.at_) && decide (aT s.label 0 all=(k:Int)) && mq all n (k+1) s.at_ l);by_cases ha:at_≤s.at_
  ·rw [EF all n l (k+1) s.at_ hs.2 (by omega),decide_eq_decide.2 hf.symm,decide_eq_true ha,decide_eq_true (show 0≤s.at_ by omega)];cases decide (1≤s.label) <;> cases decide (s.label≤99) <;> cases decide (s.at_≤n) <;> cases decide (aT s.label 0 all=(k:Int)) <;> simp
  ·rw [decide_eq_false ha];simp
theorem rQ:prog.underlying 146=some (.map 9 37):=by kernel_rfl
theorem zb:prog.underlying 9=some .string:=by kernel_rfl
theorem vG (w:World):(zeroValue 37).run prog w = .ok (IV ⟨0,0⟩) w:=by kernel_rfl
theorem Hl (a:Am):FSpec prog 187 [a.a] [] [] (.b (bQ a)) []:=by
 refine aP func187 ?_;have kM:=Ah a.mode;obtain ⟨m,hm⟩:∃m,bY a.mode=m:=⟨_,rfl⟩;rw [hm] at kM;have hu:bQ a=(m && decide (a.units=0) || decide (a.mode=0) && decide (1≤a.units) && decide (a.units≤8)):=by rw [←hm];rfl
 have h0:a.mode=0→m=false:=fun h=>by rw [←hm,h];rfl
 repeat' (first|refine af ?_ ?_|refine aa 9 rfl (cB [] (kM) ?_)|refine ae ?_|exact ah|refine ab fun hb=>?_)
 all_goals (refine d7 ?_;rw [hu];simp [*] <;> rfl)
theorem IX (a b:Am):FSpec prog 109 [a.a,b.a] [] [] (.b (dg a b)) []:=by
 refine aP func109 ?_;have kA:=Hl a;have kB:=Hl b;have kC:=n8 b.mode a.mode;obtain ⟨u,hu⟩:∃u,bQ a=u:=⟨_,rfl⟩;obtain ⟨v,hv⟩:∃v,bQ b=v:=⟨_,rfl⟩;obtain ⟨c,hc⟩:∃c,dw b.mode a.mode=c:=⟨_,rfl⟩;rw [hu] at kA;rw [hv] at kB;rw [hc] at kC;have hg:dg a b=(v && !decide (a=b) && (aH a || u && (bif !decide (a.mode=0) then c else decide (a.units<b.units)))):=by rw [←hu,←hv,←hc];rfl
 have f1:b.mode=0→c=false:=fun h=>by rw [←hc,h];rfl
 have f2:u=true→v=true→a.mode=0→b.mode≠0→¬a.units<b.units:=fun h1 h2 h3 h4=>by
  rw [←hu] at h1;rw [←hv] at h2;have e1:=dy h1;have e2:=dy h2;simp only [f8] at e1 e2;omega
 have hz:aH a=decide (a=⟨0,0⟩):=rfl;rw [hz] at hg;clear hu hv hc hz;repeat' (first|refine af ?_ ?_|(refine aa 9 rfl ?_;first|(refine cB [] (kA) ?_)|(refine cB [] (kB) ?_)|(refine cB [] (kC) ?_))|refine ae ?_|exact ah|refine ab fun hb=>?_)
 all_goals (refine d7 ?_;rw [hg])
 all_goals first|(simp [*];done)|(cases u <;> cases v <;> cases c <;> simp_all;done)
theorem oX (l:List Sv) (n:Int) {K:Int} (hK:aT n 0 l=K):FSpec prog 188 [.one (.sl i5 l),.one (.sc (.int .i64 n))] [] [] (.i K) []:=by
 refine aP func188 ?_;refine aM (fun c ρ a w hr=>bz (t:=0) hr rfl) (fun hl0=>?_);repeat' (first|refine af ?_ ?_|refine ae ?_|exact ah|refine ab fun hb=>?_)
 refine ai (fun i=>i≤l.length∧aT n i (l.drop i)=K) (fun i=>bt [] [(1,.c (.sc (.int .i64 n))),(7,.c (.sl i5 l)),(8,.i l.length),(9,.i i)] []) (fun i=>l.length-i) 0 ⟨Nat.zero_le _,hK⟩ aN ?_;clear hK;rintro i ⟨hi,hs⟩;by_cases hlt:i<l.length
 ·obtain ⟨x,hx⟩:∃x,l[i]? = some x:=⟨_,List.getElem?_eq_getElem hlt⟩;have ex:l[i]=x:=(List.getElem?_eq_some_iff.1 hx).2;rw [List.drop_eq_getElem_cons hlt,ex] at hs;have hs:(bif decide (x.label=n) then (i:Int) else aT n (i+1) (l.drop (i+1)))=K:=hs;by_cases he:x.label=n
  ·rw [decide_eq_true he] at hs;obtain rfl:K=i:=hs.symm;repeat' (first|refine af ?_ ?_|refine ae ?_|exact ah|(refine ab fun hb=>?_;first|(exact absurd he hb)|skip)|exact aX|fail)
  ·rw [decide_eq_false he,cond_false] at hs;repeat' (first|refine af ?_ ?_|refine ae ?_|exact ah|(refine ab fun hb=>?_;first|(exact absurd hb he)|skip))
   refine ⟨i+1,⟨by omega,hs⟩,by omega,?_⟩;exact aN
 ·rw [List.drop_eq_nil_of_le (by omega)] at hs;obtain rfl:K = -1:=hs.symm;repeat' (first|refine af ?_ ?_|refine ae ?_|exact ah|refine ab fun hb=>?_|exact aX|fail)
theorem IY (s:List Sv) (n:Int) {b:Bool} (hB:(decide (s.length≤4) && IW s n 0 0 s)=b):FSpec prog 110 [.one (.sl i5 s),.one (.sc (.int .i64 n))] [] [] (.b b) []:=by
 refine aP func110 ?_;by_cases h4:s.length≤4
 case neg =>
  obtain rfl:b=false:=by rw [←hB,decide_eq_false h4];rfl
  repeat' (first|refine af ?_ ?_|refine ae ?_|exact ah|refine ab fun hb=>?_|exact aX|fail)
 rw [decide_eq_true h4,Bool.true_and] at hB;repeat' (first|refine af ?_ ?_|refine ae ?_|exact ah|refine ab fun hb=>?_)
 refine ai (fun y:Nat×Int=>y.1≤s.length∧IW s n y.1 y.2 (s.drop y.1)=b) (fun y=>bt [] [(0,.c (.sl i5 s)),(1,.c (.sc (.int .i64 n))),(5,.c (.sc (.int .i64 y.2))),(11,.c (.sl i5 s)),(12,.i s.length),(13,.i y.1)] []) (fun y=>s.length-y.1) (0,0) ⟨Nat.zero_le _,hB⟩ aN ?_;clear hB;rintro ⟨i,p⟩ ⟨hi,hs⟩;dsimp only at *
 by_cases hlt:i<s.length
 ·obtain ⟨x,hx⟩:∃x,s[i]? = some x:=⟨_,List.getElem?_eq_getElem hlt⟩;have ex:s[i]=x:=(List.getElem?_eq_some_iff.1 hx).2;rw [List.drop_eq_getElem_cons hlt,ex] at hs;have hs:(decide (1≤x.label) && decide (x.label≤99) && decide (aT x.label 0 (s.take i)<0) && decide (p≤x.at_) && decide (x.at_≤n) && IW s n (i+1) x.at_ (s.drop (i+1)))=b:=hs;obtain ⟨T,hT⟩:∃T,s.take i=T:=⟨_,rfl⟩;have hT2:s.take ((i:Int)).toNat=T:=by rw [Int.toNat_natCast];exact hT
  obtain ⟨K,hK⟩:∃K,aT x.label 0 T=K:=⟨_,rfl⟩;have kP:=oX T x.label hK;rw [hT,hK] at hs;clear hT hK;by_cases hok:(1≤x.label∧x.label≤99)∧K<0∧p≤x.at_∧x.at_≤n
  ·obtain ⟨⟨k1,k2⟩,k3,k4,k5⟩:=hok;rw [decide_eq_true k1,decide_eq_true k2,decide_eq_true k3,decide_eq_true k4,decide_eq_true k5] at hs;simp only [Bool.true_and] at hs;repeat' (first|refine af ?_ ?_|refine aa 9 rfl (cB [] (kP) ?_)|(refine aa 14 rfl ?_;refine sx (rf rfl rfl rfl rfl (by omega) (by omega) hT2) ?_)|refine ae ?_|exact ah|refine ab fun hb=>?_)
   refine ⟨(i+1,x.at_),⟨by dsimp only;omega,hs⟩,by dsimp only;omega,?_⟩;exact aN
  ·have hok1:1≤x.label→x.label≤99→K<0→p≤x.at_→x.at_≤n→False:=fun a b c d e=>hok ⟨⟨a,b⟩,c,d,e⟩;obtain rfl:b=false:=by
    rw [←hs];cases hh:(decide (1≤x.label) && decide (x.label≤99) && decide (K<0) && decide (p≤x.at_) && decide (x.at_≤n)) with
    | false=>rfl
    | true =>
     simp only [Bool.and_eq_true,decide_eq_true_eq] at hh;exact (hok1 hh.1.1.1.1 hh.1.1.1.2 hh.1.1.2 hh.1.2 hh.2).elim
   clear hok hs;repeat' (first|refine af ?_ ?_|refine aa 9 rfl (cB [] (kP) ?_)|(refine aa 14 rfl ?_;refine sx (rf rfl rfl rfl rfl (by omega) (by omega) hT2) ?_)|refine ae ?_|exact ah|(refine ab fun hb=>?_;first|(exact (hok1 (by omega) (by omega) (by omega) (by omega) (by omega)).elim)|skip)|exact aX|fail)
 ·rw [List.drop_eq_nil_of_le (by omega)] at hs;obtain rfl:b=true:=hs.symm;repeat' (first|refine af ?_ ?_|refine ae ?_|exact ah|refine ab fun hb=>?_|exact aX|fail)
theorem Ap (l:List En):FSpec prog 111 [.one (.sl iG l)] [] [0] (.c (.own 0)) [(0,some (.mp (vD (eS l))))]:=by
 refine aP func111 ?_;refine aM (fun c ρ a w hr=>bz (t:=0) hr rfl) (fun hl0=>?_);repeat' (first|refine af ?_ ?_|(refine aa 22 rfl ?_;refine sx (uf rfl rfl) ?_)|refine ae ?_|exact ah|refine ab fun hb=>?_)
 refine ai (fun y:Nat×List (ByteArray×Am)=>y.1≤l.length∧et y.2 (l.drop y.1)=eS l) (fun y=>bt [6] [(3,.c (.own 6)),(7,.c (.sl iG l)),(8,.i l.length),(9,.i y.1)] [(6,.mp (vD y.2))]) (fun y=>l.length-y.1) (0,[]) ⟨Nat.zero_le _,rfl⟩ aN ?_;rintro ⟨i,m⟩ ⟨hi,hs⟩;dsimp only at *
 by_cases hlt:i<l.length
 ·obtain ⟨e,he⟩:∃e,l[i]? = some e:=⟨_,List.getElem?_eq_getElem hlt⟩;have ee:l[i]=e:=(List.getElem?_eq_some_iff.1 he).2;rw [List.drop_eq_getElem_cons hlt,ee] at hs;repeat' (first|refine af ?_ ?_|(refine aa 24 rfl ?_;refine KU (oW _ _ rQ zb rfl rfl rfl rfl rfl rfl) ?_)|refine ae ?_|exact ah|refine ab fun hb=>?_)
  refine ⟨(i+1,ed e.name e.after m),⟨by dsimp only;omega,hs⟩,by dsimp only;omega,?_⟩;exact aN
 ·rw [List.drop_eq_nil_of_le (by omega)] at hs;obtain rfl:m=eS l:=hs;repeat' (first|refine af ?_ ?_|refine ae ?_|exact ah|refine ab fun hb=>?_|(refine bP (qf [(0,6)]) ?_;exact aj))
theorem EG (g:Lg) (n:ByteArray) {a:Am} (ha:ax g.entries n=a):FSpec prog 194 [g.a,.one (.sc (.string n))] [] [] (.v a.a) []:=by
 refine aP func194 ?_;have kS:=Ap g.entries;have hg:oV n (eS g.entries)=a:=(ia _ _).trans ha;generalize eS g.entries=m at *
 repeat' (first|refine af ?_ ?_|refine aa 9 rfl (cH (qf [(0,1000)]) (kS) ?_)|(refine aa 23 rfl ?_;refine sx (mj _ _ rQ zb vG rfl rfl rfl rfl hg) ?_)|refine ae ?_|exact ah|refine ab fun hb=>?_|exact aX|fail)
theorem Aq (l:List En) (s:List Sv) {b:Bool} (hB:j5 l s=b):FSpec prog 49 [.ag [.sl iG l,.sl i5 s]] [] [] (.b b) []:=by
 refine aP func49 ?_;refine aM (fun c ρ a w hr=>dj (t:=0) (i:=0) hr rfl rfl) (fun hl0_0=>?_);refine aM (fun c ρ a w hr=>dj (t:=0) (i:=1) hr rfl rfl) (fun hl0_1=>?_);repeat' (first|refine af ?_ ?_|(refine aa 22 rfl ?_;refine sx (uf rfl rfl) ?_)|refine ae ?_|exact ah|refine ab fun hb=>?_)
 refine ai (fun y:Nat×List (ByteArray×Am)=>y.1≤l.length∧y.2=eS (l.take y.1)∧y.2.length≤8∧fX (l.take y.1) (l.drop y.1)=fX [] l) (fun y=>bt [1,6] [(1,.c (.ptr 1 0)),(3,.c (.own 6)),(8,.c (.sl iG l)),(9,.i l.length),(10,.i y.1)] [(1,.box 61 [.sl iG l,.sl i5 s]),(6,.mp (vD y.2))]) (fun y=>l.length-y.1) (0,[]) ⟨Nat.zero_le _,rfl,by simp,by simp⟩ aN ?_;rintro ⟨i,m⟩ ⟨hi,hm,hm8,hs⟩;dsimp only at *
 by_cases hlt:i<l.length
 ·obtain ⟨e,he⟩:∃e,l[i]? = some e:=⟨_,List.getElem?_eq_getElem hlt⟩;have ee:l[i]=e:=(List.getElem?_eq_some_iff.1 he).2;have hst:fX [] l=(cK e.name.toList && decide (e.before=ax (l.take i) e.name) && dg e.before e.after && fX (l.take (i+1)) (l.drop (i+1))):=by
   rw [←hs,List.drop_eq_getElem_cons hlt,ee,List.take_succ_eq_append_getElem hlt,ee];rfl
  obtain ⟨h,hh⟩:∃h,ax (l.take i) e.name=h:=⟨_,rfl⟩;have hg:oV e.name m=h:=by rw [hm,ia];exact hh
  obtain ⟨m2,hm2⟩:∃m2,ed e.name e.after m=m2:=⟨_,rfl⟩;have hm3:m2=eS (l.take (i+1)):=by rw [←hm2,hm,List.take_succ_eq_append_getElem hlt,ee,BQ]
  have kN:=Ej e.name;have kG:=IX e.before e.after;rw [hh] at hst;clear hh hm;by_cases hok:(cK e.name.toList=true∧e.before=h∧dg e.before e.after=true)∧m2.length≤8
  ·obtain ⟨⟨k1,k2,k3⟩,k4⟩:=hok;rw [k1] at kN;rw [k3] at kG;have hlm:(vD m2).length=m2.length:=by simp [jX]
   repeat' (first|refine af ?_ ?_|(refine aa 7 rfl ?_;refine sx (ug rQ rfl rfl rfl) ?_)|(refine aa 9 rfl ?_;first|(refine cB [] (kN) ?_)|(refine cB [] (kG) ?_))|(refine aa 23 rfl ?_;refine sx (mj _ _ rQ zb vG rfl rfl rfl rfl hg) ?_)|(refine aa 24 rfl ?_;refine KU (oW _ _ rQ zb rfl rfl rfl rfl rfl hm2) ?_)|refine ae ?_|exact ah|(refine ab fun hb=>?_;first|(exact absurd k2 hb)|skip))
   refine ⟨(i+1,m2),⟨by dsimp only;omega,hm3,k4,?_⟩,by dsimp only;omega,?_⟩
   ·dsimp only;rw [hst,k1,k3];simp [k2]
   ·exact aN
  ·obtain rfl:b=false:=by
    rw [←hB];cases h1:fX [] l with
    | false=>simp [j5,h1]
    | true =>
     rw [hst] at h1;simp only [Bool.and_eq_true,decide_eq_true_eq] at h1;have h8:¬m2.length≤8:=fun h8=>hok ⟨⟨h1.1.1.1,h1.1.1.2,h1.1.2⟩,h8⟩;have h9:¬(bB l).length≤8:=fun h9=>h8 (by
      rw [hm3];have:=BR (l.take (i+1)) (l.drop (i+1));rw [List.take_append_drop,oc l] at this;omega)
     simp [j5,h9]
   have hok1:cK e.name.toList=true→e.before=h→dg e.before e.after=true→m2.length≤8→False:=fun a b c d=>hok ⟨⟨a,b,c⟩,d⟩;obtain ⟨nb,hnb⟩:∃nb,cK e.name.toList=nb:=⟨_,rfl⟩;obtain ⟨gb,hgb⟩:∃gb,dg e.before e.after=gb:=⟨_,rfl⟩;rw [hnb] at kN hok1;rw [hgb] at kG hok1;clear hok hst hnb hgb hm3;have hlm:(vD m2).length=m2.length:=by simp [jX]
   repeat' (first|refine af ?_ ?_|(refine aa 7 rfl ?_;refine sx (ug rQ rfl rfl rfl) ?_)|(refine aa 9 rfl ?_;first|(refine cB [] (kN) ?_)|(refine cB [] (kG) ?_))|(refine aa 23 rfl ?_;refine sx (mj _ _ rQ zb vG rfl rfl rfl rfl hg) ?_)|(refine aa 24 rfl ?_;refine KU (oW _ _ rQ zb rfl rfl rfl rfl rfl hm2) ?_)|refine ae ?_|exact ah|(refine ab fun hb=>?_;first|(exact (hok1 (by assumption) (by assumption) (by assumption) (by omega)).elim)|skip)|exact aX|fail)
 ·have hE:fX [] l=true:=by rw [←hs,List.drop_eq_nil_of_le (by omega)];rfl
  rw [List.take_of_length_le (by omega)] at hm;have h8:(bB l).length≤8:=by rw [←oc,←hm];exact hm8
  have h64:=wU (wS.1 hE) h8;have hB2:(decide (s.length≤4) && IW s l.length 0 0 s)=b:=by
   rw [←hB,EF s l.length s 0 0 rfl (Int.le_refl _)];simp [j5,hE,h8,show l.length≤72 by omega]
  have kV:=IY s l.length hB2;clear hB hB2 hE hs hm;repeat' (first|refine af ?_ ?_|refine aa 9 rfl (cB [] (kV) ?_)|refine ae ?_|exact ah|refine ab fun hb=>?_|exact aX|fail)
theorem lG {e:MapEntry}:∀{l:List (Value×Value)} {i:Nat},e∈eO i l↔∃j,l[j]? = some (e.key,e.val)∧e.born=i+j
 | [],i=>by simp [eO]
 | x :: l,i=>by
  show e∈(⟨x.1,x.2,i⟩ :: eO (i+1) l)↔_;rw [List.mem_cons,lG];constructor
  ·rintro (rfl|⟨j,h1,h2⟩)
   ·exact ⟨0,rfl,rfl⟩
   ·exact ⟨j+1,by simpa using h1,by omega⟩
  ·rintro ⟨j,h1,h2⟩;cases j with
   | zero =>
    have h1:some x=some (e.key,e.val):=h1;injection h1 with h1;subst h1;exact .inl (by cases e;simp_all)
   | succ j=>exact .inr ⟨j,by simpa using h1,by omega⟩
theorem ui:∀{l:List (Value×Value)} {i:Nat},((eO i l).map (·.born)).Nodup∧∀x∈eO i l,i≤x.born
 | [],i=>by simp [eO]
 | x :: l,i=>by
  obtain ⟨h1,h2⟩:=ui (l:=l) (i:=i+1);constructor
  ·show (i :: (eO (i+1) l).map (·.born)).Nodup;refine List.nodup_cons.2 ⟨fun h=>?_,h1⟩;obtain ⟨y,hy,e⟩:=List.mem_map.1 h;have:=h2 y hy;omega
  ·intro y hy;rcases List.mem_cons.1 hy with rfl|hy
   ·exact Nat.le_refl _
   ·exact Nat.le_of_succ_le (h2 y hy)
section
variable {P:Program} {nt:Nat} {Ks:List Nat} {Q:Exit→Mst→Prop} {s:Mst} {o o2:Oper} {L:List (Value×Value)}
theorem uj {t k r K E:Nat} {x:Operand} (ht:P.underlying t=some (.map K E)) (ho:o.op = .range t x) (hdk:o.dst=some r) (hx:s.ev x = .c (.own k)) (hk:s.h k=some (.mp L)):LOp P o s [k] ⟨.c (.own r),[(r,some (.it k L.length []))],[r]⟩:=by
 intro c st ρ a w hr h1 h2 h3 h4;have e1:=h1 x (by simp [ho,Op.operands]);have hv1:=hr.ev x;rw [e1,hx] at hv1;have hv1:a.eval x=ρ k:=hv1;have hk':=(h2 k (by simp [aK])).trans hk;obtain ⟨g,hg,hb⟩:=hr.hp k _ hk';have hfr:st.f r=true:=h3 r (by simp [aK]);have hkr:r≠k:=fun e=>by rw [e,hr.nfh hk'] at hfr;cases hfr
 have hkk:∀k':Nat,aA [(r,some (Box.it k L.length []))] k'=true→k'=r:=fun k' h=>by
  simp only [aA,Bool.or_false] at h;exact (Nat.eq_of_beq_eq_true h).symm
 refine Oper.wp_value (v:=.pointer (some ⟨w.heap.size,0,none⟩)) (w':=w.alloc (.mapIter (some g) L.length #[] L.length)) ?_ ⟨upd ρ r (.pointer (some ⟨w.heap.size,0,none⟩)),hr.app (e:=⟨.c (.own r),[(r,some (.it k L.length []))],[r]⟩) h4 (fun k' h=>?_) (fun k' h=>?_) (fun k' h=>.inl ?_) (Frx.alloc _ _ _) (fun k' bx g' h _ hg'=>?_) (fun k1 k2 _ _ _ h h' _ _ _ _=>?_) (fun k' h=>.inl ?_) (fun k1 k2 bx h hp hx=>?_) (fun k2 bx h hp=>?_) ?_⟩
 ·have hl:(eO 0 L).toArray.size=L.length∨True:=.inr trivial;unfold execOp;rw [ho];have hb':=hb;unfold ky at hb';simp [Instr.range,hv1,hg,run_underlying ht,MapKept.run_getObj_map hb',Result.andThen]
 ·have:k'=r:=by simp [aK] at h;exact h.symm
  subst this;exact ⟨hfr,by simp [aA]⟩
 ·exact df (by simpa [aK] using h)
 ·rw [hkk k' h];simp [aK]
 ·rw [hkk k' h,aI] at hg';injection hg' with hg';subst hg';exact ⟨by simp,.inl (Nat.le_refl _)⟩
 ·rw [hkk k1 h,hkk k2 h']
 ·have:k'=r:=by simp [TV.has,V0.has,D.has] at h;exact h.symm
  subst this;simp [aK]
 ·rw [hkk k2 h] at hp;simp only [hput,Nat.beq_refl,cond_true,Option.some.injEq] at hp;subst hp;simp only [Box.has] at hx;rw [←Nat.eq_of_beq_eq_true hx];exact .inr (hr.nfh hk')
 ·rw [hkk k2 h] at hp ⊢;simp only [hput,Nat.beq_refl,cond_true,Option.some.injEq] at hp;subst hp;rw [aI];refine ⟨_,g,rfl,?_,(MapKept.heap_alloc w _).1⟩;rw [df (by cases h9:r.beq k with|false=>rfl|true=>exact absurd (Nat.eq_of_beq_eq_true h9) hkr),hg]
 ·exact (aI _ _ _).symm
theorem oY {r k n j:Nat} {x:Operand} {seen:List Nat} {y:V0} {key val:Value} (ho:o.op = .entry x) (hx:s.ev x = .c (.own r)) (hr0:s.h r=some (.it k n (seen++[j]))) (hk:s.h k=some (.mp L)) (hn:n=L.length) (hj:L[j]? = some (key,val)) (hy:∀w F ρ,y.rep w F ρ val) (hyn:∀i,y.has i=false):LOp P o s [r,k] ⟨.tup [.one (.sc key),y],[],[]⟩ :=
 bp fun c st ρ a w hr h1 h2=>by
  have e1:=h1 x (by simp [ho,Op.operands]);have hv1:=hr.ev x;rw [e1,hx] at hv1;have hv1:a.eval x=ρ r:=hv1;obtain ⟨g,m,hg,hm,hit⟩:=hr.hp r _ ((h2 r (by simp [aK])).trans hr0);obtain ⟨g',hg',hb⟩:=hr.hp k _ ((h2 k (by simp [aK])).trans hk);have em:m=g':=by rw [hm] at hg';injection hg' with h;injection h
  subst em;subst hn;have hmem:(⟨key,val,j⟩:MapEntry)∈eO 0 L:=lG.2 ⟨j,hj,by simp⟩;have hrun:=run_entry_at (P:=P) w g m L.length seen.toArray (eO 0 L).toArray L.length ⟨key,val,j⟩ (by rw [hit];simp) hb (by simpa using hmem) (by simpa using ui.1);refine ⟨.tuple #[key,val],?_,⟨[key,val],rfl,rfl,hy _ _ _,trivial⟩,fun i hi=>?_⟩
  ·unfold execOp;rw [ho];simp only [hv1,hg,Sem.run_bind,hrun,Result.andThen_ok,Sem.run_pure]
  ·have hi:(V0.has i (.one (.sc key)) || (y.has i || false))=true:=hi;rw [hyn i] at hi;cases hi
theorem Ar {id t t2 r k n:Nat} {x:Operand} {seen:List Nat} (ho:o.op = .next x false) (hg:o.guard=none) (hd:o.dst=some t) (ho2:o2.op = .extract (.tmp t) 0) (hg2:o2.guard=none) (hd2:o2.dst=some t2) (ht:Nat.blt t nt=true) (ht2:Nat.blt t2 nt=true)
  (hx:s.ev x = .c (.own r)) (hr0:s.h r=some (.it k n seen)) (hk:s.h k=some (.mp L)) (hn:n=L.length)
  (h1:∀j,j<n→j ∉ seen→Q .normal ((s.app (some t) ⟨.tup [.one (.sc (.bool true)),.one .any,.one .any],[(r,some (.it k n (seen++[j])))],[]⟩).app (some t2) ⟨.b true,[],[]⟩))
  (h2:(∀j,j<n→j∈seen)→Q .normal ((s.app (some t) ⟨.tup [.one (.sc (.bool false))],[],[]⟩).app (some t2) ⟨.b false,[],[]⟩)):AW P nt Ks (.region id [o,o2].toArray false) Q s:=by
 intro c ρ a w hc _ hr;subst hc;subst hn;have hv1:=hr.ev x;rw [hx] at hv1;have hv1:a.eval x=ρ r:=hv1;obtain ⟨g,m,hg0,hm,hit⟩:=hr.hp r _ hr0;obtain ⟨g',hg',hb⟩:=hr.hp k _ hk;have em:m=g':=by rw [hm] at hg';injection hg' with h;injection h
 subst em;have hdt:∀d,o.dst=some d→d<c.nt:=fun d h=>by rw [hd] at h;injection h with h;subst h;exact Nat.le_of_ble_eq_true ht
 have hdt2:∀d,o2.dst=some d→d<c.nt:=fun d h=>by rw [hd2] at h;injection h with h;subst h;exact Nat.le_of_ble_eq_true ht2
 have hkb:kb (ρ r)=some g:=by rw [hg0];rfl
 have hkk:∀(b:Box) (k':Nat),aA [(r,some b)] k'=true→k'=r:=fun b k' h=>by
  simp only [aA,Bool.or_false] at h;exact (Nat.eq_of_beq_eq_true h).symm
 have fin:∀(s1:Mst) (a1:Act) (w1:World) (b:Bool) (l:List V0),Rp c s1 ρ a1 w1→s1.t t = .tup (.one (.sc (.bool b)) :: l)→Q .normal (s1.app (some t2) ⟨.b b,[],[]⟩)→wpList P [o,o2].toArray (fun e a' w'=>∃s' ρ',Q e s'∧Rp c s' ρ' a' w') [o2] a1 w1:=by
  intro s1 a1 w1 b l hr1 h9 hq;have hl:=pt (P:=P) (o:=o2) (s:=s1) (x:=.tmp t) (i:=0) (y:=.one (.sc (.bool b))) ho2 h9 rfl;refine wpList_step fun K' hK'=>?_;have hw:Region.wanted o2 (yielded [o,o2].toArray a1.tmps)=true:=by unfold Region.wanted;rw [hg2]
  rw [if_pos hw];refine Oper.wp_post (hl c s1 ρ a1 w1 hr1 (fun _ _=>rfl) (fun _ _=>rfl) (fun k hk=>by simp [aK] at hk) hdt2) ?_;rintro a' w' ⟨ρ',hr'⟩;rw [hd2] at hr';exact hK' _ _ (wpList_nil ⟨_,ρ',hq,hr'⟩)
 refine wp_region_lit (wpList_step fun K' hK'=>?_);have hw:Region.wanted o (yielded [o,o2].toArray a.tmps)=true:=by unfold Region.wanted;rw [hg]
 rw [if_pos hw];have hnx:=run_next_at (P:=P) w o.type g m L.length L.length seen.toArray (eO 0 L).toArray L.length hit hb (fun x hx=>by
  obtain ⟨j,h,e⟩:=lG.1 (by simpa using hx);have:=(List.getElem?_eq_some_iff.1 h).1;omega) (Nat.le_refl _)
 rcases hnx with ⟨h0,hrun⟩|⟨e,he,w1,hw1,hrun⟩
 ·refine Oper.wp_value (v:=.tuple #[.bool false]) (w':=w) ?_ (hK' _ _ (fin (s.app (some t) ⟨.tup [.one (.sc (.bool false))],[],[]⟩) _ _ false [] ?_ ?_ (h2 fun j hj=>?_)))
  ·unfold execOp;rw [ho];simp only [hv1,hg0,Sem.run_bind,hrun,Result.andThen_ok,Sem.run_pure]
  ·rw [hd];exact hr.app (e:=⟨.tup [.one (.sc (.bool false))],[],[]⟩) (fun d h=>hdt d (hd.trans h)) (fun k hk=>by simp [aK] at hk) (fun _ _=>rfl) (fun k hk=>by simp [aA] at hk) (Frx.refl _ _) (fun k bx g hk=>by simp [aA] at hk) (fun k k' b b' g hk=>by simp [aA] at hk) (fun k h=>by simp [TV.has,V0.has,D.has] at h) (fun k k' bx hk=>by simp [aA] at hk) (fun k bx hk=>by simp [aA] at hk) ⟨[.bool false],rfl,rfl,trivial⟩
  ·simp [Mst.app,jZ]
  ·have hle:leftOf (eO 0 L).toArray seen.toArray = #[]:=Array.eq_empty_of_size_eq_zero h0;have hmem:(⟨(L[j]).1,(L[j]).2,j⟩:MapEntry)∈eO 0 L:=lG.2 ⟨j,List.getElem?_eq_getElem hj,by simp⟩;unfold leftOf at hle;rw [Array.filter_eq_empty_iff] at hle;have:=hle _ (by simpa using hmem);simpa using this
 ·obtain ⟨he1,he2⟩:e∈eO 0 L∧e.born ∉ seen:=by unfold leftOf at he;simpa using he
  obtain ⟨j,hj,ej⟩:=lG.1 he1;rw [Nat.zero_add] at ej;have hjl:=(List.getElem?_eq_some_iff.1 hj).1;have hr1:Rp c s ρ a w1:=by
   rcases hw1 with rfl|rfl
   ·exact hr
   ·exact hr.drew
  have hit1:w1.heap[g]? = some (.mapIter (some m) L.length seen.toArray L.length):=by rcases hw1 with rfl|rfl <;> exact hit
  have hset:=MapKept.heap_set (o':=.mapIter (some m) L.length (seen.toArray.push e.born) L.length) hit1;have hlt:g<w1.heap.size:=(Array.getElem?_eq_some_iff.1 hit1).1;have hkr:k≠r:=fun e=>by rw [e,hr0] at hk;cases hk
  refine Oper.wp_value (v:=.tuple #[.bool true,e.key,e.val]) (w':=ChangeMaps.setBlock w1 g (.mapIter (some m) L.length (seen.toArray.push e.born) L.length)) ?_ (hK' _ _ (fin (s.app (some t) ⟨.tup [.one (.sc (.bool true)),.one .any,.one .any],[(r,some (.it k L.length (seen++[j])))],[]⟩) _ _ true [.one .any,.one .any] ?_ ?_ (h1 j hjl (ej▸he2))))
  ·unfold execOp;rw [ho];simp only [hv1,hg0,Sem.run_bind,hrun,Result.andThen_ok,Sem.run_pure]
  ·rw [hd];refine hr1.app (e:=⟨.tup [.one (.sc (.bool true)),.one .any,.one .any],[(r,some (.it k L.length (seen++[j])))],[]⟩) (fun d h=>hdt d (hd.trans h)) (fun k hk=>by simp [aK] at hk) (fun _ _=>rfl) (fun k' h=>.inr (by rw [hkk _ k' h];exact hr.nfh hr0)) ⟨rfl,rfl,rfl,by simp [ChangeMaps.setBlock],fun b hlt hn=>hset.2 b fun e=>hn ⟨r,_,by simp [aA],hr0,by rw [hkb,e]⟩⟩ ?_ ?_ (fun k h=>by simp [TV.has,V0.has,D.has] at h) ?_ ?_ ⟨[.bool true,e.key,e.val],rfl,rfl,trivial,trivial,trivial⟩
   ·intro k' bx g' h _ hg';rw [hkk _ k' h,hkb] at hg';injection hg' with hg';subst hg';exact ⟨by simpa [ChangeMaps.setBlock] using hlt,.inr ⟨r,_,by simp [aA],hr0,hkb⟩⟩
   ·intro k1 k2 _ _ _ h h' _ _ _ _;rw [hkk _ k1 h,hkk _ k2 h']
   ·intro k1 k2 bx h hp hx;rw [hkk _ k2 h] at hp;simp only [hput,Nat.beq_refl,cond_true,Option.some.injEq] at hp;subst hp;simp only [Box.has] at hx;rw [←Nat.eq_of_beq_eq_true hx];exact .inr (hr.nfh hk)
   ·intro k2 bx h hp;rw [hkk _ k2 h] at hp ⊢;simp only [hput,Nat.beq_refl,cond_true,Option.some.injEq] at hp;subst hp;refine ⟨g,m,hg0,hm,?_⟩;have:(ChangeMaps.setBlock w1 g (.mapIter (some m) L.length (seen.toArray.push e.born) L.length)).heap[g]? = some (.mapIter (some m) L.length (seen.toArray.push e.born) L.length):=hset.1;rw [this,ej];simp
  ·simp [Mst.app,jZ]
end
theorem IZ (g:Lg) (i j:Nat) (hi:i≤g.entries.length) (hj:j≤g.saves.length) (h1:g.entries.length≤100000) (h2:g.saves.length≤100000) {E':List En} {S':List Sv} (hE:g.entries.take i=E') (hS:g.saves.take j=S'):FSpec prog 226 [g.a,.one (.sc (.int .i64 i)),.one (.sc (.int .i64 j))] [] [1,2] (.v (.ag [.own 1,.own 2])) [(1,some (.arr 141 iG E')),(2,some (.arr 143 i5 S'))]:=by
 refine aP func226 ?_;have hEl:E'.length≤100000:=by rw [←hE];simp;omega
 have hSl:S'.length≤100000:=by rw [←hS];simp;omega
 have hE2:(g.entries.take i).drop 0=E':=hE;have hS2:(g.saves.take j).drop 0=S':=hS;repeat' (first|refine af ?_ ?_|(refine aa 14 rfl ?_;first|refine sx (qU rfl rfl rfl (.inr ⟨rfl,rfl⟩) rfl rfl (Nat.zero_le _) hi hE2) ?_|refine sx (qU rfl rfl rfl (.inr ⟨rfl,rfl⟩) rfl rfl (Nat.zero_le _) hj hS2) ?_)|refine ae ?_|exact ah|refine ab fun hb=>?_|(refine bP (qf [(1,12),(2,18)]) ?_;exact aj))
end Go.Proofs.YtjndcdcbjidocaaGreatDoor
namespace Go.Proofs
open Go.Shelf
def Tryz.lays106_ren:Go.Shelf.Ren:=⟨fun|106=>191|213=>256|265=>308|n=>n,fun|9=>9|3=>3|n=>n,fun|n=>n⟩
theorem Tryz.lays106:Go.Proofs.Lays.n106 Tryz.prog Tryz.lays106_ren:={
 mixed:=by kernel_rfl
 f106:=Tryz.func191.trans (congrArg some (by kernel_rfl))
 f213:=Tryz.func256.trans (congrArg some (by kernel_rfl))
 f265:=Tryz.func308.trans (congrArg some (by kernel_rfl))
 t3:=Tryz.underlying3
 a3:=Tryz.isAgg3
 z3:=Tryz.sizeOf3
 v3:=Tryz.zeroValue3
 t9:=Tryz.underlying9
 a9:=Tryz.isAgg9
 z9:=Tryz.sizeOf9
 v9:=Tryz.zeroValue9 }
open Go.RowKit in
theorem Tryz.strings_Compare (a b:ByteArray) (w:World) :
  Calls Tryz.prog 191 #[.string a,.string b] w fun e w'=>e = .returned (.int .i64 (Lib.compareBytes a.data.toList b.data.toList))∧w'=w:=Any.strings_Compare Tryz.lays106 a b w
end Go.Proofs
namespace Go.Proofs
open Go.Shelf
def Tryz.sortAtoms_ren:Go.Shelf.Ren:=⟨fun|6=>112|15=>190|14=>189|28=>254|29=>255|20=>246|21=>247|22=>248|23=>249|24=>250|25=>251|26=>252|27=>253|46=>303|47=>304|48=>305|49=>306|50=>307|57=>328|n=>n,fun|22=>103|24=>39|25=>152|3=>3|39=>203|0=>0|53=>248|55=>250|4=>4|46=>241|45=>240|50=>245|5=>5|9=>9|66=>277|70=>272|76=>297|77=>262|n=>n,fun|n=>n⟩
theorem Tryz.sortAtoms:Go.Proofs.SlLaysF0.n6 Tryz.prog Tryz.sortAtoms_ren:={
 mixed:=by kernel_rfl
 f6:=⟨Tryz.f112.name,by decide,Tryz.func112.trans (congrArg some (by kernel_rfl))⟩
 f14:=⟨Tryz.f189.name,by decide,Tryz.func189.trans (congrArg some (by kernel_rfl))⟩
 f15:=Tryz.func190.trans (congrArg some (by kernel_rfl))
 f20:=⟨Tryz.f246.name,by decide,Tryz.func246.trans (congrArg some (by kernel_rfl))⟩
 f21:=⟨Tryz.f247.name,by decide,Tryz.func247.trans (congrArg some (by kernel_rfl))⟩
 f22:=⟨Tryz.f248.name,by decide,Tryz.func248.trans (congrArg some (by kernel_rfl))⟩
 f23:=⟨Tryz.f249.name,by decide,Tryz.func249.trans (congrArg some (by kernel_rfl))⟩
 f24:=⟨Tryz.f250.name,by decide,Tryz.func250.trans (congrArg some (by kernel_rfl))⟩
 f25:=⟨Tryz.f251.name,by decide,Tryz.func251.trans (congrArg some (by kernel_rfl))⟩
 f26:=⟨Tryz.f252.name,by decide,Tryz.func252.trans (congrArg some (by kernel_rfl))⟩
 f27:=⟨Tryz.f253.name,by decide,Tryz.func253.trans (congrArg some (by kernel_rfl))⟩
 f28:=Tryz.func254.trans (congrArg some (by kernel_rfl))
 f29:=Tryz.func255.trans (congrArg some (by kernel_rfl))
 f46:=⟨Tryz.f303.name,by decide,Tryz.func303.trans (congrArg some (by kernel_rfl))⟩
 f47:=Tryz.func304.trans (congrArg some (by kernel_rfl))
 f48:=Tryz.func305.trans (congrArg some (by kernel_rfl))
 f49:=⟨Tryz.f306.name,by decide,Tryz.func306.trans (congrArg some (by kernel_rfl))⟩
 f50:=⟨Tryz.f307.name,by decide,Tryz.func307.trans (congrArg some (by kernel_rfl))⟩
 f57:=⟨Tryz.f328.name,by decide,Tryz.func328.trans (congrArg some (by kernel_rfl))⟩
 t0:=Tryz.underlying0
 a0:=Tryz.isAgg0
 z0:=Tryz.sizeOf0
 v0:=Tryz.zeroValue0
 t3:=Tryz.underlying3
 a3:=Tryz.isAgg3
 z3:=Tryz.sizeOf3
 v3:=Tryz.zeroValue3
 t4:=Tryz.underlying4
 a4:=Tryz.isAgg4
 z4:=Tryz.sizeOf4
 v4:=Tryz.zeroValue4
 t5:=Tryz.underlying5
 a5:=Tryz.isAgg5
 z5:=Tryz.sizeOf5
 v5:=Tryz.zeroValue5
 t9:=Tryz.underlying9
 a9:=Tryz.isAgg9
 z9:=Tryz.sizeOf9
 v9:=Tryz.zeroValue9
 t22:=Tryz.underlying103
 a22:=Tryz.isAgg103
 z22:=Tryz.sizeOf103
 v22:=Tryz.zeroValue103
 t25:=Tryz.underlying152
 a25:=Tryz.isAgg152
 z25:=Tryz.sizeOf152
 v25:=Tryz.zeroValue152
 t39:=Tryz.underlying203
 a39:=Tryz.isAgg203
 z39:=Tryz.sizeOf203
 v39:=Tryz.zeroValue203
 t45:=Tryz.underlying240
 a45:=Tryz.isAgg240
 z45:=Tryz.sizeOf240
 v45:=Tryz.zeroValue240
 t46:=Tryz.underlying241
 a46:=Tryz.isAgg241
 z46:=Tryz.sizeOf241
 v46:=Tryz.zeroValue241
 t50:=Tryz.underlying245
 a50:=Tryz.isAgg245
 z50:=Tryz.sizeOf245
 v50:=Tryz.zeroValue245
 t53:=Tryz.underlying248
 a53:=Tryz.isAgg248
 z53:=Tryz.sizeOf248
 v53:=Tryz.zeroValue248
 t55:=Tryz.underlying250
 a55:=Tryz.isAgg250
 z55:=Tryz.sizeOf250
 v55:=Tryz.zeroValue250
 t66:=Tryz.underlying277
 a66:=Tryz.isAgg277
 z66:=Tryz.sizeOf277
 v66:=Tryz.zeroValue277
 t70:=Tryz.underlying272
 a70:=Tryz.isAgg272
 z70:=Tryz.sizeOf272
 v70:=Tryz.zeroValue272
 t76:=Tryz.underlying297
 a76:=Tryz.isAgg297
 z76:=Tryz.sizeOf297
 v76:=Tryz.zeroValue297
 t77:=Tryz.underlying262
 a77:=Tryz.isAgg262
 z77:=Tryz.sizeOf262
 v77:=Tryz.zeroValue262 }
end Go.Proofs
namespace Go.Proofs.YtjndcdcbjidocaaGreatDoor
open Go.RowKit Go.Proofs.Tryz
section
open Go.Shelf Go.Sort
def jj (a b:ByteArray):Int:=Lib.compareBytes a.data.toList b.data.toList
theorem As:∀{l m:List UInt8},(Lib.compareBytes l m<0↔l<m)∧(Lib.compareBytes l m=0↔l=m)
 | [],[]=>by simp [Lib.compareBytes]
 | [],_ :: _=>by simp [Lib.compareBytes]
 | _ :: _,[]=>by simp [Lib.compareBytes]
 | a :: l,b :: m=>by
  obtain ⟨h1,h2⟩:=As (l:=l) (m:=m);rw [List.cons_lt_cons_iff];unfold Lib.compareBytes;by_cases ha:a<b
  ·simp [ha];intro e;subst e;exact absurd ha (UInt8.lt_irrefl _)
  ·by_cases hb:b<a
   ·simp [ha,hb];constructor <;> (intro e;subst e;exact absurd hb (UInt8.lt_irrefl _))
   ·have e:a=b:=UInt8.le_antisymm (UInt8.not_lt.1 hb) (UInt8.not_lt.1 ha);subst e;simp [h1,h2]
theorem GI {a b:ByteArray}:jj a b<0↔jo a b=true:=by
 unfold jj jo;rw [bytesLess_eq,decide_eq_true_eq,As.1,ByteArray.toList_eq,ByteArray.toList_eq]
theorem uk (a b:ByteArray):ltOf jj a b=jo a b:=by
 unfold ltOf;rw [Bool.eq_iff_iff,decide_eq_true_iff,GI]
theorem iu:Go.Sort.SWO (ltOf jj) where
 irrefl x:=by rw [uk];exact eG x
 trans x y z h1 h2:=by rw [uk] at *;exact f7 h1 h2
 ntrans x y z h1 h2:=by
  rw [uk] at *
  cases h:jo x z with
  | false=>rfl
  | true =>
   exfalso;by_cases e:x=y
   ·subst e;rw [h] at h2;cases h2
   ·have h3:=nI h1 e;rw [f7 h3 h] at h2;cases h2
theorem zc (x y:ByteArray) (h1:ltOf jj x y=false) (h2:ltOf jj y x=false):x=y:=by
 rw [uk] at *
 by_cases e:x=y
 ·exact e
 ·rw [nI h1 e] at h2;cases h2
def Hm (h:ByteArray→Am) (n:ByteArray):List Value:=[.string n,.int .i64 (h n).mode,.int .i64 (h n).units]
def oe (h:ByteArray→Am) (n:ByteArray):Tm:=⟨n,h n⟩
theorem BS (x y:Tm) (w:World):Calls prog 113 #[.agg x.cells.toArray,.agg y.cells.toArray] w fun e w'=>e = .returned (.int .i64 (jj x.name y.name))∧∃os,w'=Go.Sort.grow w os:=by
 have HC:=Lib.hid (fun w=>strings_Compare x.name y.name w);obtain ⟨n,⟨m,u⟩⟩:=x;obtain ⟨n',⟨m',u'⟩⟩:=y;unfold Tm.cells;dsimp only
 go_enter func113,ntmps113
 go_wp2_with fail
 refine (HC.out _).mono ?_;rintro e w1 ⟨rfl,rfl⟩;go_wp2
 go_ret
 exact ⟨rfl,_,by rw [Go.Sort.alloc_eq_grow,Go.Sort.alloc_eq_grow,Go.Sort.grow_grow]⟩
def eL (N:List ByteArray):List ByteArray:=N.mergeSort fun x y=>!(ltOf jj) y x
theorem BT (h:ByteArray→Am) (N:List ByteArray) (hl:N.length≤100000) (w:World) {v:Value} {F:Nat→Prop} {xs:List Value} (h1:w.ownsRow 0 39 cw.n v (N.map (oe h)).length xs) (h2:Reps cw w F (N.map (oe h)) xs) :
  Calls prog 112 #[v,.func (.func 113) #[] #[]] w fun e w'=>e = .returned (.tuple #[])∧(Frx w w' fun b=>kb v=some b)∧∃ys,w'.ownsRow 0 39 cw.n v ((eL N).map (oe h)).length ys∧∀F',Reps cw w' F' ((eL N).map (oe h)) ys:=by
 have hxs:xs=(N.map (Hm h)).flatten:=by
  rw [Reps.plain h2,List.map_map];rfl
 have hl':(N.map (oe h)).length=N.length:=by simp
 have one:∀x,∀u∈Hm h x,u.oneCell'=true:=by intro x u hu;simp [Hm] at hu;rcases hu with rfl|rfl|rfl <;> rfl
 have hrep:∀(w:World) (F:Nat→Prop) (M:List ByteArray),Reps cw w F (M.map (oe h)) (M.map (Hm h)).flatten:=fun w F M=>by
  have this:Reps cw w F (M.map (oe h)) ((M.map (oe h)).map Tm.cells).flatten:=Reps.plain_mk _;rw [List.map_map] at this;exact this
 have hown:OwnRows (El.plain 3 (by decide) (Hm h) (fun _=>rfl) one) 39 w 0 v N:=⟨Nat.zero_le _,xs,by rw [←hl'];exact h1,by rw [hxs];exact Reps.plain_mk N⟩;rcases Nat.eq_zero_or_pos N.length with h0|h0
 ·obtain ⟨A,cap,rfl,_,_,_,_⟩:=hown.form2;obtain rfl:=List.eq_nil_of_length_eq_zero h0;refine (AnyF.slices_SortFunc_none { sortAtoms with } A cap _ w).mono ?_;rintro e w' ⟨rfl,rfl⟩;exact ⟨rfl,Frx.refl _ _,xs,by simpa [eL] using h1,fun F'=>by rw [hxs];simpa [eL] using hrep w' F' []⟩
 ·obtain ⟨g,cap,rfl,hg,hg2,_,_,_,_⟩:=hown.addr h0;have eg:∀args w,(callFunc 113 args).run prog w = .ok (.enter 113 args) w:=enters_of func113 (by kernel_rfl) rfl;have hcmp:CmpLays prog 113 #[] (Hm h) 3 jj g 0 N.toArray.size w:=fun _ _ _ _ x y=>(BS (oe h x) (oe h y) _).mono fun e w' ⟨he,os,hw⟩=>⟨he,0,os,hw⟩;have:=AnyQ.slices_SortFunc_total sortAtoms 3 isAgg39 sizeOf39 (Hm h) (fun _=>rfl) one jj iu 113 #[] g 0 cap N.toArray w eg hcmp hown.holdsK hg2 (by simp;omega) zc;refine Calls.mono this ?_;rintro e w' ⟨rfl,n,os,rfl⟩;have hs:=hown.sorted hg2 (l':=eL N) (by simp [eL]) n os;have hb:∀b,b<w.heap.size→b≠g→(sortWorldK (Hm h) 3 w g 0 n (eL N).toArray os).heap[b]? = w.heap[b]?:=fun b hb hn=>by
   show (w.heap.modify g _++os)[b]? = _;rw [Array.getElem?_append_left (by simpa using hb),Array.getElem?_modify,if_neg (fun e=>hn e.symm)]
  refine ⟨rfl,⟨rfl,rfl,rfl,by simp [sortWorldK,grow,putRowK,putRow,mapBlock],fun b hlt hn=>hb b hlt fun e=>hn (by rw [e];rfl)⟩,?_⟩;obtain ⟨_,ys,h3,h4⟩:=hs;refine ⟨ys,?_,fun F'=>?_⟩
  ·rw [List.length_map];have e9:(eL N).length=N.length:=by simp [eL]
   rw [e9] at h3 ⊢;exact h3
  ·rw [Reps.plain h4];exact hrep _ F' (eL N)
theorem EH (h:ByteArray→Am) (N:List ByteArray) (hl:N.length≤100000):FSpec prog 112 [.one (.own 0),.one (.sc (.func (.func 113) #[] #[]))] [(0,.arr 39 cw (N.map (oe h)))] [] (.tup []) [(0,some (.arr 39 cw ((eL N).map (oe h))))]:=by
 refine ⟨fun b W=>by kernel_rfl,fun q c st ρ a w vs hr hinj hargs hhin hus=>?_⟩
 match vs,hargs with
 | [v,f],⟨h0,h1,_⟩ =>
  obtain rfl:v=ρ (q 0):=h0;obtain rfl:f = .func (.func 113) #[] #[]:=h1;have hk:=hhin 0 _ rfl;obtain ⟨xs,hx1,hx2⟩:=hr.hp (q 0) _ hk;refine (BT h N hl w hx1 hx2).mono ?_;rintro e w' ⟨rfl,hf,ys,hy1,hy2⟩;refine ⟨_,rfl,fun dst hdst=>⟨ρ,?_⟩⟩;have hkk:∀k':Nat,aA [(q 0,some (Box.arr 39 cw ((eL N).map (oe h))))] k'=true→k'=q 0:=fun k' h=>by
   simp only [aA,Bool.or_false] at h;exact (Nat.eq_of_beq_eq_true h).symm
  refine hr.app (e:=⟨.tup [],[(q 0,some (.arr 39 cw ((eL N).map (oe h))))],[]⟩) hdst (fun k h=>by simp [aK] at h) (fun _ _=>rfl) (fun k' h=>.inr (by rw [hkk k' h];exact hr.nfh hk)) ⟨hf.os,hf.tape,hf.output,hf.size,fun b hlt hn=>hf.keep b hlt fun e=>hn ⟨q 0,_,by simp [aA],hk,e⟩⟩ ?_ ?_ (fun k h=>by simp [TV.has] at h) ?_ ?_ ⟨[],rfl,trivial⟩
  ·intro k' bx g' h _ hg';rw [hkk k' h] at hg';exact ⟨Nat.lt_of_lt_of_le (hr.ltb hk hg') hf.size,.inr ⟨q 0,_,by simp [aA],hk,hg'⟩⟩
  ·intro k1 k2 _ _ _ h h' _ _ _ _;rw [hkk k1 h,hkk k2 h']
  ·intro k1 k2 bx h hp hx;rw [hkk k2 h] at hp;simp only [hput,Nat.beq_refl,cond_true,Option.some.injEq] at hp;subst hp;simp [Box.has] at hx
  ·intro k2 bx h hp;rw [hkk k2 h] at hp ⊢;simp only [hput,Nat.beq_refl,cond_true,Option.some.injEq] at hp;subst hp;exact ⟨ys,hy1,hy2 _⟩
end
theorem xT {β:Type} (n:ByteArray) (a:β):∀l:List (ByteArray×β),(ed n a l).map (·.1)=bif dZ n (l.map (·.1)) then l.map (·.1) else l.map (·.1)++[n]
 | []=>rfl
 | x :: l=>by
  have ih:=xT n a l;unfold ed;show _=bif (ba x.1 n || dZ n (l.map (·.1))) then x.1 :: l.map (·.1) else x.1 :: l.map (·.1)++[n];cases ba x.1 n with
  | true=>rfl
  | false =>
   show x.1 :: (ed n a l).map (·.1)=_;rw [ih,Bool.false_or];cases dZ n (l.map (·.1)) <;> rfl
theorem gW:∀(l:List En) (m:List (ByteArray×Am)),(m.map (·.1)).Nodup→((et m l).map (·.1)).Nodup
 | [],_,h=>h
 | e :: l,m,h=>by
  refine gW l (ed e.name e.after m) ?_;rw [xT];cases hh:dZ e.name (m.map (·.1)) with
  | true=>exact h
  | false =>
   rw [cond_false];refine List.nodup_append.2 ⟨h,by simp,fun a ha b hb=>?_⟩;rw [List.mem_singleton] at hb;subst hb;intro e9;subst e9;rw [gv.2 ha] at hh;cases hh
theorem jS {x:ByteArray}:∀(l:List En) (m:List (ByteArray×Am)),x∈(et m l).map (·.1)↔x∈m.map (·.1)∨∃e∈l,e.name=x
 | [],m=>by simp [et]
 | e :: l,m=>by
  show x∈(et (ed e.name e.after m) l).map (·.1)↔_;rw [jS l,←gv,vF,Bool.or_eq_true,bb,gv];constructor
  ·rintro ((h|h)|⟨f,h1,h2⟩)
   ·exact .inr ⟨e,by simp,h⟩
   ·exact .inl h
   ·exact .inr ⟨f,by simp [h1],h2⟩
  ·rintro (h|⟨f,h1,h2⟩)
   ·exact .inl (.inr h)
   ·rcases List.mem_cons.1 h1 with rfl|h1
    ·exact .inl (.inl h2)
    ·exact .inr ⟨f,h1,h2⟩
theorem rR:∀{l m:List ByteArray},mQ l→mQ m→(∀x,x∈l↔x∈m)→l=m
 | [],[],_,_,_=>rfl
 | [],b :: m,_,_,h=>absurd ((h b).2 (by simp)) (by simp)
 | a :: l,[],_,_,h=>absurd ((h a).1 (by simp)) (by simp)
 | a :: l,b :: m,h1,h2,h=>by
  obtain ⟨p1,q1⟩:=List.pairwise_cons.1 h1;obtain ⟨p2,q2⟩:=List.pairwise_cons.1 h2;have e:a=b:=by
   rcases List.mem_cons.1 ((h a).1 (by simp)) with e|ha
   ·exact e
   ·rcases List.mem_cons.1 ((h b).2 (by simp)) with e|hb
    ·exact e.symm
    ·have:=f7 (p1 b hb) (p2 a ha);rw [eG] at this;cases this
  subst e;rw [rR q1 q2 fun x=>?_];constructor
  ·intro hx;rcases List.mem_cons.1 ((h x).1 (by simp [hx])) with e|hm
   ·subst e;have:=p1 x hx;rw [eG] at this;cases this
   ·exact hm
  ·intro hx;rcases List.mem_cons.1 ((h x).2 (by simp [hx])) with e|hm
   ·subst e;have:=p2 x hx;rw [eG] at this;cases this
   ·exact hm
def iJ (m:List (ByteArray×Am)) (seen:List Nat):List ByteArray:=(seen.filterMap fun j=>m[j]?).map (·.1)
theorem BU {m:List (ByteArray×Am)} {seen:List Nat} {j:Nat} {x:ByteArray×Am} (h:m[j]? = some x):iJ m (seen++[j])=iJ m seen++[x.1]:=by
 unfold iJ;rw [List.filterMap_append,List.map_append];simp [h]
theorem jk {n:Nat} {seen:List Nat} (hn:seen.Nodup) (hs:∀j∈seen,j<n):seen.length≤n:=by
 have hp:seen.Perm ((List.range n).filter fun j=>decide (j∈seen)):=(List.perm_ext_iff_of_nodup hn (List.nodup_range.filter _)).2 fun j=>by
  rw [List.mem_filter,List.mem_range,decide_eq_true_eq];exact ⟨fun h=>⟨hs j h,h⟩,fun h=>h.2⟩
 have h:=List.length_filter_le (fun j=>decide (j∈seen)) (List.range n);rw [←hp.length_eq] at h;simpa using h
theorem xU {α β:Type} {f g:α→Option β}:∀{l:List α},(∀x∈l,f x=g x)→l.filterMap f=l.filterMap g
 | [],_=>rfl
 | x :: l,h=>by
  rw [List.filterMap_cons,List.filterMap_cons,h x (by simp),xU fun y hy=>h y (by simp [hy])]
theorem xV {m:List (ByteArray×Am)} {seen:List Nat} (hn:seen.Nodup) (hs:∀j∈seen,j<m.length) (ha:∀j,j<m.length→j∈seen):(iJ m seen).Perm (m.map (·.1)):=by
 have hp:seen.Perm (List.range m.length):=(List.perm_ext_iff_of_nodup hn List.nodup_range).2 fun j=>by
  rw [List.mem_range];exact ⟨hs j,ha j⟩
 have h1:=(hp.filterMap fun j=>m[j]?).map (·.1);have h2:(List.range m.length).filterMap (fun j=>m[j]?)=m:=by
  have e:(List.range m.length).filterMap (fun j=>m[j]?)=(List.range m.length).filterMap (fun j=>some (m.getD j (.empty,⟨0,0⟩))):=by
   refine xU fun j hj=>?_;have hj:=List.mem_range.1 hj;rw [List.getD_eq_getElem?_getD,List.getElem?_eq_getElem hj,Option.getD_some]
  rw [e,show (fun j=>some (m.getD j (.empty,⟨0,0⟩)))=some ∘ (fun j=>m.getD j (.empty,⟨0,0⟩)) from rfl,List.filterMap_eq_map];apply List.ext_getElem
  ·simp
  ·intro i h1 h2;simp [List.getD_eq_getElem?_getD,List.getElem?_eq_getElem h2]
 unfold iJ
 rwa [h2] at h1
theorem xW {l:List En} {N:List ByteArray} (h:N.Perm ((eS l).map (·.1))):eL N=bB l:=by
 have hnd:N.Nodup:=(h.nodup_iff).2 (gW l [] (by simp));have hp:=List.mergeSort_perm N fun x y=>!(ltOf jj) y x;have hs:(eL N).Pairwise fun a b=>(!(ltOf jj) b a)=true:=List.pairwise_mergeSort (fun a b c h1 h2=>by
  simp only [Bool.not_eq_true'] at *
  exact iu.ntrans c b a h2 h1) (fun a b=>by
  cases h1:ltOf jj b a with
  | false=>rfl
  | true =>
   cases h2:ltOf jj a b with
   | false=>rfl
   | true=>have:=iu.trans _ _ _ h1 h2;rw [iu.irrefl] at this;cases this) N
 have hn2:(eL N).Nodup:=(hp.nodup_iff).2 hnd;refine rR ?_ (fy l) fun x=>?_
 ·refine (hs.and hn2).imp fun {a b} ⟨h1,h2⟩=>?_;rw [uk,Bool.not_eq_true'] at h1;exact nI h1 (fun e=>h2 e.symm)
 ·show x∈N.mergeSort (fun x y=>!(ltOf jj) y x)↔_;rw [hp.mem_iff,h.mem_iff,dh];show x∈(et [] l).map (·.1)↔_;rw [jS];simp
theorem Ki (g:Lg) (n:Int) {R:Lg×List Tm×Int} (hR:cu g n=R):FSpec prog 160 [g.a,.one (.sc (.int .i64 n))] [] [] (JV R) []:=by
 refine aP func160 ?_;obtain ⟨v,hv⟩:∃v,j5 g.entries g.saves=v:=⟨_,rfl⟩;have kV:=Aq g.entries g.saves hv;have hV:oD g=v:=hv;cases v with
 | false =>
  obtain rfl:R=(.zero,[],2):=by rw [←hR];simp [cu,hV]
  repeat' (first|refine af ?_ ?_|refine aa 9 rfl (cB [] (kV) ?_)|refine ae ?_|exact ah|refine ab fun hb=>?_|(refine cX (qf []) ?_;exact aj))
 | true =>
  obtain ⟨h1,h2⟩:=eP hV;have hat:=vm hv;by_cases hf:n≠0∧aT n 0 g.saves<0
  case pos =>
   obtain ⟨hn0,hf⟩:=hf;obtain rfl:R=(.zero,[],10):=by rw [←hR];simp [cu,hV,hn0,hf]
   have kP:=oX g.saves n rfl;repeat' (first|refine af ?_ ?_|(refine aa 9 rfl ?_;first|(refine cB [] (kV) ?_)|(refine cB [] (kP) ?_))|refine ae ?_|exact ah|refine ab fun hb=>?_|(refine cX (qf []) ?_;exact aj))
  obtain ⟨a,sv,hX,ha,hsv,hcase⟩:∃(a sv:Nat),cc g n=⟨g.entries.take a,g.saves.take sv⟩∧a≤g.entries.length∧sv≤g.saves.length∧((n=0∧a=0∧sv=0)∨(n≠0∧∃(i:Nat) (lab:Int),g.saves[i]? = some (⟨lab,(a:Int)⟩:Sv)∧aT n 0 g.saves=(i:Int)∧sv=i+1)):=by
   by_cases hn:n=0
   ·exact ⟨0,0,by simp [cc,hn],by omega,by omega,.inl ⟨hn,rfl,rfl⟩⟩
   ·obtain ⟨i,hi,he,_⟩:=iE (n:=n) (l:=g.saves) (k:=0) (by by_cases h:aT n 0 g.saves<0;exact absurd ⟨hn,h⟩ hf;omega);have he2:aT n 0 g.saves=(i:Int):=by rw [he];simp
    have:=hat _ (List.getElem_mem hi);have e9:((g.saves[i].at_.toNat:Nat):Int)=g.saves[i].at_:=Int.toNat_of_nonneg this.1;exact ⟨g.saves[i].at_.toNat,i+1,by simp [cc,hn,he2,hi,List.getD_eq_getElem?_getD],by omega,by omega,.inr ⟨hn,i,g.saves[i].label,by rw [e9];exact List.getElem?_eq_getElem hi,he2,rfl⟩⟩
  have hl1:(g.entries.take a).length=a:=by simp;omega
  obtain ⟨E',hE'⟩:∃E',g.entries.take a=E':=⟨_,rfl⟩;obtain ⟨S',hS'⟩:∃S',g.saves.take sv=S':=⟨_,rfl⟩;obtain ⟨D',hD'⟩:∃D',g.entries.drop a=D':=⟨_,rfl⟩;have hD2:g.entries.drop ((a:Int)).toNat=D':=by rw [Int.toNat_natCast];exact hD'
  obtain ⟨H,hH⟩:∃H:ByteArray→Am,ax E'=H:=⟨_,rfl⟩;obtain ⟨M,hM⟩:∃M,(bB D').map (oe H)=M:=⟨_,rfl⟩;obtain rfl:R=(⟨E',S'⟩,M,0):=by
   rw [←hR,←hM];unfold cu;rw [hX,hV,hl1,hE',hS',hD'];rcases hcase with ⟨rfl,_⟩|⟨h0,i,_,hi,he,_⟩
   ·simp [oe,←hH]
   ·have hi0:¬((i:Int)<0):=by omega
    simp [h0,he,hi0,oe,←hH]
  have kC:=IZ g a sv ha hsv (by omega) (by omega) hE' hS';have k1:=Ap E';have k2:=Ap D';have hg:∀x,oV x (eS E')=H x:=fun x=>by rw [ia,hH]
  obtain ⟨m,hm⟩:∃m,eS D'=m:=⟨_,rfl⟩;have hfin:∀seen:List Nat,seen.Nodup→(∀j∈seen,j<m.length)→(∀j,j<m.length→j∈seen)→(eL (iJ m seen)).map (oe H)=M:=fun seen q1 q2 q3=>by
   rw [←hM,←xW (N:=iJ m seen) (by rw [hm];exact xV q1 q2 q3)]
  have hm9:m.length≤100000:=by
   have q1:=oc D';have q2:=fI D' [];have q3:D'.length≤72:=by rw [←hD'];simp;omega
   rw [hm] at q1;unfold bB at q1;simp at q2;omega
  rw [hm] at k2;generalize eS E'=m0 at *
  clear hR hf hX hV hv hat hl1 hM hm hH hE' hS' hD';rcases hcase with ⟨rfl,rfl,rfl⟩|⟨h0,i,lab,hi,he,rfl⟩
  case' inl =>
   repeat' (first|refine af ?_ ?_|(refine aa 9 rfl ?_;first|(refine cB [] (kV) ?_)|(refine cH (qf [(1,1001),(2,1002)]) (kC) ?_))|((fail_if_success (first|refine my 10 ?_|refine mz 10 ?_));refine ae ?_)|exact ah|refine ab fun hb=>?_)
  case' inr =>
   have kP:=oX g.saves n he;have hi9:i<g.saves.length:=(List.getElem?_eq_some_iff.1 hi).1;repeat' (first|refine af ?_ ?_|(refine aa 9 rfl ?_;first|(refine cB [] (kV) ?_)|(refine cB [] (kP) ?_)|(refine cH (qf [(1,1001),(2,1002)]) (kC) ?_))|((fail_if_success (first|refine my 10 ?_|refine mz 10 ?_));refine ae ?_)|exact ah|refine ab fun hb=>?_)
  all_goals
   refine il 1001 rfl ?_;refine il 1002 rfl ?_;repeat' (first|refine af ?_ ?_|(refine aa 9 rfl ?_;first|(refine cH (qf [(0,1003)]) (k1) ?_)|(refine cH (qf [(0,1004)]) (k2) ?_))|(refine aa 14 rfl ?_;first|refine sx (mR (z:=((0:Nat):Int)) rfl rfl rfl rfl (by omega) (by omega) hD2) ?_|refine sx (mR (z:=(a:Int)) rfl rfl rfl rfl (by omega) (by omega) hD2) ?_)|(refine aa 25 rfl ?_;refine sx (uj rQ rfl rfl rfl rfl) ?_)|refine ae ?_|exact ah|refine ab fun hb=>?_)
   refine bV 12 1000 39 cw rfl rfl rfl ?_;refine ai (fun seen:List Nat=>seen.Nodup∧∀j∈seen,j<m.length) (fun seen=>bt [4,10,47,1000,1003,1004] [(4,.c (.ptr 4 0)),(10,.c (.ptr 10 0)),(11,.c (.own 1003)),(12,.c (.own 1000)),(47,.c (.own 47))] [(4,.box 61 [.sc (.slice none 0 0),.sc (.slice none 0 0)]),(10,.box 61 [.sl iG E',.sl i5 S']),(47,.it 1004 (vD m).length seen),(1000,.arr 39 cw ((iJ m seen).map (oe H))),(1003,.mp (vD m0)),(1004,.mp (vD m))]) (fun seen=>m.length-seen.length) [] ⟨by simp,by simp⟩ aN ?_;rintro seen ⟨hn,hs⟩;refine qJ (Ar (L:=vD m) (n:=(vD m).length) rfl rfl rfl rfl rfl rfl rfl rfl rfl rfl rfl rfl (fun j hj hjs=>?_) (fun hall=>?_))
   ·have hj:j<m.length:=by simpa [jX] using hj
    obtain ⟨x,hx⟩:∃x,m[j]? = some x:=⟨_,List.getElem?_eq_getElem hj⟩;have hx2:(vD m)[j]? = some (.string x.1,IV x.2):=by simp [jX,hx]
    have hT:=BU (seen:=seen) hx;have hls:=jk hn hs;have hn2:(seen++[j]).Nodup:=List.nodup_append.2 ⟨hn,by simp,fun b hb c hc=>by rw [List.mem_singleton] at hc;subst hc;exact fun e=>hjs (e▸hb)⟩;have hs2:∀k∈seen++[j],k<m.length:=fun k hk=>by
     rcases List.mem_append.1 hk with hk|hk
     ·exact hs k hk
     ·rw [List.mem_singleton] at hk;subst hk;exact hj
    have hls2:=jk hn2 hs2;have hcl:((iJ m seen).map (oe H)).length≤100000:=by
     unfold iJ;have:=List.length_filterMap_le (fun j=>m[j]?) seen;simp;omega
    generalize hC:(iJ m seen).map (oe H)=C at *
    show AW _ _ _ _ _ _;repeat' (first|refine af ?_ ?_|(refine aa 8 rfl ?_;refine aV (ak rfl rfl (aB rfl rfl) (aD [oe H x.1] rfl rfl rfl rfl) rfl aL aL) rfl rfl rfl ?_)|(refine aa 23 rfl ?_;refine sx (mj _ _ rQ zb vG rfl rfl rfl rfl (hg x.1)) ?_)|(refine aa 27 rfl ?_;refine sx (oY (y:=x.2.a) rfl rfl rfl rfl rfl hx2 (fun _ _ _=>⟨_,rfl,rfl,rfl,trivial⟩) (fun _=>rfl)) ?_)|refine ae ?_|exact ah|refine ab fun hb=>?_)
    refine ⟨seen++[j],⟨hn2,hs2⟩,by simp at hls2 ⊢;omega,?_⟩;rw [hT,List.map_append,hC];exact a8 (qf [(1000,59)])
   ·have hM:=hfin seen hn hs fun j hj=>hall j (by simpa [jX] using hj);have kS:=EH H (iJ m seen) (by
     unfold iJ;have:=List.length_filterMap_le (fun j=>m[j]?) seen;have:=jk hn hs;simp;omega)
    rw [hM] at kS;show AW _ _ _ _ _ _;repeat' (first|refine af ?_ ?_|refine aa 9 rfl (cH (qf [(0,1000)]) (kS) ?_)|refine ae ?_|exact ah|refine ab fun hb=>?_|(refine cX (qf []) ?_;exact aj))
theorem dS (g:Lg):FSpec prog 49 [g.a] [] [] (.b (oD g)) []:=Aq g.entries g.saves rfl
theorem vH (g:Lg) (h1:g.entries.length≤72) (h2:g.saves.length≤4):FSpec prog 226 [g.a,.one (.sc (.int .i64 (g.entries.length:Nat))),.one (.sc (.int .i64 (g.saves.length:Nat)))] [] [1,2] (.v (.ag [.own 1,.own 2])) [(1,some (.arr 141 iG g.entries)),(2,some (.arr 143 i5 g.saves))]:=IZ g g.entries.length g.saves.length (Nat.le_refl _) (Nat.le_refl _) (by omega) (by omega) (List.take_length ..) (List.take_length ..)
theorem Kj (g:Lg) (h1:g.entries.length≤72) (h2:g.saves.length≤4):FSpec prog 226 [g.a,.one (.sc (.int .i64 0)),.one (.sc (.int .i64 (g.saves.length:Nat)))] [] [1,2] (.v (.ag [.own 1,.own 2])) [(1,some (.arr 141 iG [])),(2,some (.arr 143 i5 g.saves))]:=IZ g 0 g.saves.length (by omega) (Nat.le_refl _) (by omega) (by omega) rfl (List.take_length ..)
theorem EI (g:Lg) (e:En) {R:Lg×Int} (hR:dz g e=R):FSpec prog 320 [g.a,e.a] [] [] (F7 R) []:=by
 refine aP func320 ?_;cases hV:oD g with
 | false =>
  obtain rfl:R=(.zero,2):=by rw [←hR];simp [dz,hV]
  repeat' (first|refine af ?_ ?_|refine aa 9 rfl (cB [] (dS g) ?_)|refine ae ?_|exact ah|refine ab fun hb=>?_|(refine fe (qf []) ?_;exact aj))
 | true =>
  obtain ⟨h1,h2⟩:=eP hV;cases hV2:oD ⟨g.entries++[e],g.saves⟩ with
  | false =>
   obtain rfl:R=(.zero,1):=by rw [←hR];simp [dz,hV,hV2]
   repeat' (first|refine af ?_ ?_|(refine aa 8 rfl ?_;refine aV (ak rfl rfl (aB rfl rfl) (aD [e] rfl rfl rfl rfl) rfl aL aL) rfl rfl rfl ?_)|(refine aa 9 rfl ?_;first|(refine cB [] (dS g) ?_)|(refine cH (qf [(1,1000),(2,1001)]) (vH g h1 h2) ?_)|(refine cB [23,1001] (dS ⟨g.entries++[e],g.saves⟩) ?_))|refine ae ?_|exact ah|refine ab fun hb=>?_|(refine fe (qf []) ?_;exact aj))
  | true =>
   obtain rfl:R=(⟨g.entries++[e],g.saves⟩,0):=by rw [←hR];simp [dz,hV,hV2]
   repeat' (first|refine af ?_ ?_|(refine aa 8 rfl ?_;refine aV (ak rfl rfl (aB rfl rfl) (aD [e] rfl rfl rfl rfl) rfl aL aL) rfl rfl rfl ?_)|(refine aa 9 rfl ?_;first|(refine cB [] (dS g) ?_)|(refine cH (qf [(1,1000),(2,1001)]) (vH g h1 h2) ?_)|(refine cB [23,1001] (dS ⟨g.entries++[e],g.saves⟩) ?_))|refine ae ?_|exact ah|refine ab fun hb=>?_|(refine fe (qf []) ?_;exact aj))
theorem I0 (g:Lg) (n:Int) {R:Lg×Int} (hR:dP g n=R):FSpec prog 159 [g.a,.one (.sc (.int .i64 n))] [] [] (F7 R) []:=by
 refine aP func159 ?_;cases hV:oD g with
 | false =>
  obtain rfl:R=(.zero,2):=by rw [←hR];simp [dP,hV]
  repeat' (first|refine af ?_ ?_|refine aa 9 rfl (cB [] (dS g) ?_)|refine ae ?_|exact ah|refine ab fun hb=>?_|(refine fe (qf []) ?_;exact aj))
 | true =>
  obtain ⟨h1,h2⟩:=eP hV;by_cases hn:1≤n∧n≤99
  case neg =>
   obtain rfl:R=(.zero,1):=by
    rw [←hR];unfold dP;rw [hV];have:(decide (1≤n) && decide (n≤99))=false:=by rw [Bool.and_eq_false_iff];simp;omega
    rw [this];rfl
   repeat' (first|refine af ?_ ?_|refine aa 9 rfl (cB [] (dS g) ?_)|refine ae ?_|exact ah|refine ab fun hb=>?_|(refine fe (qf []) ?_;exact aj))
  obtain ⟨hn1,hn2⟩:=hn;by_cases hf:0≤aT n 0 g.saves
  case pos =>
   obtain rfl:R=(.zero,11):=by rw [←hR];simp [dP,hV,hn1,hn2,hf]
   repeat' (first|refine af ?_ ?_|(refine aa 9 rfl ?_;first|(refine cB [] (dS g) ?_)|(refine cB [] (oX g.saves n rfl) ?_))|refine ae ?_|exact ah|refine ab fun hb=>?_|(refine fe (qf []) ?_;exact aj))
  by_cases h4:g.saves.length=4
  case pos =>
   obtain rfl:R=(.zero,4):=by rw [←hR];simp [dP,hV,hn1,hn2,hf,h4]
   repeat' (first|refine af ?_ ?_|(refine aa 9 rfl ?_;first|(refine cB [] (dS g) ?_)|(refine cB [] (oX g.saves n rfl) ?_))|refine ae ?_|exact ah|refine ab fun hb=>?_|(refine fe (qf []) ?_;exact aj))
  obtain rfl:R=(⟨g.entries,g.saves++[⟨n,g.entries.length⟩]⟩,0):=by rw [←hR];simp [dP,hV,hn1,hn2,hf,h4]
  repeat' (first|refine af ?_ ?_|(refine aa 8 rfl ?_;refine aV (ak rfl rfl (aB rfl rfl) (aD [⟨n,g.entries.length⟩] rfl rfl rfl rfl) rfl aL aL) rfl rfl rfl ?_)|(refine aa 9 rfl ?_;first|(refine cB [] (dS g) ?_)|(refine cB [] (oX g.saves n rfl) ?_)|(refine cH (qf [(1,1000),(2,1001)]) (vH g h1 h2) ?_))|refine ae ?_|exact ah|refine ab fun hb=>?_|(refine fe (qf []) ?_;exact aj))
theorem I1 (g:Lg) (n:ByteArray) {R:Lg×Bool} (hR:fY g n=R):FSpec prog 157 [g.a,.one (.sc (.string n))] [] [] (He R) []:=by
 refine aP func157 ?_;cases hV:oD g with
 | false =>
  obtain rfl:R=(.zero,false):=by rw [←hR];simp [fY,hV]
  repeat' (first|refine af ?_ ?_|refine aa 9 rfl (cB [] (dS g) ?_)|refine ae ?_|exact ah|refine ab fun hb=>?_|(refine fe (qf []) ?_;exact aj))
 | true =>
  obtain ⟨h1,h2⟩:=eP hV;have hat:=vm hV;obtain ⟨E,hE⟩:∃E,g.entries=E:=⟨_,rfl⟩;obtain ⟨S,hS⟩:∃S,g.saves=S:=⟨_,rfl⟩;have kC:=Kj g h1 h2;repeat' (first|refine af ?_ ?_|(refine aa 9 rfl ?_;first|(refine cB [] (dS g) ?_)|(refine cH (qf [(1,1000),(2,1001)]) (kC) ?_))|refine ae ?_|exact ah|refine ab fun hb=>?_)
  have hX:fO g n=⟨E.filter (oth n),S.map (iA n E E.length)⟩:=by
   unfold fO;rw [←hE,←hS];congr 1
   refine List.map_congr_left fun x hx=>?_;obtain ⟨k1,k2⟩:=hat x hx;exact (zY k1 k2).symm
  have hatS:∀x∈S,0≤x.at_∧x.at_≤E.length:=by rw [←hE,←hS];exact hat
  have hst:fY g n=bif decide ((E.filter (oth n)).length=E.length) then (.zero,false) else (⟨E.filter (oth n),S.map (iA n E E.length)⟩,true):=by
   unfold fY;rw [hV,hX,hE];rfl
  rw [hst] at hR;have hf72:∀i,((E.take i).filter (oth n)).length≤i:=fun i=>by
   have:=List.length_filter_le (oth n) (E.take i);rw [List.length_take] at this;omega
  have hE72:E.length≤72:=by rw [←hE];exact h1
  have hS4:S.length≤4:=by rw [←hS];exact h2
  clear hat hst hX h1 hb;refine ai (fun i=>i≤E.length) (fun i=>bt [2,4,6,1000,1001] [(1,.c (.sc (.string n))),(2,.c (.ptr 2 0)),(4,.c (.ptr 4 0)),(6,.c (.ptr 6 0)),(21,.c (.sl iG E)),(22,.i E.length),(23,.i i)] [(2,.box 61 [.sl iG E,.sl i5 S]),(4,.box 61 [.sc (.slice none 0 0),.sc (.slice none 0 0)]),(6,.box 61 [.own 1000,.own 1001]),(1000,.arr 141 iG ((E.take i).filter (oth n))),(1001,.arr 143 i5 (S.map (iA n E i)))]) (fun i=>E.length-i) 0 (Nat.zero_le _) (by rw [show iA n E 0=id from funext (xt n E),List.map_id];subst hE hS;exact aN) ?_;rintro i hi;try dsimp only at *
  by_cases hlt:i<E.length
  case neg =>
   obtain rfl:i=E.length:=by omega
   rw [List.take_length];by_cases hfl:(E.filter (oth n)).length=E.length
   ·obtain rfl:R=(.zero,false):=by rw [←hR,decide_eq_true hfl];rfl
    repeat' (first|refine af ?_ ?_|refine ae ?_|exact ah|(refine ab fun hb=>?_;first|(exact absurd (Int.ofNat.inj hb) (by omega))|skip)|(refine fe (qf []) ?_;exact aj))
   ·obtain rfl:R=(⟨E.filter (oth n),S.map (iA n E E.length)⟩,true):=by rw [←hR,decide_eq_false hfl];rfl
    repeat' (first|refine af ?_ ?_|refine ae ?_|exact ah|(refine ab fun hb=>?_;first|(exact absurd (Int.ofNat.inj hb) hfl)|skip)|(refine fe (qf []) ?_;exact aj))
  obtain ⟨e,he⟩:∃e,E[i]=e:=⟨_,rfl⟩;have hge:E[i]? = some e:=by rw [List.getElem?_eq_getElem hlt,he]
  by_cases hnm:e.name.toList=n.toList
  case neg =>
   have ho:oth n e=true:=by simp [oth,ba,hnm]
   have hf1:=hf72 i;repeat' (first|refine af ?_ ?_|(refine aa 8 rfl ?_;refine aV (ak rfl rfl (aB rfl rfl) (aD [e] rfl rfl rfl rfl) rfl aL aL) rfl rfl rfl ?_)|refine ae ?_|exact ah|refine ab fun hb=>?_)
   refine ⟨i+1,by omega,by omega,?_⟩;have e1:(E.take (i+1)).filter (oth n)=(E.take i).filter (oth n)++[e]:=by rw [List.take_succ_eq_append_getElem hlt,he,List.filter_append];simp [ho]
   have e2:S.map (iA n E (i+1))=S.map (iA n E i):=List.map_congr_left fun x _=>xu hlt (by rw [he];exact ho) x;rw [e1,e2];exact a8 (qf [(1000,36)])
  have ho:oth n e=false:=by simp [oth,ba,hnm]
  have ho':oth n E[i]=false:=by rw [he];exact ho
  have e1:(E.take (i+1)).filter (oth n)=(E.take i).filter (oth n):=by rw [List.take_succ_eq_append_getElem hlt,he,List.filter_append];simp [ho]
  repeat' (first|refine af ?_ ?_|refine ae ?_|exact ah|refine ab fun hb=>?_)
  refine ai (fun k=>k≤S.length) (fun k=>bt [2,4,6,1000,1001] [(1,.c (.sc (.string n))),(2,.c (.ptr 2 0)),(4,.c (.ptr 4 0)),(6,.c (.ptr 6 0)),(7,.i i),(21,.c (.sl iG E)),(22,.i E.length),(23,.i i),(39,.c (.sl i5 S)),(40,.i S.length),(41,.i k)] [(2,.box 61 [.sl iG E,.sl i5 S]),(4,.box 61 [.sc (.slice none 0 0),.sc (.slice none 0 0)]),(6,.box 61 [.own 1000,.own 1001]),(1000,.arr 141 iG ((E.take i).filter (oth n))),(1001,.arr 143 i5 (yR n E S i k))]) (fun k=>S.length-k) 0 (Nat.zero_le _) (by rw [xw];exact aN) ?_;rintro k hk;try dsimp only at *
  have hdl:=p9 (n:=n) (E:=E) (S:=S) (i:=i) (k:=k);by_cases hlk:k<S.length
  case neg =>
   have hend:=zZ (n:=n) (E:=E) (S:=S) (i:=i) (k:=k) (by omega);rw [hend] at hdl ⊢;clear hend;repeat' (first|refine af ?_ ?_|refine ae ?_|exact ah|refine ab fun hb=>?_)
   refine ⟨i+1,by omega,by omega,?_⟩;rw [e1];exact aN
  obtain ⟨x,hx⟩:∃x,S[k]=x:=⟨_,rfl⟩;have hgx:S[k]? = some x:=by rw [List.getElem?_eq_getElem hlk,hx]
  have hgd:=yS (n:=n) (E:=E) (i:=i) hlk;rw [hx] at hgd;obtain ⟨k1,k2⟩:=hatS x (hx▸List.getElem_mem hlk);have hyb:=rA (n:=n) (E:=E) (i:=i) k1;obtain ⟨y,hy⟩:∃y,iA n E i x=y:=⟨_,rfl⟩;by_cases hgt:(i:Int)<x.at_
  ·have hz:iA n E (i+1) x=⟨x.label,y.at_-1⟩:=by rw [xv hlt ho' hgt,hy]
   have hyl:y.label=x.label:=by rw [←hy];rfl
   rw [hy] at hgd hyb;have hset:=vo (i:=i) (n:=n) (E:=E) hlk (z:=⟨y.label,y.at_-1⟩) (by rw [hx,hz,hyl]);repeat' (first|refine af ?_ ?_|refine ae ?_|(refine aa 4 rfl ?_;refine aR (aq (z:=⟨y.label,y.at_-1⟩) rfl rfl rfl rfl hgd rfl rfl rfl rfl (Nat.le_of_ble_eq_true rfl) rfl rfl) rfl rfl rfl ?_)|exact ah|refine ab fun hb=>?_)
   refine ⟨k+1,by omega,by omega,?_⟩;rw [←hset];exact aN
  ·have hsm:=xy (n:=n) (E:=E) (i:=i) hlk (by rw [hx];exact zX (by omega));repeat' (first|refine af ?_ ?_|refine ae ?_|exact ah|refine ab fun hb=>?_)
   refine ⟨k+1,by omega,by omega,?_⟩;rw [←hsm];exact aN
theorem EJ (d:Nat) (w:Wk) (i:Nat) {x:Pc} (n:ByteArray) (hx:w.c.procs[i]? = some x) (hV:du w.c.queues=true) (hn:aW w.c.queues n=true) (hne:(bo w x n).c.queues≠[]) (hl:w.ev.length≤800000) {Z:Wk} (hZ:bo w x n=Z):FSpec prog 217 [gA,pp i,.one (.sc (.string n))] (HP d w) [4] (.tup []) (HQ d Z):=by
 refine aP func217 ?_;obtain ⟨j,hj,hF,hq⟩:=lz hn;have hsh:=cA (ct hV (List.getElem_mem hj));obtain ⟨l,hL⟩:∃l,ax x.led.entries n=l:=⟨_,rfl⟩;have kL:=EG x.led n hL;obtain ⟨o,hw⟩:∃o,ap w.c.queues[j] x.proc=o:=⟨_,rfl⟩;have kW:=eK w.c.queues[j] x.proc hsh.2.1 hsh.2.2 hw;unfold bo at hZ hne;rw [hL] at hZ hne;cases o with
 | none =>
  rw [Option.isSome_none] at kW;rw [show fd w x.proc n=w by unfold fd;rw [hq,hw];rfl] at hZ hne;have kB:=GH d w x.proc n l hn hne (by omega) hZ;repeat' (first|refine af ?_ ?_|(refine aa 9 rfl ?_;first|(refine cB [] (ir w.c.queues n hF) ?_)|(refine cB [] (kW) ?_)|(refine cB [] (kL) ?_)|(refine cH (qf [(0,0),(1,1),(2,2),(4,1004)]) (kB) ?_))|(refine aa 21 rfl ?_;refine sx (ay rfl rfl) ?_)|refine ae ?_|exact ah|(refine ab fun hb=>?_;first|(omega)|skip)|(exact mS (qf [(4,1004)])))
 | some m =>
  rw [Option.isSome_some] at kW;have hcl:=ly w.c.queues x.proc n;obtain ⟨ec,hst,_⟩:=mX (p:=x.proc) hV hn (by rw [hq,hw];rfl);have h0:(bq w.c.queues x.proc n).2.2=0:=by rw [ec]
  rw [show fd w x.proc n=gR w x.proc n by unfold fd;rw [hq,hw];rfl] at hZ hne;unfold gR at hZ hne;have hn2:aW (w.take (bq w.c.queues x.proc n).1 (bq w.c.queues x.proc n).2.1).c.queues n=true:=by
   show aW (bq w.c.queues x.proc n).1 n=true;rw [hst.hasE];exact hn
  have hev:(w.take (bq w.c.queues x.proc n).1 (bq w.c.queues x.proc n).2.1).ev.length≤900000:=by rw [jP];omega
  have kB:=GH d _ x.proc n l hn2 hne hev hZ;obtain ⟨C,hC⟩:∃C,bq w.c.queues x.proc n=C:=⟨_,rfl⟩;have kC:=Er w.c.queues x.proc n hC;rw [hC] at h0 hcl kB;obtain ⟨C1,C2,C3⟩:=C;obtain rfl:C3=0:=h0;have kT:=Ao d w C1 C2 (by dsimp only at hcl;omega);obtain ⟨w1,hw1⟩:∃w1,w.take C1 C2=w1:=⟨_,rfl⟩;have hp1:w1.c.procs=w.c.procs:=by rw [←hw1];rfl
  rw [show (w.take (C1,C2,(0:Int)).1 (C1,C2,(0:Int)).2.1)=w1 from hw1] at kB;rw [hw1] at kT;have hx1:w1.c.procs[i]? = some x:=by rw [hp1];exact hx
  clear hne hZ hst ec hn2 hev hC hw1 hp1;repeat' (first|refine af ?_ ?_|(refine aa 9 rfl ?_;first|(refine cB [] (ir w.c.queues n hF) ?_)|(refine cB [] (kW) ?_)|(refine cB [] (kL) ?_)|(refine cC [] (kC) ?_)|(refine cH (qf [(0,0),(1,1),(2,2),(4,1004)]) (kT) ?_)|(refine cH (qf [(0,0),(1,1),(2,1004),(4,1006)]) (kB) ?_))|(refine aa 21 rfl ?_;refine sx (ay rfl rfl) ?_)|refine ae ?_|exact ah|(refine ab fun hb=>?_;first|(omega)|skip)|(exact mS (qf [(4,1006)])))
def Lp (x:Pc) (l:List Tm) (w:Wk):Prop:=yP x l w∧(cU x l w).c.queues≠[]∧w.ev.length+35*l.length≤800000
theorem oZ (d:Nat) (w:Wk) (i:Nat) {x:Pc} (hx:w.c.procs[i]? = some x) (hok:cy x.req.expr=[]∨Lp x (cy x.req.expr) w) {Z:Wk} (hZ:az w i=Z):FSpec prog 152 [gA,pp i] (HP d w) [4] (.tup []) (HQ d Z):=by
 refine aP func152 ?_;have hi:=(List.getElem?_eq_some_iff.1 hx).1;have hpc:=dJ hx;have hW:az w i=dQ (cU x (cy x.req.expr) w) i:=by unfold az;rw [hpc]
 rw [hW] at hZ;have h8:=cd x.req.expr;obtain ⟨L,hL⟩:∃L,cy x.req.expr=L:=⟨_,rfl⟩;have kA:=jR d x.req.expr hL;rw [hL] at hZ h8 hok;obtain ⟨F,hF⟩:∃F,cU x L w=F:=⟨_,rfl⟩;have hFp:F.c.procs=w.c.procs:=by rw [←hF];exact cV x L w
 have hFx:F.c.procs[i]? = some x:=by rw [hFp];exact hx
 rw [hF] at hZ;have kR:=Hk d F.c.procs i hFx;obtain rfl:F.setP i { x with waiting:=false,req:=Rq.zero,since:=0 } = Z:=by rw [←hZ];unfold dQ;rw [dJ hFx]
 clear hZ hW;repeat' (first|refine af ?_ ?_|refine aa 9 rfl (cC [] (kA) ?_)|(refine aa 21 rfl ?_;refine sx (ay rfl rfl) ?_)|refine ae ?_|exact ah|refine ab fun hb=>?_)
 refine ai (fun y:Nat×Wk=>y.1≤L.length∧cU x (L.drop y.1) y.2=F∧y.2.c.procs[i]? = some x∧(L.drop y.1=[]∨Lp x (L.drop y.1) y.2)) (fun y=>bt [0,1,2,1011] [(0,.v gA),(1,.v (pp i)),(11,.c (.sl cw L)),(12,.i L.length),(13,.i y.1)] [(0,.box 85 (An y.2 1011)),(1,.arr 63 (eI d) y.2.c.procs),(1011,.arr 67 fG y.2.ev)]) (fun y=>L.length-y.1) (0,w) ⟨Nat.zero_le _,hF,hx,hok⟩ (by exact a8 (qf [(1011,2)])) ?_;rintro ⟨k,u⟩ ⟨hk,hu,hux,huo⟩;dsimp only at *
 by_cases hlt:k<L.length
 ·rw [List.drop_eq_getElem_cons hlt] at hu huo;obtain ⟨⟨u1,u2,u3,u4⟩,u5,u6⟩:=huo.resolve_left (List.cons_ne_nil _ _);obtain ⟨a,ha⟩:∃a,L[k]=a:=⟨_,rfl⟩;have hga:L[k]? = some a:=by rw [List.getElem?_eq_getElem hlt,ha]
  rw [ha] at hu u2 u4 u5;have hne:(bo u x a.name).c.queues≠[]:=fun h=>u5 (ue (l:=L.drop (k+1)) (w:=bo u x a.name) h);have hev:=je u x a.name;rw [List.length_cons] at u6;obtain ⟨z,hz⟩:∃z,bo u x a.name=z:=⟨_,rfl⟩;have kL:=EJ d u i a.name hux u1 u2 hne (by omega) hz;have hzp:z.c.procs=u.c.procs:=by rw [←hz];exact lC u x a.name
  have hu:cU x (L.drop (k+1)) z=F:=by rw [←hz];exact hu
  rw [hz] at u4 hev;have u5:(cU x (L.drop (k+1)) z).c.queues≠[]:=by rw [←hz];exact u5
  clear hne hok hF hz;repeat' (first|refine af ?_ ?_|refine aa 9 rfl (cH (qf [(0,0),(1,1),(2,1011),(4,1020)]) (kL) ?_)|refine ae ?_|exact ah|refine ab fun hb=>?_)
  refine ⟨(k+1,z),⟨by dsimp only;omega,hu,by dsimp only;rw [hzp];exact hux,.inr ⟨u4,u5,by dsimp only;omega⟩⟩,by dsimp only;omega,?_⟩;dsimp only;exact a8 (qf [(1011,1020)])
 ·rw [List.drop_eq_nil_of_le (by omega)] at hu;obtain rfl:u=F:=hu;repeat' (first|refine af ?_ ?_|refine aa 9 rfl (cH (qf [(1,1)]) (kR) ?_)|refine ae ?_|exact ah|refine ab fun hb=>?_|(exact mS (qf [(4,1011)])))
theorem GJ (d:Nat) (w:Wk) (i:Nat) {x:Pc} (n:ByteArray) (hx:w.c.procs[i]? = some x) (hn:aW w.c.queues n=true) (hr:ao (be w.c.queues n).holds x.proc=ax x.led.entries n∨(dz x.led ⟨n,ax x.led.entries n,ao (be w.c.queues n).holds x.proc⟩).2=0) (hl:w.ev.length≤900000) {Z:Wk} (hZ:gI w i x.proc n=Z):FSpec prog 278 [gA,pp i,.one (.sc (.string n))] (HP d w) [4] (.tup []) (HQ d Z):=by
 refine aP func278 ?_;obtain ⟨j,hj,hF,hq⟩:=lz hn;have hpc:=dJ hx;unfold gI at hZ;rw [hpc] at hZ;rw [hq] at hZ hr;obtain ⟨l,hL⟩:∃l,ax x.led.entries n=l:=⟨_,rfl⟩;have kL:=EG x.led n hL;obtain ⟨h,hh⟩:∃h,ao w.c.queues[j].holds x.proc=h:=⟨_,rfl⟩;have kH:=eJ w.c.queues[j] x.proc;rw [hh] at kH;rw [hL,hh] at hZ hr;by_cases hhl:h=l
 ·rw [decide_eq_true hhl] at hZ;obtain rfl:w=Z:=hZ;repeat' (first|refine af ?_ ?_|(refine aa 9 rfl ?_;first|(refine cB [] (ir w.c.queues n hF) ?_)|(refine cB [] (kL) ?_)|(refine cB [] (kH) ?_))|(refine aa 21 rfl ?_;refine sx (ay rfl rfl) ?_)|refine ae ?_|exact ah|(refine ab fun hb=>?_;first|(omega)|(exact absurd hhl.symm hb)|skip)|(exact mS (qf [(4,2)])))
 ·rw [decide_eq_false hhl,cond_false] at hZ;have hr:=hr.resolve_left hhl;obtain ⟨R,hR⟩:∃R,dz x.led ⟨n,l,h⟩=R:=⟨_,rfl⟩;rw [hR] at hZ hr;obtain ⟨R1,R2⟩:=R;obtain rfl:R2=0:=hr;obtain rfl:w.setP i { x with led:=R1 } = Z:=hZ;have kR:=EI x.led ⟨n,l,h⟩ hR;repeat' (first|refine af ?_ ?_|(refine aa 9 rfl ?_;first|(refine cB [] (ir w.c.queues n hF) ?_)|(refine cB [] (kL) ?_)|(refine cB [] (kH) ?_)|(refine cC [] (kR) ?_))|(refine aa 21 rfl ?_;refine sx (ay rfl rfl) ?_)|refine ae ?_|(refine aa 4 rfl ?_;refine aR (aq (z:={ x with led:=R1 }) rfl rfl rfl rfl hx rfl rfl rfl rfl (Nat.le_of_ble_eq_true rfl) rfl rfl) rfl rfl rfl ?_)|exact ah|(refine ab fun hb=>?_;first|(omega)|(exact absurd hb.symm hhl)|(exact absurd rfl hb)|skip)|(exact mS (qf [(4,2)])))
end Go.Proofs.YtjndcdcbjidocaaGreatDoor
