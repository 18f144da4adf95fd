/- Part 20 of 24 of the proof of rollbackBytes_holds (no condition). -/
import Derived.Test.YtdaajdflefnjfaaGreatL19
import Derived.Shelf.SlSortCmp.NoneTotal
import Derived.Shelf.Small.Bits
import Derived.Shelf.Small.Strs
import Derived.Shelf.Strconv.Itoa0
import Derived.Shelf.Sort.Plain
import Derived.Ground.SlsfProg
import Derived.Shelf.SlGeneric
import Derived.Shelf.SlLaysF0
import Derived.Shelf.Slices.In.SortNone
import Derived.Shelf.Slices.CompactS
import Derived.Ground.NamesProg
import Derived.Ground.Names2Prog
set_option linter.unusedVariables false
set_option linter.unusedSimpArgs false
set_option maxRecDepth 100000
set_option maxHeartbeats 64000000
namespace Go.Proofs.YtdaajdflefnjfaaGreat
open Go.RowKit Go.Proofs.Tryz
section
variable {β:Type} {z a:β} {n:ByteArray}
theorem ym (m:ByteArray):∀l:List (ByteArray×β),pM z m (dL n a l)=bif aT n m then a else pM z m l
 | []=>rfl
 | x :: l=>by
  have ih:=ym m l
  unfold dL
  cases hx:aT x.1 n with
  | true =>
   obtain rfl:=aW.1 hx
   show (bif aT x.1 m then a else pM z m l)=bif aT x.1 m then a else bif aT x.1 m then x.2 else pM z m l
   cases aT x.1 m <;> rfl
  | false =>
   show (bif aT x.1 m then x.2 else pM z m (dL n a l))=bif aT n m then a else bif aT x.1 m then x.2 else pM z m l
   rw [ih]
   cases h1:aT x.1 m with
   | false=>rfl
   | true =>
    cases h2:aT n m with
    | false=>rfl
    | true =>
     obtain rfl:=aW.1 h1
     obtain rfl:=aW.1 h2
     rw [aW.2 rfl] at hx
     cases hx
theorem wv:∀l:List (ByteArray×β),(dL n a l).length=bif dD n (l.map (·.1)) then l.length else l.length+1
 | []=>rfl
 | x :: l=>by
  have ih:=wv l
  unfold dL
  show _=bif (aT x.1 n || dD n (l.map (·.1))) then _ else _
  cases hx:aT x.1 n with
  | true=>rfl
  | false =>
   rw [Bool.false_or,cond_false,List.length_cons,ih,List.length_cons]
   cases dD n (l.map (·.1)) <;> rfl
theorem ww (m:ByteArray):∀l:List (ByteArray×β),dD m ((dL n a l).map (·.1))=(aT n m || dD m (l.map (·.1)))
 | []=>rfl
 | x :: l=>by
  have ih:=ww m l
  unfold dL
  cases hx:aT x.1 n with
  | true =>
   obtain rfl:=aW.1 hx
   show (aT x.1 m || dD m (l.map (·.1)))=(aT x.1 m || (aT x.1 m || dD m (l.map (·.1))))
   cases aT x.1 m <;> rfl
  | false =>
   show (aT x.1 m || dD m ((dL n a l).map (·.1)))=(aT n m || (aT x.1 m || dD m (l.map (·.1))))
   rw [ih]
   cases aT x.1 m <;> cases aT n m <;> rfl
end
def eD:List (ByteArray×Am)→List En→List (ByteArray×Am)
 | m,[]=>m
 | m,e :: l=>eD (dL e.name e.after m) l
def fF (l:List En):List (ByteArray×Am):=eD [] l
theorem na:∀(l k:List En) (m:List (ByteArray×Am)),eD m (l++k)=eD (eD m l) k
 | [],_,_=>rfl
 | e :: l,k,m=>na l k _
theorem CO (l:List En) (e:En):fF (l++[e])=dL e.name e.after (fF l):=by
 unfold fF
 rw [na]
 rfl
theorem sV (n:ByteArray):∀(l:List En) (m:List (ByteArray×Am)),tK n (eD m l)=dk n (tK n m) l
 | [],_=>rfl
 | e :: l,m=>by
  show tK n (eD (dL e.name e.after m) l)=dk n (bif aT e.name n then e.after else tK n m) l
  rw [sV n l,show tK n (dL e.name e.after m)=_ from ym n m]
theorem pO (l:List En) (n:ByteArray):tK n (fF l)=aw l n:=sV n l []
theorem Fp (n m:ByteArray) (l:List ByteArray):dD m (gH n l)=(aT n m || dD m l):=by
 rw [Bool.eq_iff_iff,gm,nT,Bool.or_eq_true,aW,gm]
 exact or_congr_left eq_comm
theorem qE:∀(l:List En) (m:List (ByteArray×Am)) (acc:List ByteArray),m.length=acc.length→(∀x,dD x (m.map (·.1))=dD x acc)→(eD m l).length=(dc acc l).length
 | [],_,_,h,_=>h
 | e :: l,m,acc,h,hh=>by
  show (eD (dL e.name e.after m) l).length=(dc (bif dD e.name acc then acc else gH e.name acc) l).length
  refine qE l _ _ ?_ fun x=>?_
  ·rw [wv,hh,h]
   cases dD e.name acc with
   | true=>rfl
   | false=>rw [cond_false,cond_false,jb]
  ·rw [ww,hh]
   cases ha:dD e.name acc with
   | false=>rw [cond_false,Fp]
   | true =>
    rw [cond_true]
    cases he:aT e.name x with
    | false=>rfl
    | true=>rw [←aW.1 he,ha];rfl
theorem sW (l:List En):(fF l).length=(br l).length:=qE l [] [] rfl fun _=>rfl
theorem uL:∀(l:List En) (m:List (ByteArray×Am)),m.length≤(eD m l).length
 | [],_=>Nat.le_refl _
 | e :: l,m=>by
  refine Nat.le_trans ?_ (uL l (dL e.name e.after m))
  rw [wv]
  cases dD e.name (m.map (·.1)) <;> simp
theorem CP (l k:List En):(fF l).length≤(fF (l++k)).length:=by
 unfold fF
 rw [na]
 exact uL k _
theorem qF (n:Int):∀(l:List Sv) (k i:Nat) (h:i<l.length),l[i].label=n→(aJ n k l=((k+i:Nat):Int)↔aJ n k (l.take i)<0)
 | s :: l,k,0,_,hn=>by
  have hn:s.label=n:=hn
  show (bif decide (s.label=n) then (k:Int) else _)=_↔_
  rw [decide_eq_true hn]
  simp [aJ]
 | s :: l,k,i+1,h,hn=>by
  have ih:=qF n l (k+1) i (by simpa using h) (by simpa using hn)
  show (bif decide (s.label=n) then (k:Int) else aJ n (k+1) l)=_↔(bif decide (s.label=n) then (k:Int) else aJ n (k+1) (l.take i))<0
  by_cases hs:s.label=n
  ·rw [decide_eq_true hs,cond_true,cond_true]
   constructor <;> intro h <;> omega
  ·rw [decide_eq_false hs,cond_false,cond_false,←ih,show k+1+i=k+(i+1) by omega]
def JO (all:List Sv) (n:Int):Nat→Int→List Sv→Bool
 | _,_,[]=>true
 | k,at_,s :: l=>decide (1≤s.label) && decide (s.label≤99) && decide (aJ s.label 0 (all.take k)<0) && decide (at_≤s.at_) && decide (s.at_≤n) && JO all n (k+1) s.at_ l
theorem Fq (all:List Sv) (n:Int):∀(l:List Sv) (k:Nat) (at_:Int),all.drop k=l→0≤at_→JO all n k at_ l=mo all n k at_ l
 | [],_,_,_,_=>rfl
 | s :: l,k,at_,h,h0=>by
  have hk:k<all.length:=by
   have:=congrArg List.length h
   simp at this
   omega
  have hs:all[k]=s∧all.drop (k+1)=l:=by
   rw [List.drop_eq_getElem_cons hk] at h
   injection h with h1 h2
   exact ⟨h1,h2⟩
  have hf:=qF s.label all 0 k hk (by rw [hs.1])
  rw [Nat.zero_add] at hf
  show (decide (1≤s.label) && decide (s.label≤99) && decide (aJ s.label 0 (all.take k)<0) && decide (at_≤s.at_) && decide (s.at_≤n) && JO all n (k+1) s.at_ l)=(decide (1≤s.label) && decide (s.label≤99) && decide (0≤s.at_) && decide (s.at_≤n) && decide (at_≤s.at_) && decide (aJ s.label 0 all=(k:Int)) && mo all n (k+1) s.at_ l)
  by_cases ha:at_≤s.at_
  ·rw [Fq all n l (k+1) s.at_ hs.2 (by omega),decide_eq_decide.2 hf.symm,decide_eq_true ha,decide_eq_true (show 0≤s.at_ by omega)]
   cases decide (1≤s.label) <;> cases decide (s.label≤99) <;> cases decide (s.at_≤n) <;> cases decide (aJ s.label 0 all=(k:Int)) <;> simp
  ·rw [decide_eq_false ha]
   simp
theorem tL:prog.underlying 127=some (.map 9 29):=by kernel_rfl
theorem Ab:prog.underlying 9=some .string:=by kernel_rfl
theorem wx (w:World):(zeroValue 29).run prog w = .ok (Kb ⟨0,0⟩) w:=by kernel_rfl
theorem H2 (m:Int):FSpec prog 80 [.one (.sc (.int .i64 m))] [] [] (.b (cl m)) [] :=
 aS (fun b W=>by kernel_rfl) rfl fun w S ρ vs _ h=>by
  match vs,h with
  | [_],⟨rfl,_⟩=>exact (iK m w).mono fun e w' h=>⟨_,h.1,by rw [h.2];exact Below.refl _ _,rfl⟩
theorem Fr (a b:Int):FSpec prog 101 [.one (.sc (.int .i64 a)),.one (.sc (.int .i64 b))] [] [] (.b (dy a b)) [] :=
 aS (fun b W=>by kernel_rfl) rfl fun w S ρ vs _ h=>by
  match vs,h with
  | [_,_],⟨rfl,rfl,_⟩=>exact (rc a b w).mono fun _ _=>lM
theorem Fs (a:Am):FSpec prog 35 [a.a] [] [] (.b (aZ a)) []:=by
 refine aX func35 ?_
 have kM:=H2 a.mode
 obtain ⟨m,hm⟩:∃m,cl a.mode=m:=⟨_,rfl⟩
 rw [hm] at kM
 have hu:aZ a=(m && decide (a.units=0) || decide (a.mode=0) && decide (1≤a.units) && decide (a.units≤8)):=by rw [←hm];rfl
 have h0:a.mode=0→m=false:=fun h=>by rw [←hm,h];rfl
 repeat' (first
  | refine ah ?_ ?_
  | refine aa 9 rfl (cB [] (kM) ?_)
  | refine af ?_
  | exact ai|refine ae fun hb=>?_)
 all_goals (refine gz ?_;rw [hu];simp [*] <;> rfl)
theorem JP (a b:Am):FSpec prog 63 [a.a,b.a] [] [] (.b (cY a b)) []:=by
 refine aX func63 ?_
 have kA:=Fs a
 have kB:=Fs b
 have kC:=Fr b.mode a.mode
 obtain ⟨u,hu⟩:∃u,aZ a=u:=⟨_,rfl⟩
 obtain ⟨v,hv⟩:∃v,aZ b=v:=⟨_,rfl⟩
 obtain ⟨c,hc⟩:∃c,dy b.mode a.mode=c:=⟨_,rfl⟩
 rw [hu] at kA
 rw [hv] at kB
 rw [hc] at kC
 have hg:cY a b=(v && !decide (a=b) && (aO a || u && (bif !decide (a.mode=0) then c else decide (a.units<b.units)))):=by rw [←hu,←hv,←hc];rfl
 have f1:b.mode=0→c=false:=fun h=>by rw [←hc,h];rfl
 have f2:u=true→v=true→a.mode=0→b.mode≠0→¬a.units<b.units:=fun h1 h2 h3 h4=>by
  rw [←hu] at h1
  rw [←hv] at h2
  have e1:=cw h1
  have e2:=cw h2
  simp only [fe] at e1 e2
  omega
 have hz:aO a=decide (a=⟨0,0⟩):=rfl
 rw [hz] at hg
 clear hu hv hc hz
 repeat' (first
  | refine ah ?_ ?_
  | (refine aa 9 rfl ?_;first
   | (refine cB [] (kA) ?_)
   | (refine cB [] (kB) ?_)
   | (refine cB [] (kC) ?_))
  | refine af ?_
  | exact ai|refine ae fun hb=>?_)
 all_goals (refine gz ?_;rw [hg])
 all_goals first
  | (simp [*];done)
  | (cases u <;> cases v <;> cases c <;> simp_all;done)
theorem Ac (l:List Sv) (n:Int) {K:Int} (hK:aJ n 0 l=K):FSpec prog 102 [.one (.sl iN l),.one (.sc (.int .i64 n))] [] [] (.i K) []:=by
 refine aX func102 ?_
 refine aR (fun c ρ a w hr=>cu (t:=0) hr rfl) (fun hl0=>?_)
 repeat' (first
  | refine ah ?_ ?_
  | refine af ?_
  | exact ai|refine ae fun hb=>?_)
 refine ak (fun i=>i≤l.length∧aJ n i (l.drop i)=K) (fun i=>bH [] [(1,.c (.sc (.int .i64 n))),(7,.c (.sl iN l)),(8,.i l.length),(9,.i i)] []) (fun i=>l.length-i) 0 ⟨Nat.zero_le _,hK⟩ (by exact ao (qf [])) ?_
 clear hK
 rintro i ⟨hi,hs⟩
 by_cases hlt:i<l.length
 ·obtain ⟨x,hx⟩:∃x,l[i]? = some x:=⟨_,List.getElem?_eq_getElem hlt⟩
  have ex:l[i]=x:=(List.getElem?_eq_some_iff.1 hx).2
  rw [List.drop_eq_getElem_cons hlt,ex] at hs
  have hs:(bif decide (x.label=n) then (i:Int) else aJ n (i+1) (l.drop (i+1)))=K:=hs
  by_cases he:x.label=n
  ·rw [decide_eq_true he] at hs
   obtain rfl:K=i:=hs.symm
   repeat' (first
    | refine ah ?_ ?_
    | refine af ?_
    | exact ai|(refine ae fun hb=>?_;first|(exact absurd he hb)|skip)
    | (refine aE (qf []) ?_;exact ab))
  ·rw [decide_eq_false he,cond_false] at hs
   repeat' (first
    | refine ah ?_ ?_
    | refine af ?_
    | exact ai|(refine ae fun hb=>?_;first|(exact absurd hb he)|skip))
   refine ⟨i+1,⟨by omega,hs⟩,by omega,?_⟩
   exact ao (qf [])
 ·rw [List.drop_eq_nil_of_le (by omega)] at hs
  obtain rfl:K = -1:=hs.symm
  repeat' (first
   | refine ah ?_ ?_
   | refine af ?_
   | exact ai|refine ae fun hb=>?_
   | (refine aE (qf []) ?_;exact ab))
theorem JQ (s:List Sv) (n:Int) {b:Bool} (hB:(decide (s.length≤4) && JO s n 0 0 s)=b):FSpec prog 64 [.one (.sl iN s),.one (.sc (.int .i64 n))] [] [] (.b b) []:=by
 refine aX func64 ?_
 by_cases h4:s.length≤4
 case neg =>
  obtain rfl:b=false:=by rw [←hB,decide_eq_false h4];rfl
  repeat' (first
   | refine ah ?_ ?_
   | refine af ?_
   | exact ai|refine ae fun hb=>?_
   | (refine aE (qf []) ?_;exact ab))
 rw [decide_eq_true h4,Bool.true_and] at hB
 repeat' (first
  | refine ah ?_ ?_
  | refine af ?_
  | exact ai|refine ae fun hb=>?_)
 refine ak (fun y:Nat×Int=>y.1≤s.length∧JO s n y.1 y.2 (s.drop y.1)=b) (fun y=>bH [] [(0,.c (.sl iN s)),(1,.c (.sc (.int .i64 n))),(5,.c (.sc (.int .i64 y.2))),(11,.c (.sl iN s)),(12,.i s.length),(13,.i y.1)] []) (fun y=>s.length-y.1) (0,0) ⟨Nat.zero_le _,hB⟩ (by exact ao (qf [])) ?_
 clear hB
 rintro ⟨i,p⟩ ⟨hi,hs⟩
 dsimp only at *
 by_cases hlt:i<s.length
 ·obtain ⟨x,hx⟩:∃x,s[i]? = some x:=⟨_,List.getElem?_eq_getElem hlt⟩
  have ex:s[i]=x:=(List.getElem?_eq_some_iff.1 hx).2
  rw [List.drop_eq_getElem_cons hlt,ex] at hs
  have hs:(decide (1≤x.label) && decide (x.label≤99) && decide (aJ x.label 0 (s.take i)<0) && decide (p≤x.at_) && decide (x.at_≤n) && JO s n (i+1) x.at_ (s.drop (i+1)))=b:=hs
  obtain ⟨T,hT⟩:∃T,s.take i=T:=⟨_,rfl⟩
  have hT2:s.take ((i:Int)).toNat=T:=by rw [Int.toNat_natCast];exact hT
  obtain ⟨K,hK⟩:∃K,aJ x.label 0 T=K:=⟨_,rfl⟩
  have kP:=Ac T x.label hK
  rw [hT,hK] at hs
  clear hT hK
  by_cases hok:(1≤x.label∧x.label≤99)∧K<0∧p≤x.at_∧x.at_≤n
  ·obtain ⟨⟨k1,k2⟩,k3,k4,k5⟩:=hok
   rw [decide_eq_true k1,decide_eq_true k2,decide_eq_true k3,decide_eq_true k4,decide_eq_true k5] at hs
   simp only [Bool.true_and] at hs
   repeat' (first
    | refine ah ?_ ?_
    | refine aa 9 rfl (cB [] (kP) ?_)
    | (refine aa 14 rfl ?_;refine sx (nZ rfl rfl rfl rfl (by omega) (by omega) hT2) ?_)
    | refine af ?_
    | exact ai|refine ae fun hb=>?_)
   refine ⟨(i+1,x.at_),⟨by dsimp only;omega,hs⟩,by dsimp only;omega,?_⟩
   exact ao (qf [])
  ·have hok1:1≤x.label→x.label≤99→K<0→p≤x.at_→x.at_≤n→False:=fun a b c d e=>hok ⟨⟨a,b⟩,c,d,e⟩
   obtain rfl:b=false:=by
    rw [←hs]
    cases hh:(decide (1≤x.label) && decide (x.label≤99) && decide (K<0) && decide (p≤x.at_) && decide (x.at_≤n)) with
    | false=>rfl
    | true =>
     simp only [Bool.and_eq_true,decide_eq_true_eq] at hh
     exact (hok1 hh.1.1.1.1 hh.1.1.1.2 hh.1.1.2 hh.1.2 hh.2).elim
   clear hok hs
   repeat' (first
    | refine ah ?_ ?_
    | refine aa 9 rfl (cB [] (kP) ?_)
    | (refine aa 14 rfl ?_;refine sx (nZ rfl rfl rfl rfl (by omega) (by omega) hT2) ?_)
    | refine af ?_
    | exact ai|(refine ae fun hb=>?_;first|(exact (hok1 (by omega) (by omega) (by omega) (by omega) (by omega)).elim)|skip)
    | (refine aE (qf []) ?_;exact ab))
 ·rw [List.drop_eq_nil_of_le (by omega)] at hs
  obtain rfl:b=true:=hs.symm
  repeat' (first
   | refine ah ?_ ?_
   | refine af ?_
   | exact ai|refine ae fun hb=>?_
   | (refine aE (qf []) ?_;exact ab))
theorem Ft (l:List En):FSpec prog 106 [.one (.sl iR l)] [] [0] (.c (.own 0)) [(0,some (.mp (Bj (fF l))))]:=by
 refine aX func106 ?_
 refine aR (fun c ρ a w hr=>cu (t:=0) hr rfl) (fun hl0=>?_)
 repeat' (first
  | refine ah ?_ ?_
  | (refine aa 22 rfl ?_;refine sx (uI rfl rfl) ?_)
  | refine af ?_
  | exact ai|refine ae fun hb=>?_)
 refine ak (fun y:Nat×List (ByteArray×Am)=>y.1≤l.length∧eD y.2 (l.drop y.1)=fF l) (fun y=>bH [6] [(3,.c (.own 6)),(7,.c (.sl iR l)),(8,.i l.length),(9,.i y.1)] [(6,.mp (Bj y.2))]) (fun y=>l.length-y.1) (0,[]) ⟨Nat.zero_le _,rfl⟩ (by exact ao (qf [])) ?_
 rintro ⟨i,m⟩ ⟨hi,hs⟩
 dsimp only at *
 by_cases hlt:i<l.length
 ·obtain ⟨e,he⟩:∃e,l[i]? = some e:=⟨_,List.getElem?_eq_getElem hlt⟩
  have ee:l[i]=e:=(List.getElem?_eq_some_iff.1 he).2
  rw [List.drop_eq_getElem_cons hlt,ee] at hs
  repeat' (first
   | refine ah ?_ ?_
   | (refine aa 24 rfl ?_;refine LW (pN _ _ tL Ab rfl rfl rfl rfl rfl rfl) ?_)
   | refine af ?_
   | exact ai|refine ae fun hb=>?_)
  refine ⟨(i+1,dL e.name e.after m),⟨by dsimp only;omega,hs⟩,by dsimp only;omega,?_⟩
  exact ao (qf [])
 ·rw [List.drop_eq_nil_of_le (by omega)] at hs
  obtain rfl:m=fF l:=hs
  repeat' (first
   | refine ah ?_ ?_
   | refine af ?_
   | exact ai|refine ae fun hb=>?_
   | (refine aE (qf [(0,6)]) ?_;exact ab))
theorem Ln (g:Lg) (n:ByteArray) {a:Am} (ha:aw g.entries n=a):FSpec prog 71 [g.a,.one (.sc (.string n))] [] [] (.v a.a) []:=by
 refine aX func71 ?_
 have kS:=Ft g.entries
 have hg:tK n (fF g.entries)=a:=(pO _ _).trans ha
 generalize fF g.entries=m at *
 repeat' (first
  | refine ah ?_ ?_
  | refine aa 9 rfl (cH (qf [(0,1000)]) (kS) ?_)
  | (refine aa 23 rfl ?_;refine sx (md _ _ tL Ab wx rfl rfl rfl rfl hg) ?_)
  | refine af ?_
  | exact ai|refine ae fun hb=>?_
  | (refine aE (qf []) ?_;exact ab))
theorem Bl (l:List En) (s:List Sv) {b:Bool} (hB:jV l s=b):FSpec prog 25 [.ag [.sl iR l,.sl iN s]] [] [] (.b b) []:=by
 refine aX func25 ?_
 refine aR (fun c ρ a w hr=>dQ (t:=0) (i:=0) hr rfl rfl) (fun hl0_0=>?_)
 refine aR (fun c ρ a w hr=>dQ (t:=0) (i:=1) hr rfl rfl) (fun hl0_1=>?_)
 repeat' (first
  | refine ah ?_ ?_
  | (refine aa 22 rfl ?_;refine sx (uI rfl rfl) ?_)
  | refine af ?_
  | exact ai|refine ae fun hb=>?_)
 refine ak (fun y:Nat×List (ByteArray×Am)=>y.1≤l.length∧y.2=fF (l.take y.1)∧y.2.length≤8∧fM (l.take y.1) (l.drop y.1)=fM [] l) (fun y=>bH [1,6] [(1,.c (.ptr 1 0)),(3,.c (.own 6)),(8,.c (.sl iR l)),(9,.i l.length),(10,.i y.1)] [(1,.box 27 [.sl iR l,.sl iN s]),(6,.mp (Bj y.2))]) (fun y=>l.length-y.1) (0,[]) ⟨Nat.zero_le _,rfl,by simp,by simp⟩ (by exact ao (qf [])) ?_
 rintro ⟨i,m⟩ ⟨hi,hm,hm8,hs⟩
 dsimp only at *
 by_cases hlt:i<l.length
 ·obtain ⟨e,he⟩:∃e,l[i]? = some e:=⟨_,List.getElem?_eq_getElem hlt⟩
  have ee:l[i]=e:=(List.getElem?_eq_some_iff.1 he).2
  have hst:fM [] l=(bJ e.name.toList && decide (e.before=aw (l.take i) e.name) && cY e.before e.after && fM (l.take (i+1)) (l.drop (i+1))):=by
   rw [←hs,List.drop_eq_getElem_cons hlt,ee,List.take_succ_eq_append_getElem hlt,ee]
   rfl
  obtain ⟨h,hh⟩:∃h,aw (l.take i) e.name=h:=⟨_,rfl⟩
  have hg:tK e.name m=h:=by rw [hm,pO];exact hh
  obtain ⟨m2,hm2⟩:∃m2,dL e.name e.after m=m2:=⟨_,rfl⟩
  have hm3:m2=fF (l.take (i+1)):=by rw [←hm2,hm,List.take_succ_eq_append_getElem hlt,ee,CO]
  have kN:=z6 e.name
  have kG:=JP e.before e.after
  rw [hh] at hst
  clear hh hm
  by_cases hok:(bJ e.name.toList=true∧e.before=h∧cY e.before e.after=true)∧m2.length≤8
  ·obtain ⟨⟨k1,k2,k3⟩,k4⟩:=hok
   rw [k1] at kN
   rw [k3] at kG
   have hlm:(Bj m2).length=m2.length:=by simp [lh]
   repeat' (first
    | refine ah ?_ ?_
    | (refine aa 7 rfl ?_;refine sx (uJ tL rfl rfl rfl) ?_)
    | (refine aa 9 rfl ?_;first
     | (refine cB [] (kN) ?_)
     | (refine cB [] (kG) ?_))
    | (refine aa 23 rfl ?_;refine sx (md _ _ tL Ab wx rfl rfl rfl rfl hg) ?_)
    | (refine aa 24 rfl ?_;refine LW (pN _ _ tL Ab rfl rfl rfl rfl rfl hm2) ?_)
    | refine af ?_
    | exact ai|(refine ae fun hb=>?_;first|(exact absurd k2 hb)|skip))
   refine ⟨(i+1,m2),⟨by dsimp only;omega,hm3,k4,?_⟩,by dsimp only;omega,?_⟩
   ·dsimp only
    rw [hst,k1,k3];simp [k2]
   ·exact ao (qf [])
  ·obtain rfl:b=false:=by
    rw [←hB]
    cases h1:fM [] l with
    | false=>simp [jV,h1]
    | true =>
     rw [hst] at h1
     simp only [Bool.and_eq_true,decide_eq_true_eq] at h1
     have h8:¬m2.length≤8:=fun h8=>hok ⟨⟨h1.1.1.1,h1.1.1.2,h1.1.2⟩,h8⟩
     have h9:¬(br l).length≤8:=fun h9=>h8 (by
      rw [hm3]
      have:=CP (l.take (i+1)) (l.drop (i+1))
      rw [List.take_append_drop,sW l] at this
      omega)
     simp [jV,h9]
   have hok1:bJ e.name.toList=true→e.before=h→cY e.before e.after=true→m2.length≤8→False:=fun a b c d=>hok ⟨⟨a,b,c⟩,d⟩
   obtain ⟨nb,hnb⟩:∃nb,bJ e.name.toList=nb:=⟨_,rfl⟩
   obtain ⟨gb,hgb⟩:∃gb,cY e.before e.after=gb:=⟨_,rfl⟩
   rw [hnb] at kN hok1
   rw [hgb] at kG hok1
   clear hok hst hnb hgb hm3
   have hlm:(Bj m2).length=m2.length:=by simp [lh]
   repeat' (first
    | refine ah ?_ ?_
    | (refine aa 7 rfl ?_;refine sx (uJ tL rfl rfl rfl) ?_)
    | (refine aa 9 rfl ?_;first
     | (refine cB [] (kN) ?_)
     | (refine cB [] (kG) ?_))
    | (refine aa 23 rfl ?_;refine sx (md _ _ tL Ab wx rfl rfl rfl rfl hg) ?_)
    | (refine aa 24 rfl ?_;refine LW (pN _ _ tL Ab rfl rfl rfl rfl rfl hm2) ?_)
    | refine af ?_
    | exact ai|(refine ae fun hb=>?_;first|(exact (hok1 (by assumption) (by assumption) (by assumption) (by omega)).elim)|skip)
    | (refine aE (qf []) ?_;exact ab))
 ·have hE:fM [] l=true:=by rw [←hs,List.drop_eq_nil_of_le (by omega)];rfl
  rw [List.take_of_length_le (by omega)] at hm
  have h8:(br l).length≤8:=by rw [←sW,←hm];exact hm8
  have h64:=xC (xB.1 hE) h8
  have hB2:(decide (s.length≤4) && JO s l.length 0 0 s)=b:=by
   rw [←hB,Fq s l.length s 0 0 rfl (Int.le_refl _)]
   simp [jV,hE,h8,show l.length≤72 by omega]
  have kV:=JQ s l.length hB2
  clear hB hB2 hE hs hm
  repeat' (first
   | refine ah ?_ ?_
   | refine aa 9 rfl (cB [] (kV) ?_)
   | refine af ?_
   | exact ai|refine ae fun hb=>?_
   | (refine aE (qf []) ?_;exact ab))
theorem Fu (p:Pr):FSpec prog 24 [p.a] [] [] (.b (fI p)) [] :=
 aS (fun b W=>by kernel_rfl) rfl fun w S ρ vs _ h=>by
  match vs,h with
  | [_],⟨h1,_⟩=>rw [Pr.open h1];exact (oU p w).mono fun _ _=>lM
theorem Fv (d:Nat) (r:Rq) {b:Bool} (hB:qL r=b):FSpec prog 26 [r.a d] [] [] (.b b) []:=by
 refine aX func26 ?_
 have kE:=Aa d r.expr
 repeat' (first
  | refine ah ?_ ?_
  | refine aa 9 rfl (cB [] (kE) ?_)
  | refine af ?_
  | exact ai|refine ae fun hb=>?_)
 all_goals (refine gz ?_;rw [←hB];simp [qL, *];try omega)
theorem qY (o:Opn) {b:Bool} (hB:mS o=b):FSpec prog 12 [o.a] [] [] (.b b) []:=by
 refine aX func12 ?_
 unfold mS at hB
 have kV:=Fu o.proc
 obtain ⟨v,hv⟩:∃v,fI o.proc=v:=⟨_,rfl⟩
 rw [hv] at kV hB
 cases v with
 | false =>
  obtain rfl:b=false:=by rw [←hB];rfl
  repeat' (first
   | refine ah ?_ ?_
   | refine aa 9 rfl (cB [] (kV) ?_)
   | refine af ?_
   | exact ai|refine ae fun hb=>?_
   | (refine aE (qf []) ?_;exact ab))
 | true =>
  by_cases hA:(o.label = -1∨1≤o.label∧o.label≤99)∧1≤o.cost∧o.cost≤1073741824∧o.lower.length≤8
  case neg =>
   obtain rfl:b=false:=by
    rw [←hB]
    cases hh:(true && (decide (o.label = -1) || decide (1≤o.label) && decide (o.label≤99)) && decide (1≤o.cost) && decide (o.cost≤1073741824) && decide (o.lower.length≤8)) with
    | false=>rfl
    | true =>
     simp only [Bool.and_eq_true,Bool.or_eq_true,decide_eq_true_eq] at hh
     exact absurd ⟨hh.1.1.1.2,hh.1.1.2,hh.1.2,hh.2⟩ hA
   have hA':(o.label = -1∨1≤o.label∧o.label≤99)→1≤o.cost→o.cost≤1073741824→o.lower.length≤8→False:=fun a b c d=>hA ⟨a,b,c,d⟩
   clear hA
   repeat' (first
    | refine ah ?_ ?_
    | refine aa 9 rfl (cB [] (kV) ?_)
    | refine af ?_
    | exact ai|(refine ae fun hb=>?_;first|(exact (hA' (by omega) (by omega) (by omega) (by omega)).elim)|skip)
    | (refine aE (qf []) ?_;exact ab))
  obtain ⟨hA1,hA2,hA3,hA4⟩:=hA
  have e1:(decide (o.label = -1) || decide (1≤o.label) && decide (o.label≤99))=true:=by simpa using hA1
  rw [e1,decide_eq_true hA2,decide_eq_true hA3,decide_eq_true hA4] at hB
  simp only [Bool.true_and] at hB
  repeat' (first
   | refine ah ?_ ?_
   | refine aa 9 rfl (cB [] (kV) ?_)
   | refine af ?_
   | exact ai|refine ae fun hb=>?_)
  all_goals
   refine ak (fun y:Nat×Option ByteArray=>y.1≤o.lower.length∧(y.1=0∧y.2=none∨0<y.1∧∃z,o.lower[((y.1:Int)-1).toNat]? = some z∧y.2=some z.name)∧tG y.2 (o.lower.drop y.1)=b) (fun y=>bH [1] [(1,.c (.ptr 1 0)),(39,.c (.sl cr o.lower)),(40,.i o.lower.length),(41,.i y.1)] [(1,.box 41 o.d)]) (fun y=>o.lower.length-y.1) (0,none) ⟨Nat.zero_le _,.inl ⟨rfl,rfl⟩,hB⟩ (by exact ao (qf [])) ?_
   clear hB e1 kV
   rintro ⟨i,p⟩ ⟨hi,hp,hs⟩
   dsimp only at *
   by_cases hlt:i<o.lower.length
   ·obtain ⟨a,ha⟩:∃a,o.lower[i]? = some a:=⟨_,List.getElem?_eq_getElem hlt⟩
    have ea:o.lower[i]=a:=(List.getElem?_eq_some_iff.1 ha).2
    rw [List.drop_eq_getElem_cons hlt,ea,px] at hs
    have kN:=z6 a.name
    have kU:=Fs a.am
    obtain ⟨n,hn⟩:∃n,bJ a.name.toList=n:=⟨_,rfl⟩
    obtain ⟨u,hu⟩:∃u,aZ a.am=u:=⟨_,rfl⟩
    have hz:aO a.am=decide (a.am=⟨0,0⟩):=rfl
    rw [hn] at kN hs
    rw [hu] at kU hs
    rw [hz] at hs
    clear hn hu hz
    obtain ⟨G,hG⟩:∃G,tG (some a.name) (o.lower.drop (i+1))=G:=⟨_,rfl⟩
    rw [hG] at hs
    rcases hp with ⟨h0,rfl⟩|⟨h0,y,hy,rfl⟩
    ·have hs:(n && (decide (a.am=⟨0,0⟩) || u) && true && G)=b:=hs
     repeat' (first
      | refine ah ?_ ?_
      | (refine aa 9 rfl ?_;first
       | (refine cB [] (kN) ?_)
       | (refine cB [] (kU) ?_))
      | refine af ?_
      | exact ai|refine ae fun hb=>?_)
     any_goals (refine gz ?_;rw [←hs];simp [*];done)
     all_goals
      refine ⟨(i+1,some a.name),⟨by dsimp only;omega,.inr ⟨by dsimp only;omega,a,?_,rfl⟩,?_⟩,by dsimp only;omega,?_⟩
      ·dsimp only
       rw [←ha]
       congr 1
       omega
      ·dsimp only
       rw [←hs,hG]
       simp [*]
      ·exact ao (qf [])
    ·have hs:(n && (decide (a.am=⟨0,0⟩) || u) && Op.bytesLess y.name.toList a.name.toList && G)=b:=hs
     repeat' (first
      | refine ah ?_ ?_
      | (refine aa 9 rfl ?_;first
       | (refine cB [] (kN) ?_)
       | (refine cB [] (kU) ?_))
      | refine af ?_
      | exact ai|refine ae fun hb=>?_)
     any_goals (refine gz ?_;rw [←hs];simp [*];done)
     all_goals
      refine ⟨(i+1,some a.name),⟨by dsimp only;omega,.inr ⟨by dsimp only;omega,a,?_,rfl⟩,?_⟩,by dsimp only;omega,?_⟩
      ·dsimp only
       rw [←ha]
       congr 1
       omega
      ·dsimp only
       rw [←hs,hG]
       simp [*]
      ·exact ao (qf [])
   ·rw [List.drop_eq_nil_of_le (by omega)] at hs
    obtain rfl:b=true:=hs.symm
    repeat' (first
     | refine ah ?_ ?_
     | refine af ?_
     | exact ai|refine ae fun hb=>?_
     | (refine aE (qf []) ?_;exact ab))
theorem li {e:MapEntry}:∀{l:List (Value×Value)} {i:Nat},e∈d8 i l↔∃j,l[j]? = some (e.key,e.val)∧e.born=i+j
 | [],i=>by simp [d8]
 | x :: l,i=>by
  show e∈(⟨x.1,x.2,i⟩ :: d8 (i+1) l)↔_
  rw [List.mem_cons,li]
  constructor
  ·rintro (rfl|⟨j,h1,h2⟩)
   ·exact ⟨0,rfl,rfl⟩
   ·exact ⟨j+1,by simpa using h1,by omega⟩
  ·rintro ⟨j,h1,h2⟩
   cases j with
   | zero =>
    have h1:some x=some (e.key,e.val):=h1
    injection h1 with h1
    subst h1
    exact .inl (by cases e;simp_all)
   | succ j=>exact .inr ⟨j,by simpa using h1,by omega⟩
theorem uM:∀{l:List (Value×Value)} {i:Nat},((d8 i l).map (·.born)).Nodup∧∀x∈d8 i l,i≤x.born
 | [],i=>by simp [d8]
 | x :: l,i=>by
  obtain ⟨h1,h2⟩:=uM (l:=l) (i:=i+1)
  constructor
  ·show (i :: (d8 (i+1) l).map (·.born)).Nodup
   refine List.nodup_cons.2 ⟨fun h=>?_,h1⟩
   obtain ⟨y,hy,e⟩:=List.mem_map.1 h
   have:=h2 y hy
   omega
  ·intro y hy
   rcases List.mem_cons.1 hy with rfl|hy
   ·exact Nat.le_refl _
   ·exact Nat.le_of_succ_le (h2 y hy)
section
variable {P:Program} {nt:Nat} {Ks:List Nat} {Q:Exit→Mst→Prop} {s:Mst} {o o2:Oper} {L:List (Value×Value)}
theorem CQ {t k r K E:Nat} {x:Operand} (ht:P.underlying t=some (.map K E)) (ho:o.op = .range t x) (hdk:o.dst=some r) (hx:s.ev x = .c (.own k)) (hk:s.h k=some (.mp L)):LOp P o s [k] ⟨.c (.own r),[(r,some (.it k L.length []))],[r]⟩:=by
 intro c st ρ a w hr h1 h2 h3 h4
 have e1:=h1 x (by simp [ho,Op.operands])
 have hv1:=hr.ev x
 rw [e1,hx] at hv1
 have hv1:a.eval x=ρ k:=hv1
 have hk':=(h2 k (by simp [aF])).trans hk
 obtain ⟨g,hg,hb⟩:=hr.hp k _ hk'
 have hfr:st.f r=true:=h3 r (by simp [aF])
 have hkr:r≠k:=fun e=>by rw [e,hr.nfh hk'] at hfr;cases hfr
 have hkk:∀k':Nat,aA [(r,some (Box.it k L.length []))] k'=true→k'=r:=fun k' h=>by
  simp only [aA,Bool.or_false] at h
  exact (Nat.eq_of_beq_eq_true h).symm
 refine Oper.wp_value (v:=.pointer (some ⟨w.heap.size,0,none⟩)) (w':=w.alloc (.mapIter (some g) L.length #[] L.length)) ?_ ⟨upd ρ r (.pointer (some ⟨w.heap.size,0,none⟩)),hr.app (e:=⟨.c (.own r),[(r,some (.it k L.length []))],[r]⟩) h4 (fun k' h=>?_) (fun k' h=>?_) (fun k' h=>.inl ?_) (Frx.alloc _ _ _) (fun k' bx g' h _ hg'=>?_) (fun k1 k2 _ _ _ h h' _ _ _ _=>?_) (fun k' h=>.inl ?_) (fun k1 k2 bx h hp hx=>?_) (fun k2 bx h hp=>?_) ?_⟩
 ·have hl:(d8 0 L).toArray.size=L.length∨True:=.inr trivial
  unfold execOp
  rw [ho]
  have hb':=hb
  unfold j9 at hb'
  simp [Instr.range,hv1,hg,run_underlying ht,MapKept.run_getObj_map hb',Result.andThen]
 ·have:k'=r:=by simp [aF] at h;exact h.symm
  subst this
  exact ⟨hfr,by simp [aA]⟩
 ·exact dB (by simpa [aF] using h)
 ·rw [hkk k' h];simp [aF]
 ·rw [hkk k' h,aL] at hg'
  injection hg' with hg'
  subst hg'
  exact ⟨by simp,.inl (Nat.le_refl _)⟩
 ·rw [hkk k1 h,hkk k2 h']
 ·have:k'=r:=by simp [TV.has,V0.has,D.has] at h;exact h.symm
  subst this;simp [aF]
 ·rw [hkk k2 h] at hp
  simp only [hput,Nat.beq_refl,cond_true,Option.some.injEq] at hp
  subst hp
  simp only [Box.has] at hx
  rw [←Nat.eq_of_beq_eq_true hx]
  exact .inr (hr.nfh hk')
 ·rw [hkk k2 h] at hp ⊢
  simp only [hput,Nat.beq_refl,cond_true,Option.some.injEq] at hp
  subst hp
  rw [aL]
  refine ⟨_,g,rfl,?_,(MapKept.heap_alloc w _).1⟩
  rw [dB (by cases h9:r.beq k with|false=>rfl|true=>exact absurd (Nat.eq_of_beq_eq_true h9) hkr),hg]
 ·exact (aL _ _ _).symm
theorem CR {r k n j:Nat} {x:Operand} {seen:List Nat} {y:V0} {key val:Value} (ho:o.op = .entry x) (hx:s.ev x = .c (.own r)) (hr0:s.h r=some (.it k n (seen++[j]))) (hk:s.h k=some (.mp L)) (hn:n=L.length) (hj:L[j]? = some (key,val)) (hy:∀w F ρ,y.rep w F ρ val) (hyn:∀i,y.has i=false):LOp P o s [r,k] ⟨.tup [.one (.sc key),y],[],[]⟩ :=
 bc fun c st ρ a w hr h1 h2=>by
  have e1:=h1 x (by simp [ho,Op.operands])
  have hv1:=hr.ev x
  rw [e1,hx] at hv1
  have hv1:a.eval x=ρ r:=hv1
  obtain ⟨g,m,hg,hm,hit⟩:=hr.hp r _ ((h2 r (by simp [aF])).trans hr0)
  obtain ⟨g',hg',hb⟩:=hr.hp k _ ((h2 k (by simp [aF])).trans hk)
  have em:m=g':=by rw [hm] at hg';injection hg' with h;injection h
  subst em
  subst hn
  have hmem:(⟨key,val,j⟩:MapEntry)∈d8 0 L:=li.2 ⟨j,hj,by simp⟩
  have hrun:=run_entry_at (P:=P) w g m L.length seen.toArray (d8 0 L).toArray L.length ⟨key,val,j⟩ (by rw [hit];simp) hb (by simpa using hmem) (by simpa using uM.1)
  refine ⟨.tuple #[key,val],?_,⟨[key,val],rfl,rfl,hy _ _ _,trivial⟩,fun i hi=>?_⟩
  ·unfold execOp
   rw [ho]
   simp only [hv1,hg,Sem.run_bind,hrun,Result.andThen_ok,Sem.run_pure]
  ·have hi:(V0.has i (.one (.sc key)) || (y.has i || false))=true:=hi
   rw [hyn i] at hi
   cases hi
theorem H3 {id t t2 r k n:Nat} {x:Operand} {seen:List Nat} (ho:o.op = .next x false) (hg:o.guard=none) (hd:o.dst=some t) (ho2:o2.op = .extract (.tmp t) 0) (hg2:o2.guard=none) (hd2:o2.dst=some t2) (ht:Nat.blt t nt=true) (ht2:Nat.blt t2 nt=true)
  (hx:s.ev x = .c (.own r)) (hr0:s.h r=some (.it k n seen)) (hk:s.h k=some (.mp L)) (hn:n=L.length)
  (h1:∀j,j<n→j ∉ seen→Q .normal ((s.app (some t) ⟨.tup [.one (.sc (.bool true)),.one .any,.one .any],[(r,some (.it k n (seen++[j])))],[]⟩).app (some t2) ⟨.b true,[],[]⟩))
  (h2:(∀j,j<n→j∈seen)→Q .normal ((s.app (some t) ⟨.tup [.one (.sc (.bool false))],[],[]⟩).app (some t2) ⟨.b false,[],[]⟩)):AW P nt Ks (.region id [o,o2].toArray false) Q s:=by
 intro c ρ a w hc _ hr
 subst hc
 subst hn
 have hv1:=hr.ev x
 rw [hx] at hv1
 have hv1:a.eval x=ρ r:=hv1
 obtain ⟨g,m,hg0,hm,hit⟩:=hr.hp r _ hr0
 obtain ⟨g',hg',hb⟩:=hr.hp k _ hk
 have em:m=g':=by rw [hm] at hg';injection hg' with h;injection h
 subst em
 have hdt:∀d,o.dst=some d→d<c.nt:=fun d h=>by rw [hd] at h;injection h with h;subst h;exact Nat.le_of_ble_eq_true ht
 have hdt2:∀d,o2.dst=some d→d<c.nt:=fun d h=>by rw [hd2] at h;injection h with h;subst h;exact Nat.le_of_ble_eq_true ht2
 have hkb:kb (ρ r)=some g:=by rw [hg0];rfl
 have hkk:∀(b:Box) (k':Nat),aA [(r,some b)] k'=true→k'=r:=fun b k' h=>by
  simp only [aA,Bool.or_false] at h
  exact (Nat.eq_of_beq_eq_true h).symm
 have fin:∀(s1:Mst) (a1:Act) (w1:World) (b:Bool) (l:List V0),Rp c s1 ρ a1 w1→s1.t t = .tup (.one (.sc (.bool b)) :: l)→Q .normal (s1.app (some t2) ⟨.b b,[],[]⟩)→wpList P [o,o2].toArray (fun e a' w'=>∃s' ρ',Q e s'∧Rp c s' ρ' a' w') [o2] a1 w1:=by
  intro s1 a1 w1 b l hr1 h9 hq
  have hl:=p8 (P:=P) (o:=o2) (s:=s1) (x:=.tmp t) (i:=0) (y:=.one (.sc (.bool b))) ho2 h9 rfl
  refine wpList_step fun K' hK'=>?_
  have hw:Region.wanted o2 (yielded [o,o2].toArray a1.tmps)=true:=by unfold Region.wanted;rw [hg2]
  rw [if_pos hw]
  refine Oper.wp_post (hl c s1 ρ a1 w1 hr1 (fun _ _=>rfl) (fun _ _=>rfl) (fun k hk=>by simp [aF] at hk) hdt2) ?_
  rintro a' w' ⟨ρ',hr'⟩
  rw [hd2] at hr'
  exact hK' _ _ (wpList_nil ⟨_,ρ',hq,hr'⟩)
 refine wp_region_lit (wpList_step fun K' hK'=>?_)
 have hw:Region.wanted o (yielded [o,o2].toArray a.tmps)=true:=by unfold Region.wanted;rw [hg]
 rw [if_pos hw]
 have hnx:=run_next_at (P:=P) w o.type g m L.length L.length seen.toArray (d8 0 L).toArray L.length hit hb (fun x hx=>by
  obtain ⟨j,h,e⟩:=li.1 (by simpa using hx)
  have:=(List.getElem?_eq_some_iff.1 h).1
  omega) (Nat.le_refl _)
 rcases hnx with ⟨h0,hrun⟩|⟨e,he,w1,hw1,hrun⟩
 ·refine Oper.wp_value (v:=.tuple #[.bool false]) (w':=w) ?_ (hK' _ _ (fin (s.app (some t) ⟨.tup [.one (.sc (.bool false))],[],[]⟩) _ _ false [] ?_ ?_ (h2 fun j hj=>?_)))
  ·unfold execOp
   rw [ho]
   simp only [hv1,hg0,Sem.run_bind,hrun,Result.andThen_ok,Sem.run_pure]
  ·rw [hd]
   exact hr.app (e:=⟨.tup [.one (.sc (.bool false))],[],[]⟩) (fun d h=>hdt d (hd.trans h)) (fun k hk=>by simp [aF] at hk) (fun _ _=>rfl) (fun k hk=>by simp [aA] at hk) (Frx.refl _ _) (fun k bx g hk=>by simp [aA] at hk) (fun k k' b b' g hk=>by simp [aA] at hk) (fun k h=>by simp [TV.has,V0.has,D.has] at h) (fun k k' bx hk=>by simp [aA] at hk) (fun k bx hk=>by simp [aA] at hk) ⟨[.bool false],rfl,rfl,trivial⟩
  ·simp [Mst.app,ka]
  ·have hle:leftOf (d8 0 L).toArray seen.toArray = #[]:=Array.eq_empty_of_size_eq_zero h0
   have hmem:(⟨(L[j]).1,(L[j]).2,j⟩:MapEntry)∈d8 0 L:=li.2 ⟨j,List.getElem?_eq_getElem hj,by simp⟩
   unfold leftOf at hle
   rw [Array.filter_eq_empty_iff] at hle
   have:=hle _ (by simpa using hmem)
   simpa using this
 ·obtain ⟨he1,he2⟩:e∈d8 0 L∧e.born ∉ seen:=by unfold leftOf at he;simpa using he
  obtain ⟨j,hj,ej⟩:=li.1 he1
  rw [Nat.zero_add] at ej
  have hjl:=(List.getElem?_eq_some_iff.1 hj).1
  have hr1:Rp c s ρ a w1:=by
   rcases hw1 with rfl|rfl
   ·exact hr
   ·exact hr.drew
  have hit1:w1.heap[g]? = some (.mapIter (some m) L.length seen.toArray L.length):=by rcases hw1 with rfl|rfl <;> exact hit
  have hset:=MapKept.heap_set (o':=.mapIter (some m) L.length (seen.toArray.push e.born) L.length) hit1
  have hlt:g<w1.heap.size:=(Array.getElem?_eq_some_iff.1 hit1).1
  have hkr:k≠r:=fun e=>by rw [e,hr0] at hk;cases hk
  refine Oper.wp_value (v:=.tuple #[.bool true,e.key,e.val]) (w':=ChangeMaps.setBlock w1 g (.mapIter (some m) L.length (seen.toArray.push e.born) L.length)) ?_ (hK' _ _ (fin (s.app (some t) ⟨.tup [.one (.sc (.bool true)),.one .any,.one .any],[(r,some (.it k L.length (seen++[j])))],[]⟩) _ _ true [.one .any,.one .any] ?_ ?_ (h1 j hjl (ej▸he2))))
  ·unfold execOp
   rw [ho]
   simp only [hv1,hg0,Sem.run_bind,hrun,Result.andThen_ok,Sem.run_pure]
  ·rw [hd]
   refine hr1.app (e:=⟨.tup [.one (.sc (.bool true)),.one .any,.one .any],[(r,some (.it k L.length (seen++[j])))],[]⟩) (fun d h=>hdt d (hd.trans h)) (fun k hk=>by simp [aF] at hk) (fun _ _=>rfl) (fun k' h=>.inr (by rw [hkk _ k' h];exact hr.nfh hr0)) ⟨rfl,rfl,rfl,by simp [ChangeMaps.setBlock],fun b hlt hn=>hset.2 b fun e=>hn ⟨r,_,by simp [aA],hr0,by rw [hkb,e]⟩⟩ ?_ ?_ (fun k h=>by simp [TV.has,V0.has,D.has] at h) ?_ ?_ ⟨[.bool true,e.key,e.val],rfl,rfl,trivial,trivial,trivial⟩
   ·intro k' bx g' h _ hg'
    rw [hkk _ k' h,hkb] at hg'
    injection hg' with hg'
    subst hg'
    exact ⟨by simpa [ChangeMaps.setBlock] using hlt,.inr ⟨r,_,by simp [aA],hr0,hkb⟩⟩
   ·intro k1 k2 _ _ _ h h' _ _ _ _
    rw [hkk _ k1 h,hkk _ k2 h']
   ·intro k1 k2 bx h hp hx
    rw [hkk _ k2 h] at hp
    simp only [hput,Nat.beq_refl,cond_true,Option.some.injEq] at hp
    subst hp
    simp only [Box.has] at hx
    rw [←Nat.eq_of_beq_eq_true hx]
    exact .inr (hr.nfh hk)
   ·intro k2 bx h hp
    rw [hkk _ k2 h] at hp ⊢
    simp only [hput,Nat.beq_refl,cond_true,Option.some.injEq] at hp
    subst hp
    refine ⟨g,m,hg0,hm,?_⟩
    have:(ChangeMaps.setBlock w1 g (.mapIter (some m) L.length (seen.toArray.push e.born) L.length)).heap[g]? = some (.mapIter (some m) L.length (seen.toArray.push e.born) L.length):=hset.1
    rw [this,ej]
    simp
  ·simp [Mst.app,ka]
end
theorem Ml (g:Lg) (i j:Nat) (hi:i≤g.entries.length) (hj:j≤g.saves.length) (h1:g.entries.length≤100000) (h2:g.saves.length≤100000) {E':List En} {S':List Sv} (hE:g.entries.take i=E') (hS:g.saves.take j=S'):FSpec prog 105 [g.a,.one (.sc (.int .i64 i)),.one (.sc (.int .i64 j))] [] [1,2] (.v (.ag [.own 1,.own 2])) [(1,some (.arr 112 iR E')),(2,some (.arr 80 iN S'))]:=by
 refine aX func105 ?_
 have hEl:E'.length≤100000:=by rw [←hE];simp;omega
 have hSl:S'.length≤100000:=by rw [←hS];simp;omega
 have hE2:(g.entries.take i).drop 0=E':=hE
 have hS2:(g.saves.take j).drop 0=S':=hS
 repeat' (first
  | refine ah ?_ ?_
  | (refine aa 14 rfl ?_;first|refine sx (rL rfl rfl rfl (.inr ⟨rfl,rfl⟩) rfl rfl (Nat.zero_le _) hi hE2) ?_|refine sx (rL rfl rfl rfl (.inr ⟨rfl,rfl⟩) rfl rfl (Nat.zero_le _) hj hS2) ?_)
  | refine af ?_
  | exact ai|refine ae fun hb=>?_
  | (refine aE (qf [(1,12),(2,18)]) ?_;exact ab))
section
open Go.Sort Go.Lib
section
variable {α:Type}
theorem yn (f:α→List Value) (k:Nat) (hk:∀x,(f x).length=k) (h0:0<k):∀(l:List α) (t:Nat),((l.map f).flatten)[t]? = (l[t / k]?).bind fun x=>(f x)[t % k]?
 | [],t=>by simp
 | x :: l,t=>by
  rw [List.map_cons,List.flatten_cons]
  rcases Nat.lt_or_ge t k with h|h
  ·rw [List.getElem?_append_left (by rw [hk];exact h),Nat.div_eq_of_lt h,Nat.mod_eq_of_lt h]
   rfl
  ·rw [List.getElem?_append_right (by rw [hk];exact h),hk,yn f k hk h0 l (t-k)]
   obtain ⟨u,rfl⟩:∃u,t=u+k:=⟨t-k,by omega⟩
   rw [Nat.add_sub_cancel,Nat.add_div_right _ h0,Nat.add_mod_right]
   rfl
theorem jJ [Inhabited α] (f:α→List Value) (k:Nat) (hk:∀x,(f x).length=k) (h0:0<k) (l:List α):(flatK f k l.toArray).toList=(l.map f).flatten:=by
 apply List.ext_getElem?
 intro t
 rw [yn f k hk h0]
 rcases Nat.lt_or_ge t (l.length*k) with h|h
 ·have hd:t / k<l.length:=(Nat.div_lt_iff_lt_mul h0).2 h
  have hm:t % k<k:=Nat.mod_lt _ h0
  rw [Array.getElem?_toList,Array.getElem?_eq_getElem (by simpa using h),←getElem!_pos _ t (by simpa using h),get_flatK _ _ _ _ (by simpa using h),getElem!_pos _ (t / k) (by simpa using hd),List.getElem?_eq_getElem hd,Option.bind_some,getElem!_pos _ (t % k) (by rw [hk];exact hm),List.getElem?_eq_getElem (by rw [hk];exact hm)]
  rfl
 ·have hd:l.length≤t / k:=by
   rw [Nat.le_div_iff_mul_le h0]
   exact h
  rw [List.getElem?_eq_none hd,Array.getElem?_toList,Array.getElem?_eq_none (by simpa using h)]
  rfl
variable {n:Nat} {pos:0<n} {f:α→List Value} {len:∀x,(f x).length=n} {one:∀x,∀u∈f x,u.oneCell'=true} {w:World} {S:Nat→Prop} {base:Nat} {e:TypeId} {g cap:Nat} {l:List α}
theorem Reps.plain:∀{l:List α} {xs:List Value},Reps (El.plain n pos f len one) w S l xs→xs=(l.map f).flatten
 | [],xs,h=>h
 | x :: l,xs,h=>by
  obtain ⟨cs,rest,rfl,h1,h2⟩:=h
  rw [Reps.plain h2,show cs=f x from h1]
  rfl
theorem Reps.plain_mk:∀(l:List α),Reps (El.plain n pos f len one) w S l (l.map f).flatten
 | []=>rfl
 | x :: l=>⟨f x,(l.map f).flatten,rfl,rfl,Reps.plain_mk l⟩
theorem OwnRows.holdsK [Inhabited α] (h:OwnRows (El.plain n pos f len one) e w base (.slice (some ⟨g,0,none⟩) l.length cap) l):HoldsK f n w g 0 l.toArray:=by
 intro t ht
 rw [size_flatK] at ht
 have ht':t<l.length*n:=ht
 have hcapn:l.length≤cap:=by
  obtain ⟨A,cap',hA,_,hc,_⟩:=h.form
  injection hA with _ _ e3
  omega
 have hcell:=h.cellAt (j:=t) (Nat.lt_of_lt_of_le ht' (Nat.mul_le_mul_right _ hcapn))
 rw [Nat.zero_add]
 refine ⟨?_,hcell.2⟩
 obtain ⟨h0,xs,⟨h1,h2⟩,h3⟩:=h
 rcases h2 with ⟨hv,_⟩|⟨g',cap',cur,hv,hg,hh,hnc,hcm,hcs,htk⟩
 ·cases hv
 ·injection hv with e1 _ e3
  injection e1 with e1
  injection e1 with e1
  subst e1
  subst e3
  have hx:=Reps.plain h3
  have hlt:t<cur.size:=by rw [hcs];exact Nat.lt_of_lt_of_le ht' (Nat.mul_le_mul_right _ hcapn)
  have hc:w.cell? ⟨g,t,none⟩=cur[t]?:=by simp [World.cell?,hh]
  have hxt:cur[t]? = xs[t]?:=by
   rw [←htk,List.getElem?_take,if_pos (show t<l.length*(El.plain n pos f len one).n from ht'),Array.getElem?_toList]
  rw [hc,hxt,hx,←jJ f n len pos l,Array.getElem?_toList,Array.getElem?_eq_getElem (by simpa using ht'),←getElem!_pos _ t (by simpa using ht')]
  rfl
theorem OwnRows.sorted [Inhabited α] (h:OwnRows (El.plain n pos f len one) e w base (.slice (some ⟨g,0,none⟩) l.length cap) l) (hg:g<w.heap.size) {l':List α} (hl:l'.length=l.length) (m:Nat) (os:Array Obj) :
  OwnRows (El.plain n pos f len one) e (sortWorldK f n w g 0 m l'.toArray os) base (.slice (some ⟨g,0,none⟩) l.length cap) l':=by
 obtain ⟨h0,xs,⟨h1,h2⟩,h3⟩:=h
 have hsz:w.heap.size≤(sortWorldK f n w g 0 m l'.toArray os).heap.size:=by
  simp [sortWorldK,grow,putRowK,putRow,mapBlock]
 refine ⟨Nat.le_trans h0 hsz,(l'.map f).flatten,?_,Reps.plain_mk l'⟩
 rw [hl]
 have hfl:((l'.map f).flatten).length=l.length*n:=by
  rw [←jJ f n len pos l',Array.length_toList,size_flatK]
  simp [hl]
 refine ⟨hfl,?_⟩
 rcases h2 with ⟨hv,_⟩|⟨g',cap',cur,hv,hgb,hh,hnc,hcm,hcs,htk⟩
 ·cases hv
 ·injection hv with e1 _ e3
  injection e1 with e1
  injection e1 with e1
  subst e1
  subst e3
  have hF:(flatK f n l'.toArray).size=l.length*n:=by simp [hl]
  have hle:l.length*n≤cap*n:=Nat.mul_le_mul_right _ hnc
  refine .inr ⟨g,cap,putCells id 0 (flatK f n l'.toArray) cur,rfl,hgb,?_,hnc,hcm,by simp [putCells,hcs],?_⟩
  ·show (w.heap.modify g (onCells (putCells id 0 (flatK f n l'.toArray)))++os)[g]? = _
   rw [Array.getElem?_append_left (by simpa using hg),Array.getElem?_modify,if_pos rfl,hh]
   rfl
  ·rw [←jJ f n len pos l']
   apply List.ext_getElem?
   intro t
   rw [List.getElem?_take]
   show (if t<l.length*n then _ else _)=_
   split
   ·next ht =>
    rw [Array.getElem?_toList,Array.getElem?_toList]
    unfold putCells
    rw [Array.getElem?_mapIdx,Array.getElem?_eq_getElem (by rw [hcs];exact Nat.lt_of_lt_of_le ht hle),Option.map_some,if_pos ⟨Nat.zero_le _,by rw [hF];omega⟩,Array.getElem?_eq_getElem (by rw [hF];exact ht),Nat.sub_zero,←getElem!_pos _ t (by rw [hF];exact ht)]
    rfl
   ·next ht =>
    rw [Array.getElem?_toList,Array.getElem?_eq_none (by rw [hF];omega)]
end
end
end Go.Proofs.YtdaajdflefnjfaaGreat
namespace Go.Proofs
open Go.Shelf
def Tryz.lays106_ren:Go.Shelf.Ren:=⟨fun|106=>142|213=>205|265=>237|n=>n,fun|9=>9|3=>3|n=>n,fun|n=>n⟩
theorem Tryz.lays106:Go.Proofs.Lays.n106 Tryz.prog Tryz.lays106_ren:={
 mixed:=by kernel_rfl
 f106:=Tryz.func142.trans (congrArg some (by kernel_rfl))
 f213:=Tryz.func205.trans (congrArg some (by kernel_rfl))
 f265:=Tryz.func237.trans (congrArg some (by kernel_rfl))
 t3:=Tryz.underlying3
 a3:=Tryz.isAgg3
 z3:=Tryz.sizeOf3
 v3:=Tryz.zeroValue3
 t9:=Tryz.underlying9
 a9:=Tryz.isAgg9
 z9:=Tryz.sizeOf9
 v9:=Tryz.zeroValue9 }
open Go.RowKit in
theorem Tryz.strings_Compare (a b:ByteArray) (w:World) :
  Calls Tryz.prog 142 #[.string a,.string b] w fun e w'=>e = .returned (.int .i64 (Lib.compareBytes a.data.toList b.data.toList))∧w'=w:=Any.strings_Compare Tryz.lays106 a b w
end Go.Proofs
namespace Go.Proofs
open Go.Shelf
def Tryz.sortAtoms_ren:Go.Shelf.Ren:=⟨fun|6=>107|15=>111|14=>141|28=>153|29=>154|20=>197|21=>198|22=>199|23=>200|24=>201|25=>202|26=>203|27=>204|46=>234|47=>208|48=>209|49=>235|50=>236|57=>248|n=>n,fun|22=>39|24=>31|25=>178|3=>3|39=>149|0=>0|53=>224|55=>96|4=>4|46=>216|45=>215|50=>221|5=>5|9=>9|66=>273|70=>208|76=>304|77=>278|n=>n,fun|n=>n⟩
theorem Tryz.sortAtoms:Go.Proofs.SlLaysF0.n6 Tryz.prog Tryz.sortAtoms_ren:={
 mixed:=by kernel_rfl
 f6:=⟨Tryz.f107.name,by decide,Tryz.func107.trans (congrArg some (by kernel_rfl))⟩
 f14:=⟨Tryz.f141.name,by decide,Tryz.func141.trans (congrArg some (by kernel_rfl))⟩
 f15:=Tryz.func111.trans (congrArg some (by kernel_rfl))
 f20:=⟨Tryz.f197.name,by decide,Tryz.func197.trans (congrArg some (by kernel_rfl))⟩
 f21:=⟨Tryz.f198.name,by decide,Tryz.func198.trans (congrArg some (by kernel_rfl))⟩
 f22:=⟨Tryz.f199.name,by decide,Tryz.func199.trans (congrArg some (by kernel_rfl))⟩
 f23:=⟨Tryz.f200.name,by decide,Tryz.func200.trans (congrArg some (by kernel_rfl))⟩
 f24:=⟨Tryz.f201.name,by decide,Tryz.func201.trans (congrArg some (by kernel_rfl))⟩
 f25:=⟨Tryz.f202.name,by decide,Tryz.func202.trans (congrArg some (by kernel_rfl))⟩
 f26:=⟨Tryz.f203.name,by decide,Tryz.func203.trans (congrArg some (by kernel_rfl))⟩
 f27:=⟨Tryz.f204.name,by decide,Tryz.func204.trans (congrArg some (by kernel_rfl))⟩
 f28:=Tryz.func153.trans (congrArg some (by kernel_rfl))
 f29:=Tryz.func154.trans (congrArg some (by kernel_rfl))
 f46:=⟨Tryz.f234.name,by decide,Tryz.func234.trans (congrArg some (by kernel_rfl))⟩
 f47:=Tryz.func208.trans (congrArg some (by kernel_rfl))
 f48:=Tryz.func209.trans (congrArg some (by kernel_rfl))
 f49:=⟨Tryz.f235.name,by decide,Tryz.func235.trans (congrArg some (by kernel_rfl))⟩
 f50:=⟨Tryz.f236.name,by decide,Tryz.func236.trans (congrArg some (by kernel_rfl))⟩
 f57:=⟨Tryz.f248.name,by decide,Tryz.func248.trans (congrArg some (by kernel_rfl))⟩
 t0:=Tryz.underlying0
 a0:=Tryz.isAgg0
 z0:=Tryz.sizeOf0
 v0:=Tryz.zeroValue0
 t3:=Tryz.underlying3
 a3:=Tryz.isAgg3
 z3:=Tryz.sizeOf3
 v3:=Tryz.zeroValue3
 t4:=Tryz.underlying4
 a4:=Tryz.isAgg4
 z4:=Tryz.sizeOf4
 v4:=Tryz.zeroValue4
 t5:=Tryz.underlying5
 a5:=Tryz.isAgg5
 z5:=Tryz.sizeOf5
 v5:=Tryz.zeroValue5
 t9:=Tryz.underlying9
 a9:=Tryz.isAgg9
 z9:=Tryz.sizeOf9
 v9:=Tryz.zeroValue9
 t22:=Tryz.underlying39
 a22:=Tryz.isAgg39
 z22:=Tryz.sizeOf39
 v22:=Tryz.zeroValue39
 t25:=Tryz.underlying178
 a25:=Tryz.isAgg178
 z25:=Tryz.sizeOf178
 v25:=Tryz.zeroValue178
 t39:=Tryz.underlying149
 a39:=Tryz.isAgg149
 z39:=Tryz.sizeOf149
 v39:=Tryz.zeroValue149
 t45:=Tryz.underlying215
 a45:=Tryz.isAgg215
 z45:=Tryz.sizeOf215
 v45:=Tryz.zeroValue215
 t46:=Tryz.underlying216
 a46:=Tryz.isAgg216
 z46:=Tryz.sizeOf216
 v46:=Tryz.zeroValue216
 t50:=Tryz.underlying221
 a50:=Tryz.isAgg221
 z50:=Tryz.sizeOf221
 v50:=Tryz.zeroValue221
 t53:=Tryz.underlying224
 a53:=Tryz.isAgg224
 z53:=Tryz.sizeOf224
 v53:=Tryz.zeroValue224
 t55:=Tryz.underlying96
 a55:=Tryz.isAgg96
 z55:=Tryz.sizeOf96
 v55:=Tryz.zeroValue96
 t66:=Tryz.underlying273
 a66:=Tryz.isAgg273
 z66:=Tryz.sizeOf273
 v66:=Tryz.zeroValue273
 t70:=Tryz.underlying208
 a70:=Tryz.isAgg208
 z70:=Tryz.sizeOf208
 v70:=Tryz.zeroValue208
 t76:=Tryz.underlying304
 a76:=Tryz.isAgg304
 z76:=Tryz.sizeOf304
 v76:=Tryz.zeroValue304
 t77:=Tryz.underlying278
 a77:=Tryz.isAgg278
 z77:=Tryz.sizeOf278
 v77:=Tryz.zeroValue278 }
end Go.Proofs
namespace Go.Proofs.YtdaajdflefnjfaaGreat
open Go.RowKit Go.Proofs.Tryz
section
open Go.Shelf Go.Sort
def nc (a b:ByteArray):Int:=Lib.compareBytes a.data.toList b.data.toList
theorem Bm:∀{l m:List UInt8},(Lib.compareBytes l m<0↔l<m)∧(Lib.compareBytes l m=0↔l=m)
 | [],[]=>by simp [Lib.compareBytes]
 | [],_ :: _=>by simp [Lib.compareBytes]
 | _ :: _,[]=>by simp [Lib.compareBytes]
 | a :: l,b :: m=>by
  obtain ⟨h1,h2⟩:=Bm (l:=l) (m:=m)
  rw [List.cons_lt_cons_iff]
  unfold Lib.compareBytes
  by_cases ha:a<b
  ·simp [ha]
   intro e;subst e;exact absurd ha (UInt8.lt_irrefl _)
  ·by_cases hb:b<a
   ·simp [ha,hb]
    constructor <;> (intro e;subst e;exact absurd hb (UInt8.lt_irrefl _))
   ·have e:a=b:=UInt8.le_antisymm (UInt8.not_lt.1 hb) (UInt8.not_lt.1 ha)
    subst e
    simp [h1,h2]
theorem H4 {a b:ByteArray}:nc a b<0↔fy a b=true:=by
 unfold nc fy
 rw [bytesLess_eq,decide_eq_true_eq,Bm.1,ByteArray.toList_eq,ByteArray.toList_eq]
theorem yo (a b:ByteArray):ltOf nc a b=fy a b:=by
 unfold ltOf
 rw [Bool.eq_iff_iff,decide_eq_true_iff,H4]
theorem oB:Go.Sort.SWO (ltOf nc) where
 irrefl x:=by rw [yo];exact dj x
 trans x y z h1 h2:=by rw [yo] at *;exact d9 h1 h2
 ntrans x y z h1 h2:=by
  rw [yo] at *
  cases h:fy x z with
  | false=>rfl
  | true =>
   exfalso
   by_cases e:x=y
   ·subst e;rw [h] at h2;cases h2
   ·have h3:=lK h1 e
    rw [d9 h3 h] at h2
    cases h2
theorem Ad (x y:ByteArray) (h1:ltOf nc x y=false) (h2:ltOf nc y x=false):x=y:=by
 rw [yo] at *
 by_cases e:x=y
 ·exact e
 ·rw [lK h1 e] at h2;cases h2
def IF (h:ByteArray→Am) (n:ByteArray):List Value:=[.string n,.int .i64 (h n).mode,.int .i64 (h n).units]
def tk (h:ByteArray→Am) (n:ByteArray):Tm:=⟨n,h n⟩
theorem CS (x y:Tm) (w:World):Calls prog 108 #[.agg x.cells.toArray,.agg y.cells.toArray] w fun e w'=>e = .returned (.int .i64 (nc x.name y.name))∧∃os,w'=Go.Sort.grow w os:=by
 have HC:=Lib.hid (fun w=>strings_Compare x.name y.name w)
 obtain ⟨n,⟨m,u⟩⟩:=x
 obtain ⟨n',⟨m',u'⟩⟩:=y
 unfold Tm.cells
 dsimp only
 go_enter func108,ntmps108
 go_wp2_with fail
 refine (HC.out _).mono ?_
 rintro e w1 ⟨rfl,rfl⟩
 go_wp2
 go_ret
 exact ⟨rfl,_,by rw [Go.Sort.alloc_eq_grow,Go.Sort.alloc_eq_grow,Go.Sort.grow_grow]⟩
def gw (N:List ByteArray):List ByteArray:=N.mergeSort fun x y=>!(ltOf nc) y x
theorem CT (h:ByteArray→Am) (N:List ByteArray) (hl:N.length≤100000) (w:World) {v:Value} {F:Nat→Prop} {xs:List Value} (h1:w.ownsRow 0 31 cr.n v (N.map (tk h)).length xs) (h2:Reps cr w F (N.map (tk h)) xs) :
  Calls prog 107 #[v,.func (.func 108) #[] #[]] w fun e w'=>e = .returned (.tuple #[])∧(Frx w w' fun b=>kb v=some b)∧∃ys,w'.ownsRow 0 31 cr.n v ((gw N).map (tk h)).length ys∧∀F',Reps cr w' F' ((gw N).map (tk h)) ys:=by
 have hxs:xs=(N.map (IF h)).flatten:=by
  rw [Reps.plain h2,List.map_map]
  rfl
 have hl':(N.map (tk h)).length=N.length:=by simp
 have one:∀x,∀u∈IF h x,u.oneCell'=true:=by intro x u hu;simp [IF] at hu;rcases hu with rfl|rfl|rfl <;> rfl
 have hrep:∀(w:World) (F:Nat→Prop) (M:List ByteArray),Reps cr w F (M.map (tk h)) (M.map (IF h)).flatten:=fun w F M=>by
  have this:Reps cr w F (M.map (tk h)) ((M.map (tk h)).map Tm.cells).flatten:=Reps.plain_mk _
  rw [List.map_map] at this
  exact this
 have hown:OwnRows (El.plain 3 (by decide) (IF h) (fun _=>rfl) one) 31 w 0 v N:=⟨Nat.zero_le _,xs,by rw [←hl'];exact h1,by rw [hxs];exact Reps.plain_mk N⟩
 rcases Nat.eq_zero_or_pos N.length with h0|h0
 ·obtain ⟨A,cap,rfl,_,_,_,_⟩:=hown.form2
  obtain rfl:=List.eq_nil_of_length_eq_zero h0
  refine (AnyF.slices_SortFunc_none { sortAtoms with } A cap _ w).mono ?_
  rintro e w' ⟨rfl,rfl⟩
  exact ⟨rfl,Frx.refl _ _,xs,by simpa [gw] using h1,fun F'=>by rw [hxs];simpa [gw] using hrep w' F' []⟩
 ·obtain ⟨g,cap,rfl,hg,hg2,_,_,_,_⟩:=hown.addr h0
  have eg:∀args w,(callFunc 108 args).run prog w = .ok (.enter 108 args) w:=enters_of func108 (by kernel_rfl) rfl
  have hcmp:CmpLays prog 108 #[] (IF h) 3 nc g 0 N.toArray.size w:=fun _ _ _ _ x y=>(CS (tk h x) (tk h y) _).mono fun e w' ⟨he,os,hw⟩=>⟨he,0,os,hw⟩
  have:=AnyQ.slices_SortFunc_total sortAtoms 3 isAgg31 sizeOf31 (IF h) (fun _=>rfl) one nc oB 108 #[] g 0 cap N.toArray w eg hcmp hown.holdsK hg2 (by simp;omega) Ad
  refine Calls.mono this ?_
  rintro e w' ⟨rfl,n,os,rfl⟩
  have hs:=hown.sorted hg2 (l':=gw N) (by simp [gw]) n os
  have hb:∀b,b<w.heap.size→b≠g→(sortWorldK (IF h) 3 w g 0 n (gw N).toArray os).heap[b]? = w.heap[b]?:=fun b hb hn=>by
   show (w.heap.modify g _++os)[b]? = _
   rw [Array.getElem?_append_left (by simpa using hb),Array.getElem?_modify,if_neg (fun e=>hn e.symm)]
  refine ⟨rfl,⟨rfl,rfl,rfl,by simp [sortWorldK,grow,putRowK,putRow,mapBlock],fun b hlt hn=>hb b hlt fun e=>hn (by rw [e];rfl)⟩,?_⟩
  obtain ⟨_,ys,h3,h4⟩:=hs
  refine ⟨ys,?_,fun F'=>?_⟩
  ·rw [List.length_map]
   have e9:(gw N).length=N.length:=by simp [gw]
   rw [e9] at h3 ⊢
   exact h3
  ·rw [Reps.plain h4]
   exact hrep _ F' (gw N)
theorem JR (h:ByteArray→Am) (N:List ByteArray) (hl:N.length≤100000):FSpec prog 107 [.one (.own 0),.one (.sc (.func (.func 108) #[] #[]))] [(0,.arr 31 cr (N.map (tk h)))] [] (.tup []) [(0,some (.arr 31 cr ((gw N).map (tk h))))]:=by
 refine ⟨fun b W=>by kernel_rfl,fun q c st ρ a w vs hr hinj hargs hhin hus=>?_⟩
 match vs,hargs with
 | [v,f],⟨h0,h1,_⟩ =>
  obtain rfl:v=ρ (q 0):=h0
  obtain rfl:f = .func (.func 108) #[] #[]:=h1
  have hk:=hhin 0 _ rfl
  obtain ⟨xs,hx1,hx2⟩:=hr.hp (q 0) _ hk
  refine (CT h N hl w hx1 hx2).mono ?_
  rintro e w' ⟨rfl,hf,ys,hy1,hy2⟩
  refine ⟨_,rfl,fun dst hdst=>⟨ρ,?_⟩⟩
  have hkk:∀k':Nat,aA [(q 0,some (Box.arr 31 cr ((gw N).map (tk h))))] k'=true→k'=q 0:=fun k' h=>by
   simp only [aA,Bool.or_false] at h
   exact (Nat.eq_of_beq_eq_true h).symm
  refine hr.app (e:=⟨.tup [],[(q 0,some (.arr 31 cr ((gw N).map (tk h))))],[]⟩) hdst (fun k h=>by simp [aF] at h) (fun _ _=>rfl) (fun k' h=>.inr (by rw [hkk k' h];exact hr.nfh hk)) ⟨hf.os,hf.tape,hf.output,hf.size,fun b hlt hn=>hf.keep b hlt fun e=>hn ⟨q 0,_,by simp [aA],hk,e⟩⟩ ?_ ?_ (fun k h=>by simp [TV.has] at h) ?_ ?_ ⟨[],rfl,trivial⟩
  ·intro k' bx g' h _ hg'
   rw [hkk k' h] at hg'
   exact ⟨Nat.lt_of_lt_of_le (hr.ltb hk hg') hf.size,.inr ⟨q 0,_,by simp [aA],hk,hg'⟩⟩
  ·intro k1 k2 _ _ _ h h' _ _ _ _
   rw [hkk k1 h,hkk k2 h']
  ·intro k1 k2 bx h hp hx
   rw [hkk k2 h] at hp
   simp only [hput,Nat.beq_refl,cond_true,Option.some.injEq] at hp
   subst hp
   simp [Box.has] at hx
  ·intro k2 bx h hp
   rw [hkk k2 h] at hp ⊢
   simp only [hput,Nat.beq_refl,cond_true,Option.some.injEq] at hp
   subst hp
   exact ⟨ys,hy1,hy2 _⟩
end
end Go.Proofs.YtdaajdflefnjfaaGreat
namespace Go.Proofs
open Go.Shelf
def Tryz.sortStrs_ren:Go.Shelf.Ren:=⟨fun|190=>69|125=>111|258=>110|128=>153|129=>154|302=>144|303=>145|304=>146|305=>147|306=>148|307=>149|308=>150|309=>151|310=>152|333=>207|329=>208|330=>209|334=>210|335=>211|336=>212|344=>238|n=>n,fun|31=>132|9=>9|3=>3|46=>149|0=>0|51=>224|53=>96|4=>4|183=>216|182=>215|131=>221|5=>5|218=>273|222=>208|228=>304|229=>278|n=>n,fun|n=>n⟩
theorem Tryz.sortStrs:Go.Proofs.Lays.n190 Tryz.prog Tryz.sortStrs_ren:={
 mixed:=by kernel_rfl
 f125:=Tryz.func111.trans (congrArg some (by kernel_rfl))
 f128:=Tryz.func153.trans (congrArg some (by kernel_rfl))
 f129:=Tryz.func154.trans (congrArg some (by kernel_rfl))
 f190:=Tryz.func69.trans (congrArg some (by kernel_rfl))
 f258:=Tryz.func110.trans (congrArg some (by kernel_rfl))
 f302:=Tryz.func144.trans (congrArg some (by kernel_rfl))
 f303:=Tryz.func145.trans (congrArg some (by kernel_rfl))
 f304:=Tryz.func146.trans (congrArg some (by kernel_rfl))
 f305:=Tryz.func147.trans (congrArg some (by kernel_rfl))
 f306:=Tryz.func148.trans (congrArg some (by kernel_rfl))
 f307:=Tryz.func149.trans (congrArg some (by kernel_rfl))
 f308:=Tryz.func150.trans (congrArg some (by kernel_rfl))
 f309:=Tryz.func151.trans (congrArg some (by kernel_rfl))
 f310:=Tryz.func152.trans (congrArg some (by kernel_rfl))
 f329:=Tryz.func208.trans (congrArg some (by kernel_rfl))
 f330:=Tryz.func209.trans (congrArg some (by kernel_rfl))
 f333:=Tryz.func207.trans (congrArg some (by kernel_rfl))
 f334:=Tryz.func210.trans (congrArg some (by kernel_rfl))
 f335:=Tryz.func211.trans (congrArg some (by kernel_rfl))
 f336:=Tryz.func212.trans (congrArg some (by kernel_rfl))
 f344:=Tryz.func238.trans (congrArg some (by kernel_rfl))
 t0:=Tryz.underlying0
 a0:=Tryz.isAgg0
 z0:=Tryz.sizeOf0
 v0:=Tryz.zeroValue0
 t3:=Tryz.underlying3
 a3:=Tryz.isAgg3
 z3:=Tryz.sizeOf3
 v3:=Tryz.zeroValue3
 t4:=Tryz.underlying4
 a4:=Tryz.isAgg4
 z4:=Tryz.sizeOf4
 v4:=Tryz.zeroValue4
 t5:=Tryz.underlying5
 a5:=Tryz.isAgg5
 z5:=Tryz.sizeOf5
 v5:=Tryz.zeroValue5
 t9:=Tryz.underlying9
 a9:=Tryz.isAgg9
 z9:=Tryz.sizeOf9
 v9:=Tryz.zeroValue9
 t31:=Tryz.underlying132
 a31:=Tryz.isAgg132
 z31:=Tryz.sizeOf132
 v31:=Tryz.zeroValue132
 t46:=Tryz.underlying149
 a46:=Tryz.isAgg149
 z46:=Tryz.sizeOf149
 v46:=Tryz.zeroValue149
 t51:=Tryz.underlying224
 a51:=Tryz.isAgg224
 z51:=Tryz.sizeOf224
 v51:=Tryz.zeroValue224
 t53:=Tryz.underlying96
 a53:=Tryz.isAgg96
 z53:=Tryz.sizeOf96
 v53:=Tryz.zeroValue96
 t131:=Tryz.underlying221
 a131:=Tryz.isAgg221
 z131:=Tryz.sizeOf221
 v131:=Tryz.zeroValue221
 t182:=Tryz.underlying215
 a182:=Tryz.isAgg215
 z182:=Tryz.sizeOf215
 v182:=Tryz.zeroValue215
 t183:=Tryz.underlying216
 a183:=Tryz.isAgg216
 z183:=Tryz.sizeOf216
 v183:=Tryz.zeroValue216
 t218:=Tryz.underlying273
 a218:=Tryz.isAgg273
 z218:=Tryz.sizeOf273
 v218:=Tryz.zeroValue273
 t222:=Tryz.underlying208
 a222:=Tryz.isAgg208
 z222:=Tryz.sizeOf208
 v222:=Tryz.zeroValue208
 t228:=Tryz.underlying304
 a228:=Tryz.isAgg304
 z228:=Tryz.sizeOf304
 v228:=Tryz.zeroValue304
 t229:=Tryz.underlying278
 a229:=Tryz.isAgg278
 z229:=Tryz.sizeOf278
 v229:=Tryz.zeroValue278 }
def Tryz.compactStrs_ren:Go.Shelf.Ren:=⟨fun|194=>70|n=>n,fun|31=>132|9=>9|3=>3|4=>4|0=>0|n=>n,fun|n=>n⟩
theorem Tryz.compactStrs:Go.Proofs.Lays.n194 Tryz.prog Tryz.compactStrs_ren:={
 mixed:=by kernel_rfl
 f194:=Tryz.func70.trans (congrArg some (by kernel_rfl))
 t0:=Tryz.underlying0
 a0:=Tryz.isAgg0
 z0:=Tryz.sizeOf0
 v0:=Tryz.zeroValue0
 t3:=Tryz.underlying3
 a3:=Tryz.isAgg3
 z3:=Tryz.sizeOf3
 v3:=Tryz.zeroValue3
 t4:=Tryz.underlying4
 a4:=Tryz.isAgg4
 z4:=Tryz.sizeOf4
 v4:=Tryz.zeroValue4
 t9:=Tryz.underlying9
 a9:=Tryz.isAgg9
 z9:=Tryz.sizeOf9
 v9:=Tryz.zeroValue9
 t31:=Tryz.underlying132
 a31:=Tryz.isAgg132
 z31:=Tryz.sizeOf132
 v31:=Tryz.zeroValue132 }
end Go.Proofs
