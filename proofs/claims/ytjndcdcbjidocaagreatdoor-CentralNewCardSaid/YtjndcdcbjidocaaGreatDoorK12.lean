/- Part 12 of 35 of the proof of centralNew_holds (no condition). -/
import Derived.Test.YtjndcdcbjidocaaGreatDoorK11
set_option linter.unusedVariables false
set_option linter.unusedSimpArgs false
set_option maxRecDepth 100000
set_option maxHeartbeats 64000000
namespace Go.Proofs.YtjndcdcbjidocaaGreatDoor
open Go.RowKit Go.Proofs.Tryz
instance (d:Nat):Dp (mY (d+1)) where
 deep:=Ex.d d
 get:=by
  rintro w F ρ x cs ⟨A,c,rfl,h1,h2,h3⟩
  exact ⟨rfl,rfl,rfl,rfl,⟨A,c,rfl,⟨h1,h2⟩,h3⟩,trivial⟩
 put:=by
  intro w F ρ x cs h
  match cs,h with
  | [_,_,_,_,_],⟨rfl,rfl,rfl,rfl,⟨A,c,rfl,h1,h3⟩,_⟩=>exact ⟨A,c,rfl,h1.1,h1.2,h3⟩
 nok:=fun _ _=>rfl
theorem eq_tm (p q:Tm):yG [.string p.name,.int .i64 p.am.mode,.int .i64 p.am.units] [.string q.name,.int .i64 q.am.mode,.int .i64 q.am.units]=decide (p=q):=by
 obtain ⟨a,b,c⟩:=p
 obtain ⟨x,y,z⟩:=q
 rw [Bool.eq_iff_iff]
 simp [yG,Iq]
 intros
 obtain ⟨a⟩:=a
 obtain ⟨x⟩:=x
 rw [show ((ByteArray.mk a) == (ByteArray.mk x))=(a == x) from rfl,beq_iff_eq]
 simp
instance:EQ prog 39 [1,0,0]:=⟨by kernel_rfl,fun w a b ha hb=>by
 obtain ⟨a1,a2,a3,rfl⟩:=EN (np ha)
 obtain ⟨b1,b2,b3,rfl⟩:=EN (np hb)
 simp only [List.map_cons,List.map_nil,List.cons.injEq,and_true] at ha hb
 obtain ⟨x1,rfl⟩:=Ap ha.1
 obtain ⟨x2,rfl⟩:=cS ha.2.1
 obtain ⟨x3,rfl⟩:=cS ha.2.2
 obtain ⟨y1,rfl⟩:=Ap hb.1
 obtain ⟨y2,rfl⟩:=cS hb.2.1
 obtain ⟨y3,rfl⟩:=cS hb.2.2
 rw [eq_tm ⟨x1,⟨x2,x3⟩⟩ ⟨y1,⟨y2,y3⟩⟩]
 exact yD ⟨x1,⟨x2,x3⟩⟩ ⟨y1,⟨y2,y3⟩⟩ w⟩
instance:Dp cU:=eJ _ _ _ _ _
instance:Dp q7:=eJ _ _ _ _ _
abbrev iV (n:Int):V0:=.one (.sc (.int .i64 n))
theorem gX {c:Ctx} {s:Mst} {ρ:Nat→Value} {a:Act} {w:World} (hr:Rp c s ρ a w) {t i:Nat} {cs:List D} {d:Nat} {l:List Ex} (h:s.t t = .v (.ag cs)) (hi:cs[i]? = some (.sl (mY d) l)):l.length≤9223372036854775807∧(0<l.length→∃e,d=e+1):=by
 refine ⟨cR hr h hi,fun h0=>?_⟩
 cases d with
 | succ e=>exact ⟨e,rfl⟩
 | zero =>
  have:=hr.tmp t
  rw [h] at this
  obtain ⟨vs,_,h2⟩:=this
  obtain ⟨v,_,A,cap,rfl,_,hR⟩:=h2.get hi
  obtain ⟨g,off,cs',_,_,hc,_⟩:=hR.getx h0 rfl
  exact hc.elim
theorem sF:∀{l:List (Nat×Option Box)} {h h':Nat→Option Box} {n:Nat},h n=h' n→hput l h n=hput l h' n
 | [],_,_,_,e=>e
 | (k,b) :: l,h,h',n,e=>by simp only [hput];rw [sF e]
theorem FSpec.nil0 {P:Program} {f:FuncId} {args:List V0} {α:Type} {e:TypeId} {E:El α} {us:List Nat} {res:TV} {hout:List (Nat×Option Box)} (h:FSpec P f (.one (.own 0) :: args) [(0,.arr e E [])] us res ((0,none) :: hout)) (hu:aI us 0=false) (ha:∀(q:Nat→Nat) k,args.all (fun d=>!(V0.ren q d).has k)=true):FSpec P f (.one (.sc (.slice none 0 0)) :: args) [] (0 :: us) res ((0,none) :: hout):=by
 refine ⟨h.en,fun q c st ρ a w vs hr hq hargs hin hfree=>?_⟩
 have hf0:st.f (q 0)=true:=hfree 0 (by simp [aI])
 have hne:∀{k},k≠q 0→(q 0).beq k=false:=fun hk=>by
  cases hb:(q 0).beq _ with
  | false=>rfl
  | true=>exact absurd (Nat.eq_of_beq_eq_true hb).symm hk
 have hkk:∀k':Nat,aA [(q 0,some (Box.arr e E ([]:List α)))] k'=true→k'=q 0:=fun k' h=>by
  simp only [aA,Bool.or_false] at h
  exact (Nat.eq_of_beq_eq_true h).symm
 have h2:=hr.app (ρ':=upd ρ (q 0) (.slice none 0 0)) (w':=w) (dst:=none) (v:=undef) (e:=⟨.c .any,[(q 0,some (.arr e E []))],[q 0]⟩) (fun d hd=>by cases hd)
  (fun k' hk=>by have h9:k'=q 0:=(by simp [aI] at hk;exact hk.symm);subst h9;exact ⟨hf0,by simp [aA]⟩)
  (fun k' hk=>dx (by simpa [aI] using hk)) (fun k' hk=>.inl (by rw [hkk k' hk];simp [aI])) (Frx.refl _ _)
  (fun k' bx g hk _ hg=>by rw [hkk k' hk,aM] at hg;cases hg) (fun k1 k2 b b' g h1 h2 _ _ _ _=>by rw [hkk k1 h1,hkk k2 h2]) (fun k' hk=>by simp [TV.has,V0.has,D.has] at hk) (fun k1 k2 bx hk hb hx=>by
   rw [hkk k2 hk] at hb
   simp only [Go.Proofs.YtjndcdcbjidocaaGreatDoor.hput,Nat.beq_refl,cond_true,Option.some.injEq] at hb
   subst hb
   simp [Box.has] at hx)
  (fun k' bx hk hb=>by
   rw [hkk k' hk] at hb ⊢
   simp only [Go.Proofs.YtjndcdcbjidocaaGreatDoor.hput,Nat.beq_refl,cond_true,Option.some.injEq] at hb
   subst hb
   rw [aM]
   exact ⟨[],World.ownsRow_nil _ _ _ _,rfl⟩)
  trivial
 match vs,hargs with
 | v :: vs,⟨hv,hvs⟩ =>
  have hv:v = .slice none 0 0:=hv
  subst hv
  refine (h.ca q c _ _ a w (.slice none 0 0 :: vs) h2 hq ⟨(aM _ _ _).symm,hvs.imp fun d u hd h5=>h5.mono (fun b hb=>⟨⟨hb.1,hb.2.1,fun k bx hk he=>?_⟩,rfl⟩) fun k hk=>?_⟩ (fun k b hb=>?_) fun k hk=>?_).mono ?_
  ·by_cases h9:k=q 0
   ·rw [h9,aM] at he;cases he
   ·rw [dx (hne h9)] at he
    refine hb.2.2 k bx ?_ he
    have hk:hput [(q 0,some (.arr e E []))] st.h k=some bx:=hk
    rwa [bO (by simp [aA,hne h9])] at hk
  ·have:=List.all_eq_true.1 (ha q k) d hd
   rw [hk] at this
   cases this
  ·cases k with
   | succ k=>cases hb
   | zero =>
    injection hb with hb
    subst hb
    show hput [(q 0,some (.arr e E []))] st.h (q 0)=_
    simp [Go.Proofs.YtjndcdcbjidocaaGreatDoor.hput,Box.ren]
  ·have h7:q k≠q 0:=fun h8=>by
    have:=hq k 0 (by show (Nat.beq 0 k || aI us k)=true;rw [hk,Bool.or_true]) rfl h8
    subst this
    rw [hu] at hk
    cases hk
   show (st.f (q k) && !aI [q 0] (q k))=true
   rw [hfree k (by show (Nat.beq 0 k || aI us k)=true;rw [hk,Bool.or_true])]
   simp [aI,hne h7]
  ·rintro en w' ⟨v,he,hd⟩
   refine ⟨v,he,fun dst hdst=>?_⟩
   obtain ⟨ρ',h3⟩:=hd dst hdst
   refine ⟨ρ',?_⟩
   have hE:st.app dst ⟨res.ren q,dJ q ((0,none) :: hout),(0 :: us).map q⟩=(st.app none ⟨.c .any,[(q 0,some (.arr e E []))],[q 0]⟩).app dst ⟨res.ren q,dJ q ((0,none) :: hout),us.map q⟩:=by
    unfold Mst.app
    congr 1
    ·funext n
     show hput ((q 0,none) :: dJ q hout) st.h n=hput ((q 0,none) :: dJ q hout) (hput [(q 0,some (.arr e E []))] st.h) n
     simp only [hput]
     cases hb:(q 0).beq n with
     | true=>rfl
     | false=>exact sF (by simp [Go.Proofs.YtjndcdcbjidocaaGreatDoor.hput,hb])
    ·funext n
     simp [aI,Bool.and_assoc]
   rw [hE]
   exact h3
section
variable {P:Program} {nt:Nat} {Ks:List Nat} {Q:Exit→Mst→Prop} {s:Mst}
theorem mC (id:Nat) {l:List Oper} {dr:Bool} {y:Code} (h:AW P nt Ks (.seq (.region id l.toArray dr) y) Q s):AW P nt Ks (.seq (.region id l.toArray dr) y) Q s:=h
theorem mD (id:Nat) {l:List Oper} {dr:Bool} (h:AW P nt Ks (.region id l.toArray dr) Q s):AW P nt Ks (.region id l.toArray dr) Q s:=h
end
theorem Cl {s:Mst} {α:Type} {E:El α} [J:Dp E] {x:Operand} {k n:Nat} {e:TypeId} {cs:List D} (m:List α) (hx:s.ev x = .c (.slb k n)) (hk:s.h k=some (.box e cs)) (hm:All2 NR cs (m.flatMap J.deep)) (hn:m.length=n):F5 s E x m [k]:=fun c st ρ a w hr he h2=>by
 have hv:=hr.ev x
 rw [he,hx] at hv
 obtain ⟨g,hg,hv⟩:=hv
 subst hn
 obtain ⟨vs,hB,hA,_⟩:=hr.box ((h2 k (by simp [aI])).trans hk) hg
 exact ⟨_,_,vs,hv,eB (NR.reps hm hA),fun _=>⟨g,0,rfl,fun j u hu=>by rw [Nat.zero_add];exact hB.cellx j (by simpa using hu)⟩⟩
theorem Ga {s:Mst} {α:Type} {E:El α} [J:Dp E] {x:Operand} {k n:Nat} {e:TypeId} {cs:List D} (m:List α) (hx:s.ev x = .c (.slb k n)) (hk:s.h k=some (.box e cs)) (hn:m.length=n) (hm:All2 NR cs (m.flatMap J.deep):=by (repeat' (first|exact trivial|exact .same _|exact .nil|refine ⟨?_,?_⟩));first|done|fail):F5 s E x m [k]:=Cl m hx hk hm hn
def Cn (a b:Int):Nat→Int→Int
 | 0,_=>0
 | n+1,m=>bif cZ m a && cZ m b then m else Cn a b n (m+1)
theorem kn (m:Int):FSpec prog 139 [iV m] [] [] (.b (bQ m)) []:=by
 unfold bQ
 refine aS func139 ?_
 repeat' (first
  | refine ah ?_ ?_
  | refine af ?_
  | exact ai|refine ae fun hb=>?_)
 all_goals (refine dD ?_;simp [*])
theorem mE (x:Am):FSpec prog 206 [x.a] [] [] (.b (bI x)) []:=by
 have h0:bQ 0=false:=rfl
 unfold bI
 refine aS func206 ?_
 repeat' (first
  | refine ah ?_ ?_
  | refine aa 9 rfl (cB [] (kn x.mode) ?_)
  | refine af ?_
  | exact ai|refine ae fun hb=>?_)
 all_goals (refine dD ?_;first|(simp [*];done)|(simp [*] <;> rfl))
theorem yP (a b:Int):FSpec prog 207 [iV a,iV b] [] [] (.b (cZ a b)) []:=by
 unfold cZ
 refine aS func207 ?_
 repeat' (first
  | refine ah ?_ ?_
  | (refine aa 9 rfl ?_;first
   | (refine cB [] (kn a) ?_)
   | (refine cB [] (kn b) ?_))
  | refine af ?_
  | exact ai|refine ae fun hb=>?_)
 all_goals (refine dD ?_;first|(simp [*];done)|(simp_all [bQ] <;> rfl))
theorem IP (a b:Int):FSpec prog 330 [iV a,iV b] [] [] (.b (jv a b)) []:=by
 unfold jv
 refine aS func330 ?_
 repeat' (first
  | refine ah ?_ ?_
  | (refine aa 9 rfl ?_;first
   | (refine cB [] (kn a) ?_)
   | (refine cB [] (kn b) ?_))
  | refine af ?_
  | exact ai|refine ae fun hb=>?_)
 all_goals (refine dD ?_;first|(simp [*];done)|(simp_all [bQ] <;> rfl))
theorem JT (a b:Int):FSpec prog 214 [iV a,iV b] [] [] (.i (lO a b)) []:=by
 obtain ⟨v,hv⟩:∃v,lO a b=v:=⟨_,rfl⟩
 rw [hv]
 refine aS func214 ?_
 repeat' (first
  | refine ah ?_ ?_
  | refine af ?_
  | exact ai|refine ae fun hb=>?_)
 refine aj (fun x:Nat×Int=>x.1≤5∧x.2+x.1=6∧Cn a b x.1 x.2=v) (fun x=>bH [] [(0,.i a),(1,.i b),(5,.i x.2)] []) (fun x=>x.1) (5,1) ⟨by decide,rfl,hv⟩ (by exact ao (qf [])) ?_
 rintro ⟨n,m⟩ ⟨h5,hm,hs⟩
 dsimp only at *
 cases n with
 | zero =>
  repeat' (first
   | refine ah ?_ ?_
   | refine af ?_
   | exact ai|refine ae fun hb=>?_)
  exact dD (congrArg _ hs)
 | succ n =>
  unfold Cn at hs
  repeat' (first
   | refine ah ?_ ?_
   | (refine aa 9 rfl ?_;first
    | (refine cB [] (yP m a) ?_)
    | (refine cB [] (yP m b) ?_))
   | refine af ?_
   | exact ai|refine ae fun hb=>?_)
  ·refine dD (congrArg _ ?_)
   rw [←hs];simp [*]
  all_goals
   refine ⟨(n,m+1),⟨by dsimp only;omega,by dsimp only;omega,?_⟩,by dsimp only;omega,?_⟩
   ·rw [←hs];simp [*]
   ·exact ao (qf [])
theorem ko (r:Rs):FSpec prog 138 [r.a] [] [] (.b (a7 r)) []:=by
 unfold a7
 refine aS func138 ?_
 repeat' (first
  | refine ah ?_ ?_
  | refine af ?_
  | exact ai|refine ae fun hb=>?_)
 all_goals (refine dD ?_;simp [*])
theorem mF (x:Am):FSpec prog 141 [x.a] [] [] (.b (aG x)) []:=by
 refine aS func141 ?_
 repeat' (first
  | refine ah ?_ ?_
  | refine af ?_
  | exact ai|refine ae fun hb=>?_)
 exact dD rfl
theorem mG (r:Rs) (x:Am):FSpec prog 66 [r.a,x.a] [] [] (.b (aD r x)) []:=by
 unfold aD
 refine aS func66 ?_
 repeat' (first
  | refine ah ?_ ?_
  | (refine aa 9 rfl ?_;first
   | (refine cB [] (ko r) ?_)
   | (refine cB [] (kn x.mode) ?_))
  | refine af ?_
  | exact ai|refine ae fun hb=>?_)
 all_goals (refine dD ?_;simp [*] <;> rfl)
theorem qa (r:Rs) (x:Am):FSpec prog 213 [r.a,x.a] [] [] (.b (be r x)) []:=by
 unfold be
 refine aS func213 ?_
 repeat' (first
  | refine ah ?_ ?_
  | (refine aa 9 rfl ?_;first
   | (refine cB [] (ko r) ?_)
   | (refine cB [] (mF x) ?_)
   | (refine cB [] (mG r x) ?_))
  | refine af ?_
  | exact ai|refine ae fun hb=>?_)
 all_goals (refine dD ?_;simp [*])
theorem fM (r:Rs) (x y:Am):FSpec prog 147 [r.a,x.a,y.a] [] [] (.b (bb r x y)) []:=by
 unfold bb
 refine aS func147 ?_
 repeat' (first
  | refine ah ?_ ?_
  | (refine aa 9 rfl ?_;first
   | (refine cB [] (qa r x) ?_)
   | (refine cB [] (qa r y) ?_)
   | (refine cB [] (mF y) ?_)
   | (refine cB [] (mF x) ?_)
   | (refine cB [] (yP x.mode y.mode) ?_))
  | refine af ?_
  | exact ai|refine ae fun hb=>?_)
 all_goals (refine dD ?_;simp [*])
theorem Gb (r:Rs) (x y:Am):FSpec prog 148 [r.a,x.a,y.a] [] [] (.v (bB r x y).a) []:=by
 obtain ⟨v,hv⟩:∃v,bB r x y=v:=⟨_,rfl⟩
 rw [hv]
 unfold bB at hv
 refine aS func148 ?_
 repeat' (first
  | refine ah ?_ ?_
  | (refine aa 9 rfl ?_;first
   | (refine cB [] (qa r x) ?_)
   | (refine cB [] (qa r y) ?_)
   | (refine cB [] (fM r x y) ?_)
   | (refine cB [] (fM r y x) ?_)
   | (refine cB [] (JT x.mode y.mode) ?_))
  | refine af ?_
  | exact ai|refine ae fun hb=>?_)
 all_goals
  simp only [*,Bool.and_true,Bool.and_false,Bool.true_and,cond_true,cond_false] at hv
  subst hv
  refine aE (qf []) ?_;exact ab
theorem G6 {r:Rs} {a:Am} (hp:be r a=true) (h:r.kind=2):0≤a.units∧a.units≤8:=(jy hp (by omega)).2
theorem xI (a b:Am) (l:List Am):jf a (b :: l)=((!aG a && !aG b && !jv a.mode b.mode) || jf a l):=rfl
theorem EZ (r:Rs) (l:List Am):FSpec prog 315 [r.a,.one (.sl zK l)] [] [] (.b (gA r l)) []:=by
  obtain ⟨v,hv⟩:∃v,gA r l=v:=⟨_,rfl⟩
  rw [hv]
  unfold gA at hv
  refine aS func315 ?_
  refine aH (fun c ρ a w hr=>bh (t:=1) hr rfl) (fun hl1=>?_)
  cases hs:a7 r with
  | false =>
    rw [hs] at hv
    obtain rfl:false=v:=hv
    repeat' (first
      | refine ah ?_ ?_
      | refine aa 9 rfl (cB [] (ko r) ?_)
      | refine af ?_
      | exact ai|(refine ae fun hb=>?_;first|(simp [hs] at hb;done)|skip)
      | (refine aE (qf []) ?_;exact ab))
  | true =>
    rw [hs,Bool.true_and] at hv
    have hu:0≤r.units∧r.units≤8:=by have:=bX hs;omega
    repeat' (first
      | refine ah ?_ ?_
      | refine aa 9 rfl (cB [] (ko r) ?_)
      | refine af ?_
      | exact ai|(refine ae fun hb=>?_;first|(simp [hs] at hb;done)|skip))
    refine aj (fun x:Nat×Int=>x.1≤l.length∧0≤x.2∧x.2≤r.units∧dR r x.2 (l.take x.1) (l.drop x.1)=v) (fun x=>bH [2] [(1,.c (.sl zK l)),(2,.c (.ptr 2 0)),(5,.i x.2),(6,.i x.1)] [(2,.box 55 [.sc (.string r.name),.sc (.int .i64 r.kind),.sc (.int .i64 r.units),.sc (.int .i64 r.home)])]) (fun x=>l.length-x.1) (0,0) ⟨Nat.zero_le _,Int.le_refl _,hu.1,hv⟩ (by exact ao (qf [])) ?_
    rintro ⟨i,s⟩ ⟨hi,h0,h1,hs⟩
    dsimp only at *
    by_cases hlt:i<l.length
    case neg =>
      rw [List.drop_eq_nil_of_le (by omega)] at hs
      obtain rfl:true=v:=hs
      repeat' (first
        | refine ah ?_ ?_
        | refine af ?_
        | exact ai|refine ae fun hb=>?_
        | (refine aE (qf []) ?_;exact ab))
    rw [List.drop_eq_getElem_cons hlt,jx,←List.take_succ_eq_append_getElem hlt] at hs
    cases hp:be r l[i] with
    | false =>
      rw [hp] at hs
      obtain rfl:false=v:=hs
      repeat' (first
        | refine ah ?_ ?_
        | refine aa 9 rfl (cB [] (qa r l[i]) ?_)
        | refine af ?_
        | exact ai|(refine ae fun hb=>?_;first|(simp [hp] at hb;done)|skip)
        | (refine aE (qf []) ?_;exact ab))
    | true =>
      rw [hp,Bool.true_and] at hs
      by_cases hk:r.kind=2
      · have h2:=G6 hp hk
        rw [if_pos hk] at hs
        repeat' (first
          | refine ah ?_ ?_
          | refine aa 9 rfl (cB [] (qa r l[i]) ?_)
          | refine af ?_
          | exact ai|(refine ae fun hb=>?_;first|(simp [hp] at hb;done)|skip))
        · rw [decide_eq_false (by omega)] at hs
          obtain rfl:false=v:=hs
          refine aE (qf []) ?_;exact ab
        · rw [decide_eq_true (by omega),Bool.true_and] at hs
          refine ⟨(i+1,s+l[i].units),⟨by dsimp only;omega,by dsimp only;omega,by dsimp only;omega,hs⟩,by dsimp only;omega,?_⟩
          exact ao (qf [])
      · rw [if_neg hk] at hs
        obtain ⟨c,hc⟩:∃c,jf l[i] (l.take i)=c:=⟨_,rfl⟩
        rw [hc] at hs
        have hlen:(l.take i).length=i:=by simp;omega
        repeat' (first
          | refine ah ?_ ?_
          | refine aa 9 rfl (cB [] (qa r l[i]) ?_)
          | refine af ?_
          | exact ai|(refine ae fun hb=>?_;first|(simp [hp] at hb;done)|skip))
        refine aj (fun k=>k≤i∧jf l[i] ((l.take i).drop k)=c) (fun k=>bH [2] [(1,.c (.sl zK l)),(2,.c (.ptr 2 0)),(5,.i s),(6,.i i),(7,.i k)] [(2,.box 55 [.sc (.string r.name),.sc (.int .i64 r.kind),.sc (.int .i64 r.units),.sc (.int .i64 r.home)])]) (fun k=>i-k) 0 ⟨Nat.zero_le _,hc⟩ (by exact ao (qf [])) ?_
        rintro k ⟨hk,hc⟩
        by_cases hki:k<i
        · rw [List.drop_eq_getElem_cons (by omega),xI,List.getElem_take] at hc
          repeat' (first
            | refine ah ?_ ?_
            | (refine aa 9 rfl ?_;first
              | (refine cB [] (mF l[i]) ?_)
              | (refine cB [] (mF l[k]) ?_)
              | (refine cB [] (IP l[i].mode l[k].mode) ?_))
            | refine af ?_
            | exact ai|refine ae fun hb=>?_)
          all_goals first
            | (obtain rfl:true=c:=by rw [←hc];simp [*]
               obtain rfl:false=v:=hs
               refine aE (qf []) ?_;exact ab)
            | (refine ⟨k+1,⟨by omega,by rw [←hc];simp [*]⟩,by omega,?_⟩
               exact ao (qf []))
        · rw [List.drop_eq_nil_of_le (by omega)] at hc
          obtain rfl:false=c:=hc
          repeat' (first
            | refine ah ?_ ?_
            | refine af ?_
            | exact ai|refine ae fun hb=>?_)
          refine ⟨(i+1,s),⟨by dsimp only;omega,by dsimp only;omega,by dsimp only;omega,hs⟩,by dsimp only;omega,?_⟩
          exact ao (qf [])
instance:ST prog zK 275 37 16:=⟨ElTB.mk' underlying275 (.agg #[.int .i64 0,.int .i64 0]) 2 16 (by kernel_rfl) rfl rfl⟩
theorem jQ (p q:Pr):FSpec prog 32 [p.a,q.a] [] [] (.i (bt p q)) [] :=
 bY (fun b W=>by kernel_rfl) rfl fun w S ρ vs _ h=>by
  match vs,h with
  | [_,_],⟨h1,h2,_⟩=>rw [Pr.open h1,Pr.open h2];exact (xf p q w).mono fun _ _=>fK
theorem qb (p:Pr):FSpec prog 62 [p.a] [] [] (.b (js p)) [] :=
 bY (fun b W=>by kernel_rfl) rfl fun w S ρ vs _ h=>by
  match vs,h with
  | [_],⟨h1,_⟩=>rw [Pr.open h1];exact (xc p w).mono fun _ _=>fK
theorem Co (l:List Ho) (hl:l.length≤100000):FSpec prog 316 [.one (.sl ga l)] [] [] (.c (.sl zK (gO l))) []:=by
 refine aS func316 ?_
 repeat' (first
  | refine ah ?_ ?_
  | refine af ?_
  | exact ai|refine ae fun hb=>?_)
 refine b8 3 1000 37 zK rfl rfl rfl ?_
 refine aj (fun i=>i≤l.length) (fun i=>bH [1000] [(0,.c (.sl ga l)),(3,.c (.own 1000)),(4,.i i)] [(1000,.arr 37 zK (gO (l.take i)))]) (fun i=>l.length-i) 0 (Nat.zero_le _) (by exact ao (qf [])) ?_
 intro i hi
 have hlen:(gO (l.take i)).length=i:=by simp [gO];omega
 by_cases hlt:i<l.length
 ·have e:gO (l.take (i+1))=gO (l.take i)++[l[i].am]:=by unfold gO;rw [List.take_succ_eq_append_getElem hlt,List.map_append];rfl
  repeat' (first
   | refine ah ?_ ?_
   | (refine aa 8 rfl ?_;refine bg (aw rfl rfl (aL rfl rfl) (aP [l[i].am] rfl rfl rfl rfl) rfl aR aR) rfl rfl rfl ?_)
   | refine af ?_
   | exact ai|refine ae fun hb=>?_)
  refine ⟨i+1,by omega,by omega,?_⟩
  rw [e]
  exact ao (qf [(1000,18)])
 ·obtain rfl:i=l.length:=by omega
  rw [List.take_length]
  repeat' (first
   | refine ah ?_ ?_
   | refine af ?_
   | exact ai|refine ae fun hb=>?_
   | (refine aE (qf []) ?_;exact ab))
theorem kq (r:Rs) (l:List Ho):FSpec prog 270 [r.a,.one (.sl ga l)] [] [] (.b (rT r l)) []:=by
  obtain ⟨v,hv⟩:∃v,rT r l=v:=⟨_,rfl⟩
  rw [hv]
  unfold rT at hv
  refine aS func270 ?_
  refine aH (fun c ρ a w hr=>bh (t:=1) hr rfl) (fun hl1=>?_)
  cases hs:a7 r && decide (l.length≤8) with
  | false =>
    rw [hs] at hv
    obtain rfl:false=v:=hv
    repeat' (first
      | refine ah ?_ ?_
      | refine aa 9 rfl (cB [] (ko r) ?_)
      | refine af ?_
      | exact ai|refine ae fun hb=>?_
      | (refine aE (qf []) ?_;exact ab))
    exfalso;revert hs;simp [*];omega
  | true =>
    rw [hs,Bool.true_and] at hv
    obtain ⟨hs,h8⟩:a7 r=true∧l.length≤8:=by simpa using hs
    repeat' (first
      | refine ah ?_ ?_
      | refine aa 9 rfl (cB [] (ko r) ?_)
      | refine af ?_
      | exact ai|(refine ae fun hb=>?_;first|(simp [hs] at hb;done)|skip))
    refine aj (fun i=>i≤l.length∧(rd r (pg l i) (l.drop i) && gA r (gO l))=v) (fun i=>bH [2] [(1,.c (.sl ga l)),(2,.c (.ptr 2 0)),(5,.i i)] [(2,.box 55 [.sc (.string r.name),.sc (.int .i64 r.kind),.sc (.int .i64 r.units),.sc (.int .i64 r.home)])]) (fun i=>l.length-i) 0 ⟨Nat.zero_le _,hv⟩ (by exact ao (qf [])) ?_
    rintro i ⟨hi,hs⟩
    by_cases hlt:i<l.length
    · rw [List.drop_eq_getElem_cons hlt,rU] at hs
      rcases Nat.eq_zero_or_pos i with h0|h0
      · subst h0
        rw [ph] at hs
        repeat' (first
          | refine ah ?_ ?_
          | (refine aa 9 rfl ?_;first
            | (refine cB [] (qb l[0].proc) ?_)
            | (refine cB [] (mG r l[0].am) ?_))
          | refine af ?_
          | exact ai|(refine ae fun hb=>?_;first|(simp at hb;done)|skip))
        all_goals first
          | (obtain rfl:false=v:=by rw [←hs];simp [*]
             refine aE (qf []) ?_;exact ab)
          | (refine ⟨1,⟨by omega,by rw [←hs,iP hlt rfl];simp [*]⟩,by omega,?_⟩
             exact ao (qf []))
      · obtain ⟨m,hm⟩:∃m,l[i-1]=m:=⟨_,rfl⟩
        have hgm:l[((i:Int)-1).toNat]? = some m:=by rw [show ((i:Int)-1).toNat=i-1 by omega,List.getElem?_eq_getElem (by omega),hm]
        rw [rV h0 (by omega) hm] at hs
        dsimp only at hs
        repeat' (first
          | refine ah ?_ ?_
          | (refine aa 9 rfl ?_;first
            | (refine cB [] (qb l[i].proc) ?_)
            | (refine cB [] (mG r l[i].am) ?_)
            | (refine cB [] (jQ m.proc l[i].proc) ?_))
          | refine af ?_
          | exact ai|refine ae fun hb=>?_)
        all_goals first
          | (obtain rfl:false=v:=by rw [←hs];first|(simp [*];done)|(rw [decide_eq_false (p:=bt m.proc l[i].proc<0) (by omega)];simp)
             refine aE (qf []) ?_;exact ab)
          | (refine ⟨i+1,⟨by omega,by rw [←hs,iP hlt rfl,decide_eq_true (p:=bt m.proc l[i].proc<0) (by omega)];simp [*]⟩,by omega,?_⟩
             exact ao (qf []))
    · rw [List.drop_eq_nil_of_le (by omega)] at hs
      obtain rfl:gA r (gO l)=v:=hs
      repeat' (first
        | refine ah ?_ ?_
        | (refine aa 9 rfl ?_;first
          | (refine cC [] (Co l (by omega)) ?_)
          | (refine cB [] (EZ r (gO l)) ?_))
        | refine af ?_
        | exact ai|refine ae fun hb=>?_
        | (refine aE (qf []) ?_;exact ab))
theorem G7 (l:List Ho) (p:Pr):FSpec prog 208 [.one (.sl ga l),p.a] [] [] (.v (aq l p).a) []:=by
 obtain ⟨v,hv⟩:∃v,aq l p=v:=⟨_,rfl⟩
 rw [hv]
 refine aS func208 ?_
 refine aH (fun c ρ a w hr=>bh (t:=0) hr rfl) (fun hl0=>?_)
 repeat' (first
  | refine ah ?_ ?_
  | refine af ?_
  | exact ai|refine ae fun hb=>?_)
 refine aj (fun i=>i≤l.length∧aq (l.drop i) p=v) (fun i=>bH [3,4] [(0,.c (.sl ga l)),(3,.c (.ptr 3 0)),(4,.c (.ptr 4 0)),(5,.i i)] [(3,.box 35 [.sc (.int .i64 p.site),.sc (.int .i64 p.inc),.sc (.int .i64 p.num)]),(4,.box 37 [.sc (.int .i64 0),.sc (.int .i64 0)])]) (fun i=>l.length-i) 0 ⟨Nat.zero_le _,hv⟩ (by exact ao (qf [])) ?_
 rintro i ⟨hi,hs⟩
 by_cases hlt:i<l.length
 ·rw [List.drop_eq_getElem_cons hlt,aq] at hs
  repeat' (first
   | refine ah ?_ ?_
   | refine af ?_
   | exact ai|refine ae fun hb=>?_)
  ·obtain rfl:l[i].am=v:=by rw [←hs];simp [*]
   refine aE (qf []) ?_;exact ab
  ·refine ⟨i+1,⟨by omega,by rw [←hs];simp [*]⟩,by omega,?_⟩
   exact ao (qf [])
 ·rw [List.drop_eq_nil_of_le (by omega)] at hs
  obtain rfl:=hs
  repeat' (first
   | refine ah ?_ ?_
   | refine af ?_
   | exact ai|refine ae fun hb=>?_
   | (refine aE (qf []) ?_;exact ab))
theorem JU (l:List Ho) (p:Pr) (x:Am) (hl:l.length≤1000000):FSpec prog 294 [.one (.sl ga l),p.a,x.a] [] [] (.c (.sl ga (b9 l p x))) []:=by
 obtain ⟨R,hR⟩:∃R,b9 l p x=R:=⟨_,rfl⟩
 rw [hR]
 unfold b9 at hR
 refine aS func294 ?_
 repeat' (first
  | refine ah ?_ ?_
  | refine aa 9 rfl (cB [] (mF x) ?_)
  | refine af ?_
  | exact ai|refine ae fun hb=>?_)
 refine b8 7 1000 197 ga rfl rfl rfl ?_
 refine aj (fun y:Nat×Bool×List Ho=>y.1≤l.length∧y.2.2.length≤y.1+(bif y.2.1 then 1 else 0)∧y.2.2++(bif y.2.1 then d9 (l.drop y.1) p else ld ⟨p,x⟩ (d9 (l.drop y.1) p))=R) (fun y=>bH [4,5,1000] [(0,.c (.sl ga l)),(4,.c (.ptr 4 0)),(5,.c (.ptr 5 0)),(7,.c (.own 1000)),(8,.b y.2.1),(9,.i y.1)] [(4,.box 35 [.sc (.int .i64 p.site),.sc (.int .i64 p.inc),.sc (.int .i64 p.num)]),(5,.box 37 [.sc (.int .i64 x.mode),.sc (.int .i64 x.units)]),(1000,.arr 197 ga y.2.2)]) (fun y=>l.length-y.1) (0,aG x,[]) ⟨Nat.zero_le _,Nat.zero_le _,hR⟩ (by exact ao (qf [])) ?_
 rintro ⟨i,dn,out⟩ ⟨hi,hol,hs⟩
 dsimp only at *
 by_cases hlt:i<l.length
 ·rw [List.drop_eq_getElem_cons hlt,j7] at hs
  by_cases hp:l[i].proc=p
  ·rw [decide_eq_true hp,cond_true] at hs
   repeat' (first
    | refine ah ?_ ?_
    | refine af ?_
    | exact ai|refine ae fun hb=>?_)
   refine ⟨(i+1,dn,out),⟨by dsimp only;omega,by dsimp only;omega,hs⟩,by dsimp only;omega,?_⟩
   exact ao (qf [])
  ·rw [decide_eq_false hp,cond_false,gu] at hs
   cases dn with
   | true =>
    simp only [cond_true] at hol
    repeat' (first
     | refine ah ?_ ?_
     | (refine aa 8 rfl ?_;refine bg (aw rfl rfl (aL rfl rfl) (aP [l[i]] rfl rfl rfl rfl) rfl aR aR) rfl rfl rfl ?_)
     | refine af ?_
     | exact ai|refine ae fun hb=>?_)
    refine ⟨(i+1,true,out++[l[i]]),⟨by dsimp only;omega,by simp;omega,by rw [←hs];simp⟩,by dsimp only;omega,?_⟩
    exact ao (qf [(1000,49)])
   | false =>
    simp only [cond_false] at hol
    repeat' (first
     | refine ah ?_ ?_
     | (refine aa 8 rfl ?_;first
      | (refine bg (aw rfl rfl (aL rfl rfl) (aP [⟨p,x⟩] rfl rfl rfl rfl) rfl aR aR) rfl rfl rfl ?_)
      | (refine bg (aw rfl rfl (aL rfl rfl) (aP [l[i]] rfl rfl rfl rfl) rfl aR aR) rfl rfl rfl ?_))
     | refine aa 9 rfl (cB [] (jQ l[i].proc p) ?_)
     | refine af ?_
     | exact ai|refine ae fun hb=>?_)
    ·refine ⟨(i+1,true,out++[⟨p,x⟩]++[l[i]]),⟨by dsimp only;omega,by simp;omega,by rw [←hs];simp [*]⟩,by dsimp only;omega,?_⟩
     exact ao (qf [(1000,49)])
    ·refine ⟨(i+1,false,out++[l[i]]),⟨by dsimp only;omega,by simp;omega,by rw [←hs];simp [*]⟩,by dsimp only;omega,?_⟩
     exact ao (qf [(1000,49)])
 ·rw [List.drop_eq_nil_of_le (by omega)] at hs
  cases dn with
  | true =>
   simp only [cond_true] at hol
   obtain rfl:out=R:=by rw [←hs];simp [d9]
   repeat' (first
    | refine ah ?_ ?_
    | refine af ?_
    | exact ai|refine ae fun hb=>?_
    | (refine aE (qf []) ?_;exact ab))
  | false =>
   simp only [cond_false] at hol
   obtain rfl:out++[⟨p,x⟩]=R:=by rw [←hs];simp [d9,ld]
   repeat' (first
    | refine ah ?_ ?_
    | (refine aa 8 rfl ?_;refine bg (aw rfl rfl (aL rfl rfl) (aP [⟨p,x⟩] rfl rfl rfl rfl) rfl aR aR) rfl rfl rfl ?_)
    | refine af ?_
    | exact ai|refine ae fun hb=>?_
    | (refine aE (qf []) ?_;exact ab))
theorem IQ (r:Rs) (l:List Ho) (p:Pr) (x:Am):FSpec prog 273 [r.a,.one (.sl ga l),p.a,x.a] [] [] (.b (fv r l p x)) []:=by
 obtain ⟨v,hv⟩:∃v,fv r l p x=v:=⟨_,rfl⟩
 rw [hv]
 unfold fv rW at hv
 refine aS func273 ?_
 cases hh:rT r l with
 | false =>
  rw [hh] at hv
  obtain rfl:false=v:=hv
  repeat' (first
   | refine ah ?_ ?_
   | refine aa 9 rfl (cB [] (kq r l) ?_)
   | refine af ?_
   | exact ai|(refine ae fun hb=>?_;first|(simp [hh] at hb;done)|skip)
   | (refine aE (qf []) ?_;exact ab))
 | true =>
  have h8:l.length≤8:=by have:=hh;simp [rT] at this;omega
  repeat' (first
   | refine ah ?_ ?_
   | (refine aa 9 rfl ?_;first
    | (refine cB [] (kq r l) ?_)
    | (refine cB [] (qb p) ?_)
    | (refine cB [] (mG r x) ?_)
    | (refine cC [] (JU l p x (by omega)) ?_)
    | (refine cB [] (kq r (b9 l p x)) ?_))
   | refine af ?_
   | exact ai|(refine ae fun hb=>?_;first|(simp [hh] at hb;done)|skip))
  all_goals (refine dD ?_;rw [←hv];simp [*])
def Wt.a (x:Wt):V0:=.ag [.sc (.int .i64 x.proc.site),.sc (.int .i64 x.proc.inc),.sc (.int .i64 x.proc.num),.sc (.int .i64 x.am.mode),.sc (.int .i64 x.am.units),.sc (.int .i64 x.prio),.sc (.int .i64 x.passed)]
theorem xJ (x:Wt):FSpec prog 317 [x.a] [] [] (.b (pe x)) []:=by
 unfold pe
 refine aS func317 ?_
 repeat' (first
  | refine ah ?_ ?_
  | (refine aa 9 rfl ?_;first
   | (refine cB [] (qb x.proc) ?_)
   | (refine cB [] (mE x.am) ?_))
  | refine af ?_
  | exact ai|refine ae fun hb=>?_)
 all_goals (refine dD ?_;simp [*])
theorem t6 (l:List Wt) (p:Pr):FSpec prog 209 [.one (.sl eZ l),p.a] [] [] (.i (dh l p)) []:=by
 obtain ⟨v,hv⟩:∃v,dh l p=v:=⟨_,rfl⟩
 rw [hv]
 refine aS func209 ?_
 refine aH (fun c ρ a w hr=>bh (t:=0) hr rfl) (fun hl0=>?_)
 repeat' (first
  | refine ah ?_ ?_
  | refine af ?_
  | exact ai|refine ae fun hb=>?_)
 refine aj (fun i=>i≤l.length∧f4 p i (l.drop i)=v) (fun i=>bH [3] [(0,.c (.sl eZ l)),(3,.c (.ptr 3 0)),(5,.i i)] [(3,.box 35 [.sc (.int .i64 p.site),.sc (.int .i64 p.inc),.sc (.int .i64 p.num)])]) (fun i=>l.length-i) 0 ⟨Nat.zero_le _,hv⟩ (by exact ao (qf [])) ?_
 rintro i ⟨hi,hs⟩
 by_cases hlt:i<l.length
 ·rw [List.drop_eq_getElem_cons hlt,dQ] at hs
  repeat' (first
   | refine ah ?_ ?_
   | refine af ?_
   | exact ai|refine ae fun hb=>?_)
  ·refine dD ?_
   rw [←hs];simp [*]
  ·refine ⟨i+1,⟨by omega,by rw [←hs];simp [*]⟩,by omega,?_⟩
   exact ao (qf [])
 ·rw [List.drop_eq_nil_of_le (by omega)] at hs
  repeat' (first
   | refine ah ?_ ?_
   | refine af ?_
   | exact ai|refine ae fun hb=>?_)
  refine dD ?_
  rw [←hs];rfl
theorem Cp (l:List Wt):FSpec prog 271 [.one (.sl eZ l)] [] [] (.b (eh l)) []:=by
  obtain ⟨v,hv⟩:∃v,eh l=v:=⟨_,rfl⟩
  rw [hv]
  unfold eh at hv
  refine aS func271 ?_
  refine aH (fun c ρ a w hr=>bh (t:=0) hr rfl) (fun hl0=>?_)
  by_cases h8:8<l.length
  · rw [decide_eq_false (by omega)] at hv
    obtain rfl:false=v:=hv
    repeat' (first
      | refine ah ?_ ?_
      | refine af ?_
      | exact ai|refine ae fun hb=>?_
      | (refine aE (qf []) ?_;exact ab))
  rw [decide_eq_true (by omega),Bool.true_and] at hv
  repeat' (first
    | refine ah ?_ ?_
    | refine af ?_
    | exact ai|refine ae fun hb=>?_)
  refine aj (fun i=>i≤l.length∧tm l i (l.drop i)=v) (fun i=>bH [] [(0,.c (.sl eZ l)),(3,.i i)] []) (fun i=>l.length-i) 0 ⟨Nat.zero_le _,hv⟩ (by exact ao (qf [])) ?_
  rintro i ⟨hi,hs⟩
  by_cases hlt:i<l.length
  · rw [List.drop_eq_getElem_cons hlt,j6] at hs
    repeat' (first
      | refine ah ?_ ?_
      | (refine aa 9 rfl ?_;first
        | (refine cB [] (xJ l[i]) ?_)
        | (refine cB [] (t6 l l[i].proc) ?_))
      | refine af ?_
      | exact ai|refine ae fun hb=>?_)
    all_goals first
      | (obtain rfl:false=v:=by rw [←hs];simp [*]
         refine aE (qf []) ?_;exact ab)
      | (refine ⟨i+1,⟨by omega,by rw [←hs];simp [*]⟩,by omega,?_⟩
         exact ao (qf []))
  · rw [List.drop_eq_nil_of_le (by omega)] at hs
    obtain rfl:true=v:=hs
    repeat' (first
      | refine ah ?_ ?_
      | refine af ?_
      | exact ai|refine ae fun hb=>?_
      | (refine aE (qf []) ?_;exact ab))
theorem yQ {all:List Wt}:∀{l:List Wt} {k:Nat},tm all k l=true→∀x∈l,pe x=true
 | [],_,_,_,hx=>absurd hx (by simp)
 | y :: l,k,h,x,hx=>by
  rw [j6] at h
  simp only [Bool.and_eq_true] at h
  rcases List.mem_cons.1 hx with rfl|hx
  ·exact h.1.1
  ·exact yQ h.2 x hx
theorem qc (r:Rs):FSpec prog 98 [r.a] [] [] (.b (jr r)) [] :=
 bY (fun b W=>by kernel_rfl) rfl fun w S ρ vs _ h=>by
  match vs,h with
  | [_],⟨h1,_⟩=>rw [Rs.open h1];exact (ra _ w).mono fun _ _=>fK
def lx (q:Qu):Wt:=(di q).getD ⟨⟨0,0,0⟩,⟨0,0⟩,0,0⟩
theorem IR (q:Qu):FSpec prog 272 [q.a] [] [] (.tup [(lx q).a,.one (.sc (.bool (di q).isSome))]) []:=by
 obtain ⟨r,hs,cs,ws,gn⟩:=q
 refine aS func272 ?_
 refine aH (fun c ρ a w hr=>cR (t:=0) (i:=5) hr rfl rfl) (fun hl0_5=>?_)
 refine aH (fun c ρ a w hr=>cR (t:=0) (i:=6) hr rfl rfl) (fun hl0_6=>?_)
 cases cs with
 | cons x cs =>
  have e0:(x :: cs)[(0:Int).toNat]? = some x:=rfl
  have e1:(x :: cs)[0]? = some x:=rfl
  repeat' (first
   | refine ah ?_ ?_
   | refine af ?_
   | exact ai|(refine ae fun hb=>?_;first|(simp at hb;done)|skip)
   | (refine fL (qf []) ?_;exact ab))
 | nil =>
  cases ws with
  | cons x ws =>
   have e0:(x :: ws)[(0:Int).toNat]? = some x:=rfl
   have e1:(x :: ws)[0]? = some x:=rfl
   repeat' (first
    | refine ah ?_ ?_
    | refine af ?_
    | exact ai|(refine ae fun hb=>?_;first|(simp at hb;done)|skip)
    | (refine fL (qf []) ?_;exact ab))
  | nil =>
   repeat' (first
    | refine ah ?_ ?_
    | refine af ?_
    | exact ai|(refine ae fun hb=>?_;first|(simp at hb;done)|skip)
    | (refine fL (qf []) ?_;exact ab))
theorem Cq (q:Qu):g6 q=(jr q.res && rT q.res q.holds && decide (q.convs.length≤8) && eh q.waits && (decide (q.holds.length+q.waits.length≤8) && decide (0≤q.gen) && decide (q.gen≤1073741824)) && (tn q 0 q.convs && re q q.waits)):=by
 unfold g6 Il Im
 rw [Bool.eq_iff_iff]
 simp only [Bool.and_eq_true]
 constructor <;> (intro h;simp only [h,and_self])
theorem xK (q:Qu):FSpec prog 201 [q.a] [] [] (.b (g6 q)) []:=by
  obtain ⟨v,hv⟩:∃v,g6 q=v:=⟨_,rfl⟩
  rw [hv]
  rw [Cq] at hv
  refine aS func201 ?_
  refine aH (fun c ρ a w hr=>cR (t:=0) (i:=4) hr rfl rfl) (fun hl0_4=>?_)
  refine aH (fun c ρ a w hr=>cR (t:=0) (i:=5) hr rfl rfl) (fun hl0_5=>?_)
  refine aH (fun c ρ a w hr=>cR (t:=0) (i:=6) hr rfl rfl) (fun hl0_6=>?_)
  cases hP:jr q.res && rT q.res q.holds && decide (q.convs.length≤8) && eh q.waits with
  | false =>
    rw [hP] at hv
    obtain rfl:false=v:=hv
    repeat' (first
      | refine ah ?_ ?_
      | (refine aa 9 rfl ?_;first
        | (refine cB [] (qc q.res) ?_)
        | (refine cB [] (kq q.res q.holds) ?_)
        | (refine cB [] (Cp q.waits) ?_))
      | refine af ?_
      | exact ai|refine ae fun hb=>?_
      | (refine aE (qf []) ?_;exact ab))
    all_goals (exfalso;revert hP;simp [*];try omega)
  | true =>
    rw [hP,Bool.true_and] at hv
    simp only [Bool.and_eq_true,decide_eq_true_eq] at hP
    obtain ⟨⟨⟨p1,p2⟩,p3⟩,p4⟩:=hP
    have h8:q.holds.length≤8:=by have:=p2;simp [rT] at this;omega
    have w8:q.waits.length≤8:=by have:=p4;simp [eh] at this;omega
    by_cases hG:q.holds.length+q.waits.length≤8∧0≤q.gen∧q.gen≤1073741824
    case neg =>
      obtain rfl:false=v:=by
        rw [←hv]
        symm
        rw [Bool.and_eq_false_iff]
        left
        rw [Bool.eq_false_iff]
        intro h
        simp only [Bool.and_eq_true,decide_eq_true_eq] at h
        exact hG ⟨h.1.1,h.1.2,h.2⟩
      repeat' (first
        | refine ah ?_ ?_
        | (refine aa 9 rfl ?_;first
          | (refine cB [] (qc q.res) ?_)
          | (refine cB [] (kq q.res q.holds) ?_)
          | (refine cB [] (Cp q.waits) ?_))
        | refine af ?_
        | exact ai|(refine ae fun hb=>?_;first|(simp [p1] at hb;done)|(simp [p2] at hb;done)|(simp [p4] at hb;done)|skip)
        | (refine aE (qf []) ?_;exact ab))
      all_goals (exfalso;omega)
    obtain ⟨g1,g2,g3⟩:=hG
    rw [decide_eq_true g1,decide_eq_true g2,decide_eq_true g3] at hv
    simp only [Bool.true_and] at hv
    repeat' (first
      | refine ah ?_ ?_
      | (refine aa 9 rfl ?_;first
        | (refine cB [] (qc q.res) ?_)
        | (refine cB [] (kq q.res q.holds) ?_)
        | (refine cB [] (Cp q.waits) ?_))
      | refine af ?_
      | exact ai|(refine ae fun hb=>?_;first|(simp [p1] at hb;done)|(simp [p2] at hb;done)|(simp [p4] at hb;done)|skip))
    refine aj (fun i=>i≤q.convs.length∧(tn q i (q.convs.drop i) && re q q.waits)=v) (fun i=>bH [1,3] [(1,.c (.ptr 1 0)),(3,.c (.ptr 3 0)),(4,.i i)] [(1,.box 81 q.d),(3,.box 55 [.sc (.string q.res.name),.sc (.int .i64 q.res.kind),.sc (.int .i64 q.res.units),.sc (.int .i64 q.res.home)])]) (fun i=>q.convs.length-i) 0 ⟨Nat.zero_le _,hv⟩ (by exact ao (qf [])) ?_
    rintro i ⟨hi,hs⟩
    by_cases hlt:i<q.convs.length
    · rw [List.drop_eq_getElem_cons hlt,m9] at hs
      obtain ⟨x,hx⟩:∃x,q.convs[i]=x:=⟨_,rfl⟩
      have hgx:q.convs[i]? = some x:=by rw [List.getElem?_eq_getElem hlt,hx]
      rw [hx] at hs
      obtain ⟨h,hh⟩:∃h,aq q.holds x.proc=h:=⟨_,rfl⟩
      have kG:=G7 q.holds x.proc
      unfold zS at hs
      rw [hh] at hs kG
      clear hv hx hh
      repeat' (first
        | refine ah ?_ ?_
        | (refine aa 9 rfl ?_;first
          | (refine cB [] (kG) ?_)
          | (refine cB [] (mF h) ?_)
          | (refine cB [] (mG q.res x.am) ?_)
          | (refine cB [] (fM q.res x.am h) ?_)
          | (refine cB [] (t6 q.convs x.proc) ?_))
        | refine af ?_
        | exact ai|refine ae fun hb=>?_)
      all_goals first
        | (obtain rfl:false=v:=by rw [←hs];simp [*]
           refine aE (qf []) ?_;exact ab)
        | (refine ⟨i+1,⟨by omega,by rw [←hs];simp [*]⟩,by omega,?_⟩
           exact ao (qf []))
    · rw [List.drop_eq_nil_of_le (by omega)] at hs
      repeat' (first
        | refine ah ?_ ?_
        | refine af ?_
        | exact ai|refine ae fun hb=>?_)
      refine aj (fun i=>i≤q.waits.length∧re q (q.waits.drop i)=v) (fun i=>bH [1,3] [(1,.c (.ptr 1 0)),(3,.c (.ptr 3 0)),(7,.i i)] [(1,.box 81 q.d),(3,.box 55 [.sc (.string q.res.name),.sc (.int .i64 q.res.kind),.sc (.int .i64 q.res.units),.sc (.int .i64 q.res.home)])]) (fun i=>q.waits.length-i) 0 ⟨Nat.zero_le _,hs⟩ (by exact ao (qf [])) ?_
      rintro i ⟨hi,hs⟩
      by_cases hlt:i<q.waits.length
      · rw [List.drop_eq_getElem_cons hlt,na] at hs
        repeat' (first
          | refine ah ?_ ?_
          | (refine aa 9 rfl ?_;first
            | (refine cB [] (mG q.res q.waits[i].am) ?_)
            | (refine cB [] (G7 q.holds q.waits[i].proc) ?_)
            | (refine cB [] (mF (aq q.holds q.waits[i].proc)) ?_))
          | refine af ?_
          | exact ai|refine ae fun hb=>?_)
        all_goals first
          | (obtain rfl:false=v:=by rw [←hs];simp [*]
             refine aE (qf []) ?_;exact ab)
          | (refine ⟨i+1,⟨by omega,by rw [←hs];simp [*]⟩,by omega,?_⟩
             exact ao (qf []))
      · rw [List.drop_eq_nil_of_le (by omega)] at hs
        obtain rfl:true=v:=hs
        repeat' (first
          | refine ah ?_ ?_
          | refine af ?_
          | exact ai|refine ae fun hb=>?_
          | (refine aE (qf []) ?_;exact ab))
theorem Cr (q:Qu):FSpec prog 202 [q.a] [] [] (.b (ax q)) []:=by
 obtain ⟨v,hv⟩:∃v,ax q=v:=⟨_,rfl⟩
 rw [hv]
 unfold ax at hv
 have kH:=IR q
 obtain ⟨x,hx⟩:∃x,lx q=x:=⟨_,rfl⟩
 rw [hx] at kH
 unfold lx at hx
 refine aS func202 ?_
 cases hq:di q with
 | none =>
  rw [hq] at hv kH
  repeat' (first
   | refine ah ?_ ?_
   | (refine aa 9 rfl ?_;first
    | (refine cB [] (xK q) ?_)
    | (refine cB [] (kH) ?_))
   | refine af ?_
   | exact ai|refine ae fun hb=>?_)
  all_goals (refine dD ?_;rw [←hv];simp [*])
 | some y =>
  rw [hq] at hv kH hx
  obtain rfl:y=x:=hx
  repeat' (first
   | refine ah ?_ ?_
   | (refine aa 9 rfl ?_;first
    | (refine cB [] (xK q) ?_)
    | (refine cB [] (kH) ?_)
    | (refine cB [] (IQ q.res q.holds y.proc y.am) ?_))
   | refine af ?_
   | exact ai|refine ae fun hb=>?_)
  all_goals (refine dD ?_;rw [←hv];simp [*])
theorem yR (q:Qu):FSpec prog 129 [q.a] [] [] (.b (ax q)) []:=by
 have h:g6 q=false→ax q=false:=fun h=>by unfold ax;rw [h];rfl
 refine aS func129 ?_
 repeat' (first
  | refine ah ?_ ?_
  | (refine aa 9 rfl ?_;first
   | (refine cB [] (xK q) ?_)
   | (refine cB [] (Cr q) ?_))
  | refine af ?_
  | exact ai|refine ae fun hb=>?_)
 all_goals (refine dD ?_;first|rfl|(rw [h (by assumption)]))
def xL (o:Option Am):Am:=o.getD ⟨0,0⟩
theorem fW (p:Pr):∀(l:List Wt) (k:Nat),(f4 p k l = -1∧f5 l p=none)∨∃i,∃h:i<l.length,f4 p k l=((k+i:Nat):Int)∧f5 l p=some l[i].am
 | [],_=>.inl ⟨rfl,rfl⟩
 | x :: l,k=>by
  rw [dQ,cr]
  cases decide (x.proc=p) with
  | true=>exact .inr ⟨0,by simp,rfl,rfl⟩
  | false =>
   rcases fW p l (k+1) with ⟨h1,h2⟩|⟨i,h,h1,h2⟩
   ·exact .inl ⟨h1,h2⟩
   ·exact .inr ⟨i+1,by simpa using h,by rw [cond_false,h1];congr 1;omega,by simpa using h2⟩
theorem E0 (q:Qu) (p:Pr):FSpec prog 142 [q.a,p.a] [] [] (.tup [(xL (ap q p)).a,.one (.sc (.bool (ap q p).isSome))]) []:=by
 obtain ⟨v,hv⟩:∃v,ap q p=v:=⟨_,rfl⟩
 rw [hv]
 unfold ap at hv
 rw [dV] at hv
 have k1:=t6 q.convs p
 have k2:=t6 q.waits p
 unfold dh at k1 k2
 refine aS func142 ?_
 rcases fW p q.convs 0 with ⟨h1,h2⟩|⟨i,h,h1,h2⟩
 ·rw [h2] at hv
  rw [h1] at k1
  rcases fW p q.waits 0 with ⟨h3,h4⟩|⟨i,h,h3,h4⟩
  ·rw [h4] at hv
   obtain rfl:none=v:=hv
   rw [h3] at k2
   repeat' (first
    | refine ah ?_ ?_
    | (refine aa 9 rfl ?_;first
     | (refine cB [] (k1) ?_)
     | (refine cB [] (k2) ?_))
    | refine af ?_
    | exact ai|refine ae fun hb=>?_
    | (refine fL (qf []) ?_;exact ab))
  ·rw [h4] at hv
   obtain rfl:some q.waits[i].am=v:=hv
   rw [h3,Nat.zero_add] at k2
   repeat' (first
    | refine ah ?_ ?_
    | (refine aa 9 rfl ?_;first
     | (refine cB [] (k1) ?_)
     | (refine cB [] (k2) ?_))
    | refine af ?_
    | exact ai|refine ae fun hb=>?_
    | (refine fL (qf []) ?_;exact ab))
 ·rw [h2] at hv
  obtain rfl:some q.convs[i].am=v:=hv
  rw [h1,Nat.zero_add] at k1
  repeat' (first
   | refine ah ?_ ?_
   | refine aa 9 rfl (cB [] (k1) ?_)
   | refine af ?_
   | exact ai|refine ae fun hb=>?_
   | (refine fL (qf []) ?_;exact ab))
instance:ST prog eY 75 35 24:=⟨ElTB.mk' underlying75 (.agg #[.int .i64 0,.int .i64 0,.int .i64 0]) 3 24 (by kernel_rfl) rfl rfl⟩
abbrev i8 (k:Nat) (p:Pr):Nat×Box:=(k,.box 35 [.sc (.int .i64 p.site),.sc (.int .i64 p.inc),.sc (.int .i64 p.num)])
theorem Gc (l:List Pr) (p:Pr):FSpec prog 132 [.one (.sl eY l),p.a] [] [] (.b (decide (p∈l))) []:=by
 refine aS func132 ?_
 refine aH (fun c ρ a w hr=>bh (t:=0) hr rfl) (fun hl0=>?_)
 repeat' (first
  | refine ah ?_ ?_
  | refine af ?_
  | exact ai|refine ae fun hb=>?_)
 refine aj (fun i=>i≤l.length∧(p∈l↔p∈l.drop i)) (fun i=>bH [3] [(0,.c (.sl eY l)),(3,.c (.ptr 3 0)),(5,.i i)] [i8 3 p]) (fun i=>l.length-i) 0 ⟨Nat.zero_le _,Iff.rfl⟩ (by exact ao (qf [])) ?_
 rintro i ⟨hi,hs⟩
 repeat' (first
  | refine ah ?_ ?_
  | refine af ?_
  | exact ai|refine ae fun hb=>?_)
 ·refine dD ?_
  have:p∈l:=by rw [←hb];exact List.getElem_mem _
  simp [this]
 ·refine ⟨i+1,⟨by omega,?_⟩,by omega,?_⟩
  ·rw [hs,List.drop_eq_getElem_cons (i:=i) (by omega),List.mem_cons]
   exact ⟨fun h=>h.resolve_left fun e=>hb e.symm,.inr⟩
  ·exact ao (qf [])
 ·refine dD ?_
  have:p ∉ l:=by rw [hs,List.drop_eq_nil_of_le (by omega)];simp
  simp [this]
theorem yS (o:Bool) (l:List Pr) (hl:l.length≤1000000):FSpec prog 61 [.one (.sl eY l)] [] (bif o then [0] else []) (.c (bif o then .own 0 else .sl eY (dj l))) (bif o then [(0,some (.arr 35 eY (dj l)))] else []):=by
 refine fP func61 rfl (fun b W=>by kernel_rfl) (by cases o <;> rfl) (Nat.le_of_ble_eq_true rfl) ?_
 repeat' (first
  | refine ah ?_ ?_
  | refine af ?_
  | exact ai|refine ae fun hb=>?_)
 refine b8 3 1000 35 eY rfl rfl rfl ?_
 have h0:dj (l.take 0)=[]:=List.eq_nil_of_length_eq_zero (by have:=nc (l.take 0);simpa using this)
 refine aj (fun i=>i≤l.length) (fun i=>bH [1000] [(0,.c (.sl eY l)),(3,.c (.own 1000)),(4,.i i)] [(1000,.arr 35 eY (dj (l.take i)))]) (fun i=>l.length-i) 0 (Nat.zero_le _) (by rw [h0];exact ao (qf [])) ?_
 intro i hi
 by_cases hlt:i<l.length
 case neg =>
  rw [List.take_of_length_le (by omega)]
  repeat' (first
   | refine ah ?_ ?_
   | refine af ?_
   | exact ai|refine ae fun hb=>?_)
  cases o with
  | true=>refine aE (qf [(0,1000)]) ?_;exact ab
  | false=>refine aE (qf []) ?_;exact ab
 obtain ⟨x,hx⟩:∃x,l[i]=x:=⟨_,rfl⟩
 have hgx:l[i]? = some x:=by rw [List.getElem?_eq_getElem hlt,hx]
 have hLl:=nc (l.take i)
 have HIN:=fun j hj hd ht=>zU (x:=x) (j:=j) hlt hx hj hd ht
 have HHS:=fun hm=>zV (x:=x) hlt hx hm
 obtain ⟨L,hL⟩:∃L,dj (l.take i)=L:=⟨_,rfl⟩
 obtain ⟨L',hL'⟩:∃L',dj (l.take (i+1))=L':=⟨_,rfl⟩
 rw [hL] at HIN HHS hLl ⊢
 simp only [hL,hL'] at HIN HHS
 rw [List.length_take] at hLl
 clear hL hx
 by_cases hm:x∈L
 ·obtain rfl:L=L':=HHS hm
  repeat' (first
   | refine ah ?_ ?_
   | refine aa 9 rfl (cB [1000] (Gc L x) ?_)
   | refine af ?_
   | exact ai|(refine ae fun hb=>?_;first|(exact absurd hm hb)|skip))
  refine ⟨i+1,by omega,by omega,?_⟩
  rw [hL']
  exact ao (qf [])
 have e1:gP x L L.length=L++[x]:=by simp [gP]
 repeat' (first
  | refine ah ?_ ?_
  | (refine aa 8 rfl ?_;refine bg (aw rfl rfl (aL rfl rfl) (aP [x] rfl rfl rfl rfl) rfl aR aR) rfl rfl rfl ?_)
  | refine aa 9 rfl (cB [1000] (Gc L x) ?_)
  | refine af ?_
  | exact ai|(refine ae fun hb=>?_;first|(exact absurd hb hm)|skip))
 refine aj (fun j=>j≤L.length∧∀y∈L.drop j,fq x y) (fun j=>bH [1000] [(0,.c (.sl eY l)),(3,.c (.own 1000)),(4,.i i),(5,.i j)] [(1000,.arr 35 eY (gP x L j))]) (fun j=>j) L.length ⟨Nat.le_refl _,by simp⟩ (by rw [e1];exact ao (qf [(1000,27)])) ?_
 rintro j ⟨hj,hall⟩
 have hW:=pi x L j
 rcases Nat.eq_zero_or_pos j with h0|h0
 ·subst h0
  have e:=HIN 0 (Nat.zero_le _) hall (.inl rfl)
  rw [e]
  repeat' (first
   | refine ah ?_ ?_
   | refine af ?_
   | exact ai|refine ae fun hb=>?_)
  refine ⟨i+1,by omega,by omega,?_⟩
  rw [hL']
  exact ao (qf [])
 obtain ⟨y,hy⟩:∃y,L[j-1]'(by omega)=y:=⟨_,rfl⟩
 have hg1:(gP x L j)[((j:Int)-1).toNat]? = some y:=by
  rw [show ((j:Int)-1).toNat=j-1 by omega,List.getElem?_eq_getElem (by omega),vh h0 hj,hy]
 have hg2:(gP x L j)[j]? = some x:=by rw [List.getElem?_eq_getElem (by omega),Ed hj]
 have hset:((gP x L j).set ((j:Int)-1).toNat x).set j y=gP x L (j-1):=by
  rw [show ((j:Int)-1).toNat=j-1 by omega,←hy];exact zW h0 hj
 have hW2:((gP x L j).set ((j:Int)-1).toNat x).length=L.length+1:=by rw [List.length_set,hW]
 by_cases hc:0<bt y x
 ·have hxy:fq x y:=by rcases cM y x with ⟨_,e⟩|⟨_,e⟩|⟨e,_⟩ <;> first|exact e|omega
  clear HIN HHS
  repeat' (first
   | refine ah ?_ ?_
   | refine aa 9 rfl (cB [] (jQ y x) ?_)
   | refine af ?_
   | (refine aa 4 rfl ?_;first
    | (refine bc (aB (z:=x) rfl rfl rfl rfl (by first|assumption|exact List.getElem?_eq_getElem (by omega)) rfl rfl rfl rfl (Nat.le_of_ble_eq_true rfl) rfl rfl) rfl rfl rfl ?_)
    | (refine bc (aB (z:=y) rfl rfl rfl rfl (by first|assumption|exact List.getElem?_eq_getElem (by omega)) rfl rfl rfl rfl (Nat.le_of_ble_eq_true rfl) rfl rfl) rfl rfl rfl ?_))
   | exact ai|refine ae fun hb=>?_)
  refine ⟨j-1,⟨by omega,?_⟩,by omega,?_⟩
  ·rw [List.drop_eq_getElem_cons (i:=j-1) (by omega),hy,show j-1+1=j by omega]
   intro z hz
   rcases List.mem_cons.1 hz with rfl|hz
   ·exact hxy
   ·exact hall z hz
  ·rw [←hset]
   exact ao (qf [])
 ·have hyx:fq L[j-1] x:=by
   rw [hy]
   rcases cM y x with ⟨e,_⟩|⟨e,_⟩|⟨_,e⟩
   ·exact e
   ·exact absurd (by rw [←e,←hy];exact List.getElem_mem _) hm
   ·omega
  have e:=HIN j hj hall (.inr ⟨by omega,hyx⟩)
  repeat' (first
   | refine ah ?_ ?_
   | refine aa 9 rfl (cB [] (jQ y x) ?_)
   | refine af ?_
   | exact ai|refine ae fun hb=>?_)
  refine ⟨i+1,by omega,by omega,?_⟩
  rw [hL',←e]
  exact ao (qf [])
theorem Cu (l:List Pr) (hl:l.length≤1000000):FSpec prog 61 [.one (.sl eY l)] [] [] (.c (.sl eY (dj l))) []:=yS false l hl
theorem Cv (l:List Ho) (hl:l.length≤100000):FSpec prog 130 [.one (.sl ga l)] [] [0] (.c (.own 0)) [(0,some (.arr 35 eY (cw l)))]:=by
 refine aS func130 ?_
 repeat' (first
  | refine ah ?_ ?_
  | refine af ?_
  | exact ai|refine ae fun hb=>?_)
 refine b8 3 1000 35 eY rfl rfl rfl ?_
 refine aj (fun i=>i≤l.length) (fun i=>bH [1000] [(0,.c (.sl ga l)),(3,.c (.own 1000)),(4,.i i)] [(1000,.arr 35 eY (cw (l.take i)))]) (fun i=>l.length-i) 0 (Nat.zero_le _) (by exact ao (qf [])) ?_
 intro i hi
 have hlen:(cw (l.take i)).length=i:=by simp [cw];omega
 by_cases hlt:i<l.length
 ·have e:cw (l.take (i+1))=cw (l.take i)++[l[i].proc]:=by unfold cw;rw [List.take_succ_eq_append_getElem hlt,List.map_append];rfl
  repeat' (first
   | refine ah ?_ ?_
   | (refine aa 8 rfl ?_;refine bg (aw rfl rfl (aL rfl rfl) (aP [l[i].proc] rfl rfl rfl rfl) rfl aR aR) rfl rfl rfl ?_)
   | refine af ?_
   | exact ai|refine ae fun hb=>?_)
  refine ⟨i+1,by omega,by omega,?_⟩
  rw [e]
  exact ao (qf [(1000,18)])
 ·rw [List.take_of_length_le (by omega)]
  repeat' (first
   | refine ah ?_ ?_
   | refine af ?_
   | exact ai|refine ae fun hb=>?_
   | (refine aE (qf [(0,1000)]) ?_;exact ab))
theorem G8 (q:Qu) (h2:q.convs.length≤100000) (h3:q.waits.length≤100000):FSpec prog 131 [q.a] [] [] (.c (.sl eY (lF q))) []:=by
 refine aS func131 ?_
 repeat' (first
  | refine ah ?_ ?_
  | refine af ?_
  | exact ai|refine ae fun hb=>?_)
 refine b8 3 1000 35 eY rfl rfl rfl ?_
 refine aj (fun i=>i≤q.convs.length) (fun i=>bH [1,1000] [(1,.c (.ptr 1 0)),(3,.c (.own 1000)),(4,.i i)] [(1,.box 81 q.d),(1000,.arr 35 eY (bN (q.convs.take i)))]) (fun i=>q.convs.length-i) 0 (Nat.zero_le _) (by exact ao (qf [])) ?_
 intro i hi
 have hlen:(bN (q.convs.take i)).length=i:=by simp [bN];omega
 by_cases hlt:i<q.convs.length
 ·have e:bN (q.convs.take (i+1))=bN (q.convs.take i)++[q.convs[i].proc]:=by unfold bN;rw [List.take_succ_eq_append_getElem hlt,List.map_append];rfl
  repeat' (first
   | refine ah ?_ ?_
   | (refine aa 8 rfl ?_;refine bg (aw rfl rfl (aL rfl rfl) (aP [q.convs[i].proc] rfl rfl rfl rfl) rfl aR aR) rfl rfl rfl ?_)
   | refine af ?_
   | exact ai|refine ae fun hb=>?_)
  refine ⟨i+1,by omega,by omega,?_⟩
  rw [e]
  exact ao (qf [(1000,21)])
 ·rw [List.take_of_length_le (by omega)]
  repeat' (first
   | refine ah ?_ ?_
   | refine af ?_
   | exact ai|refine ae fun hb=>?_)
  refine aj (fun i=>i≤q.waits.length) (fun i=>bH [1,1000] [(1,.c (.ptr 1 0)),(3,.c (.own 1000)),(5,.i i)] [(1,.box 81 q.d),(1000,.arr 35 eY (bN (q.convs++q.waits.take i)))]) (fun i=>q.waits.length-i) 0 (Nat.zero_le _) (by rw [List.take_zero,List.append_nil];exact ao (qf [])) ?_
  intro i hi
  have hlen:(bN (q.convs++q.waits.take i)).length=q.convs.length+i:=by simp [bN];omega
  by_cases hlt:i<q.waits.length
  ·have e:bN (q.convs++q.waits.take (i+1))=bN (q.convs++q.waits.take i)++[q.waits[i].proc]:=by unfold bN;rw [List.take_succ_eq_append_getElem hlt,←List.append_assoc,List.map_append];rfl
   repeat' (first
    | refine ah ?_ ?_
    | (refine aa 8 rfl ?_;refine bg (aw rfl rfl (aL rfl rfl) (aP [q.waits[i].proc] rfl rfl rfl rfl) rfl aR aR) rfl rfl rfl ?_)
    | refine af ?_
    | exact ai|refine ae fun hb=>?_)
   refine ⟨i+1,by omega,by omega,?_⟩
   rw [e]
   exact ao (qf [(1000,37)])
  ·rw [List.take_of_length_le (by omega)]
   repeat' (first
    | refine ah ?_ ?_
    | refine af ?_
    | exact ai|refine ae fun hb=>?_
    | (refine aE (qf []) ?_;exact ab))
theorem E3 (q:Qu) (h8:eO q):FSpec prog 60 [q.a] [] [] (.c (.sl eY (eM q))) []:=by
 obtain ⟨h1,h2,h3⟩:=h8
 have hl:(cw q.holds++lF q).length≤24:=by simp [cw,lF];omega
 have hl1:(cw q.holds).length≤8:=by simp [cw];omega
 have hl2:(lF q).length≤16:=by simp [lF];omega
 refine aS func60 ?_
 repeat' (first
  | refine ah ?_ ?_
  | (refine aa 9 rfl ?_;first
   | (refine cH (qf [(0,1000)]) (Cv q.holds (by omega)) ?_)
   | (refine cC [] (G8 q (by omega) (by omega)) ?_)
   | (refine cC [8] (Cu (cw q.holds++lF q) (by omega)) ?_))
  | refine af ?_
  | exact ai|refine ae fun hb=>?_
  | (refine aE (qf []) ?_;exact ab))
theorem xM (l:List Qu) (n:ByteArray):FSpec prog 65 [.one (.sl dt l),.one (.sc (.string n))] [] [] (.i (bi n 0 l)) []:=by
 obtain ⟨v,hv⟩:∃v,bi n 0 l=v:=⟨_,rfl⟩
 rw [hv]
 refine aS func65 ?_
 refine aH (fun c ρ a w hr=>bh (t:=0) hr rfl) (fun hl0=>?_)
 repeat' (first
  | refine ah ?_ ?_
  | refine af ?_
  | exact ai|refine ae fun hb=>?_)
 refine aj (fun i=>i≤l.length∧bi n i (l.drop i)=v) (fun i=>bH [] [(0,.c (.sl dt l)),(1,.c (.sc (.string n))),(5,.i i)] []) (fun i=>l.length-i) 0 ⟨Nat.zero_le _,hv⟩ (by exact ao (qf [])) ?_
 rintro i ⟨hi,hs⟩
 by_cases hlt:i<l.length
 ·rw [List.drop_eq_getElem_cons hlt,eN] at hs
  repeat' (first
   | refine ah ?_ ?_
   | refine af ?_
   | exact ai|refine ae fun hb=>?_)
  ·refine dD ?_
   rw [←hs];simp [*]
  ·refine ⟨i+1,⟨by omega,by rw [←hs,beq_eq_false_iff_ne.2 hb];rfl⟩,by omega,?_⟩
   exact ao (qf [])
 ·rw [List.drop_eq_nil_of_le (by omega)] at hs
  repeat' (first
   | refine ah ?_ ?_
   | refine af ?_
   | exact ai|refine ae fun hb=>?_)
  refine dD ?_
  rw [←hs];rfl
theorem Cw (l:List Qu):FSpec prog 59 [.one (.sl dt l)] [] [] (.b (fy l)) []:=by
  obtain ⟨v,hv⟩:∃v,fy l=v:=⟨_,rfl⟩
  rw [hv]
  unfold fy at hv
  refine aS func59 ?_
  refine aH (fun c ρ a w hr=>bh (t:=0) hr rfl) (fun hl0=>?_)
  by_cases h8:8<l.length
  · rw [decide_eq_false (by omega)] at hv
    obtain rfl:false=v:=hv
    repeat' (first
      | refine ah ?_ ?_
      | refine af ?_
      | exact ai|refine ae fun hb=>?_
      | (refine aE (qf []) ?_;exact ab))
  rw [decide_eq_true (by omega),Bool.true_and] at hv
  repeat' (first
    | refine ah ?_ ?_
    | refine af ?_
    | exact ai|refine ae fun hb=>?_)
  refine aj (fun i=>i≤l.length∧lf (pm l i) (l.drop i)=v) (fun i=>bH [] [(0,.c (.sl dt l)),(3,.i i)] []) (fun i=>l.length-i) 0 ⟨Nat.zero_le _,hv⟩ (by exact ao (qf [])) ?_
  rintro i ⟨hi,hs⟩
  by_cases hlt:i<l.length
  · rw [List.drop_eq_getElem_cons hlt,dH] at hs
    rcases Nat.eq_zero_or_pos i with h0|h0
    · subst h0
      rw [pn] at hs
      repeat' (first
        | refine ah ?_ ?_
        | refine aa 9 rfl (cB [] (yR l[0]) ?_)
        | refine af ?_
        | exact ai|(refine ae fun hb=>?_;first|(simp at hb;done)|skip))
      all_goals first
        | (obtain rfl:false=v:=by rw [←hs];simp [*]
           refine aE (qf []) ?_;exact ab)
        | (refine ⟨1,⟨by omega,by rw [←hs,iR hlt rfl];simp [*,xb]⟩,by omega,?_⟩
           exact ao (qf []))
    · obtain ⟨m,hm⟩:∃m,l[i-1]=m:=⟨_,rfl⟩
      have hgm:l[((i:Int)-1).toNat]? = some m:=by rw [show ((i:Int)-1).toNat=i-1 by omega,List.getElem?_eq_getElem (by omega),hm]
      rw [rZ h0 (by omega) hm] at hs
      repeat' (first
        | refine ah ?_ ?_
        | refine aa 9 rfl (cB [] (yR l[i]) ?_)
        | refine af ?_
        | exact ai|refine ae fun hb=>?_)
      all_goals first
        | (obtain rfl:false=v:=by rw [←hs];simp [*,xb]
           refine aE (qf []) ?_;exact ab)
        | (refine ⟨i+1,⟨by omega,by rw [←hs,iR hlt rfl];simp [*,xb]⟩,by omega,?_⟩
           exact ao (qf []))
  · rw [List.drop_eq_nil_of_le (by omega)] at hs
    obtain rfl:true=v:=hs
    repeat' (first
      | refine ah ?_ ?_
      | refine af ?_
      | exact ai|refine ae fun hb=>?_
      | (refine aE (qf []) ?_;exact ab))
theorem qd (q:Qu) (l:List Qu):jC (q :: l)=eM q++jC l:=rfl
theorem Cx (o:Bool) (l:List Qu) (hm:l.length≤12) (h8:∀q∈l,eO q):FSpec prog 29 [.one (.sl dt l)] [] (bif o then [0] else []) (.c (bif o then .own 0 else .sl eY (aF l))) (bif o then [(0,some (.arr 35 eY (aF l)))] else []):=by
 obtain ⟨R,hR⟩:∃R,jC l=R:=⟨_,rfl⟩
 have hRl:R.length≤288:=by rw [←hR];have:=pk l h8;omega
 unfold aF
 rw [hR]
 refine fP func29 rfl (fun b W=>by kernel_rfl) (by cases o <;> rfl) (Nat.le_of_ble_eq_true rfl) ?_
 repeat' (first
  | refine ah ?_ ?_
  | refine af ?_
  | exact ai|refine ae fun hb=>?_)
 refine b8 3 1000 35 eY rfl rfl rfl ?_
 refine aj (fun x:Nat×List Pr=>x.1≤l.length∧x.2++jC (l.drop x.1)=R) (fun x=>bH [1000] [(0,.c (.sl dt l)),(3,.c (.own 1000)),(4,.i x.1)] [(1000,.arr 35 eY x.2)]) (fun x=>l.length-x.1) (0,[]) ⟨Nat.zero_le _,hR⟩ (by exact ao (qf [])) ?_
 rintro ⟨i,out⟩ ⟨hi,hs⟩
 dsimp only at *
 have hol:out.length≤288:=by have:=congrArg List.length hs;simp at this;omega
 by_cases hlt:i<l.length
 ·rw [List.drop_eq_getElem_cons hlt,qd,←List.append_assoc] at hs
  have hq:=h8 _ (List.getElem_mem hlt)
  have hql:=lG hq
  have kP:=E3 l[i] hq
  clear h8
  repeat' (first
   | refine ah ?_ ?_
   | refine aa 9 rfl (cC [] (kP) ?_)
   | refine af ?_
   | exact ai|refine ae fun hb=>?_)
  refine ⟨(i+1,out++eM l[i]),⟨by dsimp only;omega,hs⟩,by dsimp only;omega,?_⟩
  exact ao (qf [(1000,17)])
 ·rw [List.drop_eq_nil_of_le (by omega)] at hs
  obtain rfl:out=R:=by rw [←hs];simp [jC]
  repeat' (first
   | refine ah ?_ ?_
   | ((fail_if_success (first|refine mC 6 ?_|refine mD 6 ?_));refine af ?_)
   | exact ai|refine ae fun hb=>?_)
  refine g9 1000 rfl ?_
  cases o with
  | true =>
   repeat' (first
    | refine ah ?_ ?_
    | refine aa 9 rfl (cH (qf [(0,1001)]) (yS true out (by omega)) ?_)
    | refine af ?_
    | exact ai|refine ae fun hb=>?_
    | (refine aE (qf [(0,1001)]) ?_;exact ab))
  | false =>
   repeat' (first
    | refine ah ?_ ?_
    | refine aa 9 rfl (cC [] (Cu out (by omega)) ?_)
    | refine af ?_
    | exact ai|refine ae fun hb=>?_
    | (refine aE (qf []) ?_;exact ab))
theorem yT (l:List Qu) (hm:l.length≤12) (h8:∀q∈l,eO q):FSpec prog 29 [.one (.sl dt l)] [] [] (.c (.sl eY (aF l))) []:=Cx false l hm h8
theorem t7 (l:List En) (n:ByteArray):FSpec prog 134 [.one (.sl jP l),.one (.sc (.string n))] [] [] (.v (az l n).a) []:=by
 obtain ⟨v,hv⟩:∃v,az l n=v:=⟨_,rfl⟩
 rw [hv]
 unfold az at hv
 refine aS func134 ?_
 refine aH (fun c ρ a w hr=>bh (t:=0) hr rfl) (fun hl0=>?_)
 repeat' (first
  | refine ah ?_ ?_
  | refine af ?_
  | exact ai|refine ae fun hb=>?_)
 refine aj (fun x:Nat×Am=>x.1≤l.length∧c8 n x.2 (l.drop x.1)=v) (fun x=>bH [4,5] [(0,.c (.sl jP l)),(1,.c (.sc (.string n))),(4,.c (.ptr 4 0)),(5,.c (.ptr 5 0)),(6,.i x.1)] [(4,.box 37 [.sc (.int .i64 0),.sc (.int .i64 0)]),(5,.box 37 [.sc (.int .i64 x.2.mode),.sc (.int .i64 x.2.units)])]) (fun x=>l.length-x.1) (0,⟨0,0⟩) ⟨Nat.zero_le _,hv⟩ (by exact ao (qf [])) ?_
 rintro ⟨i,a⟩ ⟨hi,hs⟩
 dsimp only at *
 by_cases hlt:i<l.length
 ·rw [List.drop_eq_getElem_cons hlt,c8] at hs
  repeat' (first
   | refine ah ?_ ?_
   | refine af ?_
   | exact ai|refine ae fun hb=>?_)
  ·refine ⟨(i+1,l[i].after),⟨by dsimp only;omega,by rw [←hs];simp [*,aY]⟩,by dsimp only;omega,?_⟩
   exact ao (qf [])
  ·refine ⟨(i+1,a),⟨by dsimp only;omega,by rw [←hs,aY,beq_eq_false_iff_ne.2 hb];rfl⟩,by dsimp only;omega,?_⟩
   exact ao (qf [])
 ·rw [List.drop_eq_nil_of_le (by omega)] at hs
  obtain rfl:a=v:=hs
  repeat' (first
   | refine ah ?_ ?_
   | refine af ?_
   | exact ai|refine ae fun hb=>?_
   | (refine aE (qf []) ?_;exact ab))
theorem Cy (x y:Am):FSpec prog 135 [x.a,y.a] [] [] (.b (cO x y)) []:=by
 unfold cO aG
 refine aS func135 ?_
 repeat' (first
  | refine ah ?_ ?_
  | (refine aa 9 rfl ?_;first
   | (refine cB [] (mE y) ?_)
   | (refine cB [] (mE x) ?_)
   | (refine cB [] (yP y.mode x.mode) ?_))
  | refine af ?_
  | exact ai|refine ae fun hb=>?_)
 all_goals (refine dD ?_;first|(simp [*];done)|(simp_all;done))
theorem t8 (l:List Sv) (n:Int):FSpec prog 137 [.one (.sl lw l),.one (.sc (.int .i64 n))] [] [] (.i (aT n 0 l)) []:=by
 obtain ⟨v,hv⟩:∃v,aT n 0 l=v:=⟨_,rfl⟩
 rw [hv]
 refine aS func137 ?_
 refine aH (fun c ρ a w hr=>bh (t:=0) hr rfl) (fun hl0=>?_)
 repeat' (first
  | refine ah ?_ ?_
  | refine af ?_
  | exact ai|refine ae fun hb=>?_)
 refine aj (fun i=>i≤l.length∧aT n i (l.drop i)=v) (fun i=>bH [] [(0,.c (.sl lw l)),(1,.i n),(5,.i i)] []) (fun i=>l.length-i) 0 ⟨Nat.zero_le _,hv⟩ (by exact ao (qf [])) ?_
 rintro i ⟨hi,hs⟩
 by_cases hlt:i<l.length
 ·rw [List.drop_eq_getElem_cons hlt,aT] at hs
  repeat' (first
   | refine ah ?_ ?_
   | refine af ?_
   | exact ai|refine ae fun hb=>?_)
  ·refine dD ?_
   rw [←hs];simp [*]
  ·refine ⟨i+1,⟨by omega,by rw [←hs];simp [*]⟩,by omega,?_⟩
   exact ao (qf [])
 ·rw [List.drop_eq_nil_of_le (by omega)] at hs
  repeat' (first
   | refine ah ?_ ?_
   | refine af ?_
   | exact ai|refine ae fun hb=>?_)
  refine dD ?_
  rw [←hs];rfl
end Go.Proofs.YtjndcdcbjidocaaGreatDoor
