/- Part 17 of 56 of the proof of both_hold (no condition). -/
import Derived.Test.YtcgpepnbohejfaaGreatDoorK15
import Derived.Test.YtcgpepnbohejfaaGreatDoorK16
import Derived.Laws.Cover1
set_option linter.unusedVariables false
set_option linter.unusedSimpArgs false
set_option maxRecDepth 100000
set_option maxHeartbeats 64000000
namespace Go.Proofs.YtcgpepnbohejfaaGreatDoor
open Go.RowKit Go.Proofs.Tryz
theorem s6 {w:World} {S:Nat→Prop} {A:Option Addr} {l:Ct} (h:RowsAt dS w S A l) {i:Nat} (hi:i<l.length) {nm:ByteArray} {k u hm:Int} (e:l[i]=⟨nm,k,u,hm⟩) :
  ∃b off,A=some ⟨b,off,none⟩∧S b∧w.cell? ⟨b,off+i*4,none⟩=some (.string nm)∧w.cell? ⟨b,off+i*4+1,none⟩=some (.int .i64 k)∧
   w.cell? ⟨b,off+i*4+2,none⟩=some (.int .i64 u)∧w.cell? ⟨b,off+i*4+3,none⟩=some (.int .i64 hm):=by
 obtain ⟨b,off,cs,hA,hb,hr,hc⟩:=h.getx hi e;have hr':cs=[.string nm,.int .i64 k,.int .i64 u,.int .i64 hm]:=hr;subst hr';exact ⟨b,off,hA,hb,hc 0 (by decide),hc 1 (by decide),hc 2 (by decide),hc 3 (by decide)⟩
theorem yW {P:Program} {o:Oper} {s:Mst} {ts:Array TypeId} {x y:Operand} {a b:Int} (ho:o.op = .call { callee:=.builtin .max,args:=#[x,y],argTypes:=ts }) (hx:s.ev x = .i a) (hy:s.ev y = .i b):LOp P o s [] ⟨.i (max a b),[],[]⟩ :=
 fM (by rw [ho];rfl) hx hy fun ev w hx hy=>by
  have h:(if b > a then b else a)=max a b:=by rw [Int.max_def];split <;> split <;> omega
  simp [execOp,ho,hx,hy,resolve,invoke,builtin,Builtin.max_,Builtin.max2,h]
theorem Cn (s:ByteArray):FSpec prog 103 [.one (.sc (.string s))] [] [] (.b (cE s.toList)) [] :=
 cP (fun b W=>by kernel_rfl) rfl fun w S ρ vs _ h=>by
  match vs,h with
  | [_],⟨rfl,_⟩=>exact (jX s w).mono fun e w' h=>⟨_,h.1,by rw [h.2];exact Below.refl _ _,rfl⟩
theorem H8:∀(x:Ex) (d lev n:Nat),lev≤5→n≤24→FSpec prog 181 [x.a d,iV lev,.one (.ptr 0 0)] [(0,.box 3 [.sc (.int .i64 n)])] [] (.i (gM x lev n).1) [(0,some (.box 3 [.sc (.int .i64 (gM x lev n).2)]))]:=by
 refine Ex.ind (fun k a l ih=>?_);intro d lev n hlev hn;obtain ⟨r,hr⟩:∃r,gM (.mk k a l) lev n=r:=⟨_,rfl⟩;rw [hr];rw [yr] at hr;show FSpec prog 181 [.ag (xL d k a l),iV lev,.one (.ptr 0 0)] [(0,.box 3 [.sc (.int .i64 n)])] [] (.i r.1) [(0,some (.box 3 [.sc (.int .i64 r.2)]))];refine aT func181 ?_;refine bd (fun c ρ a w hr=>iy (t:=0) (i:=4) hr rfl rfl) (fun hx=>?_);obtain ⟨hlen,hne⟩:=hx;by_cases hc:4<lev∨24<n+1
 ·rw [if_pos hc] at hr;obtain rfl:=hr;repeat' (first|refine af ?_ ?_|refine ae ?_|exact ah|refine ab fun hb=>?_|exact bB|fail)
  all_goals (exfalso;omega)
 rw [if_neg hc] at hr;repeat' (first|refine af ?_ ?_|refine ae ?_|exact ah|refine ab fun hb=>?_)
 refine ak (fun x:Nat×Nat×Nat=>x.1≤l.length∧x.2.1≤24∧x.2.2≤5∧jZ (l.drop x.1) lev x.2.1 x.2.2=r) (fun x=>cq [0] [(1,.i lev),(2,.c (.ptr 0 0)),(7,.i x.2.2),(25,.c (.sl (mn d) l)),(26,.i l.length),(27,.i x.1)] [(0,.box 3 [.sc (.int .i64 x.2.1)])]) (fun x=>l.length-x.1) (0,n+1,0) ⟨Nat.zero_le _,by dsimp only;omega,Nat.zero_le _,hr⟩ a7 ?_;rintro ⟨i,n1,m⟩ ⟨hi,hn1,hm,hs⟩;dsimp only at *
 by_cases hlt:i<l.length
 case neg =>
  rw [List.drop_eq_nil_of_le (by omega)] at hs;obtain rfl:=hs;repeat' (first|refine af ?_ ?_|refine ae ?_|exact ah|refine ab fun hb=>?_|exact bB|fail)
 rw [List.drop_eq_getElem_cons hlt,oG] at hs;obtain ⟨e,rfl⟩:=hne (by omega);obtain ⟨⟨a1,n2⟩,h1⟩:∃p,gM l[i] (lev+1) n1=p:=⟨_,rfl⟩;have h5:a1≤5∧(a1≠0→n2≤24):=by
  rcases yt l[i] (lev+1) n1 with ⟨b1,b2,b3⟩|⟨b1,b2,b3⟩ <;> rw [h1] at *
  ·injection b3;omega
  ·dsimp only at b2;omega
 have kS:FSpec prog 181 [l[i].a e,iV ((lev:Int)+1),.one (.ptr 0 0)] [(0,.box 3 [.sc (.int .i64 n1)])] [] (.i a1) [(0,some (.box 3 [.sc (.int .i64 n2)]))]:=by
  have:=ih l[i] (List.getElem_mem hlt) e (lev+1) n1 (by omega) hn1;rw [h1] at this;exact this
 rw [h1] at hs;dsimp only at hs;clear ih h1;repeat' (first|refine af ?_ ?_|(refine aa 9 rfl ?_;first|(refine sx (yW rfl rfl rfl) ?_)|(refine cH (qf [(0,0)]) (kS) ?_))|refine ae ?_|exact ah|refine ab fun hb=>?_)
 ·obtain rfl:(0,n2)=r:=by rw [←hs,if_pos (by omega)]
  refine ct (qf []) ?_;exact aw
 ·refine ⟨(i+1,n2,max m a1),⟨by dsimp only;omega,by dsimp only;omega,by dsimp only;omega,by rw [←hs,if_neg (by omega)]⟩,by dsimp only;omega,?_⟩;dsimp only;exact a7
theorem xM (x:Ex) (d:Nat) {n:Nat} (hn:(if wW x then x.dep else 0:Nat)=n):FSpec prog 143 [x.a d] [] [] (.i n) []:=by
 have kM:=H8 x d 1 0 (by decide) (by decide);rw [DJ,hn] at kM;obtain ⟨m,hm⟩:∃m,(gM x 1 0).2=m:=⟨_,rfl⟩;rw [hm] at kM;refine aT func143 ?_;repeat' (first|refine af ?_ ?_|refine aa 9 rfl (cH (qf [(0,3)]) (kM) ?_)|refine ae ?_|exact ah|refine ab fun hb=>?_|exact bB|fail)
def Jc (o:Option (List Tm)):List (Nat×Option Box):=match o with
 | some r=>[(0,some (.box 99 [.own 2])),(1,none),(2,some (.arr 44 c7 r))]
 | none=>[(0,none),(1,none),(2,none)]
def j7:List Tm→List Tm→Tm→Int
 | [],acc,_=>if acc.length=8 then 4 else 0
 | b :: l,acc,a=>bif decide (a=b) then 0 else bif decide (a.name=b.name) then 13 else j7 l acc a
theorem pE (b:Tm) (l acc:List Tm) (a:Tm):j7 (b :: l) acc a=bif decide (a=b) then 0 else bif decide (a.name=b.name) then 13 else j7 l acc a:=rfl
theorem wj (acc:List Tm) (a:Tm):∀l,(fe l acc a=none∧(j7 l acc a=4∨j7 l acc a=13))∨(∃r,fe l acc a=some r)∧j7 l acc a=0
 | []=>by
  unfold fe j7;by_cases h:acc.length=8
  ·rw [if_pos h,if_pos h];exact .inl ⟨rfl,.inl rfl⟩
  ·rw [if_neg h,if_neg h];exact .inr ⟨⟨_,rfl⟩,rfl⟩
 | b :: l=>by
  rw [ik,pE];cases decide (a=b) with
  | true=>exact .inr ⟨⟨_,rfl⟩,rfl⟩
  | false =>
   cases decide (a.name=b.name) with
   | true=>exact .inl ⟨rfl,.inr rfl⟩
   | false=>exact wj acc a l
theorem Fr (acc:List Tm) (a:Tm) (h8:acc.length≤8) {c:Int} (hc:j7 acc acc a=c) {R:Option (List Tm)} (hR:fe acc acc a=R):FSpec prog 183 [.one (.ptr 0 0),a.a] [(0,.box 99 [.own 1]),(1,.arr 44 c7 acc)] [2] (.i c) (Jc R):=by
 refine jb func183 rfl (fun b W=>by kernel_rfl) (by cases R <;> rfl) (Nat.le_of_ble_eq_true rfl) ?_;repeat' (first|refine af ?_ ?_|refine ae ?_|exact ah|refine ab fun hb=>?_)
 refine ak (fun i=>i≤acc.length∧j7 (acc.drop i) acc a=c∧fe (acc.drop i) acc a=R) (fun i=>cq [0,1,3] [(0,.c (.ptr 0 0)),(3,.c (.ptr 3 0)),(9,.c (.own 1)),(10,.i acc.length),(11,.i i)] [(0,.box 99 [.own 1]),(1,.arr 44 c7 acc),(3,.box 44 [.sc (.string a.name),.sc (.int .i64 a.am.mode),.sc (.int .i64 a.am.units)])]) (fun i=>acc.length-i) 0 ⟨Nat.zero_le _,hc,hR⟩ a7 ?_;rintro i ⟨hi,hc,hR⟩;by_cases hlt:i<acc.length
 ·rw [List.drop_eq_getElem_cons hlt] at hc hR;rw [pE] at hc;rw [ik] at hR;by_cases h1:a=acc[i]
  ·rw [decide_eq_true h1] at hc hR;obtain rfl:=hc;obtain rfl:=hR;repeat' (first|refine af ?_ ?_|refine ae ?_|exact ah|refine ab fun hb=>?_|(refine ct (qf [(2,1)]) ?_;exact aw))
  rw [decide_eq_false h1,cond_false] at hc hR;by_cases h2:a.name=acc[i].name
  ·rw [decide_eq_true h2] at hc hR;obtain rfl:=hc;obtain rfl:=hR;repeat' (first|refine af ?_ ?_|refine ae ?_|exact ah|(refine ab fun hb=>?_;first|(exact absurd (by rw [h2]) hb)|skip)|exact bB|fail)
  ·rw [decide_eq_false h2] at hc hR;repeat' (first|refine af ?_ ?_|refine ae ?_|exact ah|(refine ab fun hb=>?_;first|(exact absurd (toList_inj hb) h2)|skip))
   refine ⟨i+1,⟨by omega,hc,hR⟩,by omega,?_⟩;exact a7
 ·rw [List.drop_eq_nil_of_le (by omega)] at hc hR;unfold j7 at hc;unfold fe at hR;by_cases h9:acc.length=8
  ·rw [if_pos h9] at hc hR;obtain rfl:=hc;obtain rfl:=hR;repeat' (first|refine af ?_ ?_|refine ae ?_|exact ah|refine ab fun hb=>?_|exact bB|fail)
  ·rw [if_neg h9] at hc hR;obtain rfl:=hc;obtain rfl:=hR;repeat' (first|refine af ?_ ?_|(refine aa 8 rfl ?_;refine bh (ap rfl rfl (aH rfl rfl) (aL [a] rfl rfl rfl rfl) rfl aK aK) rfl rfl rfl ?_)|refine ae ?_|exact ah|refine ab fun hb=>?_|(refine ct (qf [(2,35)]) ?_;exact aw))
theorem xN (a:Tm):FSpec prog 182 [a.a] [] [] (.b (iH a)) []:=by
 have hu:=uY a.am.mode a.am.units;unfold iH;rw [show br a.am=_ from hu];refine aT func182 ?_;repeat' (first|refine af ?_ ?_|(refine aa 9 rfl ?_;first|(refine cB [] (Cn a.name) ?_)|(refine cB [] (dy ⟨⟨#[]⟩,1,1,0⟩ a.am) ?_)|(refine cB [] (dy ⟨⟨#[]⟩,2,8,0⟩ a.am) ?_))|refine ae ?_|exact ah|refine ab fun hb=>?_)
 all_goals (refine fm ?_;simp [*])
theorem EC:∀(x:Ex) (d:Nat) (acc:List Tm),acc.length≤8→FSpec prog 144 [x.a d,.one (.ptr 0 0)] [(0,.box 99 [.own 1]),(1,.arr 44 c7 acc)] [2] (.b (zQ x acc).isSome) (Jc (zQ x acc)):=by
 refine Ex.ind (fun k a l ih=>?_);intro d acc h8;obtain ⟨R,hR⟩:∃R,zQ (.mk k a l) acc=R:=⟨_,rfl⟩;rw [hR];rw [xk] at hR;show FSpec prog 144 [.ag (xL d k a l),.one (.ptr 0 0)] [(0,.box 99 [.own 1]),(1,.arr 44 c7 acc)] [2] (.b R.isSome) (Jc R);refine jb func144 rfl (fun b W=>by kernel_rfl) (by cases R <;> rfl) (Nat.le_of_ble_eq_true rfl) ?_;cases hE:l.isEmpty with
 | true =>
  obtain rfl:=List.isEmpty_iff.1 hE;rw [hE,cond_true,vl] at hR;cases hk:decide (k=0) && iH a with
  | false =>
   rw [hk] at hR;obtain rfl:none=R:=hR;repeat' (first|refine af ?_ ?_|refine aa 9 rfl (cB [] (xN a) ?_)|refine ae ?_|exact ah|refine ab fun hb=>?_|exact bB|fail)
   all_goals (exfalso;revert hk;simp [*])
  | true =>
   rw [hk,cond_true] at hR;obtain ⟨h0,h1⟩:k=0∧iH a=true:=by simpa using hk
   rcases wj acc a acc with ⟨e1,e2⟩|⟨⟨r,e1⟩,e2⟩
   ·obtain rfl:none=R:=e1.symm.trans hR;rcases e2 with e2|e2;all_goals
     repeat' (first|refine af ?_ ?_|(refine aa 9 rfl ?_;first|(refine cB [] (xN a) ?_)|(refine cH (qf [(0,0),(1,1),(2,1001)]) (Fr acc a h8 e2 e1) ?_))|refine ae ?_|exact ah|(refine ab fun hb=>?_;first|(simp [h1] at hb;done)|skip)|exact bB|fail)
   ·obtain rfl:some r=R:=e1.symm.trans hR;repeat' (first|refine af ?_ ?_|(refine aa 9 rfl ?_;first|(refine cB [] (xN a) ?_)|(refine cH (qf [(0,0),(1,1),(2,1001)]) (Fr acc a h8 e2 e1) ?_))|refine ae ?_|exact ah|(refine ab fun hb=>?_;first|(simp [h1] at hb;done)|skip)|(refine ct (qf [(2,1001)]) ?_;exact aw))
 | false =>
  have hl0:0<l.length:=List.length_pos_iff.2 fun e=>by rw [e] at hE;cases hE
  rw [hE,cond_false] at hR;refine bd (fun c ρ a w hr=>iy (t:=0) (i:=4) hr rfl rfl) (fun hx=>?_);obtain ⟨hlen,hne⟩:=hx;obtain ⟨e,rfl⟩:=hne hl0;cases hg:mq k a l with
  | false =>
   rw [hg] at hR;obtain rfl:none=R:=hR;repeat' (first|refine af ?_ ?_|refine ae ?_|exact ah|refine ab fun hb=>?_|exact bB|fail)
   all_goals (exfalso;revert hg;simp [mq, *];try omega)
  | true =>
   rw [hg,cond_true] at hR;obtain ⟨⟨h1,h2⟩,h3⟩:(1≤k∧k≤(l.length:Int))∧a=gN:=by simpa [mq] using hg
   subst h3;repeat' (first|refine af ?_ ?_|refine ae ?_|exact ah|(refine ab fun hb=>?_;first|(simp at hb;done)|skip))
   refine ak (fun x:Nat×List Tm=>x.1≤l.length∧x.2.length≤8∧DK (l.drop x.1) x.2=R) (fun x=>cq [0,1,1000] [(1,.c (.ptr 0 0)),(44,.c (.sl (mn (e+1)) l)),(45,.i l.length),(46,.i x.1)] [(0,.box 99 [.own 1000]),(1000,.arr 44 c7 x.2)]) (fun x=>l.length-x.1) (0,acc) ⟨Nat.zero_le _,h8,hR⟩ (by exact bw (qf [(1000,1)])) ?_;rintro ⟨i,acc1⟩ ⟨hi,hc,hs⟩;dsimp only at *
   by_cases hlt:i<l.length
   ·rw [List.drop_eq_getElem_cons hlt] at hs;rw [oJ] at hs;have kS:=ih l[i] (List.getElem_mem hlt) e acc1 hc;have hlen2:=DM l[i] acc1;clear ih;cases h1:zQ l[i] acc1 with
    | none =>
     rw [h1] at hs kS;obtain rfl:none=R:=hs;repeat' (first|refine af ?_ ?_|refine aa 9 rfl (cH (qf [(0,0),(1,1000),(2,1001)]) (kS) ?_)|refine ae ?_|exact ah|refine ab fun hb=>?_|exact bB|fail)
    | some r =>
     rw [h1] at hs kS;have hlen3:=hlen2 r hc h1;repeat' (first|refine af ?_ ?_|refine aa 9 rfl (cH (qf [(0,0),(1,1000),(2,1001)]) (kS) ?_)|refine ae ?_|exact ah|refine ab fun hb=>?_)
     refine ⟨(i+1,r),⟨by dsimp only;omega,by dsimp only;omega,hs⟩,by dsimp only;omega,?_⟩;exact bw (qf [(1000,1001)])
   ·rw [List.drop_eq_nil_of_le (by omega)] at hs;obtain rfl:some acc1=R:=hs;repeat' (first|refine af ?_ ?_|refine ae ?_|exact ah|refine ab fun hb=>?_|(refine ct (qf [(2,1000)]) ?_;exact aw))
def Ip (w:World) (n:Nat) (p:Nat→Bool) (e:Ending) (w':World):Prop :=
 ∃k:Nat,e = .returned (.int .i64 (k:Int))∧k≤n∧(∀t,t<k→p t=false)∧(∀t,k≤t→t<n→p t=true)∧Below w.heap.size w w'
theorem yc (g:FuncId) (cb:Array Value) (n:Nat) (p:Nat→Bool) (w:World) (eg:∀args w,(callFunc g args).run prog w = .ok (.enter g args) w) (hn:n<4611686018427387904)
  (hf:∀(i:Nat) W,i<n→Below w.heap.size w W→Calls prog g (#[.int .i64 (i:Int)]++cb) W (rf W (.bool (p i)))) (hmono:∀a b,a≤b→b<n→p a=true→p b=true) :
  Calls prog 215 #[.int .i64 (n:Int),.func (.func g) #[] cb] w (Ip w n p):=by
 have HF:=Lib.hid hf;have HM:=Lib.hid hmono;clear hf hmono
 go_enter func215,ntmps215
 go_wp2_with fail
 go_loopg [5,6] n (fun m v5 v6 wq=>∃lo hi:Nat,v5 = .int .i64 (lo:Int)∧v6 = .int .i64 (hi:Int)∧lo≤hi∧hi≤n∧hi≤lo+m∧Hid ((∀t,t<lo→p t=false)∧(∀t,hi≤t→t<n→p t=true))∧Below w.heap.size w wq)
 case atStart=>exact ⟨0,n,rfl,rfl,Nat.zero_le _,Nat.le_refl _,by omega,Lib.hid ⟨fun _ h=>absurd h (by omega),fun _ h1 h2=>absurd h1 (by omega)⟩,Below.refl _ _⟩
 case round =>
  obtain ⟨lo,hi,rfl,rfl,hlh,hin,hg,hI,hbw⟩:=hrel;by_cases hlt:lo<hi
  ·have hc:=HF.out ((lo+hi) / 2) wr (by omega) hbw;rw [show (((lo+hi) / 2:Nat):Int)=((lo:Int)+(hi:Int)) / 2 by omega] at hc;obtain ⟨q,hq⟩:∃q,p ((lo+hi) / 2)=q:=⟨_,rfl⟩;have HQ:=Lib.hid hq;rw [hq] at hc;have HC:=Lib.hid hc;clear hq hc;cases q with
   | false =>
    go_wp2_with fail
    refine HC.out.mono ?_;rintro e w2 ⟨rfl,hb2⟩;go_wp2_with fail
    go_roundg (hi-((lo+hi) / 2+1))
    case measure=>omega
    case rel =>
     refine ⟨(lo+hi) / 2+1,hi,by go_num,rfl,by omega,hin,by omega,Lib.hid ⟨fun t ht=>?_,hI.out.2⟩,hbw.trans (hb2.mono hbw.size)⟩;cases hpt:p t with
     | false=>rfl
     | true =>
      have:=HM.out t ((lo+hi) / 2) (by omega) (by omega) hpt;rw [HQ.out] at this;cases this
   | true =>
    go_wp2_with fail
    refine HC.out.mono ?_;rintro e w2 ⟨rfl,hb2⟩;go_wp2_with fail
    go_roundg ((lo+hi) / 2-lo)
    case measure=>omega
    case rel =>
     exact ⟨lo,(lo+hi) / 2,rfl,by go_num,by omega,by omega,by omega,Lib.hid ⟨hI.out.1,fun t h1 h2=>HM.out ((lo+hi) / 2) t h1 h2 HQ.out⟩,hbw.trans (hb2.mono hbw.size)⟩
  ·obtain rfl:hi=lo:=by omega
   go_wp2
   go_ret
   exact ⟨hi,rfl,hin,hI.out.1,hI.out.2,hbw⟩
def E6 (l:Ct) (n:Bs):Nat:=l.countP fun r=>decide (r.key<n)
theorem yd (A:Option Addr) (B cap:Nat) (l:Ct) (n:ByteArray) (w:World) (hr:RowsAt dS w (Lo B) A l) (g1 g2:Nat)
  (h1:w.cell? ⟨g1,0,none⟩=some (.slice A l.length cap)) (h2:w.cell? ⟨g2,0,none⟩=some (.string n)) (k:Nat) (hlt:k<l.length) :
  Calls prog 216 #[.int .i64 (k:Int),.pointer (some ⟨g1,0,none⟩),.pointer (some ⟨g2,0,none⟩)] w (rf w (.bool (!Op.bytesLess l[k].key n.toList))):=by
 obtain ⟨⟨nm,kd,u,h⟩,hx⟩:∃x,l[k]=x:=⟨_,rfl⟩;obtain ⟨b,off,rfl,hbl,hc0,hc1,hc2,hc3⟩:=s6 hr hlt hx;rw [hx];unfold Rs.key;clear hx;have hlti:(k:Int)<(l.length:Int):=by omega
 go_enter func216,ntmps216
 go_wp2
 go_quiet (fail)
 go_wp2
 go_ret
 exact ⟨rfl,bL (Below.refl _ _) _⟩
def FA (w:World) (l:Ct) (n:Bs) (e:Ending) (w':World):Prop :=
 ∃(k:Nat) (b:Bool),e = .returned (.tuple #[.int .i64 (k:Int),.bool b])∧k≤l.length∧(∀t (h:t<l.length),t<k→l[t].key<n)∧(∀t (h:t<l.length),k≤t→¬l[t].key<n)∧(b=true↔∃h:k<l.length,l[k].key=n)∧Below w.heap.size w w'
theorem AU (A:Option Addr) (B cap:Nat) (l:Ct) (n:ByteArray) (w:World) (hs:Sorted l) (hm:l.length≤1000) (hB:B≤w.heap.size) (hr:RowsAt dS w (Lo B) A l) :
  Calls prog 168 #[.slice A l.length cap,.string n] w (FA w l n.toList):=by
 obtain ⟨p,hp⟩:∃p:Nat→Bool,p=fun i=>if h:i<l.length then !Op.bytesLess l[i].key n.toList else true:=⟨_,rfl⟩
 have HS:=Lib.hid hs;have HSr:∀(i:Nat) W,i<l.length→Below (w.heap.size+2) ((w.alloc (.cells #[.slice A l.length cap] 25)).alloc (.cells #[.string n] 9)) W→
   Calls prog 216 (#[.int .i64 (i:Int)] ++ #[.pointer (some ⟨w.heap.size,0,none⟩),.pointer (some ⟨w.heap.size+1,0,none⟩)]) W (rf W (.bool (p i))):=by
  intro i W hi hW;have hb:=((Below.refl w.heap.size w).alloc (Nat.le_refl _) (.cells #[.slice A l.length cap] 25)).alloc (by simp) (.cells #[.string n] 9);have h:=yd A B cap l n W (hr.below (B'':=B) (hb.trans (hW.mono (by omega))) hB (Nat.le_refl _)) w.heap.size (w.heap.size+1) ?_ ?_ i hi
  ·rw [hp];simp only [dif_pos hi];exact h
  ·rw [hW.cell (p:=⟨w.heap.size,0,none⟩) (by show w.heap.size<_;omega),World.cell?_alloc_lt _ _ _ (by simp)];exact gG w _ _ 0
  ·rw [hW.cell (p:=⟨w.heap.size+1,0,none⟩) (by show w.heap.size+1<_;omega)];simp
 have hmono:∀a b,a≤b→b<l.length→p a=true→p b=true:=by
  intro a b hab hb;rw [hp];simp only [dif_pos hb,dif_pos (show a<l.length by omega),bytesLess_eq];simp only [Bool.not_eq_true',decide_eq_false_iff_not];intro h1 h2;rcases Nat.eq_or_lt_of_le hab with rfl|hlt
  ·exact h1 h2
  ·exact h1 (List.lt_trans (hs.lt b a hb hlt) h2)
 have HM:=Lib.hid hmono;have HSR:=Lib.hid HSr;have HP:=Lib.hid hp;have HR:=Lib.hid hr;clear hs HSr hmono hp hr;have hmf:∀(fn:Fn) (first cap:Array Value) (w:World),(Instr.makeFunc fn first cap).run prog w = .ok (.func fn first cap) w:=fun _ _ _ _=>rfl
 go_enter func168,ntmps168
 go_wp2_with fail
 refine (yc 216 _ l.length p _ (fun _ _=>by kernel_rfl) (by omega) (fun i W hi hW=>HSR.out i W hi (by simpa using hW)) HM.out).mono ?_;rintro e w2 ⟨k,rfl,hk,hlo,hhi,hb2⟩;have hb2':Below (w.heap.size+2) ((w.alloc (.cells #[.slice A l.length cap] 25)).alloc (.cells #[.string n] 9)) w2:=by simpa using hb2
 have hbel:Below w.heap.size w w2:=(((Below.refl w.heap.size w).alloc (Nat.le_refl _) _).alloc (by simp) _).trans (hb2'.mono (by omega));have hz0:w2.cell? ⟨w.heap.size,0,none⟩=some (.slice A l.length cap):=by
  rw [hb2'.cell (p:=⟨w.heap.size,0,none⟩) (by show w.heap.size<_;omega),World.cell?_alloc_lt _ _ _ (by simp)];exact gG w _ _ 0
 have hz1:w2.cell? ⟨w.heap.size+1,0,none⟩=some (.string n):=by
  rw [hb2'.cell (p:=⟨w.heap.size+1,0,none⟩) (by show w.heap.size+1<_;omega)];simp
 have hr2:=HR.out.below (B'':=w2.heap.size) hbel hB (Nat.le_trans hB hbel.size);have h1:∀t (h:t<l.length),t<k→l[t].key<n.toList:=by
  intro t ht hlt;have:=hlo t hlt;rw [HP.out] at this;simpa [dif_pos ht,bytesLess_eq] using this
 have h2:∀t (h:t<l.length),k≤t→¬l[t].key<n.toList:=by
  intro t ht hle;have:=hhi t hle ht;rw [HP.out] at this;simpa [dif_pos ht,bytesLess_eq] using this
 have H1:=Lib.hid h1;have H2:=Lib.hid h2;have HBel:=Lib.hid hbel;clear h1 h2 hlo hhi hb2 hb2' hbel;by_cases hlt:k<l.length
 ·obtain ⟨⟨nm,kd,u,h⟩,hx⟩:∃x,l[k]=x:=⟨_,rfl⟩;obtain ⟨b,off,rfl,hbl,hc0,hc1,hc2,hc3⟩:=s6 hr2 hlt hx;have HX:=Lib.hid hx;clear hx hr2;have hlti:(k:Int)<(l.length:Int):=by omega
  go_wp2
  go_quiet (fail)
  go_wp2
  go_ret2
  refine ⟨k,_,rfl,hk,H1.out,H2.out,?_,bL HBel.out _⟩;constructor
  ·intro h;exact ⟨hlt,by rw [HX.out];exact beq_iff_eq.1 h⟩
  ·rintro ⟨_,h⟩;rw [HX.out] at h;exact beq_iff_eq.2 h
 ·have hd:decide (k<l.length)=false:=decide_eq_false hlt;have hd2:decide ((k:Int)<(l.length:Int))=false:=decide_eq_false (by omega);go_wp2
  go_quiet (fail)
  go_wp2
  go_ret2
  exact ⟨k,false,rfl,hk,H1.out,H2.out,by simp [hlt],bL HBel.out _⟩
theorem uN (A:Option Addr) (B cap:Nat) (l:Ct) (n:ByteArray) (w:World) (hs:Sorted l) (hm:l.length≤1000) (hB:B≤w.heap.size) (hr:RowsAt dS w (Lo B) A l) :
  Calls prog 168 #[.slice A l.length cap,.string n] w (FA w l n.toList):=AU A B cap l n w hs hm hB hr
end Go.Proofs.YtcgpepnbohejfaaGreatDoor
