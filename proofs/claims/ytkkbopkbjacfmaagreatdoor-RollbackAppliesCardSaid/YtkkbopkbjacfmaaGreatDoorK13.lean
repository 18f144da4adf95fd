/- Part K13 of a proof of statements of chapter 15 (no condition). -/
import Derived.Test.YtkkbopkbjacfmaaGreatDoorK12
set_option linter.unusedVariables false
set_option linter.unusedSimpArgs false
set_option maxRecDepth 100000
set_option maxHeartbeats 64000000
namespace Go.Proofs.YtkkbopkbjacfmaaGreatDoor
open Go.RowKit Go.Proofs.Tryz
abbrev CR (d:Nat) (k:Int) (a:Tm) (l:List Ex):List D:=[.sc (.int .i64 k),.sc (.string a.name),.sc (.int .i64 a.am.mode),.sc (.int .i64 a.am.units),.sl (qF d) l]
theorem vm (s:ByteArray):FSpec prog 165 [.one (.sc (.string s))] [] [] (.b (bU s.toList)) [] :=
 bD (fun b W=>by kernel_rfl) rfl fun w S ρ vs _ h=>by
  match vs,h with
  | [_],⟨rfl,_⟩=>exact (lL s w).mono fun e w' h=>⟨_,h.1,by rw [h.2];exact Below.refl _ _,rfl⟩
theorem NA:∀(x:Ex) (d dp:Nat),dp<=5->FSpec prog 323 [x.a d,iV dp] [] [] (.tup [iV (gL x dp).1,iV (gL x dp).2]) []:=by
  refine Ex.ind (fun k a l ih=>?_);intro d dp hdp;obtain ⟨r,hr⟩:=qGe (gL (.mk k a l) dp);rw [hr];rw [zU] at hr;show FSpec prog 323 [.ag (CR d k a l),iV dp] [] [] (.tup [iV r.1,iV r.2]) [];refine aS func323 ?_;refine aP (fun c ρ a w hr=>ky (t:=0) (i:=4) hr rfl rfl) (fun hx=>?_);obtain ⟨hlen,hne⟩:=hx;by_cases hc:4<dp\/24<l.length
  · rw [if_pos hc] at hr
    obtain rfl:=hr;repeat' (first|refine az ?_ ?_|refine ay ?_|exact aA|refine ax fun hb=>?_|(refine gG (qf []) ?_;exact ak))
    all_goals (exfalso;omega)
  rw [if_neg hc] at hr;refine ao ?_;refine ab (fun x:Nat×Nat×Nat=>x.1<=l.length/\x.2.1<=24/\x.2.2<=5/\j6 (l.drop x.1) dp x.2.1 x.2.2=r) (fun x=>bC [2] [(1,.i dp),(2,.c (.ptr 2 0)),(6,.i x.2.1),(7,.i x.2.2),(8,.i x.1)] [(2,.box 66 (CR d k a l))]) (fun x=>l.length-x.1) (0,1,0) ⟨Nat.zero_le _,by decide,by decide,hr⟩ aL ?_;rintro ⟨i,n,m⟩ ⟨hi,hn,hm,hs⟩;dsimp only at *
  by_cases hlt:i<l.length
  case neg =>
    rw [qDn (by omega)] at hs;obtain rfl:=hs;refine ao ?_
    (refine gG (qf []) ?_;exact ak)
  rw [qDc hlt,sy] at hs;obtain ⟨e,rfl⟩:=hne (by omega);obtain ⟨⟨n1,m1⟩,h1⟩:∃p,gL l[i] (dp+1)=p:=⟨_,rfl⟩;have h5:n1<=25/\m1<=5:=by
    rcases ut l[i] (dp+1) with ⟨a1,a2,a3⟩|⟨a1,a3⟩ <;> rw [h1] at a3 <;> injection a3 <;> omega
  have kS:FSpec prog 323 [l[i].a e,iV ((dp:Int)+1)] [] [] (.tup [iV n1,iV m1]) []:=by
    have:=ih l[i] (List.getElem_mem hlt) e (dp+1) (by omega);rw [h1] at this;exact this
  rw [h1] at hs;dsimp only at hs;clear ih h1;repeat' (first|refine az ?_ ?_|refine fV ?_|refine ay ?_|exact aA|refine ax fun hb=>?_)
  all_goals first
    | (obtain rfl:(25,0)=r:=by rw [<-hs,if_pos (by omega)]
       refine gG (qf []) ?_;exact ak)
    | (refine ⟨(i+1,n+n1,max m m1),⟨by dsimp only;omega,by dsimp only;omega,by dsimp only;omega,by rw [<-hs,if_neg (by omega),show (if m<m1 then m1 else m)=max m m1 by split <;> omega]⟩,by dsimp only;omega,?_⟩
       dsimp only;exact aL)
theorem Ed (x:Ex) (d:Nat) {n:Nat} (hn:(if Cp x=true then x.cnt else 0)=n):FSpec prog 264 [x.a d] [] [] (.i n) []:=by
 obtain ⟨⟨a,b⟩,h⟩:∃p,gL x 1=p:=⟨_,rfl⟩;have h0:=Hc x;have kS:FSpec prog 323 [x.a d,iV 1] [] [] (.tup [iV a,iV b]) []:=by
  have:=NA x d 1 (by decide);rw [h] at this;exact this
 have h1:Cp x=true->a=x.cnt:=fun e=>by
  rcases ut x 1 with ⟨a1,a2,a3⟩|⟨a1,a3⟩
  ·rw [h] at a3;injection a3
  ·rw [a3] at h0;simp [e] at h0
 rw [h] at h0;refine aS func264 ?_;repeat' (first|refine az ?_ ?_|refine fV ?_|refine ay ?_|exact aA|refine ax fun hb=>?_)
 ·obtain rfl:0=n:=by rw [<-hn,if_neg];rw [<-h0];omega
  exact Rd
 ·obtain rfl:a=n:=by
   have h2:Cp x=true:=by
    have h:¬24<a:=by omega
    rw [h0] at h;simpa using h
   rw [<-hn,if_pos h2];exact h1 h2
  exact Rd
theorem EG (m:Int):FSpec prog 230 [iV m] [] [] (.b (bP m)) []:=by
 unfold bP;refine aS func230 ?_;repeat' (first|refine az ?_ ?_|refine ay ?_|exact aA|refine ax fun hb=>?_)
 all_goals (refine eR ?_;simp [*])
theorem Bh (a b:Int):FSpec prog 251 [iV a,iV b] [] [] (.b (dK a b)) [] :=
 bD (fun b W=>by kernel_rfl) rfl fun w S ρ vs _ h=>by
  match vs,h with
  | [_,_],⟨rfl,rfl,_⟩=>exact (ua a b w).mono fun _ _=>jb
theorem tY (r:Rs):FSpec prog 211 [r.a] [] [] (.b (aW r)) []:=by
 unfold aW;refine aS func211 ?_;repeat' (first|refine az ?_ ?_|refine ay ?_|exact aA|refine ax fun hb=>?_)
 all_goals (refine eR ?_;first|(simp [*];done)|(simp [*];omega)|(simp [*] <;> rfl))
theorem jl (r:Rs) (x:Am):FSpec prog 307 [r.a,x.a] [] [] (.b (aH r x)) []:=by
 unfold aH;refine aS func307 ?_;have:=tY r;have:=EG x.mode;repeat' (first|refine az ?_ ?_|refine fV ?_|refine ay ?_|exact aA|refine ax fun hb=>?_)
 all_goals (refine eR ?_;simp [*] <;> rfl)
theorem mx (x:Am):FSpec prog 250 [x.a] [] [] (.b (aJ x)) []:=by
 refine aS func250 ?_;refine ao ?_;exact eR rfl
theorem MG (r:Rs) (x:Am):FSpec prog 212 [r.a,x.a] [] [] (.b (bI r x)) []:=by
 unfold bI;refine aS func212 ?_;have:=tY r;have:=mx x;have:=jl r x;repeat' (first|refine az ?_ ?_|refine fV ?_|refine ay ?_|exact aA|refine ax fun hb=>?_)
 all_goals (refine eR ?_;simp [*])
theorem pP (r:Rs) (x y:Am):FSpec prog 162 [r.a,x.a,y.a] [] [] (.b (bc r x y)) []:=by
 unfold bc;refine aS func162 ?_;repeat' (first|refine az ?_ ?_|(refine aa 9 rfl ?_;first|(refine cB [] (MG r x) ?_)|(refine cB [] (MG r y) ?_)|(refine cB [] (mx x) ?_)|(refine cB [] (mx y) ?_)|(refine cB [] (Bh x.mode y.mode) ?_))|refine ay ?_|exact aA|refine ax fun hb=>?_)
 all_goals (refine eR ?_;simp [*])
theorem LG (r:Rs) (l:List Am):FSpec prog 122 [r.a,.one (.sl E8 l)] [] [] (.b (g9 r l)) [] :=
 gS (fun b W=>by kernel_rfl) rfl fun w S ρ vs hp hS h=>by
  match vs,h with
  | [_,_],⟨h1,⟨A,c,rfl,hc,hR⟩,_⟩=>rw [Rs.open h1];exact (ud r A w.heap.size c l w hp.1 (Nat.le_trans hc.1 hc.2) (Nat.le_refl _) (hR.lo hS)).mono fun _ _=>jb
theorem LJ {P:Program} {o:Oper} {s:Mst} {ts:Array TypeId} {x y:Operand} {a b:Int} (ho:o.op = .call { callee:=.builtin .max,args:=#[x,y],argTypes:=ts }) (hx:s.ev x = .i a) (hy:s.ev y = .i b):LOp P o s [] ⟨.i (max a b),[],[]⟩ :=
 gE (by rw [ho];rfl) hx hy fun ev w hx hy=>by
  have h:(if b > a then b else a)=max a b:=by rw [Int.max_def];split <;> split <;> omega
  simp [execOp,ho,hx,hy,resolve,invoke,builtin,Builtin.max_,Builtin.max2,h]
theorem Dd (s:ByteArray):FSpec prog 144 [.one (.sc (.string s))] [] [] (.b (bU s.toList)) [] :=
 bD (fun b W=>by kernel_rfl) rfl fun w S ρ vs _ h=>by
  match vs,h with
  | [_],⟨rfl,_⟩=>exact (nz s w).mono fun e w' h=>⟨_,h.1,by rw [h.2];exact Below.refl _ _,rfl⟩
theorem PL:∀(x:Ex) (d lev n:Nat),lev<=5->n<=24->FSpec prog 283 [x.a d,iV lev,.one (.ptr 0 0)] [(0,.box 3 [.sc (.int .i64 n)])] [] (.i (jA x lev n).1) [(0,some (.box 3 [.sc (.int .i64 (jA x lev n).2)]))]:=by
 refine Ex.ind (fun k a l ih=>?_);intro d lev n hlev hn;obtain ⟨r,hr⟩:=qGe (jA (.mk k a l) lev n);rw [hr];rw [DI] at hr;show FSpec prog 283 [.ag (CR d k a l),iV lev,.one (.ptr 0 0)] [(0,.box 3 [.sc (.int .i64 n)])] [] (.i r.1) [(0,some (.box 3 [.sc (.int .i64 r.2)]))];refine aS func283 ?_;refine aP (fun c ρ a w hr=>ky (t:=0) (i:=4) hr rfl rfl) (fun hx=>?_);obtain ⟨hlen,hne⟩:=hx;by_cases hc:4<lev\/24<n+1
 ·rw [if_pos hc] at hr;obtain rfl:=hr;repeat' (first|refine az ?_ ?_|refine ay ?_|exact aA|refine ax fun hb=>?_|exact aT|fail)
  all_goals (exfalso;omega)
 rw [if_neg hc] at hr;refine ao ?_;refine ab (fun x:Nat×Nat×Nat=>x.1<=l.length/\x.2.1<=24/\x.2.2<=5/\nF (l.drop x.1) lev x.2.1 x.2.2=r) (fun x=>bC [0] [(1,.i lev),(2,.c (.ptr 0 0)),(7,.i x.2.2),(25,.c (.sl (qF d) l)),(26,.i l.length),(27,.i x.1)] [(0,.box 3 [.sc (.int .i64 x.2.1)])]) (fun x=>l.length-x.1) (0,n+1,0) ⟨Nat.zero_le _,by dsimp only;omega,Nat.zero_le _,hr⟩ aL ?_;rintro ⟨i,n1,m⟩ ⟨hi,hn1,hm,hs⟩;dsimp only at *
 by_cases hlt:i<l.length
 case neg =>
  rw [qDn (by omega)] at hs;obtain rfl:=hs;exact QY
 rw [qDc hlt,ur] at hs;obtain ⟨e,rfl⟩:=hne (by omega);obtain ⟨⟨a1,n2⟩,h1⟩:∃p,jA l[i] (lev+1) n1=p:=⟨_,rfl⟩;have h5:a1<=5/\(a1≠0->n2<=24):=by
  rcases DJ l[i] (lev+1) n1 with ⟨b1,b2,b3⟩|⟨b1,b2,b3⟩ <;> rw [h1] at *
  ·injection b3;omega
  ·dsimp only at b2;omega
 have kS:FSpec prog 283 [l[i].a e,iV ((lev:Int)+1),.one (.ptr 0 0)] [(0,.box 3 [.sc (.int .i64 n1)])] [] (.i a1) [(0,some (.box 3 [.sc (.int .i64 n2)]))]:=by
  have:=ih l[i] (List.getElem_mem hlt) e (lev+1) n1 (by omega) hn1;rw [h1] at this;exact this
 rw [h1] at hs;dsimp only at hs;clear ih h1;repeat' (first|refine az ?_ ?_|(refine aa 9 rfl ?_;first|(refine sx (LJ rfl rfl rfl) ?_)|(refine cH (qf [(0,0)]) kS ?_))|refine ay ?_|exact aA|refine ax fun hb=>?_)
 ·obtain rfl:(0,n2)=r:=by rw [<-hs,if_pos (by omega)]
  exact Rd
 ·refine ⟨(i+1,n2,max m a1),⟨by dsimp only;omega,by dsimp only;omega,by dsimp only;omega,by rw [<-hs,if_neg (by omega)]⟩,by dsimp only;omega,?_⟩;dsimp only;exact aL
theorem De (x:Ex) (d:Nat) {n:Nat} (hn:(if Cp x then x.dep else 0:Nat)=n):FSpec prog 195 [x.a d] [] [] (.i n) []:=by
 have kM:=PL x d 1 0 (by decide) (by decide);rw [Kl,hn] at kM;obtain ⟨m,hm⟩:=qGe ((jA x 1 0).2);rw [hm] at kM;refine aS func195 ?_;repeat' (first|refine az ?_ ?_|refine aa 9 rfl (cH (qf [(0,3)]) kM ?_)|refine ay ?_|exact aA|refine ax fun hb=>?_|exact aT|fail)
def Qs (o:Option (List Tm)):List (Nat×Option Box):=match o with
 | some r=>[(0,some (.box 44 [.own 2])),(1,none),(2,some (.arr 63 da r))]
 | none=>[(0,none),(1,none),(2,none)]
def nR:List Tm->List Tm->Tm->Int
 | [],acc,_=>if acc.length=8 then 4 else 0
 | b :: l,acc,a=>bif decide (a=b) then 0 else bif decide (a.name=b.name) then 13 else nR l acc a
theorem wi (b:Tm) (l acc:List Tm) (a:Tm):nR (b :: l) acc a=bif decide (a=b) then 0 else bif decide (a.name=b.name) then 13 else nR l acc a:=rfl
theorem Bl (acc:List Tm) (a:Tm):∀l,(gM l acc a=none/\(nR l acc a=4\/nR l acc a=13))\/(∃r,gM l acc a=some r)/\nR l acc a=0
 | []=>by
  unfold gM nR;by_cases h:acc.length=8
  ·rw [if_pos h,if_pos h];exact .inl ⟨rfl,.inl rfl⟩
  ·rw [if_neg h,if_neg h];exact .inr ⟨⟨_,rfl⟩,rfl⟩
 | b :: l=>by
  rw [j7,wi];cases decide (a=b) with
  | true=>exact .inr ⟨⟨_,rfl⟩,rfl⟩
  | false =>
   cases decide (a.name=b.name) with
   | true=>exact .inl ⟨rfl,.inr rfl⟩
   | false=>exact Bl acc a l
theorem MH (acc:List Tm) (a:Tm) (h8:acc.length<=8) {c:Int} (hc:nR acc acc a=c) {R:Option (List Tm)} (hR:gM acc acc a=R):FSpec prog 285 [.one (.ptr 0 0),a.a] [(0,.box 44 [.own 1]),(1,.arr 63 da acc)] [2] (.i c) (Qs R):=by
 refine gN func285 rfl (fun b W=>by kernel_rfl) (by cases R <;> rfl) (qNl rfl) ?_;refine ao ?_;refine ab (fun i=>i<=acc.length/\nR (acc.drop i) acc a=c/\gM (acc.drop i) acc a=R) (fun i=>bC [0,1,3] [(0,.c (.ptr 0 0)),(3,.c (.ptr 3 0)),(9,.c (.own 1)),(10,.i acc.length),(11,.i i)] [(0,.box 44 [.own 1]),(1,.arr 63 da acc),(3,.box 63 [.sc (.string a.name),.sc (.int .i64 a.am.mode),.sc (.int .i64 a.am.units)])]) (fun i=>acc.length-i) 0 ⟨Nat.zero_le _,hc,hR⟩ aL ?_;rintro i ⟨hi,hc,hR⟩;by_cases hlt:i<acc.length
 ·rw [qDc hlt] at hc hR;rw [wi] at hc;rw [j7] at hR;by_cases h1:a=acc[i]
  ·rw [qDt h1] at hc hR;obtain rfl:=hc;obtain rfl:=hR;refine ao ?_
   (refine cn (qf [(2,1)]) ?_;exact ak)
  rw [qDf h1,qCf] at hc hR;by_cases h2:a.name=acc[i].name
  ·rw [qDt h2] at hc hR;obtain rfl:=hc;obtain rfl:=hR;repeat' (first|refine az ?_ ?_|refine ay ?_|exact aA|(refine ax fun hb=>?_;first|(exact absurd (by rw [h2]) hb)|skip)|exact aT|fail)
  ·rw [qDf h2] at hc hR;repeat' (first|refine az ?_ ?_|refine ay ?_|exact aA|(refine ax fun hb=>?_;first|(exact absurd (toList_inj hb) h2)|skip))
   refine ⟨i+1,⟨by omega,hc,hR⟩,by omega,?_⟩;exact aL
 ·rw [qDn (by omega)] at hc hR;unfold nR at hc;unfold gM at hR;by_cases h9:acc.length=8
  ·rw [if_pos h9] at hc hR;obtain rfl:=hc;obtain rfl:=hR;exact QY
  ·rw [if_neg h9] at hc hR;obtain rfl:=hc;obtain rfl:=hR;repeat' (first|refine az ?_ ?_|(refine aa 8 rfl ?_;refine aK (ae rfl rfl (av rfl rfl) (aB [a] rfl rfl rfl rfl) rfl aE aE) rfl rfl rfl ?_)|refine ay ?_|exact aA|refine ax fun hb=>?_|(refine cn (qf [(2,35)]) ?_;exact ak))
theorem Df (a:Tm):FSpec prog 284 [a.a] [] [] (.b (lq a)) []:=by
 have hu:=zK a.am.mode a.am.units;unfold lq;rw [show bj a.am=_ from hu];refine aS func284 ?_;repeat' (first|refine az ?_ ?_|(refine aa 9 rfl ?_;first|(refine cB [] (Dd a.name) ?_)|(refine cB [] (jl ⟨⟨#[]⟩,1,1,0⟩ a.am) ?_)|(refine cB [] (jl ⟨⟨#[]⟩,2,8,0⟩ a.am) ?_))|refine ay ?_|exact aA|refine ax fun hb=>?_)
 all_goals (refine eR ?_;simp [*])
theorem LK:∀(x:Ex) (d:Nat) (acc:List Tm),acc.length<=8->FSpec prog 196 [x.a d,.one (.ptr 0 0)] [(0,.box 44 [.own 1]),(1,.arr 63 da acc)] [2] (.b (Fo x acc).isSome) (Qs (Fo x acc)):=by
 refine Ex.ind (fun k a l ih=>?_);intro d acc h8;obtain ⟨R,hR⟩:=qGe (Fo (.mk k a l) acc);rw [hR];rw [Ct] at hR;show FSpec prog 196 [.ag (CR d k a l),.one (.ptr 0 0)] [(0,.box 44 [.own 1]),(1,.arr 63 da acc)] [2] (.b R.isSome) (Qs R);refine gN func196 rfl (fun b W=>by kernel_rfl) (by cases R <;> rfl) (qNl rfl) ?_;cases hE:l.isEmpty with
 | true =>
  obtain rfl:=List.isEmpty_iff.1 hE;rw [hE,qCt,zX] at hR;cases hk:decide (k=0) && lq a with
  | false =>
   rw [hk] at hR;obtain rfl:none=R:=hR;repeat' (first|refine az ?_ ?_|refine aa 9 rfl (cB [] (Df a) ?_)|refine ay ?_|exact aA|refine ax fun hb=>?_|exact aT|fail)
   all_goals (exfalso;revert hk;simp [*])
  | true =>
   rw [hk,qCt] at hR;obtain ⟨h0,h1⟩:k=0/\lq a=true:=by simpa using hk
   rcases Bl acc a acc with ⟨e1,e2⟩|⟨⟨r,e1⟩,e2⟩
   ·obtain rfl:none=R:=e1.symm.trans hR;rcases e2 with e2|e2;all_goals
     repeat' (first|refine az ?_ ?_|(refine aa 9 rfl ?_;first|(refine cB [] (Df a) ?_)|(refine cH (qf [(0,0),(1,1),(2,1001)]) (MH acc a h8 e2 e1) ?_))|refine ay ?_|exact aA|(refine ax fun hb=>?_;first|(simp [h1] at hb;done)|skip)|exact aT|fail)
   ·obtain rfl:some r=R:=e1.symm.trans hR;repeat' (first|refine az ?_ ?_|(refine aa 9 rfl ?_;first|(refine cB [] (Df a) ?_)|(refine cH (qf [(0,0),(1,1),(2,1001)]) (MH acc a h8 e2 e1) ?_))|refine ay ?_|exact aA|(refine ax fun hb=>?_;first|(simp [h1] at hb;done)|skip)|(refine cn (qf [(2,1001)]) ?_;exact ak))
 | false =>
  have hl0:0<l.length:=List.length_pos_iff.2 fun e=>by rw [e] at hE;cases hE
  rw [hE,qCf] at hR;refine aP (fun c ρ a w hr=>ky (t:=0) (i:=4) hr rfl rfl) (fun hx=>?_);obtain ⟨hlen,hne⟩:=hx;obtain ⟨e,rfl⟩:=hne hl0;cases hg:qH k a l with
  | false =>
   rw [hg] at hR;obtain rfl:none=R:=hR;repeat' (first|refine az ?_ ?_|refine ay ?_|exact aA|refine ax fun hb=>?_|exact aT|fail)
   all_goals (exfalso;revert hg;simp [qH, *];try omega)
  | true =>
   rw [hg,qCt] at hR;obtain ⟨⟨h1,h2⟩,h3⟩:(1<=k/\k<=(l.length:Int))/\a=lp:=by simpa [qH] using hg
   subst h3;refine ao ?_;refine ab (fun x:Nat×List Tm=>x.1<=l.length/\x.2.length<=8/\Km (l.drop x.1) x.2=R) (fun x=>bC [0,1,1000] [(1,.c (.ptr 0 0)),(44,.c (.sl (qF (e+1)) l)),(45,.i l.length),(46,.i x.1)] [(0,.box 44 [.own 1000]),(1000,.arr 63 da x.2)]) (fun x=>l.length-x.1) (0,acc) ⟨Nat.zero_le _,h8,hR⟩ (by exact a8 (qf [(1000,1)])) ?_;rintro ⟨i,acc1⟩ ⟨hi,hc,hs⟩;dsimp only at *
   by_cases hlt:i<l.length
   ·rw [qDc hlt] at hs;rw [uv] at hs;have kS:=ih l[i] (List.getElem_mem hlt) e acc1 hc;have hlen2:=Ko l[i] acc1;clear ih;cases h1:Fo l[i] acc1 with
    | none =>
     rw [h1] at hs kS;obtain rfl:none=R:=hs;repeat' (first|refine az ?_ ?_|refine aa 9 rfl (cH (qf [(0,0),(1,1000),(2,1001)]) kS ?_)|refine ay ?_|exact aA|refine ax fun hb=>?_|exact aT|fail)
    | some r =>
     rw [h1] at hs kS;have hlen3:=hlen2 r hc h1;repeat' (first|refine az ?_ ?_|refine aa 9 rfl (cH (qf [(0,0),(1,1000),(2,1001)]) kS ?_)|refine ay ?_|exact aA|refine ax fun hb=>?_)
     exact Rh
   ·rw [qDn (by omega)] at hs;obtain rfl:some acc1=R:=hs;refine ao ?_
    (refine cn (qf [(2,1000)]) ?_;exact ak)
end Go.Proofs.YtkkbopkbjacfmaaGreatDoor
