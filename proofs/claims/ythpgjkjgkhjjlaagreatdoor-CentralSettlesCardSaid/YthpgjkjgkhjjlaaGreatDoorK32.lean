/- Part K32 of a proof of statements of chapter 15 (no condition). -/
import Derived.Test.YthpgjkjgkhjjlaaGreatDoorK28
set_option linter.unusedVariables false
set_option linter.unusedSimpArgs false
set_option maxRecDepth 100000
set_option maxHeartbeats 64000000
namespace Go.Proofs.YthpgjkjgkhjjlaaGreatDoor
open Go.RowKit Go.Proofs.Tryz
def jJ (n:ByteArray) (E:List En) (i:Nat) (s:Sv):Sv:=⟨s.label,s.at_-((E.take (min i s.at_.toNat)).countP fun e=>!oth n e:Nat)⟩
theorem EM (n:ByteArray) (E:List En) (s:Sv):jJ n E 0 s=s:=by
 cases s;simp [jJ]
theorem EN {n:ByteArray} {E:List En} {i:Nat} (hi:i<E.length) (h:oth n E[i]=true) (s:Sv):jJ n E (i+1) s=jJ n E i s:=by
 unfold jJ;by_cases hs:s.at_.toNat<=i
 ·rw [Nat.min_eq_right hs,Nat.min_eq_right (by omega)]
 ·rw [Nat.min_eq_left (by omega),Nat.min_eq_left (by omega),List.take_succ_eq_append_getElem hi,List.countP_append];simp [h]
theorem Ir {n:ByteArray} {E:List En} {i:Nat} {s:Sv} (hs:s.at_<=i):jJ n E (i+1) s=jJ n E i s:=by
 unfold jJ;rw [Nat.min_eq_right (by omega),Nat.min_eq_right (by omega)]
theorem EO {n:ByteArray} {E:List En} {i:Nat} (hi:i<E.length) (h:oth n E[i]=false) {s:Sv} (hs:(i:Int)<s.at_):jJ n E (i+1) s=⟨s.label,(jJ n E i s).at_-1⟩:=by
 unfold jJ;rw [Nat.min_eq_left (by omega),Nat.min_eq_left (by omega),List.take_succ_eq_append_getElem hi,List.countP_append];simp [h];omega
theorem Is {n:ByteArray} {E:List En} {s:Sv} (h0:0<=s.at_) (h1:s.at_<=E.length):jJ n E E.length s=⟨s.label,((E.take s.at_.toNat).filter (oth n)).length⟩:=by
 unfold jJ;rw [Nat.min_eq_right (by omega),<-List.countP_eq_length_filter];have h2:=List.length_eq_countP_add_countP (oth n) (l:=E.take s.at_.toNat);have h3:(E.take s.at_.toNat).length=s.at_.toNat:=by simp;omega
 congr 1
 have h4:(fun a=>decide ¬oth n a=true)=fun e=>!oth n e:=by funext e;cases oth n e <;> rfl
 rw [h4] at h2;omega
theorem yT {n:ByteArray} {E:List En} {i:Nat} {s:Sv} (h0:0<=s.at_):0<=(jJ n E i s).at_/\(jJ n E i s).at_<=s.at_:=by
 unfold jJ;have:=List.countP_le_length (p:=fun e=>!oth n e) (l:=E.take (min i s.at_.toNat));rw [List.length_take] at this;dsimp only;omega
def Gz (n:ByteArray) (E:List En) (S:List Sv) (i k:Nat):List Sv:=(S.take k).map (jJ n E (i+1))++(S.drop k).map (jJ n E i)
theorem xy {n:ByteArray} {E:List En} {S:List Sv} {i k:Nat}:(Gz n E S i k).length=S.length:=by simp [Gz];omega
theorem EP {n:ByteArray} {E:List En} {S:List Sv} {i:Nat}:Gz n E S i 0=S.map (jJ n E i):=by simp [Gz]
theorem It {n:ByteArray} {E:List En} {S:List Sv} {i k:Nat} (h:S.length<=k):Gz n E S i k=S.map (jJ n E (i+1)):=by simp [Gz,List.take_of_length_le h,qDn h]
theorem CA {n:ByteArray} {E:List En} {S:List Sv} {i k:Nat} (h:k<=S.length) (j:Nat):(Gz n E S i k)[j]? = S[j]?.map fun s=>if j<k then jJ n E (i+1) s else jJ n E i s:=by
 have hl:((S.take k).map (jJ n E (i+1))).length=k:=by rw [List.length_map,List.length_take];omega
 unfold Gz;by_cases hj:j<k
 ·rw [List.getElem?_append_left (by omega),List.getElem?_map,List.getElem?_take_of_lt hj];simp [hj]
 ·rw [List.getElem?_append_right (by omega),hl,List.getElem?_map,List.getElem?_drop,show k+(j-k)=j by omega];simp [hj]
theorem GA {n:ByteArray} {E:List En} {S:List Sv} {i k:Nat} (h:k<S.length):(Gz n E S i k)[k]? = some (jJ n E i S[k]):=by
 rw [CA (by omega)];simp [h]
theorem CB {n:ByteArray} {E:List En} {S:List Sv} {i k:Nat} (h:k<S.length) {z:Sv} (hz:jJ n E (i+1) S[k]=z):(Gz n E S i k).set k z=Gz n E S i (k+1):=by
 subst hz;apply List.ext_getElem?
 intro j;rw [List.getElem?_set,xy,CA (by omega),CA (by omega)];by_cases hj:k=j
 ·subst hj;simp [h]
 ·rw [if_neg hj];have:(j<k↔j<k+1):=by omega
  simp [this]
theorem ER {n:ByteArray} {E:List En} {S:List Sv} {i k:Nat} (h:k<S.length) (hz:jJ n E (i+1) S[k]=jJ n E i S[k]):Gz n E S i k=Gz n E S i (k+1):=by
 rw [<-CB h rfl,hz];apply List.ext_getElem?
 intro j;rw [List.getElem?_set];by_cases hj:k=j
 ·subst hj;rw [GA h,xy];simp [h]
 ·rw [if_neg hj]
def PN (R:Lg×Bool):TV:=.tup [R.1.a,.one (.sc (.bool R.2))]
theorem Q0 (g:Lg) (n:ByteArray) {R:Lg×Bool} (hR:ic g n=R):FSpec prog 167 [g.a,.one (.sc (.string n))] [] [] (PN R) []:=by
 refine a7 func167 ?_;cases hV:rT g with
 | false =>
  obtain rfl:R=(.zero,false):=by rw [<-hR];simp [ic,hV]
  repeat' (first|refine av ?_ ?_|refine aa 9 rfl (cB [] (dq g) ?_)|refine aq ?_|exact aw|refine ap fun hb=>?_|(refine fE (qf []) ?_;exact af))
 | true =>
  obtain ⟨h1,h2⟩:=eZ hV;have hat:=Cz hV;obtain ⟨E,hE⟩:=qGe g.entries;obtain ⟨S,hS⟩:=qGe g.saves;repeat' (first|refine av ?_ ?_|refine aa 9 rfl (cB [] (dq g) ?_)|refine aq ?_|exact aw|refine ap fun hb=>?_)
  refine lU 6 0 1000 132 ke rfl rfl rfl rfl ?_;have hX:gS g n=⟨E.filter (oth n),S.map (jJ n E E.length)⟩:=by
   unfold gS;rw [<-hE,<-hS];congr 1
   refine List.map_congr_left fun x hx=>?_;obtain ⟨k1,k2⟩:=hat x hx;exact (Is k1 k2).symm
  have hatS:∀x∈S,0<=x.at_/\x.at_<=E.length:=by rw [<-hE,<-hS];exact hat
  have hst:ic g n=bif decide ((E.filter (oth n)).length=E.length) then (.zero,false) else (⟨E.filter (oth n),S.map (jJ n E E.length)⟩,true):=by
   unfold ic;rw [hV,hX,hE];rfl
  rw [hst] at hR;have hf72:∀i,((E.take i).filter (oth n)).length<=i:=fun i=>by
   have:=List.length_filter_le (oth n) (E.take i);rw [List.length_take] at this;omega
  have hE72:E.length<=72:=by rw [<-hE];exact h1
  have hS4:S.length<=4:=by rw [<-hS];exact h2
  clear hat hst hX h1 hb;refine ab (fun i=>i<=E.length) (fun i=>bP [2,4,6,13,1000,1001] [(1,.c (.sc (.string n))),(2,.c (.ptr 2 0)),(4,.c (.ptr 4 0)),(6,.c (.ptr 6 0)),(7,.i i)] [(2,.box 80 [.sl ke E,.sl lS S]),(4,.box 80 [.sc (.slice none 0 0),.sc (.slice none 0 0)]),(6,.box 80 [.own 1000,.own 1001]),(1000,.arr 132 ke ((E.take i).filter (oth n))),(1001,.arr 207 lS (S.map (jJ n E i)))]) (fun i=>E.length-i) 0 (Nat.zero_le _) (by rw [show jJ n E 0=id from funext (EM n E),List.map_id];subst hE hS;exact bo (qf [(1001,16)])) ?_;rintro i hi;try dsimp only at *
  by_cases hlt:i<E.length
  case neg =>
   obtain rfl:i=E.length:=by omega
   rw [List.take_length];by_cases hfl:(E.filter (oth n)).length=E.length
   ·obtain rfl:R=(.zero,false):=by rw [<-hR,qDt hfl];rfl
    repeat' (first|refine av ?_ ?_|refine aq ?_|exact aw|(refine ap fun hb=>?_;first|(exact absurd (Int.ofNat.inj hb) (by omega))|skip)|(refine fE (qf []) ?_;exact af))
   ·obtain rfl:R=(⟨E.filter (oth n),S.map (jJ n E E.length)⟩,true):=by rw [<-hR,qDf hfl];rfl
    repeat' (first|refine av ?_ ?_|refine aq ?_|exact aw|(refine ap fun hb=>?_;first|(exact absurd (Int.ofNat.inj hb) hfl)|skip)|(refine fE (qf []) ?_;exact af))
  obtain ⟨e,he⟩:=qGe (E[i]);have hge:E[i]? = some e:=by rw [qGg hlt,he]
  by_cases hnm:e.name.toList=n.toList
  case neg =>
   have ho:oth n e=true:=by simp [oth,bC,hnm]
   have hf1:=hf72 i;repeat' (first|refine av ?_ ?_|(refine aa 8 rfl ?_;refine be (ae rfl rfl (aH rfl rfl) (aN [e] rfl rfl rfl rfl) rfl aQ aQ) rfl rfl rfl ?_)|refine aq ?_|exact aw|refine ap fun hb=>?_)
   refine ⟨i+1,by omega,by omega,?_⟩;have e1:(E.take (i+1)).filter (oth n)=(E.take i).filter (oth n)++[e]:=by rw [List.take_succ_eq_append_getElem hlt,he,List.filter_append];simp [ho]
   have e2:S.map (jJ n E (i+1))=S.map (jJ n E i):=List.map_congr_left fun x _=>EN hlt (by rw [he];exact ho) x;rw [e1,e2];exact bo (qf [(1000,41)])
  have ho:oth n e=false:=by simp [oth,bC,hnm]
  have ho':oth n E[i]=false:=by rw [he];exact ho
  have e1:(E.take (i+1)).filter (oth n)=(E.take i).filter (oth n):=by rw [List.take_succ_eq_append_getElem hlt,he,List.filter_append];simp [ho]
  repeat' (first|refine av ?_ ?_|refine aq ?_|exact aw|refine ap fun hb=>?_)
  refine ab (fun k=>k<=S.length) (fun k=>bP [2,4,6,13,1000,1001] [(1,.c (.sc (.string n))),(2,.c (.ptr 2 0)),(4,.c (.ptr 4 0)),(6,.c (.ptr 6 0)),(7,.i i),(8,.i k)] [(2,.box 80 [.sl ke E,.sl lS S]),(4,.box 80 [.sc (.slice none 0 0),.sc (.slice none 0 0)]),(6,.box 80 [.own 1000,.own 1001]),(1000,.arr 132 ke ((E.take i).filter (oth n))),(1001,.arr 207 lS (Gz n E S i k))]) (fun k=>S.length-k) 0 (Nat.zero_le _) (by rw [EP];exact aT) ?_;rintro k hk;try dsimp only at *
  have hdl:=xy (n:=n) (E:=E) (S:=S) (i:=i) (k:=k);by_cases hlk:k<S.length
  case neg =>
   have hend:=It (n:=n) (E:=E) (S:=S) (i:=i) (k:=k) (by omega);rw [hend] at hdl ⊢;clear hend;repeat' (first|refine av ?_ ?_|refine aq ?_|exact aw|refine ap fun hb=>?_)
   refine ⟨i+1,by omega,by omega,?_⟩;rw [e1];exact aT
  obtain ⟨x,hx⟩:=qGe (S[k]);have hgx:S[k]? = some x:=by rw [qGg hlk,hx]
  have hgd:=GA (n:=n) (E:=E) (i:=i) hlk;rw [hx] at hgd;obtain ⟨k1,k2⟩:=hatS x (hx▸List.getElem_mem hlk);have hyb:=yT (n:=n) (E:=E) (i:=i) k1;obtain ⟨y,hy⟩:=qGe (jJ n E i x);by_cases hgt:(i:Int)<x.at_
  ·have hz:jJ n E (i+1) x=⟨x.label,y.at_-1⟩:=by rw [EO hlt ho' hgt,hy]
   have hyl:y.label=x.label:=by rw [<-hy];rfl
   rw [hy] at hgd hyb;have hset:=CB (i:=i) (n:=n) (E:=E) hlk (z:=⟨y.label,y.at_-1⟩) (by rw [hx,hz,hyl]);repeat' (first|refine av ?_ ?_|refine aq ?_|(refine aa 4 rfl ?_;refine a8 (ak (z:=⟨y.label,y.at_-1⟩) rfl rfl rfl rfl hgd rfl rfl rfl rfl (qNl rfl) rfl rfl) rfl rfl rfl ?_)|exact aw|refine ap fun hb=>?_)
   refine ⟨k+1,by omega,by omega,?_⟩;rw [<-hset];exact aT
  ·have hsm:=ER (n:=n) (E:=E) (i:=i) hlk (by rw [hx];exact Ir (by omega));repeat' (first|refine av ?_ ?_|refine aq ?_|exact aw|refine ap fun hb=>?_)
   refine ⟨k+1,by omega,by omega,?_⟩;rw [<-hsm];exact aT
def PO (w:Wk) (i:Nat) (n:ByteArray):Prop:=i<w.c.procs.length/\w.ev.length<=900000/\((w.pc i).waiting=false->aC (w.pc i).led.entries n≠⟨0,0⟩->StOk (qd w i n).c.procs.length (qd w i n))
theorem yU (w:Wk) (i:Nat) (n:ByteArray):dG w i n=bif (w.pc i).waiting then (w,14) else bif decide (aC (w.pc i).led.entries n=⟨0,0⟩) then (w,10) else (aK (qd w i n).c.procs.length (qd w i n),0):=rfl
theorem Mv (d:Nat) (w:Wk) (i:Nat) (n:ByteArray) (hok:PO w i n) {Z:Wk×Int} (hZ:dG w i n=Z):FSpec prog 95 [go,lw i,.one (.sc (.string n))] (HI d w) [3,4] (.i Z.2) (HO d Z.1):=by
 refine a7 func95 ?_;obtain ⟨hi,hev,hst⟩:=hok;obtain ⟨x,hx⟩:∃x,w.c.procs[i]? = some x:=⟨_,qGg hi⟩;have hpc:=eI hx;rw [yU] at hZ;unfold qd at hZ hst;rw [hpc] at hZ hst;cases hw:x.waiting with
 | true =>
  obtain rfl:Z=(w,14):=by rw [<-hZ,hw];rfl
  refine ao ?_
  (refine cc (qf [(3,1),(4,2)]) ?_;exact af)
 | false =>
  obtain ⟨l,hl⟩:=qGe (aC x.led.entries n);have kL:=j5 x.led.entries n;rw [hw,hl,qCf] at hZ;rw [hl] at hst kL;by_cases h0:l=⟨0,0⟩
  ·obtain rfl:Z=(w,10):=by rw [<-hZ,qDt h0];rfl
   refine ao ?_
   (refine cc (qf [(3,1),(4,2)]) ?_;exact af)
  ·have hs:=hst hw h0;rw [qDf h0,qCf] at hZ;obtain ⟨R,hR⟩:=qGe (bD w.c.queues x.proc ⟨n,⟨0,0⟩⟩);have hll:=fH w.c.queues x.proc ⟨n,⟨0,0⟩⟩;rw [hR] at hll;obtain ⟨D0,hD⟩:=qGe (ic x.led n);unfold dI at hZ hs;rw [hR,hD] at hZ hs;have hvi:i<((w.take R.1 R.2.1).setP i { x with led:=D0.1 }).c.procs.length:=by rw [iP];exact hi
   have hgt:(w.take R.1 R.2.1).c.procs.length=w.c.procs.length:=rfl;obtain ⟨F,hF⟩:∃F,aK (aZ ((w.take R.1 R.2.1).setP i { x with led:=D0.1 }) i).c.procs.length (aZ ((w.take R.1 R.2.1).setP i { x with led:=D0.1 }) i)=F:=⟨_,rfl⟩;obtain rfl:Z=(F,0):=by rw [<-hZ];exact congrArg (fun z=>(z,(0:Int))) hF
   have kS:=oh d _ _ hs;rw [show aK (aZ ((w.take R.1 R.2.1).setP i { x with led:=D0.1 }) i).c.procs.length (aZ ((w.take R.1 R.2.1).setP i { x with led:=D0.1 }) i)=F from hF] at kS;clear hZ hst hF;repeat' (first|refine av ?_ ?_|(refine aa 9 rfl ?_;first|(refine cB [] kL ?_)|(refine cC [] (xq w.c.queues x.proc ⟨n,⟨0,0⟩⟩ hR) ?_)|(refine cH (qf [(3,1003),(4,1004)]) (vn d w R.1 R.2.1 (by omega)) ?_)|(refine cC [] (Q0 x.led n hD) ?_)|(refine cH (qf [(1,1003),(2,1004),(3,1005),(4,1006)]) (o9 d ((w.take R.1 R.2.1).setP i { x with led:=D0.1 }) i hvi) ?_)|(refine cH (qf [(1,1005),(2,1006),(3,1007),(4,1008)]) kS ?_))|refine aq ?_|(refine aa 4 rfl ?_;refine a8 (ak (z:={ x with led:=D0.1 }) rfl rfl rfl rfl hx rfl rfl rfl rfl (qNl rfl) rfl rfl) rfl rfl rfl ?_)|exact aw|(refine ap fun hb=>?_;first|(cases hw.symm.trans hb;done)|(exact absurd hb h0)|skip)|(refine cc (qf [(3,1007),(4,1008)]) ?_;exact af))
   all_goals fail "stands"
theorem eQ (g:Lg):FSpec prog 121 [g.a] [] [] (.b (rT g)) []:=IA g.entries g.saves rfl
theorem CM (g:Lg) (h1:g.entries.length<=72) (h2:g.saves.length<=4):FSpec prog 215 [g.a,.one (.sc (.int .i64 (g.entries.length:Nat))),.one (.sc (.int .i64 (g.saves.length:Nat)))] [] [1,2] (.v (.ag [.own 1,.own 2])) [(1,some (.arr 132 ke g.entries)),(2,some (.arr 207 lS g.saves))]:=Q7 g g.entries.length g.saves.length (Nat.le_refl _) (Nat.le_refl _) (by omega) (by omega) (List.take_length ..) (List.take_length ..)
theorem SS (g:Lg) (h1:g.entries.length<=72) (h2:g.saves.length<=4):FSpec prog 215 [g.a,.one (.sc (.int .i64 0)),.one (.sc (.int .i64 (g.saves.length:Nat)))] [] [1,2] (.v (.ag [.own 1,.own 2])) [(1,some (.arr 132 ke [])),(2,some (.arr 207 lS g.saves))]:=Q7 g 0 g.saves.length (by omega) (Nat.le_refl _) (by omega) (by omega) rfl (List.take_length ..)
theorem MN (g:Lg) (e:En) {R:Lg×Int} (hR:d8 g e=R):FSpec prog 317 [g.a,e.a] [] [] (OI R) []:=by
 refine a7 func317 ?_;cases hV:rT g with
 | false =>
  obtain rfl:R=(.zero,2):=by rw [<-hR];simp [d8,hV]
  have:=eQ g;refine ao ?_
  (refine fE (qf []) ?_;exact af)
 | true =>
  obtain ⟨h1,h2⟩:=eZ hV;cases hV2:rT ⟨g.entries++[e],g.saves⟩ with
  | false =>
   obtain rfl:R=(.zero,1):=by rw [<-hR];simp [d8,hV,hV2]
   exact U9
  | true =>
   obtain rfl:R=(⟨g.entries++[e],g.saves⟩,0):=by rw [<-hR];simp [d8,hV,hV2]
   exact U9
theorem Q8 (g:Lg) (n:Int) {R:Lg×Int} (hR:da g n=R):FSpec prog 143 [g.a,.one (.sc (.int .i64 n))] [] [] (OI R) []:=by
 refine a7 func143 ?_;cases hV:rT g with
 | false =>
  obtain rfl:R=(.zero,2):=by rw [<-hR];simp [da,hV]
  have:=eQ g;refine ao ?_
  (refine fE (qf []) ?_;exact af)
 | true =>
  obtain ⟨h1,h2⟩:=eZ hV;by_cases hn:1<=n/\n<=99
  case neg =>
   obtain rfl:R=(.zero,1):=by
    rw [<-hR];unfold da;rw [hV];have:(decide (1<=n) && decide (n<=99))=false:=by rw [Bool.and_eq_false_iff];simp;omega
    rw [this];rfl
   have:=eQ g;repeat' (first|refine av ?_ ?_|refine gV ?_|refine aq ?_|exact aw|refine ap fun hb=>?_|(refine fE (qf []) ?_;exact af))
  obtain ⟨hn1,hn2⟩:=hn;by_cases hf:0<=bb n 0 g.saves
  case pos =>
   obtain rfl:R=(.zero,11):=by rw [<-hR];simp [da,hV,hn1,hn2,hf]
   have:=eQ g;have:=sM g.saves n rfl;refine ao ?_
   (refine fE (qf []) ?_;exact af)
  by_cases h4:g.saves.length=4
  case pos =>
   obtain rfl:R=(.zero,4):=by rw [<-hR];simp [da,hV,hn1,hn2,hf,h4]
   have:=eQ g;have:=sM g.saves n rfl;refine ao ?_
   (refine fE (qf []) ?_;exact af)
  obtain rfl:R=(⟨g.entries,g.saves++[⟨n,g.entries.length⟩]⟩,0):=by rw [<-hR];simp [da,hV,hn1,hn2,hf,h4]
  repeat' (first|refine av ?_ ?_|(refine aa 8 rfl ?_;refine be (ae rfl rfl (aH rfl rfl) (aN [⟨n,g.entries.length⟩] rfl rfl rfl rfl) rfl aQ aQ) rfl rfl rfl ?_)|(refine aa 9 rfl ?_;first|(refine cB [] (eQ g) ?_)|(refine cB [] (sM g.saves n rfl) ?_)|(refine cH (qf [(1,1000),(2,1001)]) (CM g h1 h2) ?_))|refine aq ?_|exact aw|refine ap fun hb=>?_|(refine fE (qf []) ?_;exact af))
theorem Q9 (g:Lg) (n:ByteArray) {R:Lg×Bool} (hR:ic g n=R):FSpec prog 141 [g.a,.one (.sc (.string n))] [] [] (PN R) []:=by
 refine a7 func141 ?_;cases hV:rT g with
 | false =>
  obtain rfl:R=(.zero,false):=by rw [<-hR];simp [ic,hV]
  have:=eQ g;refine ao ?_
  (refine fE (qf []) ?_;exact af)
 | true =>
  obtain ⟨h1,h2⟩:=eZ hV;have hat:=Cz hV;obtain ⟨E,hE⟩:=qGe g.entries;obtain ⟨S,hS⟩:=qGe g.saves;have kC:=SS g h1 h2;repeat' (first|refine av ?_ ?_|(refine aa 9 rfl ?_;first|(refine cB [] (eQ g) ?_)|(refine cH (qf [(1,1000),(2,1001)]) kC ?_))|refine aq ?_|exact aw|refine ap fun hb=>?_)
  have hX:gS g n=⟨E.filter (oth n),S.map (jJ n E E.length)⟩:=by
   unfold gS;rw [<-hE,<-hS];congr 1
   refine List.map_congr_left fun x hx=>?_;obtain ⟨k1,k2⟩:=hat x hx;exact (Is k1 k2).symm
  have hatS:∀x∈S,0<=x.at_/\x.at_<=E.length:=by rw [<-hE,<-hS];exact hat
  have hst:ic g n=bif decide ((E.filter (oth n)).length=E.length) then (.zero,false) else (⟨E.filter (oth n),S.map (jJ n E E.length)⟩,true):=by
   unfold ic;rw [hV,hX,hE];rfl
  rw [hst] at hR;have hf72:∀i,((E.take i).filter (oth n)).length<=i:=fun i=>by
   have:=List.length_filter_le (oth n) (E.take i);rw [List.length_take] at this;omega
  have hE72:E.length<=72:=by rw [<-hE];exact h1
  have hS4:S.length<=4:=by rw [<-hS];exact h2
  clear hat hst hX h1 hb;refine ab (fun i=>i<=E.length) (fun i=>bP [2,4,6,1000,1001] [(1,.c (.sc (.string n))),(2,.c (.ptr 2 0)),(4,.c (.ptr 4 0)),(6,.c (.ptr 6 0)),(21,.c (.sl ke E)),(22,.i E.length),(23,.i i)] [(2,.box 80 [.sl ke E,.sl lS S]),(4,.box 80 [.sc (.slice none 0 0),.sc (.slice none 0 0)]),(6,.box 80 [.own 1000,.own 1001]),(1000,.arr 132 ke ((E.take i).filter (oth n))),(1001,.arr 207 lS (S.map (jJ n E i)))]) (fun i=>E.length-i) 0 (Nat.zero_le _) (by rw [show jJ n E 0=id from funext (EM n E),List.map_id];subst hE hS;exact aT) ?_;rintro i hi;try dsimp only at *
  by_cases hlt:i<E.length
  case neg =>
   obtain rfl:i=E.length:=by omega
   rw [List.take_length];by_cases hfl:(E.filter (oth n)).length=E.length
   ·obtain rfl:R=(.zero,false):=by rw [<-hR,qDt hfl];rfl
    refine ao ?_
    (refine fE (qf []) ?_;exact af)
   ·obtain rfl:R=(⟨E.filter (oth n),S.map (jJ n E E.length)⟩,true):=by rw [<-hR,qDf hfl];rfl
    refine ao ?_
    (refine fE (qf []) ?_;exact af)
  obtain ⟨e,he⟩:=qGe (E[i]);have hge:E[i]? = some e:=by rw [qGg hlt,he]
  by_cases hnm:e.name.toList=n.toList
  case neg =>
   have ho:oth n e=true:=by simp [oth,bC,hnm]
   have hf1:=hf72 i;repeat' (first|refine av ?_ ?_|(refine aa 8 rfl ?_;refine be (ae rfl rfl (aH rfl rfl) (aN [e] rfl rfl rfl rfl) rfl aQ aQ) rfl rfl rfl ?_)|refine aq ?_|exact aw|refine ap fun hb=>?_)
   refine ⟨i+1,by omega,by omega,?_⟩;have e1:(E.take (i+1)).filter (oth n)=(E.take i).filter (oth n)++[e]:=by rw [List.take_succ_eq_append_getElem hlt,he,List.filter_append];simp [ho]
   have e2:S.map (jJ n E (i+1))=S.map (jJ n E i):=List.map_congr_left fun x _=>EN hlt (by rw [he];exact ho) x;rw [e1,e2];exact bo (qf [(1000,36)])
  have ho:oth n e=false:=by simp [oth,bC,hnm]
  have ho':oth n E[i]=false:=by rw [he];exact ho
  have e1:(E.take (i+1)).filter (oth n)=(E.take i).filter (oth n):=by rw [List.take_succ_eq_append_getElem hlt,he,List.filter_append];simp [ho]
  refine ao ?_;refine ab (fun k=>k<=S.length) (fun k=>bP [2,4,6,1000,1001] [(1,.c (.sc (.string n))),(2,.c (.ptr 2 0)),(4,.c (.ptr 4 0)),(6,.c (.ptr 6 0)),(7,.i i),(21,.c (.sl ke E)),(22,.i E.length),(23,.i i),(39,.c (.sl lS S)),(40,.i S.length),(41,.i k)] [(2,.box 80 [.sl ke E,.sl lS S]),(4,.box 80 [.sc (.slice none 0 0),.sc (.slice none 0 0)]),(6,.box 80 [.own 1000,.own 1001]),(1000,.arr 132 ke ((E.take i).filter (oth n))),(1001,.arr 207 lS (Gz n E S i k))]) (fun k=>S.length-k) 0 (Nat.zero_le _) (by rw [EP];exact aT) ?_;rintro k hk;try dsimp only at *
  have hdl:=xy (n:=n) (E:=E) (S:=S) (i:=i) (k:=k);by_cases hlk:k<S.length
  case neg =>
   have hend:=It (n:=n) (E:=E) (S:=S) (i:=i) (k:=k) (by omega);rw [hend] at hdl ⊢;clear hend;refine ao ?_;refine ⟨i+1,by omega,by omega,?_⟩;rw [e1];exact aT
  obtain ⟨x,hx⟩:=qGe (S[k]);have hgx:S[k]? = some x:=by rw [qGg hlk,hx]
  have hgd:=GA (n:=n) (E:=E) (i:=i) hlk;rw [hx] at hgd;obtain ⟨k1,k2⟩:=hatS x (hx▸List.getElem_mem hlk);have hyb:=yT (n:=n) (E:=E) (i:=i) k1;obtain ⟨y,hy⟩:=qGe (jJ n E i x);by_cases hgt:(i:Int)<x.at_
  ·have hz:jJ n E (i+1) x=⟨x.label,y.at_-1⟩:=by rw [EO hlt ho' hgt,hy]
   have hyl:y.label=x.label:=by rw [<-hy];rfl
   rw [hy] at hgd hyb;have hset:=CB (i:=i) (n:=n) (E:=E) hlk (z:=⟨y.label,y.at_-1⟩) (by rw [hx,hz,hyl]);repeat' (first|refine av ?_ ?_|refine aq ?_|(refine aa 4 rfl ?_;refine a8 (ak (z:=⟨y.label,y.at_-1⟩) rfl rfl rfl rfl hgd rfl rfl rfl rfl (qNl rfl) rfl rfl) rfl rfl rfl ?_)|exact aw|refine ap fun hb=>?_)
   refine ⟨k+1,by omega,by omega,?_⟩;rw [<-hset];exact aT
  ·have hsm:=ER (n:=n) (E:=E) (i:=i) hlk (by rw [hx];exact Ir (by omega));refine ao ?_;refine ⟨k+1,by omega,by omega,?_⟩;rw [<-hsm];exact aT
end Go.Proofs.YthpgjkjgkhjjlaaGreatDoor
