/- Part K16 of a proof of statements of chapter 15 (no condition). -/
import Derived.Test.YtkkbopkbjacfmaaGreatDoorK13
import Derived.Deep.RegionWith
set_option linter.unusedVariables false
set_option linter.unusedSimpArgs false
set_option maxRecDepth 100000
set_option maxHeartbeats 64000000
namespace Go.Proofs.YtkkbopkbjacfmaaGreatDoor
open Go.RowKit Go.Proofs.Tryz
theorem vF {n:ByteArray}:∀{acc:List ByteArray} {kk:Nat},kk<=acc.length->(∀m∈acc.drop kk,fT n m=true)->(∀j (h:j<acc.length),j<kk->fT n acc[j]=false)->ii n acc=acc.take kk++n :: acc.drop kk
 | [],kk,_,_,_=>by simp [ii]
 | m :: l,0,_,h1,_=>by have:=h1 m (by simp);simp [ii,this]
 | m :: l,kk+1,hk,h1,h2=>by
  have h3:=h2 0 (by simp) (by omega);have h4:=vF (kk:=kk) (acc:=l) (by simpa using hk) (by simpa using h1) (fun j hj hjk=>by have:=h2 (j+1) (by simpa using hj) (by omega);simpa using this);simp at h3;simp [ii,h3,h4]
theorem K7 {n:ByteArray} {acc:List ByteArray} {kk:Nat} (ha:i5 acc) (hk:kk<=acc.length) (h1:∀m∈acc.drop kk,fT n m=true) (h2:∀j (h:j<acc.length),j+1=kk->fT n acc[j]=false):ii n acc=acc.take kk++n :: acc.drop kk:=by
 refine vF hk h1 fun j hj hjk=>?_;rcases Nat.lt_or_ge (j+1) kk with h|h
 ·cases hc:fT n acc[j] with
  | false=>rfl
  | true =>
   have h3:=h2 (kk-1) (by omega) (by omega);have h4:=(List.pairwise_iff_getElem.1 ha) j (kk-1) hj (by omega) (by omega);rw [dS hc h4] at h3;cases h3
 ·exact h2 j hj (by omega)
theorem kY (acc:List ByteArray) (e:En) (l:List En):dy acc (e :: l)=dy (bif dZ e.name acc then acc else ii e.name acc) l:=rfl
theorem xM (n m:ByteArray) (l:List ByteArray):dZ n (m :: l)=(m.toList == n.toList || dZ n l):=rfl
theorem AP {n:ByteArray}:∀{l:List ByteArray},dZ n l=false->n ∉ l
 | [],_=>by simp
 | m :: l,h=>by
  rw [xM,Bool.or_eq_false_iff] at h;intro hm;rcases List.mem_cons.1 hm with rfl|hm
  ·have h:=h.1;simp at h
  ·exact AP h.2 hm
theorem jP (n:ByteArray):∀l:List ByteArray,(ii n l).length=l.length+1
 | []=>rfl
 | m :: l=>by
  unfold ii;cases fT n m with
  | true=>rfl
  | false=>simp [jP n l]
theorem K8:ElTB prog eJ 246 9 16:=ElTB.mk' underlying246 (.string ⟨#[]⟩) 1 16 (by kernel_rfl) rfl rfl
instance:ST prog eJ 246 9 16:=⟨K8⟩
theorem vG (l:List En) (hl:l.length<=100000):FSpec prog 241 [.one (.sl jp l)] [] [] (.c (.sl eJ (bt l))) []:=by
 refine aS func241 ?_;refine ao ?_;refine bK 3 1000 9 eJ rfl rfl rfl ?_;refine ab (fun x:Nat×List ByteArray=>x.1<=l.length/\x.2.length<=x.1/\i5 x.2/\dy x.2 (l.drop x.1)=bt l) (fun x=>bC [1000] [(0,.c (.sl jp l)),(3,.c (.own 1000)),(4,.i x.1)] [(1000,.arr 9 eJ x.2)]) (fun x=>l.length-x.1) (0,[]) ⟨Nat.zero_le _,Nat.le_refl _,by simp [i5],rfl⟩ aL ?_;rintro ⟨i,acc⟩ ⟨hi,hal,hasc,hs⟩;dsimp only at *
 by_cases hlt:i<l.length
 case neg =>
  have e:acc=bt l:=by rw [<-hs,qDn (by omega)];rfl
  refine ao ?_;rw [<-e];exact Rd
 rw [qDc hlt,kY] at hs;obtain ⟨n,hn⟩:=qGe (l[i].name);rw [hn] at hs;refine ao ?_;refine ab (fun x:Nat×Bool=>x.1<=acc.length/\dZ n acc=(x.2 || dZ n (acc.drop x.1))) (fun x=>bC [1000] [(0,.c (.sl jp l)),(3,.c (.own 1000)),(4,.i i),(5,.b x.2),(6,.i x.1)] [(1000,.arr 9 eJ acc)]) (fun x=>acc.length-x.1) (0,false) ⟨Nat.zero_le _,rfl⟩ aL ?_;rintro ⟨k,is⟩ ⟨hk,hh⟩;dsimp only at *
 by_cases hkl:k<acc.length
 ·rw [qDc hkl,xM] at hh;repeat' (first|refine az ?_ ?_|refine ay ?_|exact aA|refine ax fun hb=>?_)
  ·refine ⟨(k+1,true),⟨by dsimp only;omega,by dsimp only;rw [hh,hb];simp⟩,by dsimp only;omega,?_⟩;exact aL
  ·refine ⟨(k+1,acc[k].toList == l[i].name.toList),⟨by dsimp only;omega,by dsimp only;rw [hh,hb,hn];simp⟩,by dsimp only;omega,?_⟩;exact aL
 have hh2:dZ n acc=is:=by rw [hh,qDn (by omega)];simp [dZ]
 clear hh;cases is with
 | true =>
  rw [hh2] at hs;refine ao ?_;refine ⟨(i+1,acc),⟨by dsimp only;omega,by dsimp only;omega,hasc,hs⟩,by dsimp only;omega,?_⟩;exact aL
 | false =>
  rw [hh2] at hs;have hnm:=AP hh2;have hL:(acc++[l[i].name]).length=acc.length+1:=by simp
  have e1:acc.take acc.length++n :: acc.drop acc.length=acc++[l[i].name]:=by simp [hn]
  rw [qCf] at hs;repeat' (first|refine az ?_ ?_|(refine aa 8 rfl ?_;refine aK (ae rfl rfl (av rfl rfl) (aB [l[i].name] rfl rfl rfl rfl) rfl aE aE) rfl rfl rfl ?_)|refine ay ?_|exact aA|refine ax fun hb=>?_)
  refine ab (fun k=>k<=acc.length/\∀m∈acc.drop k,fT n m=true) (fun k=>bC [1000] [(0,.c (.sl jp l)),(3,.c (.own 1000)),(4,.i i),(7,.i k)] [(1000,.arr 9 eJ (acc.take k++n :: acc.drop k))]) (fun k=>k) acc.length ⟨Nat.le_refl _,by simp⟩ (by dsimp only;rw [e1];exact a8 (qf [(1000,42)])) ?_;rintro k ⟨hk,hall⟩;have hW:(acc.take k++n :: acc.drop k).length=acc.length+1:=by simp;omega
  have hgk:(acc.take k++n :: acc.drop k)[k]? = some n:=by rw [List.getElem?_append_right (by simp;omega)];simp [Nat.min_eq_left hk]
  have hdone:(∀j (h:j<acc.length),j+1=k->fT n acc[j]=false)->ii n acc=acc.take k++n :: acc.drop k:=fun h2=>K7 hasc hk hall h2;by_cases hk0:k=0
  ·subst hk0;refine ao ?_;refine ⟨(i+1,ii n acc),⟨by dsimp only;omega,by dsimp only;rw [jP];omega,pi hasc hnm,hs⟩,by dsimp only;omega,?_⟩;dsimp only;rw [hdone (fun j _ h=>by omega)];exact aL
  ·obtain ⟨m,hm⟩:=qGe (acc[k-1]'(by omega));have hgm:(acc.take k++n :: acc.drop k)[((k:Int)-1).toNat]? = some m:=by
    rw [show ((k:Int)-1).toNat=k-1 by omega,List.getElem?_append_left (by simp;omega)];simp [<-hm,List.getElem?_take,show k-1<k by omega,show k-1<acc.length by omega]
   have e3:acc.drop (k-1)=m :: acc.drop k:=by
    rw [List.drop_eq_getElem_cons (i:=k-1) (by omega),hm,show k-1+1=k by omega]
   have e4:acc.take k=acc.take (k-1)++[m]:=by
    have:=List.take_succ_eq_append_getElem (l:=acc) (i:=k-1) (by omega);rw [show k-1+1=k by omega,hm] at this;exact this
   have l1:(acc.take (k-1)).length=k-1:=by simp;omega
   have hset:((acc.take k++n :: acc.drop k).set k m).set ((k:Int)-1).toNat n=acc.take (k-1)++n :: acc.drop (k-1):=by
    rw [show ((k:Int)-1).toNat=k-1 by omega,e3,List.set_append_right _ _ (by simp;omega),e4];rw [show k-(acc.take (k-1)++[m]).length=0 by simp;omega,List.set_cons_zero,List.append_assoc,List.set_append_right _ _ (by omega),l1,Nat.sub_self];rfl
   have hW2:((acc.take k++n :: acc.drop k).set k m).length=acc.length+1:=by rw [List.length_set,hW]
   cases hc:fT n m with
   | false =>
    refine ao ?_;refine ⟨(i+1,ii n acc),⟨by dsimp only;omega,by dsimp only;rw [jP];omega,pi hasc hnm,hs⟩,by dsimp only;omega,?_⟩;dsimp only;rw [hdone (fun j hj h=>by rw [<-hc,<-hm];congr 2;omega)];exact aL
   | true =>
    repeat' (first|refine az ?_ ?_|refine ay ?_|(refine aa 4 rfl ?_;first|(refine bW (aM (z:=m) rfl rfl rfl rfl (by first|assumption|exact qGg (by omega)) rfl rfl rfl rfl (qNl rfl) rfl rfl) rfl rfl rfl ?_)|(refine bW (aM (z:=n) rfl rfl rfl rfl (by first|assumption|exact qGg (by omega)) rfl rfl rfl rfl (qNl rfl) rfl rfl) rfl rfl rfl ?_))|exact aA|refine ax fun hb=>?_)
    refine ⟨k-1,⟨by omega,?_⟩,by omega,?_⟩
    ·rw [e3];intro y hy;rcases List.mem_cons.1 hy with rfl|hy
     ·exact hc
     ·exact hall y hy
    ·rw [<-hset];exact aL
structure Opn where
 proc:Pr
 label:Int
 cost:Int
 lower:List Tm
def Opn.d (o:Opn):List D:=[.sc (.int .i64 o.proc.site),.sc (.int .i64 o.proc.inc),.sc (.int .i64 o.proc.num),.sc (.int .i64 o.label),.sc (.int .i64 o.cost),.sl da o.lower]
def Opn.a (o:Opn):V0:=.ag o.d
def vS:El Opn where
 n:=6
 pos:=by decide
 rep:=fun w S x cs=>∃A c,cs=[.int .i64 x.proc.site,.int .i64 x.proc.inc,.int .i64 x.proc.num,.int .i64 x.label,.int .i64 x.cost,.slice A x.lower.length c]/\RowsAt da w S A x.lower/\(x.lower.length<=c/\c<=maxLen)
 len:=fun h=>by obtain ⟨A,c,rfl,_⟩:=h;rfl
 one:=fun h=>by obtain ⟨A,c,rfl,_⟩:=h;intro u hu;simp at hu;rcases hu with rfl|rfl|rfl|rfl|rfl|rfl <;> rfl
 same:=fun h hk hS=>by
  obtain ⟨A,c,e,h1,h2⟩:=h;exact ⟨A,c,e,h1.same hk hS,h2⟩
instance:Dp vS where
 deep:=Opn.d
 get:=by
  rintro w F ρ x cs ⟨A,c,rfl,h1,h2⟩;exact ⟨rfl,rfl,rfl,rfl,rfl,⟨A,c,rfl,h2,h1⟩,trivial⟩
 put:=by
  intro w F ρ x cs h
  match cs,h with
  | [_,_,_,_,_,_],⟨rfl,rfl,rfl,rfl,rfl,⟨A,c,rfl,h2,h1⟩,_⟩=>exact ⟨A,c,rfl,h1,h2⟩
 nok:=fun _ _=>rfl
instance:ST prog vS 54 46 64:=⟨ElTB.mk' underlying54 (.agg #[.int .i64 0,.int .i64 0,.int .i64 0,.int .i64 0,.int .i64 0,.slice none 0 0]) 6 64 (by kernel_rfl) rfl rfl⟩
theorem NM (a b:ByteArray):(Op.bytesLess a.toList b.toList || a.toList == b.toList) = !Op.bytesLess b.toList a.toList:=by
 have h1:fT a b=Op.bytesLess a.toList b.toList:=rfl;have h2:fT b a=Op.bytesLess b.toList a.toList:=rfl;rw [<-h1,<-h2];by_cases e:a=b
 ·subst e;rw [dh];simp
 ·rw [show (a.toList == b.toList)=false from beq_eq_false_iff_ne.2 fun h=>e (toList_inj h),Bool.or_false];cases h:fT b a with
  | true =>
   cases h':fT a b with
   | false=>rfl
   | true=>have:=dS h h';rw [dh] at this;cases this
  | false=>rw [mO h (fun h=>e h.symm)];rfl
theorem Lq {P:Program} {o:Oper} {s:Mst} {t t':TypeId} {x y:Operand} {a b:ByteArray} (ho:o.op = .binOp .leq t x y t') (hx:s.ev x = .c (.sc (.string a))) (hy:s.ev y = .c (.sc (.string b))):LOp P o s [] ⟨.b (!Op.bytesLess b.toList a.toList),[],[]⟩ :=
 gE (by rw [ho];rfl) hx hy fun ev w hx hy=>by simp [execOp,ho,hx,hy,eqGuard,binOp,Op.stringOp,<-NM]
def gh (n:ByteArray):List ByteArray->List ByteArray
 | []=>[n]
 | x :: l=>bif fT x n then x :: gh n l else bif aV x n then x :: l else n :: x :: l
theorem Es (n:ByteArray):∀(l:List ByteArray) (i:Nat) (hi:i≤l.length),(∀j (hj:j<l.length),j<i->fT l[j] n=true)->gh n l=l.take i++gh n (l.drop i)
 | [],i,hi,_=>by
  obtain rfl:i=0:=by simpa using hi
  rfl
 | x :: l,0,_,_=>rfl
 | x :: l,i+1,hi,h=>by
  have h0:=h 0 (by simp) (by omega);simp only [List.getElem_cons_zero] at h0;have ih:=Es n l i (by simpa using hi) (fun j hj hji=>by have:=h (j+1) (by simpa using hj) (by omega);simpa using this);show (bif fT x n then x :: gh n l else bif aV x n then x :: l else n :: x :: l)=_;rw [h0,qCt,ih];rfl
theorem pH (n:ByteArray):∀l:List ByteArray,(gh n l).length<=l.length+1
 | []=>by simp [gh]
 | x :: l=>by
  have:=pH n l;show (bif fT x n then x :: gh n l else bif aV x n then x :: l else n :: x :: l).length<=_;cases fT x n with
  | true=>rw [qCt,List.length_cons,List.length_cons];omega
  | false=>cases aV x n <;> simp
theorem NN (l:List ByteArray) (n:ByteArray) (hl:l.length<=100000) {R:List ByteArray} (hR:gh n l=R):FSpec prog 243 [.one (.sl eJ l),.one (.sc (.string n))] [] [] (.c (.sl eJ R)) []:=by
 refine aS func243 ?_;refine ao ?_;refine ab (fun i=>i<=l.length/\∀j (hj:j<l.length),j<i->fT l[j] n=true) (fun i=>bC [] [(0,.c (.sl eJ l)),(1,.c (.sc (.string n))),(5,.i i)] []) (fun i=>l.length-i) 0 ⟨Nat.zero_le _,fun j hj h=>absurd h (by omega)⟩ aL ?_;rintro i ⟨hi,hlow⟩;have hat:=Es n l i hi hlow;by_cases hlt:i<l.length
 ·obtain ⟨x,hx⟩:∃x,l[i]? = some x:=⟨_,qGg hlt⟩;have ex:=qGs hx;obtain ⟨t,ht⟩:=qGe (Op.bytesLess x.toList n.toList);cases t with
  | true =>
   refine ao ?_;refine ⟨i+1,⟨by omega,fun j hj h=>?_⟩,by omega,?_⟩
   ·by_cases e:j=i
    ·subst e;rw [ex];exact ht
    ·exact hlow j hj (by omega)
   ·exact aL
  | false =>
   rw [qDc hlt,ex] at hat;have hat:gh n l=l.take i++(bif Op.bytesLess x.toList n.toList then x :: gh n (l.drop (i+1)) else bif (x.toList == n.toList) then x :: l.drop (i+1) else n :: x :: l.drop (i+1)):=hat;rw [ht,qCf] at hat;by_cases he:x.toList=n.toList
   ·obtain rfl:R=l:=by
     rw [<-hR,hat,beq_iff_eq.2 he,qCt]
     conv=>rhs;rw [<-List.take_append_drop i l,qDc hlt,ex]
    exact QY
   ·obtain rfl:R=(l.take i++[n])++l.drop i:=by
     rw [<-hR,hat,beq_eq_false_iff_ne.2 he,qCf,qDc hlt,ex];simp
    repeat' (first|refine az ?_ ?_|(refine aa 8 rfl ?_;refine aK (ae rfl rfl (av rfl rfl) (aB [n] rfl rfl rfl rfl) rfl aE aE) rfl rfl rfl ?_)|refine ay ?_|exact aA|(refine ax fun hb=>?_;first|(exact Bool.noConfusion (hb.symm.trans ht))|(exact Bool.noConfusion (ht.symm.trans hb))|(exact absurd hb he)|skip)|exact aT|fail)
 ·obtain rfl:R=(l.take i++[n])++l.drop i:=by
   rw [<-hR,hat,qDn (by omega)];simp [gh]
  repeat' (first|refine az ?_ ?_|(refine aa 8 rfl ?_;refine aK (ae rfl rfl (av rfl rfl) (aB [n] rfl rfl rfl rfl) rfl aE aE) rfl rfl rfl ?_)|refine ay ?_|exact aA|refine ax fun hb=>?_|exact aT|fail)
def vT:Option ByteArray->List Tm->Bool
 | _,[]=>true
 | o,a :: l=>bU a.name.toList && (aJ a.am || bj a.am) && (match o with|none=>true|some n=>fT n a.name) && vT (some a.name) l
def iT (o:Opn):Bool:=gm o.proc && (decide (o.label = -1) || decide (1<=o.label) && decide (o.label<=99)) && decide (1<=o.cost) && decide (o.cost<=1073741824) && decide (o.lower.length<=8) && vT none o.lower
theorem ng (o:Option ByteArray) (a:Tm) (l:List Tm):vT o (a :: l)=(bU a.name.toList && (aJ a.am || bj a.am) && (match o with|none=>true|some n=>fT n a.name) && vT (some a.name) l):=rfl
section
variable {β:Type} (V:β->Value) (z:β) (n:ByteArray) (a:β)
def my (l:List (ByteArray×β)):List (Value×Value):=l.map fun x=>(.string x.1,V x.2)
def ro:List (ByteArray×β)->β
 | []=>z
 | x :: l=>bif aV x.1 n then x.2 else ro l
def ew:List (ByteArray×β)->List (ByteArray×β)
 | []=>[(n,a)]
 | x :: l=>bif aV x.1 n then (x.1,a) :: l else x :: ew l
def Je:Nat->List (ByteArray×β)->Option (Nat×β)
 | _,[]=>none
 | j,x :: l=>bif aV x.1 n then some (j,x.2) else Je (j+1) l
end
section
variable {P:Program} {β:Type} {V:β->Value} {z:β} {n:ByteArray} {a:β}
theorem N2 (m n:ByteArray):(n == m)=aV m n:=by
 rw [Bool.eq_iff_iff,aZ,MapKept.bytes_beq];exact eq_comm
theorem zn:∀(l:List (ByteArray×β)) (i j:Nat),Instr.findNow .string (.string n) (eY i (my V l)) j=some ((Je n j l).map fun x=>(x.1,V x.2))
 | [],_,_=>rfl
 | x :: l,i,j=>by
  have ih:=zn l (i+1) (j+1);show (match some (n == x.1) with|some true=>some (some (j,V x.2))|some false=>Instr.findNow .string (.string n) (eY (i+1) (my V l)) (j+1)|none=>none)=_;rw [N2,Je];cases aV x.1 n with
  | true=>rfl
  | false=>exact ih
theorem Jf:∀(l:List (ByteArray×β)) (j:Nat),ro z n l=match Je n j l with|some x=>x.2|none=>z
 | [],_=>rfl
 | x :: l,j=>by
  have ih:=Jf l (j+1);unfold ro Je;cases aV x.1 n with
  | true=>rfl
  | false=>exact ih
theorem tc:∀(l:List (ByteArray×β)) (j:Nat),Je n j l=none->ew n a l=l++[(n,a)]
 | [],_,_=>rfl
 | x :: l,j,h=>by
  unfold Je at h;unfold ew;cases hx:aV x.1 n with
  | true=>rw [hx] at h;cases h
  | false =>
   rw [hx] at h;rw [qCf,tc l (j+1) h];rfl
theorem Bm:∀(l m:List (Value×Value)) (i:Nat),eY i (l++m)=eY i l++eY (i+l.length) m
 | [],_,_=>rfl
 | x :: l,m,i=>by
  show _ :: eY (i+1) (l++m)=_ :: (eY (i+1) l++_);rw [Bm l m (i+1),List.length_cons,show i+1+l.length=i+(l.length+1) by omega]
theorem td:∀(l:List (ByteArray×β)) (i j k:Nat) (b:β),Je n j l=some (k,b)->j<=k/\(eY i (my V l))[k-j]? = some ⟨.string n,V b,i+(k-j)⟩/\(eY i (my V l)).set (k-j) ⟨.string n,V a,i+(k-j)⟩=eY i (my V (ew n a l))/\(ew n a l).length=l.length
 | [],_,_,_,_,h=>by cases h
 | x :: l,i,j,k,b,h=>by
  unfold Je at h;unfold ew;cases hx:aV x.1 n with
  | true =>
   rw [hx] at h;simp only [qCt,Option.some.injEq,Prod.mk.injEq] at h;obtain ⟨rfl,rfl⟩:=h;obtain rfl:=aZ.1 hx;rw [Nat.sub_self];exact ⟨Nat.le_refl _,rfl,rfl,rfl⟩
  | false =>
   rw [hx] at h;obtain ⟨h1,h2,h3,h4⟩:=td l (i+1) (j+1) k b h;have e:k-j=(k-(j+1))+1:=by omega
   rw [qCf,e];refine ⟨by omega,?_,?_,?_⟩
   ·show (eY (i+1) (my V l))[k-(j+1)]? = _;rw [h2,show i+1+(k-(j+1))=i+(k-(j+1)+1) by omega]
   ·show (⟨.string x.1,V x.2,i⟩:MapEntry) :: (eY (i+1) (my V l)).set (k-(j+1)) _=_ :: eY (i+1) (my V (ew n a l));rw [<-h3,show i+1+(k-(j+1))=i+(k-(j+1)+1) by omega]
   ·simp [h4]
variable {w:World} {g t K E:Nat} {l:List (ByteArray×β)}
theorem Jg (ht:P.underlying t=some (.map K E)) (hK:P.underlying K=some .string) (hz:(zeroValue E).run P w = .ok (V z) w) (hb:w.heap[g]? = some (lW (my V l))):(Instr.lookup t (.map (some g)) (.string n) false).run P w = .ok (V (ro z n l)) w:=by
 have h1:=zn (V:=V) (n:=n) l 0 0;have hk:MapKept.IsKey .string (.string n):=by simp [MapKept.IsKey]
 rw [Jf l 0];cases hf:Je n 0 l with
 | none =>
  rw [hf] at h1;simp [Instr.lookup,run_underlying ht,MapKept.run_getObj_map hb,MapKept.run_checkKey hK hk,MapKept.run_findKey hK h1,hz,Result.andThen]
 | some x =>
  rw [hf] at h1;simp [Instr.lookup,run_underlying ht,MapKept.run_getObj_map hb,MapKept.run_checkKey hK hk,MapKept.run_findKey hK h1,Result.andThen]
theorem Jh (ht:P.underlying t=some (.map K E)) (hK:P.underlying K=some .string) (hb:w.heap[g]? = some (lW (my V l))):(Instr.mapUpdate t (.map (some g)) (.string n) (V a)).run P w = .ok () { w with heap:=w.heap.setIfInBounds g (lW (my V (ew n a l))) }:=by
 have h1:=zn (V:=V) (n:=n) l 0 0;have hk:MapKept.IsKey .string (.string n):=by simp [MapKept.IsKey]
 cases hf:Je n 0 l with
 | none =>
  rw [hf] at h1;have e:lW (my V (ew n a l)) = .map ((eY 0 (my V l)).toArray.push ⟨.string n,V a,(my V l).length⟩) ((my V l).length+1):=by
   rw [tc l 0 hf];unfold lW my;rw [List.map_append,Bm];simp [eY]
  rw [e];simp [Instr.mapUpdate,run_underlying ht,MapKept.run_getObj_map hb,MapKept.run_checkKey hK hk,MapKept.run_findKey hK h1,MapKept.run_setObj_map _ hb,Result.andThen]
 | some x =>
  obtain ⟨k,b⟩:=x;rw [hf] at h1;obtain ⟨_,h2,h3,h4⟩:=td (V:=V) (a:=a) l 0 0 k b hf;simp only [Nat.sub_zero,Nat.zero_add] at h2 h3;have e:lW (my V (ew n a l)) = .map ((eY 0 (my V l)).toArray.modify k fun e=>{ e with key:=.string n,val:=V a }) (my V l).length:=by
   unfold lW;rw [<-h3];have hl:(my V (ew n a l)).length=(my V l).length:=by simp [my,h4]
   rw [hl];congr 1
   apply Array.ext'
   rw [Array.toList_modify];apply List.ext_getElem?
   intro j;rw [List.getElem?_modify,List.getElem?_set];by_cases hkj:k=j
   ·subst hkj;have hlt:=(List.getElem?_eq_some_iff.1 h2).1;simp only [if_true,h2,Option.map_eq_map,Option.map_some];rw [if_pos hlt]
   ·simp [hkj]
  rw [e];simp [Instr.mapUpdate,run_underlying ht,MapKept.run_getObj_map hb,MapKept.run_checkKey hK hk,MapKept.run_findKey hK h1,h2,MapKept.run_keyThatStays hk,MapKept.run_setObj_map _ hb,Result.andThen]
end
section
variable {P:Program} {o:Oper} {s:Mst} {β:Type} {V:β->Value} {z:β} {n:ByteArray} {a:β} {l:List (ByteArray×β)}
theorem xZ {t k:Nat} (ho:o.op = .makeMap t none) (hdk:o.dst=some k):LOp P o s [] ⟨.c (.own k),[(k,some (.mp []))],[k]⟩:=by
 intro c st ρ a w hr h1 h2 h3 h4;have hfk:st.f k=true:=h3 k (by simp [aI]);have hkk:∀k':Nat,aF [(k,some (Box.mp []))] k'=true->k'=k:=fun k' h=>by
  exact Q0
 refine Oper.wp_value (v:=.map (some w.heap.size)) (w':=w.alloc (.map #[] 0)) ?_ ⟨upd ρ k (.map (some w.heap.size)),hr.app (e:=⟨.c (.own k),[(k,some (.mp []))],[k]⟩) h4 (fun k' h=>?_) (fun k' h=>?_) (fun k' h=>.inl ?_) (Frx.alloc _ _ _) (fun k' bx g' h _ hg'=>?_) (fun k1 k2 _ _ _ h h' _ _ _ _=>?_) (fun k' h=>.inl ?_) (fun k1 k2 bx h hp hx=>?_) (fun k2 bx h hp=>?_) ?_⟩
 ·unfold execOp;rw [ho];simp [Instr.makeMap,Result.andThen]
 ·have:k'=k:=by simp [aI] at h;exact h.symm
  subst this;exact ⟨hfk,by simp [aF]⟩
 ·exact dQ (by simpa [aI] using h)
 ·rw [hkk k' h];simp [aI]
 ·exact Q9
 ·exact RK
 ·have:k'=k:=by simp [TV.has,V0.has,D.has] at h;exact h.symm
  subst this;simp [aI]
 ·exact QZ
 ·rw [hkk k2 h] at hp ⊢;simp only [hput,Nat.beq_refl,qCt,Option.some.injEq] at hp;subst hp;rw [aN];exact ⟨_,rfl,(MapKept.heap_alloc w _).1⟩
 ·exact (aN _ _ _).symm
theorem Ji {t K E k:Nat} {x y:Operand} {d:TV} (ht:P.underlying t=some (.map K E)) (hK:P.underlying K=some .string) (hz:∀w,(zeroValue E).run P w = .ok (V z) w) (ho:o.op = .lookup t x y false) (hx:s.ev x = .c (.own k)) (hk:s.h k=some (.mp (my V l))) (hy:s.ev y = .c (.sc (.string n)))
  (hd:∀w F ρ,d.rep w F ρ (V (ro z n l))) (hn:∀j,d.has j=false):LOp P o s [k] ⟨d,[],[]⟩ :=
 bq fun c st ρ a w hr h1 h2=>by
  have e1:=h1 x (by simp [ho,Op.operands]);have e2:=h1 y (by simp [ho,Op.operands]);have hv1:=hr.ev x;have hv2:=hr.ev y;rw [e1,hx] at hv1;rw [e2,hy] at hv2;have hv1:a.eval x=ρ k:=hv1;have hv2:a.eval y = .string n:=hv2;obtain ⟨g,hg,hb⟩:=hr.hp k _ ((h2 k (by simp [aI])).trans hk);refine ⟨V (ro z n l),?_,hd _ _ _,fun j hj=>by rw [hn j] at hj;cases hj⟩;unfold execOp;rw [ho];simp only [hv1,hv2,hg,Sem.run_bind,Jg ht hK (hz w) hb,Result.andThen_ok,Sem.run_pure]
theorem Jj {t K E k:Nat} {x y q:Operand} (ht:P.underlying t=some (.map K E)) (hK:P.underlying K=some .string) (ho:o.op = .mapUpdate t x y q) (hx:s.ev x = .c (.own k)) (hk:s.h k=some (.mp (my V l))) (hy:s.ev y = .c (.sc (.string n)))
  (hq:∀w F ρ v,(s.ev q).rep w F ρ v->v=V a):LOp P o s [k] ⟨.c .any,[(k,some (.mp (my V (ew n a l))))],[]⟩:=by
 intro c st ρ ac w hr h1 h2 h3 h4;have e1:=h1 x (by simp [ho,Op.operands]);have e2:=h1 y (by simp [ho,Op.operands]);have e3:=h1 q (by simp [ho,Op.operands]);have hv1:=hr.ev x;have hv2:=hr.ev y;have hv3:=hr.ev q;rw [e1,hx] at hv1;rw [e2,hy] at hv2;rw [e3] at hv3;have hv1:ac.eval x=ρ k:=hv1;have hv2:ac.eval y = .string n:=hv2;have hv3:=hq _ _ _ _ hv3;have hk':=(h2 k (by simp [aI])).trans hk;obtain ⟨g,hg,hb⟩:=hr.hp k _ hk';have hkb:kb (ρ k)=some g:=by rw [hg];rfl
 have hkk:∀k':Nat,aF [(k,some (Box.mp (my V (ew n a l))))] k'=true->k'=k:=fun k' h=>by
  exact Q0
 have hset:=MapKept.heap_set (o':=lW (my V (ew n a l))) hb;have hlt:g<w.heap.size:=(Array.getElem?_eq_some_iff.1 hb).1;refine Oper.wp_skip (w':={ w with heap:=w.heap.setIfInBounds g (lW (my V (ew n a l))) }) ?_ ⟨ρ,hr.app (e:=⟨.c .any,[(k,some (.mp (my V (ew n a l))))],[]⟩) h4 (fun k h=>by simp [aI] at h) (fun _ _=>rfl) (fun k' h=>.inr (by rw [hkk k' h];exact hr.nfh hk')) ⟨rfl,rfl,rfl,by simp,fun b hlt hn=>hset.2 b fun e=>hn ⟨k,_,by simp [aF],hk',by rw [hkb,e]⟩⟩ ?_ ?_ (fun k h=>by simp [TV.has,V0.has,D.has] at h) ?_ ?_ trivial⟩
 ·unfold execOp;rw [ho];simp only [hv1,hv2,hv3,hg,Sem.run_bind,Jh ht hK hb,Result.andThen_ok,Sem.run_pure]
 ·intro k' bx g' h _ hg';rw [hkk k' h,hkb] at hg';injection hg' with hg';subst hg';exact ⟨by simpa using hlt,.inr ⟨k,_,by simp [aF],hk',hkb⟩⟩
 ·intro k1 k2 _ _ _ h h' _ _ _ _;exact RK
 ·intro k1 k2 bx h hp hx;exact QZ
 ·intro k2 bx h hp;rw [hkk k2 h] at hp ⊢;simp only [hput,Nat.beq_refl,qCt,Option.some.injEq] at hp;subst hp;exact ⟨g,hg,hset.1⟩
theorem x7 {t K E k:Nat} {x:Operand} {L:List (Value×Value)} (ht:P.underlying t=some (.map K E)) (ho:o.op = .call { callee:=.builtin .len,args:=#[x],argTypes:=#[t] }) (hx:s.ev x = .c (.own k)) (hk:s.h k=some (.mp L)):LOp P o s [k] ⟨.i L.length,[],[]⟩ :=
 bq fun c st ρ a w hr h1 h2=>by
  have e1:=h1 x (by simp [ho,Op.operands,Call.operands]);have hv1:=hr.ev x;rw [e1,hx] at hv1;have hv1:a.eval x=ρ k:=hv1;obtain ⟨g,hg,hb⟩:=hr.hp k _ ((h2 k (by simp [aI])).trans hk);refine ⟨.int .i64 L.length,?_,rfl,fun k hk=>by simp [TV.has,V0.has,D.has] at hk⟩;have hl:∀(l:List (Value×Value)) (i:Nat),(eY i l).length=l.length:=by
   intro l;induction l with
   | nil=>intro _;rfl
   | cons x l ih=>intro i;show (eY (i+1) l).length+1=_;rw [ih];rfl
  unfold execOp;rw [ho];have hrun:(Builtin.len_ #[t] o.type #[.map (some g)]).run P w = .ok (.int .i64 L.length) w:=by
   simp [Builtin.len_,run_underlying ht,MapKept.run_getObj_map hb,Result.andThen,hl];rfl
  simp only [resolve,invoke,builtin,Sem.run_bind,Sem.run_pure,Result.andThen_ok,List.map_toArray,List.map_cons,List.map_nil,hv1,hg,hrun]
end
def OC (x:Am):Value:=.agg #[.int .i64 x.mode,.int .i64 x.units]
abbrev EH (l:List (ByteArray×Am)):List (Value×Value):=my OC l
abbrev wW (n:ByteArray) (l:List (ByteArray×Am)):Am:=ro ⟨0,0⟩ n l
theorem nl {P:Program} {o:Oper} {s:Mst} {t k:Nat} (K E:Nat) {x y:Operand} {n:ByteArray} {l:List (ByteArray×Am)} (ht:P.underlying t=some (.map K E)) (hK:P.underlying K=some .string) (hz:∀w,(zeroValue E).run P w = .ok (OC ⟨0,0⟩) w) (ho:o.op = .lookup t x y false) (hx:s.ev x = .c (.own k)) (hk:s.h k=some (.mp (EH l))) (hy:s.ev y = .c (.sc (.string n))) {b:Am} (hb:wW n l=b):LOp P o s [k] ⟨.v b.a,[],[]⟩:=by
 subst hb;exact Ji (V:=OC) (z:=⟨0,0⟩) ht hK hz ho hx hk hy (fun _ _ _=>⟨_,rfl,rfl,rfl,trivial⟩) fun _=>rfl
theorem rp {P:Program} {o:Oper} {s:Mst} {t k:Nat} (K E:Nat) {x y q:Operand} {n:ByteArray} {l:List (ByteArray×Am)} {b:Am} (ht:P.underlying t=some (.map K E)) (hK:P.underlying K=some .string) (ho:o.op = .mapUpdate t x y q) (hx:s.ev x = .c (.own k)) (hk:s.h k=some (.mp (EH l))) (hy:s.ev y = .c (.sc (.string n))) (hq:s.ev q = .v b.a) {m:List (ByteArray×Am)} (hm:ew n b l=m):LOp P o s [k] ⟨.c .any,[(k,some (.mp (EH m)))],[]⟩:=by
 subst hm;exact Jj (V:=OC) ht hK ho hx hk hy fun w F ρ v hv=>by
  rw [hq] at hv;obtain ⟨cs,e,h⟩:=hv;rw [e]
  match cs,h with
  | [_,_],⟨rfl,rfl,_⟩=>rfl
section
variable {β:Type} {z a:β} {n:ByteArray}
theorem Bn (m:ByteArray):∀l:List (ByteArray×β),ro z m (ew n a l)=bif aV n m then a else ro z m l
 | []=>rfl
 | x :: l=>by
  have ih:=Bn m l;unfold ew;cases hx:aV x.1 n with
  | true =>
   obtain rfl:=aZ.1 hx;show (bif aV x.1 m then a else ro z m l)=bif aV x.1 m then a else bif aV x.1 m then x.2 else ro z m l;cases aV x.1 m <;> rfl
  | false =>
   show (bif aV x.1 m then x.2 else ro z m (ew n a l))=bif aV n m then a else bif aV x.1 m then x.2 else ro z m l;rw [ih];cases h1:aV x.1 m with
   | false=>rfl
   | true =>
    cases h2:aV n m with
    | false=>rfl
    | true =>
     obtain rfl:=aZ.1 h1;obtain rfl:=aZ.1 h2;rw [aZ.2 rfl] at hx;cases hx
theorem zo:∀l:List (ByteArray×β),(ew n a l).length=bif dZ n (l.map (·.1)) then l.length else l.length+1
 | []=>rfl
 | x :: l=>by
  have ih:=zo l;unfold ew;show _=bif (aV x.1 n || dZ n (l.map (·.1))) then _ else _;cases hx:aV x.1 n with
  | true=>rfl
  | false =>
   rw [Bool.false_or,qCf,List.length_cons,ih,List.length_cons];cases dZ n (l.map (·.1)) <;> rfl
theorem zp (m:ByteArray):∀l:List (ByteArray×β),dZ m ((ew n a l).map (·.1))=(aV n m || dZ m (l.map (·.1)))
 | []=>rfl
 | x :: l=>by
  have ih:=zp m l;unfold ew;cases hx:aV x.1 n with
  | true =>
   obtain rfl:=aZ.1 hx;show (aV x.1 m || dZ m (l.map (·.1)))=(aV x.1 m || (aV x.1 m || dZ m (l.map (·.1))));cases aV x.1 m <;> rfl
  | false =>
   show (aV x.1 m || dZ m ((ew n a l).map (·.1)))=(aV n m || (aV x.1 m || dZ m (l.map (·.1))));rw [ih];cases aV x.1 m <;> cases aV n m <;> rfl
end
def fx:List (ByteArray×Am)->List En->List (ByteArray×Am)
 | m,[]=>m
 | m,e :: l=>fx (ew e.name e.after m) l
def f8 (l:List En):List (ByteArray×Am):=fx [] l
theorem oE:∀(l k:List En) (m:List (ByteArray×Am)),fx m (l++k)=fx (fx m l) k
 | [],_,_=>rfl
 | e :: l,k,m=>oE l k _
theorem Gk (l:List En) (e:En):f8 (l++[e])=ew e.name e.after (f8 l):=by
 unfold f8;rw [oE];rfl
theorem wj (n:ByteArray):∀(l:List En) (m:List (ByteArray×Am)),wW n (fx m l)=dI n (wW n m) l
 | [],_=>rfl
 | e :: l,m=>by
  show wW n (fx (ew e.name e.after m) l)=dI n (bif aV e.name n then e.after else wW n m) l;rw [wj n l,show wW n (ew e.name e.after m)=_ from Bn n m]
theorem rr (l:List En) (n:ByteArray):wW n (f8 l)=aw l n:=wj n l []
theorem Jk (n m:ByteArray) (l:List ByteArray):dZ m (ii n l)=(aV n m || dZ m l):=by
 rw [Bool.eq_iff_iff,gP,ph,Bool.or_eq_true,aZ,gP];exact or_congr_left eq_comm
theorem te:∀(l:List En) (m:List (ByteArray×Am)) (acc:List ByteArray),m.length=acc.length->(∀x,dZ x (m.map (·.1))=dZ x acc)->(fx m l).length=(dy acc l).length
 | [],_,_,h,_=>h
 | e :: l,m,acc,h,hh=>by
  show (fx (ew e.name e.after m) l).length=(dy (bif dZ e.name acc then acc else ii e.name acc) l).length;refine te l _ _ ?_ fun x=>?_
  ·rw [zo,hh,h];cases dZ e.name acc with
   | true=>rfl
   | false=>rw [qCf,qCf,jP]
  ·rw [zp,hh];cases ha:dZ e.name acc with
   | false=>rw [qCf,Jk]
   | true =>
    rw [qCt];cases he:aV e.name x with
    | false=>rfl
    | true=>rw [<-aZ.1 he,ha];rfl
theorem wk (l:List En):(f8 l).length=(bt l).length:=te l [] [] rfl fun _=>rfl
theorem x8:∀(l:List En) (m:List (ByteArray×Am)),m.length<=(fx m l).length
 | [],_=>Nat.le_refl _
 | e :: l,m=>by
  refine Nat.le_trans ?_ (x8 l (ew e.name e.after m));rw [zo];cases dZ e.name (m.map (·.1)) <;> simp
theorem Gl (l k:List En):(f8 l).length<=(f8 (l++k)).length:=by
 unfold f8;rw [oE];exact x8 k _
theorem tf (n:Int):∀(l:List Sv) (k i:Nat) (h:i<l.length),l[i].label=n->(aO n k l=((k+i:Nat):Int)↔aO n k (l.take i)<0)
 | s :: l,k,0,_,hn=>by
  have hn:s.label=n:=hn;show (bif decide (s.label=n) then (k:Int) else _)=_↔_;rw [qDt hn];simp [aO]
 | s :: l,k,i+1,h,hn=>by
  have ih:=tf n l (k+1) i (by simpa using h) (by simpa using hn);show (bif decide (s.label=n) then (k:Int) else aO n (k+1) l)=_↔(bif decide (s.label=n) then (k:Int) else aO n (k+1) (l.take i))<0;by_cases hs:s.label=n
  ·rw [qDt hs,qCt,qCt];constructor <;> intro h <;> omega
  ·rw [qDf hs,qCf,qCf,<-ih,show k+1+i=k+(i+1) by omega]
def N3 (all:List Sv) (n:Int):Nat->Int->List Sv->Bool
 | _,_,[]=>true
 | k,at_,s :: l=>decide (1<=s.label) && decide (s.label<=99) && decide (aO s.label 0 (all.take k)<0) && decide (at_<=s.at_) && decide (s.at_<=n) && N3 all n (k+1) s.at_ l
theorem Jl (all:List Sv) (n:Int):∀(l:List Sv) (k:Nat) (at_:Int),all.drop k=l->0<=at_->N3 all n k at_ l=ny all n k at_ l
 | [],_,_,_,_=>rfl
 | s :: l,k,at_,h,h0=>by
  have hk:k<all.length:=by
   have:=congrArg List.length h;simp at this;omega
  have hs:all[k]=s/\all.drop (k+1)=l:=by
   rw [qDc hk] at h;injection h with h1 h2;exact ⟨h1,h2⟩
  have hf:=tf s.label all 0 k hk (by rw [hs.1]);rw [Nat.zero_add] at hf;show (decide (1<=s.label) && decide (s.label<=99) && decide (aO s.label 0 (all.take k)<0) && decide (at_<=s.at_) && decide (s.at_<=n) && N3 all n (k+1) s.at_ l)=(decide (1<=s.label) && decide (s.label<=99) && decide (0<=s.at_) && decide (s.at_<=n) && decide (at_<=s.at_) && decide (aO s.label 0 all=(k:Int)) && ny all n (k+1) s.at_ l);by_cases ha:at_<=s.at_
  ·rw [Jl all n l (k+1) s.at_ hs.2 (by omega),decide_eq_decide.2 hf.symm,qDt ha,qDt (show 0<=s.at_ by omega)];cases decide (1<=s.label) <;> cases decide (s.label<=99) <;> cases decide (s.at_<=n) <;> cases decide (aO s.label 0 all=(k:Int)) <;> simp
  ·rw [qDf ha];simp
theorem wX:prog.underlying 265=some (.map 9 61):=by kernel_rfl
theorem Dg:prog.underlying 9=some .string:=by kernel_rfl
theorem zq (w:World):(zeroValue 61).run prog w = .ok (OC ⟨0,0⟩) w:=by kernel_rfl
theorem Jm (a:Am):FSpec prog 145 [a.a] [] [] (.b (bj a)) []:=by
 refine aS func145 ?_;have kM:=EG a.mode;obtain ⟨m,hm⟩:=qGe (bP a.mode);rw [hm] at kM;have hu:bj a=(m && decide (a.units=0) || decide (a.mode=0) && decide (1<=a.units) && decide (a.units<=8)):=by rw [<-hm];rfl
 have h0:a.mode=0->m=false:=fun h=>by rw [<-hm,h];rfl
 repeat' (first|refine az ?_ ?_|refine fV ?_|refine ay ?_|exact aA|refine ax fun hb=>?_)
 all_goals (refine eR ?_;rw [hu];simp [*] <;> rfl)
theorem N4 (a b:Am):FSpec prog 219 [a.a,b.a] [] [] (.b (dx a b)) []:=by
 refine aS func219 ?_;have kA:=Jm a;have kB:=Jm b;have kC:=Bh b.mode a.mode;obtain ⟨u,hu⟩:=qGe (bj a);obtain ⟨v,hv⟩:=qGe (bj b);obtain ⟨c,hc⟩:=qGe (dK b.mode a.mode);rw [hu] at kA;rw [hv] at kB;rw [hc] at kC;have hg:dx a b=(v && !decide (a=b) && (aJ a || u && (bif !decide (a.mode=0) then c else decide (a.units<b.units)))):=by rw [<-hu,<-hv,<-hc];rfl
 have f1:b.mode=0->c=false:=fun h=>by rw [<-hc,h];rfl
 have f2:u=true->v=true->a.mode=0->b.mode≠0->¬a.units<b.units:=fun h1 h2 h3 h4=>by
  rw [<-hu] at h1;rw [<-hv] at h2;have e1:=cV h1;have e2:=cV h2;simp only [fP] at e1 e2;omega
 have hz:aJ a=decide (a=⟨0,0⟩):=rfl;rw [hz] at hg;clear hu hv hc hz;repeat' (first|refine az ?_ ?_|(refine aa 9 rfl ?_;first|(refine cB [] kA ?_)|(refine cB [] kB ?_)|(refine cB [] kC ?_))|refine ay ?_|exact aA|refine ax fun hb=>?_)
 all_goals (refine eR ?_;rw [hg])
 all_goals first|(simp [*];done)|(cases u <;> cases v <;> cases c <;> simp_all;done)
theorem Dh (l:List Sv) (n:Int) {K:Int} (hK:aO n 0 l=K):FSpec prog 309 [.one (.sl ji l),.one (.sc (.int .i64 n))] [] [] (.i K) []:=by
 refine aS func309 ?_;refine aP (fun c ρ a w hr=>ck (t:=0) hr rfl) (fun hl0=>?_);refine ao ?_;refine ab (fun i=>i<=l.length/\aO n i (l.drop i)=K) (fun i=>bC [] [(1,.c (.sc (.int .i64 n))),(7,.c (.sl ji l)),(8,.i l.length),(9,.i i)] []) (fun i=>l.length-i) 0 ⟨Nat.zero_le _,hK⟩ aL ?_;clear hK;rintro i ⟨hi,hs⟩;by_cases hlt:i<l.length
 ·obtain ⟨x,hx⟩:∃x,l[i]? = some x:=⟨_,qGg hlt⟩;have ex:=qGs hx;rw [qDc hlt,ex] at hs;have hs:(bif decide (x.label=n) then (i:Int) else aO n (i+1) (l.drop (i+1)))=K:=hs;by_cases he:x.label=n
  ·rw [qDt he] at hs;obtain rfl:K=i:=hs.symm;exact QY
  ·rw [qDf he,qCf] at hs;exact Q7
 ·rw [qDn (by omega)] at hs;obtain rfl:K = -1:=hs.symm;exact QY
theorem N5 (s:List Sv) (n:Int) {b:Bool} (hB:(decide (s.length<=4) && N3 s n 0 0 s)=b):FSpec prog 220 [.one (.sl ji s),.one (.sc (.int .i64 n))] [] [] (.b b) []:=by
 refine aS func220 ?_;by_cases h4:s.length<=4
 case neg =>
  obtain rfl:b=false:=by rw [<-hB,qDf h4];rfl
  exact QY
 rw [qDt h4,Bool.true_and] at hB;refine ao ?_;refine ab (fun y:Nat×Int=>y.1<=s.length/\N3 s n y.1 y.2 (s.drop y.1)=b) (fun y=>bC [] [(0,.c (.sl ji s)),(1,.c (.sc (.int .i64 n))),(5,.c (.sc (.int .i64 y.2))),(11,.c (.sl ji s)),(12,.i s.length),(13,.i y.1)] []) (fun y=>s.length-y.1) (0,0) ⟨Nat.zero_le _,hB⟩ aL ?_;clear hB;rintro ⟨i,p⟩ ⟨hi,hs⟩;dsimp only at *
 by_cases hlt:i<s.length
 ·obtain ⟨x,hx⟩:∃x,s[i]? = some x:=⟨_,qGg hlt⟩;have ex:=qGs hx;rw [qDc hlt,ex] at hs;have hs:(decide (1<=x.label) && decide (x.label<=99) && decide (aO x.label 0 (s.take i)<0) && decide (p<=x.at_) && decide (x.at_<=n) && N3 s n (i+1) x.at_ (s.drop (i+1)))=b:=hs;obtain ⟨T,hT⟩:=qGe (s.take i);have hT2:s.take ((i:Int)).toNat=T:=by rw [Int.toNat_natCast];exact hT
  obtain ⟨K,hK⟩:=qGe (aO x.label 0 T);have kP:=Dh T x.label hK;rw [hT,hK] at hs;clear hT hK;by_cases hok:(1<=x.label/\x.label<=99)/\K<0/\p<=x.at_/\x.at_<=n
  ·obtain ⟨⟨k1,k2⟩,k3,k4,k5⟩:=hok;rw [qDt k1,qDt k2,qDt k3,qDt k4,qDt k5] at hs;simp only [Bool.true_and] at hs;repeat' (first|refine az ?_ ?_|refine aa 9 rfl (cB [] kP ?_)|(refine aa 14 rfl ?_;refine sx (vf rfl rfl rfl rfl (by omega) (by omega) hT2) ?_)|refine ay ?_|exact aA|refine ax fun hb=>?_)
   refine ⟨(i+1,x.at_),⟨by dsimp only;omega,hs⟩,by dsimp only;omega,?_⟩;exact aL
  ·have hok1:1<=x.label->x.label<=99->K<0->p<=x.at_->x.at_<=n->False:=fun a b c d e=>hok ⟨⟨a,b⟩,c,d,e⟩;obtain rfl:b=false:=by
    rw [<-hs];cases hh:(decide (1<=x.label) && decide (x.label<=99) && decide (K<0) && decide (p<=x.at_) && decide (x.at_<=n)) with
    | false=>rfl
    | true =>
     simp only [qBa,decide_eq_true_eq] at hh;exact (hok1 hh.1.1.1.1 hh.1.1.1.2 hh.1.1.2 hh.1.2 hh.2).elim
   clear hok hs;repeat' (first|refine az ?_ ?_|refine aa 9 rfl (cB [] kP ?_)|(refine aa 14 rfl ?_;refine sx (vf rfl rfl rfl rfl (by omega) (by omega) hT2) ?_)|refine ay ?_|exact aA|(refine ax fun hb=>?_;first|(exact (hok1 (by omega) (by omega) (by omega) (by omega) (by omega)).elim)|skip)|exact aT|fail)
 ·rw [qDn (by omega)] at hs;obtain rfl:b=true:=hs.symm;exact QY
theorem Jn (l:List En):FSpec prog 311 [.one (.sl jp l)] [] [0] (.c (.own 0)) [(0,some (.mp (EH (f8 l))))]:=by
 refine aS func311 ?_;refine aP (fun c ρ a w hr=>ck (t:=0) hr rfl) (fun hl0=>?_);repeat' (first|refine az ?_ ?_|(refine aa 22 rfl ?_;refine sx (xZ rfl rfl) ?_)|refine ay ?_|exact aA|refine ax fun hb=>?_)
 refine ab (fun y:Nat×List (ByteArray×Am)=>y.1<=l.length/\fx y.2 (l.drop y.1)=f8 l) (fun y=>bC [6] [(3,.c (.own 6)),(7,.c (.sl jp l)),(8,.i l.length),(9,.i y.1)] [(6,.mp (EH y.2))]) (fun y=>l.length-y.1) (0,[]) ⟨Nat.zero_le _,rfl⟩ aL ?_;rintro ⟨i,m⟩ ⟨hi,hs⟩;dsimp only at *
 by_cases hlt:i<l.length
 ·obtain ⟨e,he⟩:∃e,l[i]? = some e:=⟨_,qGg hlt⟩;have ee:=qGs he;rw [qDc hlt,ee] at hs;repeat' (first|refine az ?_ ?_|(refine aa 24 rfl ?_;refine Qc (rp _ _ wX Dg rfl rfl rfl rfl rfl rfl) ?_)|refine ay ?_|exact aA|refine ax fun hb=>?_)
  refine ⟨(i+1,ew e.name e.after m),⟨by dsimp only;omega,hs⟩,by dsimp only;omega,?_⟩;exact aL
 ·rw [qDn (by omega)] at hs;obtain rfl:m=f8 l:=hs;refine ao ?_
  (refine cn (qf [(0,6)]) ?_;exact ak)
theorem PN (g:Lg) (n:ByteArray) {a:Am} (ha:aw g.entries n=a):FSpec prog 225 [g.a,.one (.sc (.string n))] [] [] (.v a.a) []:=by
 refine aS func225 ?_;have kS:=Jn g.entries;have hg:wW n (f8 g.entries)=a:=(rr _ _).trans ha;generalize f8 g.entries=m at *
 repeat' (first|refine az ?_ ?_|refine aa 9 rfl (cH (qf [(0,1000)]) kS ?_)|(refine aa 23 rfl ?_;refine sx (nl _ _ wX Dg zq rfl rfl rfl rfl hg) ?_)|refine ay ?_|exact aA|refine ax fun hb=>?_|exact aT|fail)
theorem EI (l:List En) (s:List Sv) {b:Bool} (hB:lA l s=b):FSpec prog 133 [.ag [.sl jp l,.sl ji s]] [] [] (.b b) []:=by
 refine aS func133 ?_;refine aP (fun c ρ a w hr=>cG (t:=0) (i:=0) hr rfl rfl) (fun hl0_0=>?_);refine aP (fun c ρ a w hr=>cG (t:=0) (i:=1) hr rfl rfl) (fun hl0_1=>?_);repeat' (first|refine az ?_ ?_|(refine aa 22 rfl ?_;refine sx (xZ rfl rfl) ?_)|refine ay ?_|exact aA|refine ax fun hb=>?_)
 refine ab (fun y:Nat×List (ByteArray×Am)=>y.1<=l.length/\y.2=f8 (l.take y.1)/\y.2.length<=8/\gj (l.take y.1) (l.drop y.1)=gj [] l) (fun y=>bC [1,6] [(1,.c (.ptr 1 0)),(3,.c (.own 6)),(8,.c (.sl jp l)),(9,.i l.length),(10,.i y.1)] [(1,.box 119 [.sl jp l,.sl ji s]),(6,.mp (EH y.2))]) (fun y=>l.length-y.1) (0,[]) ⟨Nat.zero_le _,rfl,by simp,by simp⟩ aL ?_;rintro ⟨i,m⟩ ⟨hi,hm,hm8,hs⟩;dsimp only at *
 by_cases hlt:i<l.length
 ·obtain ⟨e,he⟩:∃e,l[i]? = some e:=⟨_,qGg hlt⟩;have ee:=qGs he;have hst:gj [] l=(bU e.name.toList && decide (e.before=aw (l.take i) e.name) && dx e.before e.after && gj (l.take (i+1)) (l.drop (i+1))):=by
   rw [<-hs,qDc hlt,ee,List.take_succ_eq_append_getElem hlt,ee];rfl
  obtain ⟨h,hh⟩:=qGe (aw (l.take i) e.name);have hg:wW e.name m=h:=by rw [hm,rr];exact hh
  obtain ⟨m2,hm2⟩:=qGe (ew e.name e.after m);have hm3:m2=f8 (l.take (i+1)):=by rw [<-hm2,hm,List.take_succ_eq_append_getElem hlt,ee,Gk]
  have kN:=Dd e.name;have kG:=N4 e.before e.after;rw [hh] at hst;clear hh hm;by_cases hok:(bU e.name.toList=true/\e.before=h/\dx e.before e.after=true)/\m2.length<=8
  ·obtain ⟨⟨k1,k2,k3⟩,k4⟩:=hok;rw [k1] at kN;rw [k3] at kG;have hlm:(EH m2).length=m2.length:=by simp [my]
   repeat' (first|refine az ?_ ?_|(refine aa 7 rfl ?_;refine sx (x7 wX rfl rfl rfl) ?_)|(refine aa 9 rfl ?_;first|(refine cB [] kN ?_)|(refine cB [] kG ?_))|(refine aa 23 rfl ?_;refine sx (nl _ _ wX Dg zq rfl rfl rfl rfl hg) ?_)|(refine aa 24 rfl ?_;refine Qc (rp _ _ wX Dg rfl rfl rfl rfl rfl hm2) ?_)|refine ay ?_|exact aA|(refine ax fun hb=>?_;first|(exact absurd k2 hb)|skip))
   refine ⟨(i+1,m2),⟨by dsimp only;omega,hm3,k4,?_⟩,by dsimp only;omega,?_⟩
   ·dsimp only;rw [hst,k1,k3];simp [k2]
   ·exact aL
  ·obtain rfl:b=false:=by
    rw [<-hB];cases h1:gj [] l with
    | false=>simp [lA,h1]
    | true =>
     rw [hst] at h1;simp only [qBa,decide_eq_true_eq] at h1;have h8:¬m2.length<=8:=fun h8=>hok ⟨⟨h1.1.1.1,h1.1.1.2,h1.1.2⟩,h8⟩;have h9:¬(bt l).length<=8:=fun h9=>h8 (by
      rw [hm3];have:=Gl (l.take (i+1)) (l.drop (i+1));rw [List.take_append_drop,wk l] at this;omega)
     simp [lA,h9]
   have hok1:bU e.name.toList=true->e.before=h->dx e.before e.after=true->m2.length<=8->False:=fun a b c d=>hok ⟨⟨a,b,c⟩,d⟩;obtain ⟨nb,hnb⟩:=qGe (bU e.name.toList);obtain ⟨gb,hgb⟩:=qGe (dx e.before e.after);rw [hnb] at kN hok1;rw [hgb] at kG hok1;clear hok hst hnb hgb hm3;have hlm:(EH m2).length=m2.length:=by simp [my]
   repeat' (first|refine az ?_ ?_|(refine aa 7 rfl ?_;refine sx (x7 wX rfl rfl rfl) ?_)|(refine aa 9 rfl ?_;first|(refine cB [] kN ?_)|(refine cB [] kG ?_))|(refine aa 23 rfl ?_;refine sx (nl _ _ wX Dg zq rfl rfl rfl rfl hg) ?_)|(refine aa 24 rfl ?_;refine Qc (rp _ _ wX Dg rfl rfl rfl rfl rfl hm2) ?_)|refine ay ?_|exact aA|(refine ax fun hb=>?_;first|(exact (hok1 (by assumption) (by assumption) (by assumption) (by omega)).elim)|skip)|exact aT|fail)
 ·have hE:gj [] l=true:=by rw [<-hs,qDn (by omega)];rfl
  rw [List.take_of_length_le (by omega)] at hm;have h8:(bt l).length<=8:=by rw [<-wk,<-hm];exact hm8
  have h64:=Ay (Ax.1 hE) h8;have hB2:(decide (s.length<=4) && N3 s l.length 0 0 s)=b:=by
   rw [<-hB,Jl s l.length s 0 0 rfl (Int.le_refl _)];simp [lA,hE,h8,show l.length<=72 by omega]
  have kV:=N5 s l.length hB2;clear hB hB2 hE hs hm;exact QY
instance:Dp cw:=fb _ _ _ _ _
instance:ST prog cw 123 5 1:=⟨jf⟩
def LS (a:Tm):List UInt8:=bp a.name.size++a.name.data.toList++bp a.am.mode.toNat++bp a.am.units.toNat
def oG:List Tm->List UInt8
 | []=>[]
 | a :: l=>LS a++oG l
def BF (o:Opn):List UInt8:=bif iT o then wK o.proc++bp (o.label+1).toNat++bp o.cost.toNat++bp o.lower.length++oG o.lower else []
theorem lj {v:Nat} (h:v<18446744073709551616):(bp v).length<=10:=jr 9 v (by
 have e70:(2:Nat) ^ (7*(9+1))=1180591620717411303424:=by decide
 omega)
theorem JB (p:Pr) (h:gm p=true):(wK p).length<=30:=by
 unfold wK;rw [if_pos h];unfold oN;obtain ⟨a0,a1,b0,b1,c0,c1⟩:=mE.1 h;have h1:=lj (v:=p.site.toNat) (by omega);have h2:=lj (v:=p.inc.toNat) (by omega);have h3:=lj (v:=p.num.toNat) (by omega);simp;omega
theorem zw:∀{l:List Tm} {o:Option ByteArray},vT o l=true->∀a∈l,bU a.name.toList=true/\(a.am=⟨0,0⟩\/bj a.am=true)
 | [],_,_=>by simp
 | x :: l,o,h=>by
  rw [ng] at h;simp only [qBa,Bool.or_eq_true] at h;intro a ha;rcases List.mem_cons.1 ha with rfl|ha
  ·exact ⟨h.1.1.1,h.1.1.2.imp of_decide_eq_true id⟩
  ·exact zw h.2 a ha
theorem yd {o:Opn} (h:iT o=true):gm o.proc=true/\(o.label = -1\/1<=o.label/\o.label<=99)/\(1<=o.cost/\o.cost<=1073741824)/\o.lower.length<=8/\vT none o.lower=true:=by
 unfold iT at h;simp only [qBa,Bool.or_eq_true,decide_eq_true_eq] at h;exact ⟨h.1.1.1.1.1,h.1.1.1.1.2,⟨h.1.1.1.2,h.1.1.2⟩,h.1.2,h.2⟩
theorem ye {a:Am} (h:a=⟨0,0⟩\/bj a=true):0<=a.mode/\a.mode<=8/\0<=a.units/\a.units<=8:=by
 rcases h with rfl|h
 ·decide
 ·rcases cV h with ⟨h1,h2⟩|⟨h1,h2,h3⟩
  ·rw [fP] at h1;omega
  ·omega
theorem wv {n:ByteArray} (h:bU n.toList=true):n.size<=12:=by
 have:n.toList.length=n.size:=lK n;unfold bU at h;simp only [qBa,decide_eq_true_eq] at h;omega
theorem JC (z:Int) (h0:0<=z) (h1:z<=9000000000000000000):IntKind.u64.wrap z=((z.toNat:Nat):Int):=by
 rw [Int.toNat_of_nonneg h0];exact IntWalk.u64_in _ (by omega)
end Go.Proofs.YtkkbopkbjacfmaaGreatDoor
